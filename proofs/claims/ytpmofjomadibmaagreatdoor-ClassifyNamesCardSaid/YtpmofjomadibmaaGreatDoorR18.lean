/- Tm Tx Tp -/
import Derived.Test.YtpmofjomadibmaaGreatDoorR17
namespace Go.Proofs.YtpmofjomadibmaaGreatDoor
set_option maxHeartbeats 16000000
open Go.RowKit Go.Sort
set_option linter.unusedVariables false
set_option maxRecDepth 100000
def Ones (L:List Ob)(xs:List Value)(i:Nat):Prop:=xs.length=41∧(∀ z,z<i→∃ u,xs[z]?=some u∧NumIn L u 1)∧∀ z,i≤z→z<41→xs[z]?=some (.slice none 0 0)
theorem Ones.more {L l:List Ob}{xs:List Value}{i:Nat}(h:Ones L xs i):Ones (L++l) xs i:=⟨h.1,fun z hz=>by
 obtain ⟨u,a,b⟩:=h.2.1 z hz
 exact ⟨u,a,b.more⟩,h.2.2⟩
theorem Ones.set {L:List Ob}{xs:List Value}{i:Nat}{v:Value}(h:Ones L xs i)(hi:i<41)(hv:NumIn L v 1):Ones L (xs.set i v) (i+1):=by
 refine ⟨by rw [List.length_set];exact h.1,fun z hz=>?_,fun z h1 h2=>by rw [zqf (by omega)];exact h.2.2 z (by omega) h2⟩
 rcases zqi z i with h1 | h1
 ·obtain ⟨u,a,b⟩:=h.2.1 z h1
  exact ⟨u,by rw [zqf (by omega)];exact a,b⟩
 ·obtain rfl:z=i:=by omega
  exact ⟨v,List.getElem?_set_self (by rw [h.1];exact hi),hv⟩
theorem Ones.one {L:List Ob}{xs:List Value}{i:Nat}(h:Ones L xs i):xs.toArray.all (·.oneCell')=true:=by
 rw [Array.all_eq_true_iff_forall_mem];intro v hv;obtain ⟨z,hz,rfl⟩:=List.getElem_of_mem (by simpa using hv)
 rcases zqi z i with h1 | h1
 ·obtain ⟨u,a,A,n,c,t,e,_⟩:=h.2.1 z h1
  rw [zql hz] at a;rw [zqk a,e];rfl
 ·have a:=h.2.2 z h1 (by rw [← h.1];exact hz)
  rw [zql hz] at a;rw [zqk a];rfl
theorem Ones.ways {L:List Ob}{xs:List Value}{i n:Nat}(h:Ones L xs i)(hn:n≤40)(hz:NumIn L (.slice none 0 0) 0):Ways L xs n (z2i i):=⟨h.1,fun z hz2=>by
 unfold z2i;rcases zqi z i with h1 | h1
 ·rw [if_pos h1];exact h.2.1 z h1
 ·rw [if_neg (by omega)]
  exact ⟨_,h.2.2 z h1 (by omega),hz⟩⟩
theorem TSets.more {L l:List Ob}{A:Option Addr}{m:Nat}(h:TSets L A m):TSets (L++l) A m:=by
 obtain ⟨ad,t,vs,h1,h2,h3⟩:=h;exact ⟨ad,t,vs,h1,by rw [zqn (z0f h2)];exact h2,h3.more⟩
def RC1 (w0:World)(g:Option Nat)(M:List (Nat×Value))(L:List Ob)(O:List Rw)(rb nb sb m kk:Nat)(A:Option Addr)(xn:List Value)(v:Value)(wr:World):Prop:=
 ∃ (i:Nat) (xs:List Value) (Ls:List Ob),i≤kk∧v=.int .i64 (i:Int)∧Hid (Ones (L++Ls) xs i∧Ones (L++Ls) xn 1∧TSets (L++Ls) A m∧NumIn (L++Ls) (.slice none 0 0) 0)∧Hid (Ow w0 wr g M (L++Ls) (O++[Rw.pair rb 27 (.slice none 0 0) (.slice none 0 0),⟨some ⟨nb,0,none⟩,41,41,122,xn⟩,⟨some ⟨sb,0,none⟩,41,41,122,xs⟩]))
def RC2 (w0:World)(g:Option Nat)(M:List (Nat×Value))(L:List Ob)(O:List Rw)(rb nb sb m cc kk:Nat)(A:Option Addr)(v:Value)(wr:World):Prop:=
 ∃ (r p s:Nat) (xn xo:List Value) (Ls:List Ob),v=.int .i64 (r:Int)∧Hid (r≤4096∧cc=p+s*r∧Ways (L++Ls) xn m (pwc (z2i kk) p)∧Ways (L++Ls) xo m (pwc (z2i kk) s)∧TSets (L++Ls) A m∧xn.toArray.all (·.oneCell')=true∧xo.toArray.all (·.oneCell')=true)∧Hid (Ow w0 wr g M (L++Ls) (O++[Rw.pair rb 27 (.slice none 0 0) (.slice none 0 0),⟨some ⟨nb,0,none⟩,41,41,122,xn⟩,⟨some ⟨sb,0,none⟩,41,41,122,xo⟩]))
section
variable {w0 w w':World}{g:Option Nat}{M M2:List (Nat×Value)}{L:List Ob}{O:List Rw}{A A2 A3 A4:Option Addr}{b n c m c2 n3 c3 n4 c4 x y:Nat}{p q r s:List Int}
theorem z7q (h:Ow w0 w g M L O)(a b k:Int)(hn:a<0∨40<a∨b<1∨4096<b):Calls Tryz.prog 63 #[.int .i64 a,.int .i64 b,.int .i64 k] w (z8k w0 g M L O (frE 2)):=by
 have H:=h.pair (.slice none 0 0) (.slice none 0 0) 27
 clear h;rcases Int.lt_or_le (a) (0) with h0 | h1
 ·have t:decide (a<0)=true:=zt (by omega)
  clear hn;go_enter Tryz.func63,Tryz.ntmps63
  have HF:=zh H.fewO;clear H;go_wp2_with fail;refine bodyPost_ret (v:=.tuple #[.agg #[.slice none 0 0,.slice none 0 0],.int .i64 2]) (by simp [results,Tryz.results63,go_sem]) rfl ?_
  exact z2j HF.out 2
 rcases Int.lt_or_le (40) (a) with h0 | h2
 ·have t:decide (40<a)=true:=zt (by omega)
  have t0:decide (a<0)=false:=zn (by omega)
  clear hn;go_enter Tryz.func63,Tryz.ntmps63
  have HF:=zh H.fewO;clear H;go_wp2_with fail;refine bodyPost_ret (v:=.tuple #[.agg #[.slice none 0 0,.slice none 0 0],.int .i64 2]) (by simp [results,Tryz.results63,go_sem]) rfl ?_
  exact z2j HF.out 2
 rcases Int.lt_or_le (b) (1) with h0 | h3
 ·have t:decide (b<1)=true:=zt (by omega)
  have t0:decide (a<0)=false:=zn (by omega)
  have t1:decide (40<a)=false:=zn (by omega)
  clear hn;go_enter Tryz.func63,Tryz.ntmps63
  have HF:=zh H.fewO;clear H;go_wp2_with fail;refine bodyPost_ret (v:=.tuple #[.agg #[.slice none 0 0,.slice none 0 0],.int .i64 2]) (by simp [results,Tryz.results63,go_sem]) rfl ?_
  exact z2j HF.out 2
 have t:decide (4096<b)=true:=zt (by omega)
 have t0:decide (a<0)=false:=zn (by omega)
 have t1:decide (40<a)=false:=zn (by omega)
 have t2:decide (b<1)=false:=zn (by omega)
 clear hn;go_enter Tryz.func63,Tryz.ntmps63
 have HF:=zh H.fewO;clear H;go_wp2_with fail;refine bodyPost_ret (v:=.tuple #[.agg #[.slice none 0 0,.slice none 0 0],.int .i64 2]) (by simp [results,Tryz.results63,go_sem]) rfl ?_
 exact z2j HF.out 2
theorem z5ay:ofF 1 1=(1,1,0):=by decide +kernel
theorem z0ac (h:Ow w0 w g M L O)(a b k:Int)(ht:Tab w0)(ha:0≤a∧a≤40)(hb:1≤b∧b≤4096)(hk:k≤0):Calls Tryz.prog 63 #[.int .i64 a,.int .i64 b,.int .i64 k] w (z8k w0 g M L O (1,1,0)):=by
 have H:=h.pair (.slice none 0 0) (.slice none 0 0) 27
 have t0:decide (a<0)=false:=zn (by omega)
 have t1:decide (40<a)=false:=zn (by omega)
 have t2:decide (b<1)=false:=zn (by omega)
 have t3:decide (4096<b)=false:=zn (by omega)
 have t4:decide (k≤0)=true:=zt (by omega)
 have HC:=zh (z5ai H 1 1 (by omega) (by omega) ht)
 rw [z5ay] at HC;clear h H ha hb hk ht;go_enter Tryz.func63,Tryz.ntmps63
 go_wp2_with fail;refine HC.out.mono ?_;rintro e w9 ⟨C1,k1,e1,C2,k2,e2,rfl,G⟩;clear HC;have z0:=G.p0 (O.length+0) (zk rfl)
 have z1:=G.p1 (O.length+0) (zk rfl)
 have f0:=G.pf (O.length+0) (zk rfl) 0
 have f1:=G.pf (O.length+0) (zk rfl) 1
 have Z3:=G.set0 (O.length+0) (zk rfl) (.slice C1 k1 e1)
 rw [z0n] at Z3;simp only [zqd] at Z3;have Z4:=Z3.set1 (O.length+0) (zk rfl) (.slice C2 k2 e2)
 rw [z0n] at Z4;simp only [zqd] at Z4;have r0:=Z4.p0 (O.length+0) (zk rfl)
 have r1:=Z4.p1 (O.length+0) (zk rfl)
 have HF:=zh Z4.fewO;clear G Z3 Z4;go_wp2_with fail;refine bodyPost_ret (v:=.tuple #[.agg #[.slice C1 k1 e1,.slice C2 k2 e2],.int .i64 0]) (by simp [results,Tryz.results63,go_sem,r0,r1]) rfl ?_
 exact ⟨C1,k1,e1,C2,k2,e2,rfl,HF.out⟩
theorem z2ad:ofF 0 1=(0,1,0):=by decide +kernel
theorem z8o (h:Ow w0 w g M L O)(a b k:Int)(ht:Tab w0)(ha:0≤a∧a≤40)(hb:1≤b∧b≤4096)(hk:0<k∧a<k):Calls Tryz.prog 63 #[.int .i64 a,.int .i64 b,.int .i64 k] w (z8k w0 g M L O (0,1,0)):=by
 have H:=h.pair (.slice none 0 0) (.slice none 0 0) 27
 have t0:decide (a<0)=false:=zn (by omega)
 have t1:decide (40<a)=false:=zn (by omega)
 have t2:decide (b<1)=false:=zn (by omega)
 have t3:decide (4096<b)=false:=zn (by omega)
 have t4:decide (k≤0)=false:=zn (by omega)
 have t5:decide (a<k)=true:=zt (by omega)
 have HC:=zh (z5ai H 0 1 (by omega) (by omega) ht)
 rw [z2ad] at HC;clear h H ha hb hk ht;go_enter Tryz.func63,Tryz.ntmps63
 go_wp2_with fail;refine HC.out.mono ?_;rintro e w9 ⟨C1,k1,e1,C2,k2,e2,rfl,G⟩;clear HC;have z0:=G.p0 (O.length+0) (zk rfl)
 have z1:=G.p1 (O.length+0) (zk rfl)
 have f0:=G.pf (O.length+0) (zk rfl) 0
 have f1:=G.pf (O.length+0) (zk rfl) 1
 have Z3:=G.set0 (O.length+0) (zk rfl) (.slice C1 k1 e1)
 rw [z0n] at Z3;simp only [zqd] at Z3;have Z4:=Z3.set1 (O.length+0) (zk rfl) (.slice C2 k2 e2)
 rw [z0n] at Z4;simp only [zqd] at Z4;have r0:=Z4.p0 (O.length+0) (zk rfl)
 have r1:=Z4.p1 (O.length+0) (zk rfl)
 have HF:=zh Z4.fewO;clear G Z3 Z4;go_wp2_with fail;refine bodyPost_ret (v:=.tuple #[.agg #[.slice C1 k1 e1,.slice C2 k2 e2],.int .i64 0]) (by simp [results,Tryz.results63,go_sem,r0,r1]) rfl ?_
 exact ⟨C1,k1,e1,C2,k2,e2,rfl,HF.out⟩
structure CsK (w0:World)(g:Option Nat)(M:List (Nat×Value))(L:List Ob)(O:List Rw)(nb tb:Nat)(AT:Option Addr)(nT cT:Nat)(AB:Option Addr)(nB cB m a b:Nat)(Ld:Nat→Bool)(u0 u1 u2 u3 u4 u5 u6 u7 u8 u10:Value)(A:Option Addr)(n c:Nat)(ms:List (Nat×Value))(Ls:List Ob)(W:World):Prop where
 ow:Ow w0 W g (M++(tb,.slice AT nT cT) :: ms) (L++Ls) O
 h0:Ld 0=true→u0=.agg #[.slice AT nT cT]
 h1:Ld 1=true→u1=.int .i64 (m:Int)
 h2:Ld 2=true→u2=.pointer (some ⟨nb,m,none⟩)
 h3:Ld 3=true→u3=.agg #[.slice AB nB cB]
 h4:Ld 4=true→u4=.tuple #[.agg #[.slice A n c],.int .i64 0]∧∃ t:Nat,Ls[t]?=some ⟨A,n,c,z0c (Na.dig (a - b))⟩
 h5:Ld 5=true→u5=.tuple #[.agg #[.slice A n c],.int .i64 0]
 h6:Ld 6=true→u6=.agg #[.slice A n c]
 h7:Ld 7=true→u7=.int .i64 0
 h8:Ld 8=true→∃ (t b2:Nat) (v:Value),u8=.pointer (some ⟨b2,0,none⟩)∧ms[t]?=some (b2,v)∧(Ld 9=true→v=.slice A n c)
def CsI (w0:World)(g:Option Nat)(M:List (Nat×Value))(L:List Ob)(O:List Rw)(nb tb:Nat)(AT:Option Addr)(nT cT:Nat)(AB:Option Addr)(nB cB m a b:Nat)(A0:Act)(Ld:Nat→Bool)(ac:Act)(W:World):Prop:=
 ∃ (u0 u1 u2 u3 u4 u5 u6 u7 u8 u10:Value) (A:Option Addr) (n c:Nat) (ms:List (Nat×Value)) (Ls:List Ob),ac=((((((((((A0.put (some 80) u0).put (some 81) u1).put (some 82) u2).put (some 83) u3).put (some 84) u4).put (some 79) u5).put (some 85) u6).put (some 86) u7).put (some 14) u8).put (some 15) u10)∧CsK w0 g M L O nb tb AT nT cT AB nB cB m a b Ld u0 u1 u2 u3 u4 u5 u6 u7 u8 u10 A n c ms Ls W
section
variable {w0 W W':World}{g:Option Nat}{M:List (Nat×Value)}{L:List Ob}{O:List Rw}{nb tb:Nat}{AT:Option Addr}{nT cT:Nat}{AB:Option Addr}{nB cB m a b:Nat}{Ld:Nat→Bool}{u0 u1 u2 u3 u4 u5 u6 u7 u8 u10:Value}{A:Option Addr}{n c:Nat}{ms:List (Nat×Value)}{Ls:List Ob}
theorem CsK.called (h:CsK w0 g M L O nb tb AT nT cT AB nB cB m a b Ld u0 u1 u2 u3 u4 u5 u6 u7 u8 u10 A n c ms Ls W)(f5:Ld 5=false)(f6:Ld 6=false)(f9:Ld 9=false){D:Option Addr}{i j:Nat}(ho:Ow w0 W' g (M++(tb,.slice AT nT cT) :: ms) (L++Ls++[⟨D,i,j,z0c (Na.dig (a - b))⟩]) O):
  CsK w0 g M L O nb tb AT nT cT AB nB cB m a b (z2v Ld 4) u0 u1 u2 u3 (.tuple #[.agg #[.slice D i j],.int .i64 0]) u5 u6 u7 u8 u10 D i j ms (Ls++[⟨D,i,j,z0c (Na.dig (a - b))⟩]) W':=
 ⟨by rw [zqa] at ho;exact ho,h.h0,h.h1,h.h2,h.h3,fun _=>⟨rfl,Ls.length,by simp⟩,fun e=>absurd ((show Ld 5=true from e).symm.trans f5) (by decide),fun e=>absurd ((show Ld 6=true from e).symm.trans f6) (by decide),h.h7,fun e=>by
  obtain ⟨t,b2,v,k1,k2,k3⟩:=h.h8 e
  exact ⟨t,b2,v,k1,k2,fun e2=>absurd ((show Ld 9=true from e2).symm.trans f9) (by decide)⟩⟩
theorem CsK.alloced (h:CsK w0 g M L O nb tb AT nT cT AB nB cB m a b Ld u0 u1 u2 u3 u4 u5 u6 u7 u8 u10 A n c ms Ls W)(f9:Ld 9=false):
  CsK w0 g M L O nb tb AT nT cT AB nB cB m a b (z2v Ld 8) u0 u1 u2 u3 u4 u5 u6 u7 (.pointer (some ⟨W.heap.size,0,none⟩)) u10 A n c (ms++[(W.heap.size,.slice none 0 0)]) Ls (W.alloc (.cells #[.slice none 0 0] 25)):=
 ⟨by have:=h.ow.boxed (.slice none 0 0) 25;rwa [zqa,zqb] at this,h.h0,h.h1,h.h2,h.h3,h.h4,h.h5,h.h6,h.h7,fun _=>⟨ms.length,W.heap.size,.slice none 0 0,rfl,by simp,fun e2=>absurd ((show Ld 9=true from e2).symm.trans f9) (by decide)⟩⟩
theorem CsK.stored (h:CsK w0 g M L O nb tb AT nT cT AB nB cB m a b Ld u0 u1 u2 u3 u4 u5 u6 u7 u8 u10 A n c ms Ls W)(h8:Ld 8=true)(h6:Ld 6=true):
  ∃ b2 v ms',u8=.pointer (some ⟨b2,0,none⟩)∧u6=.agg #[.slice A n c]∧W.cell? ⟨b2,0,none⟩=some v∧W.frozen? ⟨b2,0,none⟩=false∧CsK w0 g M L O nb tb AT nT cT AB nB cB m a b (z2v Ld 9) u0 u1 u2 u3 u4 u5 u6 u7 u8 u10 A n c ms' Ls (W.setCell ⟨b2,0,none⟩ (.slice A n c)):=by
 obtain ⟨t,b2,v,a1,a2,a3⟩:=h.h8 h8
 have hi:(M++(tb,.slice AT nT cT) :: ms)[M.length+(t+1)]?=some (b2,v):=by rw [z0b];exact a2
 have o1:=h.ow.setv _ hi (.slice A n c)
 rw [z0n,zqe] at o1;exact ⟨b2,v,_,a1,h.h6 h6,h.ow.cell _ hi,h.ow.free _ hi,o1,h.h0,h.h1,h.h2,h.h3,h.h4,h.h5,h.h6,h.h7,fun _=>⟨t,b2,_,a1,List.getElem?_set_self (z0f a2),fun _=>rfl⟩⟩
end
def FrE (w:World)(en:Ending):Prop:=∀ (A1:Option Addr) (n1 c1:Nat) (A2:Option Addr) (n2 c2:Nat) (x:Value),en=.returned (.tuple #[.agg #[.slice A1 n1 c1,.slice A2 n2 c2],x])→(∀ ad,A1=some ad→0<n1→w.heap.size≤ad.block)∧(∀ ad,A2=some ad→0<n2→w.heap.size≤ad.block)
theorem z1br {w0:World}{A1:Option Addr}{n1 c1:Nat}{A2:Option Addr}{n2 c2:Nat}{x:Value}(h:(∀ ad,A1=some ad→0<n1→w0.heap.size≤ad.block)∧(∀ ad,A2=some ad→0<n2→w0.heap.size≤ad.block)):FrE w0 (.returned (.tuple #[.agg #[.slice A1 n1 c1,.slice A2 n2 c2],x])):=by
 intro B1 m1 d1 B2 m2 d2 y e;injection e with e
 injection e with e
 simp only [Array.mk.injEq,List.cons.injEq,Value.agg.injEq,Value.slice.injEq] at e;obtain ⟨⟨⟨rfl,rfl,_⟩,⟨rfl,rfl,_⟩,_⟩,_⟩:=e
 exact h
theorem z5aj {x y:Nat}{t:Nat×Nat×Int}(h:Ow w0 w g M L O)(i j:Nat)(hi:L[i]?=some ⟨A,n,c,z0c (Na.dig x)⟩)(hj:L[j]?=some ⟨A2,m,c2,z0c (Na.dig y)⟩)(ht:Tab w0)(hx:x<Na.top)(hy:y<Na.top)(e:frM x y=t):
  Calls Tryz.prog 95 #[.agg #[.slice A n c],.agg #[.slice A2 m c2]] w fun en w'=>z8k w0 g M L O t en w'∧FrE w en:=by
 have k1:=h.sl hi
 have k2:=h.sl hj
 have:=z8z A A2 n c m c2 (Na.up (Na.dig x)) (Na.up (Na.dig y)) w (by rw [Na.up_length];have:=k1.1;unfold z0c at this;rwa [List.length_map] at this) (by rw [Na.up_length];have:=k2.1;unfold z0c at this;rwa [List.length_map] at this) k1.2.1 k2.2.1 (by rw [z0g];exact k1.2.2.2) (by rw [z0g];exact k2.2.2.2) k1.2.2.1 k2.2.2.1 (ht.below h.below)
 unfold z4q at this;rw [Na.vld_dig hx,Na.vld_dig hy,z0k,z0k,e] at this;refine this.mono fun en w' hr=>⟨z0bl h (by rw [← e];exact (z5y hx hy).1) (by rw [← e];exact (z5y hx hy).2) hr,?_⟩
 obtain ⟨A1,n1,d1,B2,n2,d2,rfl,_,_,o1,o2,_⟩:=hr;refine z1br ⟨fun ad ea h0=>?_,fun ad ea h0=>?_⟩
 ·obtain ⟨gb,hgb,h1,_⟩:=z0u o1 h0
  rw [ea] at hgb;obtain rfl:=zqk hgb
  exact h1
 ·obtain ⟨gb,hgb,h1,_⟩:=z0u o2 h0
  rw [ea] at hgb;obtain rfl:=zqk hgb
  exact h1
theorem z8n (h:Ow w0 w g M L O)(m cc kk:Nat)(ht:Tab w0)(hm:m≤40)(hc:1≤cc∧cc≤4096)(hk:1≤kk∧kk≤m):Calls Tryz.prog 63 #[.int .i64 (m:Int),.int .i64 (cc:Int),.int .i64 (kk:Int)] w fun en w'=>z8k w0 g M L O (frM (cc ^ m - pwc (z2i kk) cc m) (cc ^ m)) en w'∧FrE w0 en:=by
 have H:=h.pair (.slice none 0 0) (.slice none 0 0) 27
 have t0:decide ((m:Int)<0)=false:=zn (by omega)
 have t1:decide (40<(m:Int))=false:=zn (by omega)
 have t1b:decide (40<m)=false:=zn (by omega)
 have t2:decide ((cc:Int)<1)=false:=zn (by omega)
 have t2b:decide (cc<1)=false:=zn (by omega)
 have t3:decide (4096<(cc:Int))=false:=zn (by omega)
 have t3b:decide (4096<cc)=false:=zn (by omega)
 have t4:decide ((kk:Int)≤0)=false:=zn (by omega)
 have t4b:decide (kk≤0)=false:=zn (by omega)
 have t5:decide ((m:Int)<(kk:Int))=false:=zn (by omega)
 have t5b:decide (m<kk)=false:=zn (by omega)
 have HT:=zh ht;have HM:Hid (m≤40∧1≤cc∧cc≤4096∧1≤kk∧kk≤m):=⟨hm,hc.1,hc.2,hk.1,hk.2⟩
 obtain ⟨t,hmk⟩:∃ t,frM (cc ^ m - pwc (z2i kk) cc m) (cc ^ m)=t:=⟨_,rfl⟩
 rw [hmk];have HMk:=zh hmk;have HC:=zh (z8an H m hm)
 obtain ⟨rb,hrb⟩:∃ b,w.heap.size=b:=⟨_,rfl⟩
 clear h H hmk ht;go_enter Tryz.func63,Tryz.ntmps63
 go_wp2_with fail;refine HC.out.mono ?_;rintro e w1 ⟨A,Ls,rfl,G,HS⟩;clear HC;have H:=(G.arr #[.slice none 0 0,.slice none 0 0,.slice none 0 0,.slice none 0 0,.slice none 0 0,.slice none 0 0,.slice none 0 0,.slice none 0 0,.slice none 0 0,.slice none 0 0,.slice none 0 0,.slice none 0 0,.slice none 0 0,.slice none 0 0,.slice none 0 0,.slice none 0 0,.slice none 0 0,.slice none 0 0,.slice none 0 0,.slice none 0 0,.slice none 0 0,.slice none 0 0,.slice none 0 0,.slice none 0 0,.slice none 0 0,.slice none 0 0,.slice none 0 0,.slice none 0 0,.slice none 0 0,.slice none 0 0,.slice none 0 0,.slice none 0 0,.slice none 0 0,.slice none 0 0,.slice none 0 0,.slice none 0 0,.slice none 0 0,.slice none 0 0,.slice none 0 0,.slice none 0 0,.slice none 0 0] 41 rfl (by omega) 122).arr #[.slice none 0 0,.slice none 0 0,.slice none 0 0,.slice none 0 0,.slice none 0 0,.slice none 0 0,.slice none 0 0,.slice none 0 0,.slice none 0 0,.slice none 0 0,.slice none 0 0,.slice none 0 0,.slice none 0 0,.slice none 0 0,.slice none 0 0,.slice none 0 0,.slice none 0 0,.slice none 0 0,.slice none 0 0,.slice none 0 0,.slice none 0 0,.slice none 0 0,.slice none 0 0,.slice none 0 0,.slice none 0 0,.slice none 0 0,.slice none 0 0,.slice none 0 0,.slice none 0 0,.slice none 0 0,.slice none 0 0,.slice none 0 0,.slice none 0 0,.slice none 0 0,.slice none 0 0,.slice none 0 0,.slice none 0 0,.slice none 0 0,.slice none 0 0,.slice none 0 0,.slice none 0 0] 41 rfl (by omega) 122
 simp only [World.size_alloc,zqa,zqb,zqc] at H;rw [hrb] at H;obtain ⟨lr,hlr⟩:∃ l:List Value,([.slice none 0 0,.slice none 0 0,.slice none 0 0,.slice none 0 0,.slice none 0 0,.slice none 0 0,.slice none 0 0,.slice none 0 0,.slice none 0 0,.slice none 0 0,.slice none 0 0,.slice none 0 0,.slice none 0 0,.slice none 0 0,.slice none 0 0,.slice none 0 0,.slice none 0 0,.slice none 0 0,.slice none 0 0,.slice none 0 0,.slice none 0 0,.slice none 0 0,.slice none 0 0,.slice none 0 0,.slice none 0 0,.slice none 0 0,.slice none 0 0,.slice none 0 0,.slice none 0 0,.slice none 0 0,.slice none 0 0,.slice none 0 0,.slice none 0 0,.slice none 0 0,.slice none 0 0,.slice none 0 0,.slice none 0 0,.slice none 0 0,.slice none 0 0,.slice none 0 0,.slice none 0 0]:List Value)=l:=⟨_,rfl⟩
 have HL9:Hid (lr.length=41∧∀ z,z<41→lr[z]?=some (.slice none 0 0)):=by
  refine ⟨by rw [← hlr];rfl,fun z hz=>?_⟩
  rw [← hlr,show ([.slice none 0 0,.slice none 0 0,.slice none 0 0,.slice none 0 0,.slice none 0 0,.slice none 0 0,.slice none 0 0,.slice none 0 0,.slice none 0 0,.slice none 0 0,.slice none 0 0,.slice none 0 0,.slice none 0 0,.slice none 0 0,.slice none 0 0,.slice none 0 0,.slice none 0 0,.slice none 0 0,.slice none 0 0,.slice none 0 0,.slice none 0 0,.slice none 0 0,.slice none 0 0,.slice none 0 0,.slice none 0 0,.slice none 0 0,.slice none 0 0,.slice none 0 0,.slice none 0 0,.slice none 0 0,.slice none 0 0,.slice none 0 0,.slice none 0 0,.slice none 0 0,.slice none 0 0,.slice none 0 0,.slice none 0 0,.slice none 0 0,.slice none 0 0,.slice none 0 0,.slice none 0 0]:List Value)=List.replicate 41 (.slice none 0 0) from rfl,List.getElem?_replicate,if_pos hz]
 have hlr2:(#[.slice none 0 0,.slice none 0 0,.slice none 0 0,.slice none 0 0,.slice none 0 0,.slice none 0 0,.slice none 0 0,.slice none 0 0,.slice none 0 0,.slice none 0 0,.slice none 0 0,.slice none 0 0,.slice none 0 0,.slice none 0 0,.slice none 0 0,.slice none 0 0,.slice none 0 0,.slice none 0 0,.slice none 0 0,.slice none 0 0,.slice none 0 0,.slice none 0 0,.slice none 0 0,.slice none 0 0,.slice none 0 0,.slice none 0 0,.slice none 0 0,.slice none 0 0,.slice none 0 0,.slice none 0 0,.slice none 0 0,.slice none 0 0,.slice none 0 0,.slice none 0 0,.slice none 0 0,.slice none 0 0,.slice none 0 0,.slice none 0 0,.slice none 0 0,.slice none 0 0,.slice none 0 0]:Array Value)=lr.toArray:=by rw [← hlr]
 have HSs:=zh HS;have HC:=zh (z2bn H)
 clear G H HS;have Hlr:=zh hlr;have Hlr2:=zh hlr2;clear hlr hlr2;go_wp2_with fail;refine HC.out.mono ?_;rintro e w2 ⟨B1,m1,d1,rfl,G⟩;rw [Hlr.out] at G;have c0:=z1w G (i:=O.length+1) (zk rfl) (HL9.out.2 0 (by omega)) (by omega)
 have f0:=(G.own (O.length+1) _ (zk rfl)).frozenAt 0
 have Z:=G.put (O.length+1) (zk rfl) 0 (.slice B1 m1 d1)
 rw [z0n,zqe,zqd] at Z;have Z2:=Z.old (A:=none) (n:=0) (c:=0) (vs:=z0c (Na.dig 0)) (by rw [Na.dig_zero];exact Sl.nil _ _ _) (by rw [Na.dig_zero];rfl) (zqj _) (by decide)
 rw [zqa (L++Ls),zqa L] at Z2
 have HZ2:=zh Z2;clear G Z Z2 HC Hlr Hlr2;go_wp2_with fail;clear c0 f0;go_loopw [11] (fun v wr=>RC1 w0 g M L O rb w1.heap.size (w1.heap.size+1) m kk A (lr.set 0 (.slice B1 m1 d1)) v wr) (fun v _=>kk+1 - (intOf v).toNat)
 case atStart=>
  refine ⟨0,lr,_,zqr _,rfl,⟨⟨HL9.out.1,fun z hz=>absurd hz (by omega),fun z _ hz=>HL9.out.2 z hz⟩,?_,?_,?_⟩,HZ2⟩
  ·refine Ones.set (i:=0) ⟨HL9.out.1,fun z hz=>absurd hz (by omega),fun z _ hz=>HL9.out.2 z hz⟩ (by omega) ⟨B1,m1,d1,(L++Ls).length+0,rfl,by rw [← zqa,z0b];rfl⟩
  ·rw [← zqa];exact TSets.more HSs.out
  ·exact ⟨none,0,0,(L++Ls).length+1,rfl,by rw [← zqa,z0b];rfl⟩
 case round=>
  clear HZ2;obtain ⟨i,xs,Lt,hi,rfl,HV,HO⟩:=hrel;rcases Nat.eq_or_lt_of_le hi with he | hlt
  ·subst he
   have hd:decide ((i:Int)<(i:Int))=false:=zn (by omega)
   have hd2:decide (i<i)=false:=zn (by omega)
   go_wp2_with fail;go_loopw [12] (fun v wr=>RC2 w0 g M L O rb w1.heap.size (w1.heap.size+1) m cc i A v wr) (fun v _=>(intOf v).toNat)
   case atStart=>
    have e1:pwc (z2i i) 0=z2i 1:=by funext z;show dlt z=z2i 1 z;unfold dlt z2i;by_cases h:z=0 <;> simp [h]
    refine ⟨cc,0,1,_,xs,Lt,rfl,⟨HM.out.2.2.1,by omega,by rw [e1];exact HV.out.2.1.ways HM.out.1 HV.out.2.2.2,by rw [z3bh];exact HV.out.1.ways HM.out.1 HV.out.2.2.2,HV.out.2.2.1,HV.out.2.1.one,HV.out.1.one⟩,HO⟩
   case round=>
    clear HO HV;obtain ⟨r,p,s,xn,xo,Lt,rfl,HV,HO⟩:=hrel;have hr9:=HV.out.1;rcases zqh r with h0 | h0
    ·subst h0
     have hd3:decide ((0:Int)<((0:Nat):Int))=false:=zn (by omega)
     obtain ⟨vb,hvb,AB,nB,cB,ib,rfl,hib⟩:=HV.out.2.2.1.2 m (zqj _)
     have hpc:p=cc:=by have:=HV.out.2.1;rw [Nat.mul_zero] at this;omega
     rw [hpc] at hib;have hB1:pwc (z2i i) cc m≤cc ^ m:=z5ak (z7w i) cc m
     have hc12:cc≤2 ^ 12:=HM.out.2.2.1
     have hTop:Hid (cc<Na.top∧cc ^ m<Na.top∧pwc (z2i i) cc m<Na.top∧pwc (z2i i) cc m≤cc ^ m):=by
      have h1:cc ^ m<Na.top:=z3t (z0ar hc12 m) (by have:=HM.out.1;omega)
      exact ⟨z3t hc12 (by omega),h1,zqu hB1 h1,hB1⟩
     obtain ⟨bq,hbq⟩:∃ z,pwc (z2i i) cc m=z:=⟨_,rfl⟩
     rw [hbq] at hib hTop;rw [hbq] at HMk;obtain ⟨aq,haq⟩:∃ z,cc ^ m=z:=⟨_,rfl⟩
     have HC:=zh (t_of HO.out cc (by have:=HM.out.2.2.1;omega))
     have HP1:=zh hvb;have HP2:=zh hib;clear HO HV hpc hB1 hc12 hvb hib hbq;go_wp2_with fail;refine HC.out.mono ?_;clear HC;rintro e w3 ⟨A3,n3,c3,rfl,G⟩;have HC:=zh (z2bm G ((L++Lt).length+0) (zk rfl) hTop.out.1 m (by have:=HM.out.1;omega) hTop.out.2.1)
     clear G;go_wp2_with fail;refine HC.out.mono ?_;clear HC;rintro e w4 ⟨AT,nT,cT,rfl,G⟩;rw [haq] at G hTop HMk;clear haq;have H:=G.boxed (.slice AT nT cT) 25
     have hia:(L++Lt++[(⟨A3,n3,c3,z0c (Na.dig cc)⟩:Ob)]++[(⟨AT,nT,cT,z0c (Na.dig aq)⟩:Ob)])[(L++Lt++[(⟨A3,n3,c3,z0c (Na.dig cc)⟩:Ob)]).length+0]?=some ⟨AT,nT,cT,z0c (Na.dig aq)⟩:=by rw [z0b];rfl
     have hib:(L++Lt++[(⟨A3,n3,c3,z0c (Na.dig cc)⟩:Ob)]++[(⟨AT,nT,cT,z0c (Na.dig aq)⟩:Ob)])[ib]?=some ⟨AB,nB,cB,z0c (Na.dig bq)⟩:=by rw [zqa (L++Lt)];exact (z0v _ _ (z0f HP2.out)).trans HP2.out
     obtain ⟨ia,hia2⟩:∃ z,(L++Lt++[(⟨A3,n3,c3,z0c (Na.dig cc)⟩:Ob)]).length+0=z:=⟨_,rfl⟩
     rw [hia2] at hia;clear hia2;obtain ⟨LB,hLB⟩:∃ z,L++Lt++[(⟨A3,n3,c3,z0c (Na.dig cc)⟩:Ob)]++[(⟨AT,nT,cT,z0c (Na.dig aq)⟩:Ob)]=z:=⟨_,rfl⟩
     have hless:∀ (Lz:List Ob),∀ o∈L++Lz,o∈LB++Lz:=by
      intro Lz o ho;rw [← hLB];rcases List.mem_append.1 ho with h | h
      ·exact List.mem_append_left _ (by simp [h])
      ·exact List.mem_append_right _ h
     rw [hLB] at hia hib H;have HLs:=zh hless;have HW:=zh H;have HI:=zh (And.intro hia hib)
     have HI2:Hid (aq<Na.top∧bq<Na.top∧bq≤aq):=hTop.out.2
     have hm40:m≤40:=HM.out.1
     have hm41:(m:Int)<41:=by omega
     have hm0:(0:Int)≤(m:Int):=by omega
     have hm42:m<41:=by omega
     clear G H hia hib hLB hless hTop;go_upto_region 21 with (fail)
     refine z1e (CsI w0 g M LB (O++[Rw.pair rb 27 (.slice none 0 0) (.slice none 0 0),⟨some ⟨w1.heap.size,0,none⟩,41,41,122,xn⟩,⟨some ⟨(w1.heap.size+1),0,none⟩,41,41,122,xo⟩]) w1.heap.size w4.heap.size AT nT cT AB nB cB m aq bq) (by kernel_rfl) (by kernel_rfl) ?_ ?_ ?_
     ·refine ⟨undef,undef,undef,undef,undef,undef,undef,undef,undef,undef,none,0,0,[],[],?_,⟨by rw [List.append_nil];exact HW.out.drew,?_,?_,?_,?_,?_,?_,?_,?_,?_⟩⟩
      ·simp only [Act.put,zT,zZ,zS]
      all_goals (intro h;cases h)
     ·rintro jj Ld b W hj hf hcl hd ⟨u0,u1,u2,u3,u4,u5,u6,u7,u8,u10,A,n,c,ms,Ls,rfl,hC⟩;have hj':jj<11:=hj
      have hcase:jj=0∨jj=1∨jj=2∨jj=3∨jj=4∨jj=5∨jj=6∨jj=7∨jj=8∨jj=9∨jj=10:=by omega
      have q0:=hC.ow.cell (M.length+0) (zk rfl)
      have q1:=z1w hC.ow (i:=O.length+1) (zk rfl) HP1.out (by omega)
      clear hj hj';simp only [Act.put,zT,zZ,zS];rcases hcase with rfl | rfl | rfl | rfl | rfl | rfl | rfl | rfl | rfl | rfl | rfl
      ·clear hd hcl;refine zw rfl fun K hK=>?_
       go_simp;refine hK _ _ ⟨_,u1,u2,u3,u4,u5,u6,u7,u8,u10,A,n,c,ms,Ls,?_,⟨hC.ow,fun _=>rfl,hC.h1,hC.h2,hC.h3,hC.h4,hC.h5,hC.h6,hC.h7,hC.h8⟩⟩;simp only [Act.put,zT,zZ,zS]
      ·clear hd hcl;refine zw rfl fun K hK=>?_
       go_simp;refine hK _ _ ⟨u0,_,u2,u3,u4,u5,u6,u7,u8,u10,A,n,c,ms,Ls,?_,⟨hC.ow,hC.h0,fun _=>rfl,hC.h2,hC.h3,hC.h4,hC.h5,hC.h6,hC.h7,hC.h8⟩⟩;simp only [Act.put,zT,zZ,zS]
      ·obtain rfl:=hC.h1 (hd 1 (by kernel_rfl));clear hd hcl;refine zw rfl fun K hK=>?_
       go_simp;refine hK _ _ ⟨u0,_,_,u3,u4,u5,u6,u7,u8,u10,A,n,c,ms,Ls,?_,⟨hC.ow,hC.h0,hC.h1,fun _=>rfl,hC.h3,hC.h4,hC.h5,hC.h6,hC.h7,hC.h8⟩⟩;simp only [Act.put,zT,zZ,zS]
      ·obtain rfl:=hC.h2 (hd 2 (by kernel_rfl));clear hd hcl;refine zw rfl fun K hK=>?_
       go_simp;refine hK _ _ ⟨u0,u1,_,_,u4,u5,u6,u7,u8,u10,A,n,c,ms,Ls,?_,⟨hC.ow,hC.h0,hC.h1,hC.h2,fun _=>rfl,hC.h4,hC.h5,hC.h6,hC.h7,hC.h8⟩⟩;simp only [Act.put,zT,zZ,zS]
      ·obtain rfl:=hC.h0 (hd 0 (by kernel_rfl));obtain rfl:=hC.h3 (hd 3 (by kernel_rfl));have f5:Ld 5=false:=by cases e:Ld 5 with | false=>rfl | true=>(rw [hcl 5 4 e (by kernel_rfl)] at hf;cases hf)
       have f6:Ld 6=false:=by cases e:Ld 6 with | false=>rfl | true=>(rw [hcl 6 5 e (by kernel_rfl)] at f5;cases f5)
       have f9:Ld 9=false:=by cases e:Ld 9 with | false=>rfl | true=>(rw [hcl 9 6 e (by kernel_rfl)] at f6;cases f6)
       clear hd hcl;refine zw rfl fun K hK=>?_
       go_simp;have hS:=z3bx hC.ow ia ib ((z0v _ _ (z0f HI.out.1)).trans HI.out.1) ((z0v _ _ (z0f HI.out.2)).trans HI.out.2) HI2.out.1 HI2.out.2.1
       rw [if_neg (Nat.not_lt.2 HI2.out.2.2),if_neg (Nat.not_lt.2 HI2.out.2.2)] at hS
       refine hS.mono ?_;rintro e W' ⟨D,i,j,rfl,ho⟩;refine hK _ _ ⟨_,u1,u2,_,_,u5,u6,u7,u8,u10,_,_,_,ms,_,?_,hC.called f5 f6 f9 ho⟩;simp only [Act.put,zT,zZ,zS]
      ·obtain ⟨rfl,-⟩:=hC.h4 (hd 4 (by kernel_rfl))
       clear hd hcl;refine zw rfl fun K hK=>?_
       go_simp;refine hK _ _ ⟨u0,u1,u2,u3,_,_,u6,u7,u8,u10,A,n,c,ms,Ls,?_,⟨hC.ow,hC.h0,hC.h1,hC.h2,hC.h3,hC.h4,fun _=>rfl,hC.h6,hC.h7,hC.h8⟩⟩;simp only [Act.put,zT,zZ,zS]
      ·obtain rfl:=hC.h5 (hd 5 (by kernel_rfl));clear hd hcl;refine zw rfl fun K hK=>?_
       go_simp;refine hK _ _ ⟨u0,u1,u2,u3,u4,_,_,u7,u8,u10,A,n,c,ms,Ls,?_,⟨hC.ow,hC.h0,hC.h1,hC.h2,hC.h3,hC.h4,hC.h5,fun _=>rfl,hC.h7,hC.h8⟩⟩;simp only [Act.put,zT,zZ,zS]
      ·obtain rfl:=hC.h5 (hd 5 (by kernel_rfl));clear hd hcl;refine zw rfl fun K hK=>?_
       go_simp;refine hK _ _ ⟨u0,u1,u2,u3,u4,_,u6,_,u8,u10,A,n,c,ms,Ls,?_,⟨hC.ow,hC.h0,hC.h1,hC.h2,hC.h3,hC.h4,hC.h5,hC.h6,fun _=>rfl,hC.h8⟩⟩;simp only [Act.put,zT,zZ,zS]
      ·have f9:Ld 9=false:=by cases e:Ld 9 with | false=>rfl | true=>(rw [hcl 9 8 e (by kernel_rfl)] at hf;cases hf)
       clear hd hcl;refine zw rfl fun K hK=>?_
       go_simp;refine hK _ _ ⟨u0,u1,u2,u3,u4,u5,u6,u7,_,u10,A,n,c,_,Ls,?_,hC.alloced f9⟩;simp only [Act.put,zT,zZ,zS]
      ·obtain ⟨b2,v,ms1,rfl,rfl,z1,z2,hC1⟩:=hC.stored (hd 8 (by kernel_rfl)) (hd 6 (by kernel_rfl))
       clear hd hcl;refine zw rfl fun K hK=>?_
       go_simp;refine hK _ _ ⟨u0,u1,u2,u3,u4,u5,_,u7,_,u10,A,n,c,ms1,Ls,?_,hC1⟩;simp only [Act.put,zT,zZ,zS]
      ·obtain rfl:=hC.h7 (hd 7 (by kernel_rfl));clear hd hcl;refine zw rfl fun K hK=>?_
       go_simp;refine hK _ _ ⟨u0,u1,u2,u3,u4,u5,u6,_,u8,.int .i64 0,A,n,c,ms,Ls,?_,⟨hC.ow,hC.h0,hC.h1,hC.h2,hC.h3,hC.h4,hC.h5,hC.h6,hC.h7,hC.h8⟩⟩;simp only [Act.put,zT,zZ,zS]
     ·rintro Ld b W hL ⟨u0,u1,u2,u3,u4,u5,u6,u7,u8,u10,A,n,c,ms,Ls,rfl,hC⟩;obtain ⟨t8,b2,v8,rfl,r1,r2⟩:=hC.h8 (hL 8 (by show 8<11;decide))
      obtain rfl:=r2 (hL 9 (by show 9<11;decide))
      obtain ⟨-,t4,r4⟩:=hC.h4 (hL 4 (by show 4<11;decide))
      have y0:=hC.ow.cell (M.length+0) (zk rfl)
      have y1:=hC.ow.cell (M.length+(t8+1)) (by rw [z0b];exact r1)
      have HSz:=zh hC.ow.size;have HC:=zh (z5aj hC.ow (LB.length+t4) ia ((z0b _ _ _).trans r4) ((z0v _ _ (z0f HI.out.1)).trans HI.out.1) HT.out (zqu (Nat.sub_le _ _) HI2.out.1) HI2.out.1 HMk.out)
      clear hC r1 r4 hL HW;go_wp2_with fail;refine HC.out.mono ?_;clear HC;rintro e w9 ⟨⟨C1,k1,e1,C2,k2,e2,rfl,G⟩,hfr⟩;have HFq:=zh (hfr _ _ _ _ _ _ _ rfl)
      clear hfr;clear y0 y1;have z0:=G.p0 (O.length+0) (zk rfl)
      have z1:=G.p1 (O.length+0) (zk rfl)
      have f0:=G.pf (O.length+0) (zk rfl) 0
      have f1:=G.pf (O.length+0) (zk rfl) 1
      have Z3:=G.set0 (O.length+0) (zk rfl) (.slice C1 k1 e1)
      rw [z0n] at Z3;simp only [zqd] at Z3;have Z4:=Z3.set1 (O.length+0) (zk rfl) (.slice C2 k2 e2)
      rw [z0n] at Z4;simp only [zqd] at Z4;have r0:=Z4.p0 (O.length+0) (zk rfl)
      have r1:=Z4.p1 (O.length+0) (zk rfl)
      have HF:=zh (Z4.fewM.fewO.less (L':=L++[⟨C1,k1,e1,z0c (Na.dig t.1)⟩]++[⟨C2,k2,e2,z0c (Na.dig t.2.1)⟩]) (fun o ho=>by
       rw [zqa] at ho;have h:=HLs.out _ o ho
       simp only [List.mem_append] at h ⊢
       rcases h with h | h | h
       ·exact .inl (.inl (.inl h))
       ·exact .inl (.inr h)
       ·exact .inr h))
      clear G Z3 Z4;go_wp2_with fail;refine bodyPost_ret (v:=.tuple #[.agg #[.slice C1 k1 e1,.slice C2 k2 e2],.int .i64 t.2.2]) (by simp [results,Tryz.results63,go_sem,r0,r1]) rfl ?_
      exact ⟨⟨C1,k1,e1,C2,k2,e2,rfl,HF.out⟩,z1br ⟨fun ad ea h0=>zqq HSz.out (HFq.out.1 ad ea h0),fun ad ea h0=>zqq HSz.out (HFq.out.2 ad ea h0)⟩⟩
    ·have hd3:decide ((0:Int)<(r:Int))=true:=zt (by omega)
     have hd4:decide (0<r)=true:=zt h0
     have HB:Hid (p≤4096∧s≤4096):=by
      have h1:=HV.out.2.1;have h2:=HM.out.2.2.1;have h3:s*1≤s*r:=Nat.mul_le_mul_left s h0
      exact ⟨by omega,by omega⟩
     rcases Nat.mod_two_eq_zero_or_one r with hm2 | hm2
     ·have q1:((r:Int).tmod 2 == 1)=false:=by rw [beq_eq_false_iff_ne,Int.tmod_eq_emod_of_nonneg (by omega)];omega
      have q2:((r:Int) % 2 == 1)=false:=by rw [beq_eq_false_iff_ne];omega
      have HWn:Hid (Ways (L++Lt) xn m (pwc (z2i i) p)∧xn.toArray.all (·.oneCell')=true):=⟨HV.out.2.2.1,HV.out.2.2.2.2.2.1⟩
      have HWo:Hid (Ways (L++Lt) xo m (pwc (z2i i) s)∧xo.toArray.all (·.oneCell')=true):=⟨HV.out.2.2.2.1,HV.out.2.2.2.2.2.2⟩
      have HTs:=zh HV.out.2.2.2.2.1;obtain ⟨hn1,hn2⟩:=HO.out.rowHeap (O.length+1) (zk rfl)
      obtain ⟨ho1,ho2⟩:=HO.out.rowHeap (O.length+2) (zk rfl)
      have hin:(Tryz.prog.info? 122).map (·.size)=some xn.toArray.size:=by rw [z2q];simp [hn2]
      have hio:(Tryz.prog.info? 122).map (·.size)=some xo.toArray.size:=by rw [z2q];simp [ho2]
      have HC:=zh (z4ao HO.out m HM.out.1 xo.toArray xo.toArray A (pwc (z2i i) s) (pwc (z2i i) s) (12*m) (by have:=HM.out.1;omega) HTs.out HWo.out.1 HWo.out.1 (fun z hz=>z3x (by have:=HB.out;omega) hz) (fun z hz=>z3x (by have:=HB.out;omega) hz))
      rw [z7t] at HC;clear HO;go_wp2_with (refine wpList_load_row rfl 122 (.tmp 10) rfl (w1.heap.size+1) rfl 122 xo.toArray (0,0) _ ho1 Tryz.underlying122 rfl hio ?_)
      clear hn1 hn2 ho1 ho2 hin hio;refine HC.out.mono ?_;clear HC;rintro e w51 ⟨vc1,Lz1,rfl,G,HWy,HAl⟩;obtain ⟨y1,rfl⟩:∃ y:List Value,vc1=y.toArray:=⟨vc1.toList,by simp⟩
      dsimp only at HWy
      have hvc:y1.toArray.size=41:=by have:=HWy.1;simpa using this
      obtain ⟨hg1,hg2⟩:=G.rowHeap (O.length+2) (zk rfl)
      have hiv:(Tryz.prog.info? 122).map (·.size)=some y1.toArray.size:=by rw [z2q,hvc]
      have hsv:xo.toArray.size=y1.toArray.size:=by rw [hvc];simp [hg2]
      have Z:=G.putRow (O.length+2) (zk rfl) y1.toArray hvc (by omega)
      rw [z0n,zqe,zqe,zqd,zqa] at Z;have hal:y1.toArray.all (·.oneCell')=true:=HAl
      rw [zqa] at HWy;have HO1:=zh Z;have HY1:Hid (Ways (L++(Lt++Lz1)) y1 m (pwc (z2i i) (s+s))∧y1.toArray.all (·.oneCell')=true):=⟨HWy,HAl⟩
      have hcc:cc=p+(s+s)*(r / 2):=by
       have h5:=HV.out.2.1;have h6:2*(r / 2)=r:=by omega
       have h7:s*r=(s+s)*(r / 2):=by rw [← Nat.two_mul,Nat.mul_comm 2 s,zqs,h6]
       omega
      have HV9:Hid (r / 2≤4096∧cc=p+(s+s)*(r / 2)∧Ways (L++(Lt++Lz1)) xn m (pwc (z2i i) p)∧Ways (L++(Lt++Lz1)) y1 m (pwc (z2i i) (s+s))∧TSets (L++(Lt++Lz1)) A m∧xn.toArray.all (·.oneCell')=true∧y1.toArray.all (·.oneCell')=true):=by
       refine ⟨by omega,hcc,?_,HY1.out.1,?_,HWn.out.2,HY1.out.2⟩
       ·rw [← zqa];exact HWn.out.1.more
       ·rw [← zqa];exact TSets.more HTs.out
      clear HV HWn HWo HTs HY1 hcc G Z HWy HAl;go_wp2_with (refine wpList_store_row rfl 122 (.tmp 10) (.tmp 74) rfl (w1.heap.size+1) y1.toArray rfl rfl 122 xo.toArray hg1 hiv hsv hal ?_)
      go_roundw
      case rel=>exact ⟨r / 2,p,s+s,xn,y1,_,z0o (by omega),HV9,HO1⟩
      case measure=>simp [intOf];omega
     ·have q1:((r:Int).tmod 2 == 1)=true:=by rw [beq_iff_eq,Int.tmod_eq_emod_of_nonneg (by omega)];omega
      have q2:((r:Int) % 2 == 1)=true:=by rw [beq_iff_eq];omega
      have HWn:Hid (Ways (L++Lt) xn m (pwc (z2i i) p)∧xn.toArray.all (·.oneCell')=true):=⟨HV.out.2.2.1,HV.out.2.2.2.2.2.1⟩
      have HWo:Hid (Ways (L++Lt) xo m (pwc (z2i i) s)∧xo.toArray.all (·.oneCell')=true):=⟨HV.out.2.2.2.1,HV.out.2.2.2.2.2.2⟩
      have HTs:=zh HV.out.2.2.2.2.1;obtain ⟨hn1,hn2⟩:=HO.out.rowHeap (O.length+1) (zk rfl)
      obtain ⟨ho1,ho2⟩:=HO.out.rowHeap (O.length+2) (zk rfl)
      have hin:(Tryz.prog.info? 122).map (·.size)=some xn.toArray.size:=by rw [z2q];simp [hn2]
      have hio:(Tryz.prog.info? 122).map (·.size)=some xo.toArray.size:=by rw [z2q];simp [ho2]
      have HC:=zh (z4ao HO.out m HM.out.1 xn.toArray xo.toArray A (pwc (z2i i) p) (pwc (z2i i) s) (12*m) (by have:=HM.out.1;omega) HTs.out HWn.out.1 HWo.out.1 (fun z hz=>z3x (by have:=HB.out;omega) hz) (fun z hz=>z3x (by have:=HB.out;omega) hz))
      rw [z7t] at HC;clear HO;go_wp2_with (first | (refine wpList_load_row rfl 122 (.tmp 9) rfl w1.heap.size rfl 122 xn.toArray (0,0) _ hn1 Tryz.underlying122 rfl hin ?_) | (refine wpList_load_row rfl 122 (.tmp 10) rfl (w1.heap.size+1) rfl 122 xo.toArray (0,0) _ ho1 Tryz.underlying122 rfl hio ?_))
      clear hn1 hn2 ho1 ho2 hin hio;refine HC.out.mono ?_;clear HC;rintro e w51 ⟨vc1,Lz1,rfl,G,HWy,HAl⟩;obtain ⟨y1,rfl⟩:∃ y:List Value,vc1=y.toArray:=⟨vc1.toList,by simp⟩
      dsimp only at HWy
      have hvc:y1.toArray.size=41:=by have:=HWy.1;simpa using this
      obtain ⟨hg1,hg2⟩:=G.rowHeap (O.length+1) (zk rfl)
      have hiv:(Tryz.prog.info? 122).map (·.size)=some y1.toArray.size:=by rw [z2q,hvc]
      have hsv:xn.toArray.size=y1.toArray.size:=by rw [hvc];simp [hg2]
      have Z:=G.putRow (O.length+1) (zk rfl) y1.toArray hvc (by omega)
      rw [z0n,zqe,zqd,zqa] at Z;have hal:y1.toArray.all (·.oneCell')=true:=HAl
      rw [zqa] at HWy;have HO1:=zh Z;have HY1:Hid (Ways (L++(Lt++Lz1)) y1 m (pwc (z2i i) (p+s))∧y1.toArray.all (·.oneCell')=true):=⟨HWy,HAl⟩
      have HWo2:Hid (Ways (L++(Lt++Lz1)) xo m (pwc (z2i i) s)∧xo.toArray.all (·.oneCell')=true):=⟨by rw [← zqa];exact HWo.out.1.more,HWo.out.2⟩
      have HTs2:Hid (TSets (L++(Lt++Lz1)) A m):=by rw [← zqa];exact TSets.more HTs.out
      clear HWn HWo HTs G Z HWy HAl;obtain ⟨hn1,hn2⟩:=HO1.out.rowHeap (O.length+1) (zk rfl)
      obtain ⟨ho1,ho2⟩:=HO1.out.rowHeap (O.length+2) (zk rfl)
      have hin:(Tryz.prog.info? 122).map (·.size)=some y1.toArray.size:=by rw [z2q];simp [hn2]
      have hio:(Tryz.prog.info? 122).map (·.size)=some xo.toArray.size:=by rw [z2q];simp [ho2]
      have HC:=zh (z4ao HO1.out m HM.out.1 xo.toArray xo.toArray A (pwc (z2i i) s) (pwc (z2i i) s) (12*m) (by have:=HM.out.1;omega) HTs2.out HWo2.out.1 HWo2.out.1 (fun z hz=>z3x (by have:=HB.out;omega) hz) (fun z hz=>z3x (by have:=HB.out;omega) hz))
      rw [z7t] at HC;clear HO1;go_wp2_with (first | (refine wpList_store_row rfl 122 (.tmp 9) (.tmp 69) rfl w1.heap.size y1.toArray rfl rfl 122 xn.toArray hg1 hiv hsv hal ?_) | (refine wpList_load_row rfl 122 (.tmp 10) rfl (w1.heap.size+1) rfl 122 xo.toArray (0,0) _ ho1 Tryz.underlying122 rfl hio ?_))
      clear hn1 hn2 ho1 ho2 hin hio;refine HC.out.mono ?_;clear HC;rintro e w52 ⟨vc2,Lz2,rfl,G,HWy,HAl⟩;obtain ⟨y2,rfl⟩:∃ y:List Value,vc2=y.toArray:=⟨vc2.toList,by simp⟩
      dsimp only at HWy
      have hvc:y2.toArray.size=41:=by have:=HWy.1;simpa using this
      obtain ⟨hg1,hg2⟩:=G.rowHeap (O.length+2) (zk rfl)
      have hiv:(Tryz.prog.info? 122).map (·.size)=some y2.toArray.size:=by rw [z2q,hvc]
      have hsv:xo.toArray.size=y2.toArray.size:=by rw [hvc];simp [hg2]
      have Z:=G.putRow (O.length+2) (zk rfl) y2.toArray hvc (by omega)
      rw [z0n,zqe,zqe,zqd,zqa] at Z;have hal:y2.toArray.all (·.oneCell')=true:=HAl
      rw [zqa] at HWy;have HO2:=zh Z;have HY2:Hid (Ways (L++((Lt++Lz1)++Lz2)) y2 m (pwc (z2i i) (s+s))∧y2.toArray.all (·.oneCell')=true):=⟨HWy,HAl⟩
      have hcc:cc=p+s+(s+s)*(r / 2):=by
       have h5:=HV.out.2.1;have h6:2*(r / 2)+1=r:=by omega
       have h7:s*r=(s+s)*(r / 2)+s:=by rw [← Nat.two_mul,Nat.mul_comm 2 s,zqs,← Nat.mul_succ,Nat.succ_eq_add_one,h6]
       omega
      have HV9:Hid (r / 2≤4096∧cc=p+s+(s+s)*(r / 2)∧Ways (L++(Lt++Lz1++Lz2)) y1 m (pwc (z2i i) (p+s))∧Ways (L++(Lt++Lz1++Lz2)) y2 m (pwc (z2i i) (s+s))∧TSets (L++(Lt++Lz1++Lz2)) A m∧y1.toArray.all (·.oneCell')=true∧y2.toArray.all (·.oneCell')=true):=by
       refine ⟨by omega,hcc,?_,HY2.out.1,?_,HY1.out.2,HY2.out.2⟩
       ·rw [← zqa];exact HY1.out.1.more
       ·rw [← zqa];exact TSets.more HTs2.out
      clear HV HWo2 HTs2 HY1 HY2 hcc G Z HWy HAl;go_wp2_with (refine wpList_store_row rfl 122 (.tmp 10) (.tmp 74) rfl (w1.heap.size+1) y2.toArray rfl rfl 122 xo.toArray hg1 hiv hsv hal ?_)
      go_roundw
      case rel=>exact ⟨r / 2,p+s,s+s,y1,y2,_,z0o (by omega),HV9,HO2⟩
      case measure=>simp [intOf];omega
  ·have hd:decide ((i:Int)<(kk:Int))=true:=zt (by omega)
   have hd2:decide (i<kk)=true:=zt hlt
   have hk40:kk≤40:=by have:=HM.out;omega
   have HC:=zh (z2bn HO.out)
   clear HO;have hi41:(i:Int)<41:=by omega
   have hi0:(0:Int)≤(i:Int):=by omega
   have hi42:i<41:=by omega
   go_wp2_with fail;refine HC.out.mono ?_;rintro e w3 ⟨B2,m2,d2,rfl,G⟩;have c1:=z1w G (i:=O.length+2) (zk rfl) (HV.out.1.2.2 i (zqj _) (by omega)) (by omega)
   have f1:=(G.own (O.length+2) _ (zk rfl)).frozenAt i
   have Z:=G.put (O.length+2) (zk rfl) i (.slice B2 m2 d2)
   rw [z0n,zqe,zqe,zqd,zqa] at Z;have HZ:=zh Z;have HV2:Hid (Ones (L++(Lt++[(⟨B2,m2,d2,z0c (Na.dig 1)⟩:Ob)])) (xs.set i (.slice B2 m2 d2)) (i+1)∧Ones (L++(Lt++[(⟨B2,m2,d2,z0c (Na.dig 1)⟩:Ob)])) (lr.set 0 (.slice B1 m1 d1)) 1∧TSets (L++(Lt++[(⟨B2,m2,d2,z0c (Na.dig 1)⟩:Ob)])) A m∧NumIn (L++(Lt++[(⟨B2,m2,d2,z0c (Na.dig 1)⟩:Ob)])) (.slice none 0 0) 0):=by
    rw [← zqa];exact ⟨Ones.set HV.out.1.more (by omega) ⟨B2,m2,d2,(L++Lt).length+0,rfl,by rw [z0b];rfl⟩,HV.out.2.1.more,TSets.more HV.out.2.2.1,HV.out.2.2.2.more⟩
   clear G Z HC HV;go_wp2_with fail;go_roundw
   case rel=>exact ⟨i+1,_,_,hlt,z0o (by omega),HV2,HZ⟩
   case measure=>simp [intOf];omega
theorem z0aa (h:Ow w0 w g M L O)(m cc kk:Nat)(ht:Tab w0)(hm:m≤40)(hc:1≤cc∧cc≤4096)(hk:1≤kk∧kk≤m):Calls Tryz.prog 63 #[.int .i64 (m:Int),.int .i64 (cc:Int),.int .i64 (kk:Int)] w (z8k w0 g M L O (frM (cc ^ m - pwc (z2i kk) cc m) (cc ^ m))):=
 (z8n h m cc kk ht hm hc hk).mono fun _ _ h=>h.1
end
theorem z5o {w0 w:World}{g:Option Nat}{M:List (Nat×Value)}{L:List Ob}{O:List Rw}{tb m n c t:Nat}{v u:Value}{ad:Addr}{zs:List Value}{l:List (Nat×Value)}(h:Ow w0 w g (M++(tb,v) :: l) L O)(hd:L[t]?=some ⟨some ad,n,c,zs⟩)(hz:zs[m]?=some u):w.cell? ⟨tb,0,none⟩=some v∧w.cell? (ad.add m)=some u:=
 ⟨h.cell (M.length+0) (zk rfl),(h.sl hd).2.2.2.c hz⟩
def RCu (w0:World)(g:Option Nat)(M:List (Nat×Value))(L:List Ob)(O:List Rw)(m kk:Nat)(v8 v9 v49:Value)(wr:World):Prop:=
 ∃ (j:Nat) (A1:Option Addr) (c1:Nat) (xs:List Value) (A2:Option Addr) (c2:Nat) (ys:List Value) (Ls:List Ob),j≤m+1∧v8=.slice A1 j c1∧v9=.slice A2 j c2∧v49=.int .i64 (j:Int)∧Hid (WayTo (L++Ls) xs j (z2i kk)∧WayTo (L++Ls) ys j dlt)∧Hid (Ow w0 wr g M (L++Ls) (O++[⟨A1,j,c1,25,xs⟩,⟨A2,j,c2,25,ys⟩]))
def RCv (w0:World)(g:Option Nat)(M:List (Nat×Value))(L:List Ob)(O:List Rw)(m cc kk:Nat)(v9 v14:Value)(wr:World):Prop:=
 ∃ (b r:Nat) (z:Int) (D:Option Addr) (c t:Nat) (ys:List Value) (Ls:List Ob),b≤13∧z+1=(b:Int)∧v9=.slice D (m+1) c∧v14=.int .i64 z∧Hid (r=cc / 2 ^ b∧(L++Ls)[t]?=some ⟨D,m+1,c,ys⟩∧WaysU (L++Ls) ys m (pwc (z2i kk) r))∧Hid (Ow w0 wr g M (L++Ls) O)
section
variable {w0 w w':World}{g:Option Nat}{M M2:List (Nat×Value)}{L:List Ob}{O:List Rw}{A A2 A3 A4:Option Addr}{b n c m c2 n3 c3 n4 c4 x y:Nat}{p q r s:List Int}
theorem z7s (h:Ow w0 w g M L O)(a b k:Int)(hn:a<0∨40<a∨b<1∨4096<b):Calls Tryz.prog 21 #[.int .i64 a,.int .i64 b,.int .i64 k] w (z8k w0 g M L O (frE 2)):=by
 have H:=h.pair (.slice none 0 0) (.slice none 0 0) 27
 clear h;rcases Int.lt_or_le (a) (0) with h0 | h1
 ·have t:decide (a<0)=true:=zt (by omega)
  clear hn;go_enter Tryz.func21,Tryz.ntmps21
  have HF:=zh H.fewO;clear H;go_wp2_with fail;refine bodyPost_ret (v:=.tuple #[.agg #[.slice none 0 0,.slice none 0 0],.int .i64 2]) (by simp [results,Tryz.results21,go_sem]) rfl ?_
  exact z2j HF.out 2
 rcases Int.lt_or_le (40) (a) with h0 | h2
 ·have t:decide (40<a)=true:=zt (by omega)
  have t0:decide (a<0)=false:=zn (by omega)
  clear hn;go_enter Tryz.func21,Tryz.ntmps21
  have HF:=zh H.fewO;clear H;go_wp2_with fail;refine bodyPost_ret (v:=.tuple #[.agg #[.slice none 0 0,.slice none 0 0],.int .i64 2]) (by simp [results,Tryz.results21,go_sem]) rfl ?_
  exact z2j HF.out 2
 rcases Int.lt_or_le (b) (1) with h0 | h3
 ·have t:decide (b<1)=true:=zt (by omega)
  have t0:decide (a<0)=false:=zn (by omega)
  have t1:decide (40<a)=false:=zn (by omega)
  clear hn;go_enter Tryz.func21,Tryz.ntmps21
  have HF:=zh H.fewO;clear H;go_wp2_with fail;refine bodyPost_ret (v:=.tuple #[.agg #[.slice none 0 0,.slice none 0 0],.int .i64 2]) (by simp [results,Tryz.results21,go_sem]) rfl ?_
  exact z2j HF.out 2
 have t:decide (4096<b)=true:=zt (by omega)
 have t0:decide (a<0)=false:=zn (by omega)
 have t1:decide (40<a)=false:=zn (by omega)
 have t2:decide (b<1)=false:=zn (by omega)
 clear hn;go_enter Tryz.func21,Tryz.ntmps21
 have HF:=zh H.fewO;clear H;go_wp2_with fail;refine bodyPost_ret (v:=.tuple #[.agg #[.slice none 0 0,.slice none 0 0],.int .i64 2]) (by simp [results,Tryz.results21,go_sem]) rfl ?_
 exact z2j HF.out 2
theorem z0an (h:Ow w0 w g M L O)(a b k:Int)(ha:0≤a∧a≤40)(hb:1≤b∧b≤4096)(hk:k≤0):Calls Tryz.prog 21 #[.int .i64 a,.int .i64 b,.int .i64 k] w (z8k w0 g M L O (1,1,0)):=by
 have H:=h.pair (.slice none 0 0) (.slice none 0 0) 27
 have t0:decide (a<0)=false:=zn (by omega)
 have t1:decide (40<a)=false:=zn (by omega)
 have t2:decide (b<1)=false:=zn (by omega)
 have t3:decide (4096<b)=false:=zn (by omega)
 have t4:decide (k≤0)=true:=zt (by omega)
 have HC:=zh (z0ap H 1 1 (by omega) (by omega))
 rw [z5ay] at HC;clear h H ha hb hk;go_enter Tryz.func21,Tryz.ntmps21
 go_wp2_with fail;refine HC.out.mono ?_;rintro e w9 ⟨C1,k1,e1,C2,k2,e2,rfl,G⟩;clear HC;have z0:=G.p0 (O.length+0) (zk rfl)
 have z1:=G.p1 (O.length+0) (zk rfl)
 have f0:=G.pf (O.length+0) (zk rfl) 0
 have f1:=G.pf (O.length+0) (zk rfl) 1
 have Z3:=G.set0 (O.length+0) (zk rfl) (.slice C1 k1 e1)
 rw [z0n] at Z3;simp only [zqd] at Z3;have Z4:=Z3.set1 (O.length+0) (zk rfl) (.slice C2 k2 e2)
 rw [z0n] at Z4;simp only [zqd] at Z4;have r0:=Z4.p0 (O.length+0) (zk rfl)
 have r1:=Z4.p1 (O.length+0) (zk rfl)
 have HF:=zh Z4.fewO;clear G Z3 Z4;go_wp2_with fail;refine bodyPost_ret (v:=.tuple #[.agg #[.slice C1 k1 e1,.slice C2 k2 e2],.int .i64 0]) (by simp [results,Tryz.results21,go_sem,r0,r1]) rfl ?_
 exact ⟨C1,k1,e1,C2,k2,e2,rfl,HF.out⟩
theorem z8w (h:Ow w0 w g M L O)(a b k:Int)(ha:0≤a∧a≤40)(hb:1≤b∧b≤4096)(hk:0<k∧a<k):Calls Tryz.prog 21 #[.int .i64 a,.int .i64 b,.int .i64 k] w (z8k w0 g M L O (0,1,0)):=by
 have H:=h.pair (.slice none 0 0) (.slice none 0 0) 27
 have t0:decide (a<0)=false:=zn (by omega)
 have t1:decide (40<a)=false:=zn (by omega)
 have t2:decide (b<1)=false:=zn (by omega)
 have t3:decide (4096<b)=false:=zn (by omega)
 have t4:decide (k≤0)=false:=zn (by omega)
 have t5:decide (a<k)=true:=zt (by omega)
 have HC:=zh (z0ap H 0 1 (by omega) (by omega))
 rw [z2ad] at HC;clear h H ha hb hk;go_enter Tryz.func21,Tryz.ntmps21
 go_wp2_with fail;refine HC.out.mono ?_;rintro e w9 ⟨C1,k1,e1,C2,k2,e2,rfl,G⟩;clear HC;have z0:=G.p0 (O.length+0) (zk rfl)
 have z1:=G.p1 (O.length+0) (zk rfl)
 have f0:=G.pf (O.length+0) (zk rfl) 0
 have f1:=G.pf (O.length+0) (zk rfl) 1
 have Z3:=G.set0 (O.length+0) (zk rfl) (.slice C1 k1 e1)
 rw [z0n] at Z3;simp only [zqd] at Z3;have Z4:=Z3.set1 (O.length+0) (zk rfl) (.slice C2 k2 e2)
 rw [z0n] at Z4;simp only [zqd] at Z4;have r0:=Z4.p0 (O.length+0) (zk rfl)
 have r1:=Z4.p1 (O.length+0) (zk rfl)
 have HF:=zh Z4.fewO;clear G Z3 Z4;go_wp2_with fail;refine bodyPost_ret (v:=.tuple #[.agg #[.slice C1 k1 e1,.slice C2 k2 e2],.int .i64 0]) (by simp [results,Tryz.results21,go_sem,r0,r1]) rfl ?_
 exact ⟨C1,k1,e1,C2,k2,e2,rfl,HF.out⟩
theorem z0al (h:Ow w0 w g M L O)(m cc kk:Nat)(hm:m≤40)(hc:1≤cc∧cc≤4096)(hk:1≤kk∧kk≤m):Calls Tryz.prog 21 #[.int .i64 (m:Int),.int .i64 (cc:Int),.int .i64 (kk:Int)] w (z8k w0 g M L O (frM (cc ^ m - pwc (z2i kk) cc m) (cc ^ m))):=by
 have H0:=((h.pair (.slice none 0 0) (.slice none 0 0) 27).nil 25).nil 25
 rw [zqa,zqa,zqb,zqc,zqb,zqc] at H0;have t0:decide ((m:Int)<0)=false:=zn (by omega)
 have t1:decide (40<(m:Int))=false:=zn (by omega)
 have t1b:decide (40<m)=false:=zn (by omega)
 have t2:decide ((cc:Int)<1)=false:=zn (by omega)
 have t3:decide (4096<(cc:Int))=false:=zn (by omega)
 have t3b:decide (4096<cc)=false:=zn (by omega)
 have t4:decide ((kk:Int)≤0)=false:=zn (by omega)
 have t4b:decide (kk=0)=false:=zn (by omega)
 have t5:decide ((m:Int)<(kk:Int))=false:=zn (by omega)
 have t5b:decide (m<kk)=false:=zn (by omega)
 have hw1:IntKind.i64.wrap ((m:Int)+1)=(m:Int)+1:=IntWalk.i64_in _ (by omega)
 obtain ⟨t,hmk⟩:∃ t,frM (cc ^ m - pwc (z2i kk) cc m) (cc ^ m)=t:=⟨_,rfl⟩
 rw [hmk];have HMk:=zh hmk;clear hmk;have HO:=zh H0;obtain ⟨rb,hrb⟩:∃ r,w.heap.size=r:=⟨_,rfl⟩
 rw [hrb] at HO;have HRB:=zh hrb;have HB:=zh (And.intro hm (And.intro hc hk))
 clear h H0 hrb;go_enter Tryz.func21,Tryz.ntmps21
 go_wp2_with fail;rw [HRB.out];go_loopw [8,9,49] (fun v8 v9 v49 wr=>RCu w0 g M L (O++[Rw.pair rb 27 (.slice none 0 0) (.slice none 0 0)]) m kk v8 v9 v49 wr) (fun _ _ v49 _=>m+2 - (intOf v49).toNat)
 case atStart=>exact ⟨0,none,0,[],none,0,[],[],by omega,rfl,rfl,rfl,⟨fun z hz=>absurd hz (by omega),fun z hz=>absurd hz (by omega)⟩,by rw [List.append_nil,zqa];exact HO.out⟩
 case round=>
  clear HO;obtain ⟨j,A1,c1,xs,A2,c2,ys,Ls,hj,rfl,rfl,rfl,HV,HO0⟩:=hrel;have HO:Hid (Ow w0 wr g M (L++Ls) (O++[Rw.pair rb 27 (.slice none 0 0) (.slice none 0 0),⟨A1,j,c1,25,xs⟩,⟨A2,j,c2,25,ys⟩])):=by
   have:=HO0.out
   rw [zqa] at this;exact this
  clear HO0;have HL9:Hid (xs.length=j∧ys.length=j):=⟨z1j (HO.out.row (O.length+1) (zk rfl)),z1j (HO.out.row (O.length+2) (zk rfl))⟩
  rcases Nat.eq_or_lt_of_le hj with he | hlt
  ·subst he
   have hd:decide (((m+1:Nat):Int)<(m:Int)+1)=false:=zn (by omega)
   have hd2:decide (m+1<m+1)=false:=zn (by omega)
   have hk1:=HO.out.keep (O.length+1) (zk rfl) (by omega)
   rw [z0n,zqe,zqd] at hk1;have hk2:=hk1.keep (O.length+2) (zk rfl) (by omega)
   rw [z0n,zqe,zqe,zqd] at hk2;have hk3:=hk2.few (O.length+1)
   rw [List.take_append,zqp (by omega),Nat.add_sub_cancel_left,List.take_succ_cons,List.take_zero] at hk3
   have HC:=zh (z8ax hk3 m hm)
   have HX1:Hid ((L++Ls++[(⟨A1,m+1,c1,xs⟩:Ob)]++[(⟨A2,m+1,c2,ys⟩:Ob)])[(L++Ls).length+0]?=some ⟨A1,m+1,c1,xs⟩∧(L++Ls++[(⟨A1,m+1,c1,xs⟩:Ob)]++[(⟨A2,m+1,c2,ys⟩:Ob)])[(L++Ls++[(⟨A1,m+1,c1,xs⟩:Ob)]).length+0]?=some ⟨A2,m+1,c2,ys⟩):=⟨z5n (zk rfl),by rw [z0b];rfl⟩
   have HX2:Hid (WaysU (L++Ls++[(⟨A1,m+1,c1,xs⟩:Ob)]++[(⟨A2,m+1,c2,ys⟩:Ob)]) xs m (z2i kk)∧WaysU (L++Ls++[(⟨A1,m+1,c1,xs⟩:Ob)]++[(⟨A2,m+1,c2,ys⟩:Ob)]) ys m dlt):=⟨fun z hz=>by
     obtain ⟨u,a,b⟩:=HV.out.1 z (by omega)
     exact ⟨u,a,b.more.more⟩,fun z hz=>by
     obtain ⟨u,a,b⟩:=HV.out.2 z (by omega)
     exact ⟨u,a,b.more.more⟩⟩
   clear hk1 hk2 hk3 HO HV HL9;obtain ⟨i1,hi1⟩:∃ t,(L++Ls).length+0=t:=⟨_,rfl⟩
   obtain ⟨i2,hi2⟩:∃ t,(L++Ls++[(⟨A1,m+1,c1,xs⟩:Ob)]).length+0=t:=⟨_,rfl⟩
   rw [hi1,hi2] at HX1;clear hi1 hi2;obtain ⟨LB,hLB⟩:∃ l,L++Ls++[(⟨A1,m+1,c1,xs⟩:Ob)]++[(⟨A2,m+1,c2,ys⟩:Ob)]=l:=⟨_,rfl⟩
   have HSub:Hid (∀ o∈L,o∈LB):=by
    intro o ho;rw [← hLB];exact List.mem_append_left _ (List.mem_append_left _ (List.mem_append_left _ ho))
   rw [hLB] at HC HX1 HX2;clear hLB;go_wp2_with fail;refine HC.out.mono ?_;clear HC;rintro e w1 ⟨AS,cS,Lp,rfl,G,HSets⟩;have HO:=zh G;have HS:=zh HSets;clear G HSets;have HI0:Hid (0=cc / 2 ^ 13∧(LB++Lp++[])[i2]?=some (⟨A2,m+1,c2,ys⟩:Ob)∧WaysU (LB++Lp++[]) ys m (pwc (z2i kk) 0)):=by
    rw [List.append_nil];exact ⟨by have:=HB.out.2.1;rw [Nat.div_eq_of_lt];omega,z5n HX1.out.2,WaysU.more HX2.out.2⟩
   rw [← List.append_nil (LB++Lp)] at HO
   go_wp2_with fail;go_loopw [9,14] (fun v9 v14 wr=>RCv w0 g M (LB++Lp) (O++[Rw.pair rb 27 (.slice none 0 0) (.slice none 0 0)]) m cc kk v9 v14 wr) (fun _ v14 _=>(intOf v14+1).toNat)
   case atStart=>
    exact ⟨13,0,12,A2,c2,i2,ys,[],by omega,by omega,rfl,rfl,HI0,HO⟩
   case round=>
    clear HO;obtain ⟨b,r,z,D,c,tD,zs,Lt,hb,hz,rfl,rfl,HV,HO⟩:=hrel;rcases zqh b with hb0 | hb0
    ·obtain rfl:z=-1:=by omega
     have hr:r=cc:=by have:=HV.out.1;rw [hb0,Nat.pow_zero,Nat.div_one] at this;exact this
     have hWy:=HV.out.2.2 m (zqj _)
     obtain ⟨uu,hzs,AB,nB,cB,ib,rfl,hib⟩:=hWy;rw [hr] at hib;have hB1:pwc (z2i kk) cc m≤cc ^ m:=z5ak (z7w kk) cc m
     have hc12:cc≤2 ^ 12:=hc.2
     have hTop:Hid (cc<Na.top∧cc ^ m<Na.top∧pwc (z2i kk) cc m<Na.top∧pwc (z2i kk) cc m≤cc ^ m):=by
      have h1:cc ^ m<Na.top:=z3t (z0ar hc12 m) (by omega)
      exact ⟨z3t hc12 (by omega),h1,zqu hB1 h1,hB1⟩
     obtain ⟨bq,hbq⟩:∃ z,pwc (z2i kk) cc m=z:=⟨_,rfl⟩
     rw [hbq] at hib hTop HMk;obtain ⟨aq,haq⟩:∃ z,cc ^ m=z:=⟨_,rfl⟩
     have HC:=zh (r_of HO.out cc (by omega))
     have HP2:=zh (And.intro hib (And.intro HV.out.2.1 hzs))
     clear HO HV hB1 hc12 hib hbq hr hb0 hz hzs;go_wp2_with fail;refine HC.out.mono ?_;clear HC;rintro e w3 ⟨A3,n3,c3,rfl,G⟩;have HC:=zh (z3bd G ((LB++Lp++Lt).length+0) (zk rfl) hTop.out.1 m (by omega) hTop.out.2.1)
     clear G;go_wp2_with fail;refine HC.out.mono ?_;clear HC;rintro e w4 ⟨AT,nT,cT,rfl,G⟩;rw [haq] at G hTop HMk;clear haq;have H:=G.boxed (.slice AT nT cT) 25
     have hia:(LB++Lp++Lt++[(⟨A3,n3,c3,z0c (Na.dig cc)⟩:Ob)]++[(⟨AT,nT,cT,z0c (Na.dig aq)⟩:Ob)])[(LB++Lp++Lt++[(⟨A3,n3,c3,z0c (Na.dig cc)⟩:Ob)]).length+0]?=some ⟨AT,nT,cT,z0c (Na.dig aq)⟩:=by rw [z0b];rfl
     have hib:(LB++Lp++Lt++[(⟨A3,n3,c3,z0c (Na.dig cc)⟩:Ob)]++[(⟨AT,nT,cT,z0c (Na.dig aq)⟩:Ob)])[ib]?=some ⟨AB,nB,cB,z0c (Na.dig bq)⟩:=z5n (z5n HP2.out.1)
     have hid:(LB++Lp++Lt++[(⟨A3,n3,c3,z0c (Na.dig cc)⟩:Ob)]++[(⟨AT,nT,cT,z0c (Na.dig aq)⟩:Ob)])[tD]?=some ⟨D,m+1,c,zs⟩:=z5n (z5n HP2.out.2.1)
     obtain ⟨ia,hia2⟩:∃ z,(LB++Lp++Lt++[(⟨A3,n3,c3,z0c (Na.dig cc)⟩:Ob)]).length+0=z:=⟨_,rfl⟩
     rw [hia2] at hia;clear hia2;obtain ⟨LC,hLC⟩:∃ z,LB++Lp++Lt++[(⟨A3,n3,c3,z0c (Na.dig cc)⟩:Ob)]++[(⟨AT,nT,cT,z0c (Na.dig aq)⟩:Ob)]=z:=⟨_,rfl⟩
     have hless:∀ o∈L,o∈LC:=by
      intro o ho;rw [← hLC];exact List.mem_append_left _ (List.mem_append_left _ (List.mem_append_left _ (List.mem_append_left _ (HSub.out o ho))))
     rw [hLC] at hia hib hid H;obtain ⟨adD,rfl,-,-⟩:=(H.sl hid).2.2.2.at_ (k:=0) (by rw [(H.sl hid).1];omega)
     have HLs:=zh hless;obtain ⟨W5,hW5⟩:∃ W,w4.alloc (.cells #[.slice AT nT cT] 25)=W:=⟨_,rfl⟩
     rw [hW5] at H;have HW5:=zh hW5;clear hW5;have HW:=zh H.drew;have HH:=zh H;have HI:=zh (And.intro hia (And.intro hib (And.intro hid HP2.out.2.2)))
     have HI2:Hid (aq<Na.top∧bq<Na.top∧bq≤aq):=hTop.out.2
     have hm41:(m:Int)<(m:Int)+1:=by omega
     have hm0:(0:Int)≤(m:Int):=by omega
     have hm42:m<m+1:=by omega
     obtain ⟨tb,htb⟩:∃ z,w4.heap.size=z:=⟨_,rfl⟩
     rw [htb] at HW HH;have HTB:=zh htb;clear G H hia hib hid hLC hless hTop HX1 HX2 HS HSub htb;go_upto_region 27 with (fail)
     rw [HTB.out,HW5.out];have S1:=z2ae HW.out ia ib HI.out.1 HI.out.2.1 HI2.out.1 HI2.out.2.1
     have HWB0:=(HH.out.boxed (.slice none 0 0) 25).drew
     rw [zqa,zqb,zqc] at HWB0;have HWB:=zh HWB0;clear HWB0;have S2:=z2ae HWB.out ia ib HI.out.1 HI.out.2.1 HI2.out.1 HI2.out.2.1
     rw [if_neg (Nat.not_lt.2 HI2.out.2.2),if_neg (Nat.not_lt.2 HI2.out.2.2)] at S1 S2
     have HS1:=zh S1;have HS2:=zh S2;clear S1 S2;have c0:=z5o HW.out HI.out.2.2.1 HI.out.2.2.2
     go_region_held3 (fun W=>W.cell? ⟨tb,0,none⟩=some (.slice AT nT cT)∧W.cell? (adD.add m)=some (.slice AB nB cB)) (first | exact c0 | exact z5o how2 (z5n HI.out.2.2.1) HI.out.2.2.2 | exact z5o howB (z5n HI.out.2.2.1) HI.out.2.2.2 | exact z5o how (z5n HI.out.2.2.1) HI.out.2.2.2 | exact z5o HWB.out HI.out.2.2.1 HI.out.2.2.2) ((first | (go_at_call 43;(with_reducible refine HS1.out.mono ?_);rintro e v2 ⟨B1,m1,d1,rfl,how⟩;have howB:=how.boxed (.slice none 0 0) 25;rw [zqa,zqb,zqc] at howB;have how2:=how.boxed (.slice B1 m1 d1) 25;rw [zqa,zqb,zqc] at how2) | (go_at_call 43;(with_reducible refine HS2.out.mono ?_);rintro e v2 ⟨B1,m1,d1,rfl,howB⟩;have z0:=howB.cell (M.length+1) (zk rfl);have zf:=howB.free (M.length+1) (zk rfl);have how2:=howB.setv (M.length+1) (zk rfl) (.slice B1 m1 d1);rw [z0n,zqe,zqd] at how2)))
     all_goals (
      have y0:=how2.cell (M.length+0) (zk rfl)
      have y1:=how2.cell (M.length+1) (zk rfl)
      have HC:=zh (z5ag how2 (LC.length+0) ia (zk rfl) (z5n HI.out.1) (zqu (Nat.sub_le _ _) HI2.out.1) HI2.out.1 HMk.out)
      clear how2 c0;go_wp2_with fail;refine HC.out.mono ?_;clear HC;rintro e w9 ⟨C1,k1,e1,C2,k2,e2,rfl,G⟩;clear y0 y1;have z0:=G.p0 (O.length+0) (zk rfl)
      have z1:=G.p1 (O.length+0) (zk rfl)
      have f0:=G.pf (O.length+0) (zk rfl) 0
      have f1:=G.pf (O.length+0) (zk rfl) 1
      have Z3:=G.set0 (O.length+0) (zk rfl) (.slice C1 k1 e1)
      rw [z0n] at Z3;simp only [zqd] at Z3;have Z4:=Z3.set1 (O.length+0) (zk rfl) (.slice C2 k2 e2)
      rw [z0n] at Z4;simp only [zqd] at Z4;have r0:=Z4.p0 (O.length+0) (zk rfl)
      have r1:=Z4.p1 (O.length+0) (zk rfl)
      have HF:=zh (Z4.fewM.fewO.less (L':=L++[⟨C1,k1,e1,z0c (Na.dig t.1)⟩]++[⟨C2,k2,e2,z0c (Na.dig t.2.1)⟩]) (fun o ho=>by
       simp only [List.mem_append] at ho ⊢
       rcases ho with (h | h) | h
       ·exact .inl (.inl (.inl (HLs.out o h)))
       ·exact .inl (.inr h)
       ·exact .inr h))
      clear G Z3 Z4;go_wp2_with fail;refine bodyPost_ret (v:=.tuple #[.agg #[.slice C1 k1 e1,.slice C2 k2 e2],.int .i64 t.2.2]) (by simp [results,Tryz.results21,go_sem,r0,r1]) rfl ?_
      exact ⟨C1,k1,e1,C2,k2,e2,rfl,HF.out⟩)
    ·obtain ⟨b1,rfl⟩:∃ z,b=z+1:=⟨b - 1,by omega⟩
     obtain rfl:z=(b1:Int):=by omega
     have hd5:decide ((0:Int)≤(b1:Int))=true:=zt (by omega)
     have hb12:b1≤12:=by omega
     have hwb:IntKind.i64.wrap ((b1:Int) - 1)=(b1:Int) - 1:=IntWalk.i64_in _ (by omega)
     have hr4:r≤4096:=by have:=HV.out.1;have:=Nat.div_le_self cc (2 ^ (b1+1));omega
     have HC:=zh (z1bl HO.out m hm AS D D cS c c tD tD zs zs (pwc (z2i kk) r) (pwc (z2i kk) r) (12*m) (by omega) ((HS.out).more) HV.out.2.1 HV.out.2.1 HV.out.2.2 HV.out.2.2 (fun z hz=>z3x hr4 hz) (fun z hz=>z3x hr4 hz))
     rw [z7t] at HC;clear HO;go_wp2_with fail;refine HC.out.mono ?_;clear HC;rintro e w2 ⟨D1,c1,ws,L1,rfl,G,HY⟩;have HO:=zh G;have HW:=zh HY;clear G HY;obtain ⟨qb,hqb⟩:∃ z,cc / 2 ^ b1=z:=⟨_,rfl⟩
     have hqi:(cc:Int) / 2 ^ b1=(qb:Int):=by rw [← hqb];norm_cast
     have hrq:r=qb / 2:=by rw [HV.out.1,← hqb,Nat.pow_succ,Nat.div_div_eq_div_mul]
     rcases Nat.mod_two_eq_zero_or_one qb with hq | hq
     ·have hbt:(bits BinOp.and IntKind.i64 ((cc:Int) / 2 ^ b1) 1 == 1)=false:=by rw [hqi,and1,beq_eq_false_iff_ne];omega
      have HR:Hid (r+r=cc / 2 ^ b1):=by unfold Hid;rw [hqb,hrq];omega
      clear hqi hrq hq hqb;go_wp2_with fail;go_roundw
      case rel=>exact ⟨b1,r+r,(b1:Int) - 1,D1,c1,(LB++Lp++Lt++L1).length+0,ws,Lt++(L1++[(⟨D1,m+1,c1,ws⟩:Ob)]),by omega,by omega,rfl,rfl,⟨HR.out,by rw [← zqa,← zqa,z0b];rfl,by rw [← zqa];exact HW.out⟩,by rw [← zqa];exact HO⟩
      case measure=>first | (simp [intOf];done) | (simp [intOf];omega)
     ·have hbt:(bits BinOp.and IntKind.i64 ((cc:Int) / 2 ^ b1) 1 == 1)=true:=by rw [hqi,and1,beq_iff_eq];omega
      have HR:Hid (r+r+1=cc / 2 ^ b1):=by unfold Hid;rw [hqb,hrq];omega
      have hr8:r+r≤4096:=by have:=HR.out;have:=Nat.div_le_self cc (2 ^ b1);omega
      have HC:=zh (z1bl HO.out m hm AS D1 A1 cS c1 _ ((LB++Lp++Lt++L1).length+0) i1 ws xs (pwc (z2i kk) (r+r)) (z2i kk) (12*m) (by omega) (USets.more (USets.more HS.out)) (by rw [← zqa,z0b];rfl) (z5n (z5n (z5n HX1.out.1))) HW.out (WaysU.more (WaysU.more (WaysU.more HX2.out.1))) (fun z hz=>z3x hr8 hz) (fun z hz=>zqq (z7w kk z) (Nat.one_le_two_pow)))
      rw [show conv (pwc (z2i kk) (r+r)) (z2i kk)=pwc (z2i kk) (r+r+1) from rfl] at HC
      clear hqi hrq hq hqb;go_wp2_with fail;refine HC.out.mono ?_;clear HC;rintro e w3 ⟨D2,c2x,ws2,L2,rfl,G,HY⟩;have HO2:=zh G;have HW2:=zh HY;clear G HY HO HW;go_wp2_with fail;have e9:LB++Lp++(Lt++(L1++[(⟨D1,m+1,c1,ws⟩:Ob)])++(L2++[(⟨D2,m+1,c2x,ws2⟩:Ob)]))=LB++Lp++Lt++(L1++[(⟨D1,m+1,c1,ws⟩:Ob)])++(L2++[(⟨D2,m+1,c2x,ws2⟩:Ob)]):=by simp only [zqa]
      go_roundw
      case rel=>exact ⟨b1,r+r+1,(b1:Int) - 1,D2,c2x,(LB++Lp++Lt++(L1++[(⟨D1,m+1,c1,ws⟩:Ob)])++L2).length+0,ws2,Lt++(L1++[(⟨D1,m+1,c1,ws⟩:Ob)])++(L2++[(⟨D2,m+1,c2x,ws2⟩:Ob)]),by omega,by omega,rfl,rfl,⟨HR.out,by rw [e9,← zqa,z0b];rfl,by rw [e9];exact HW2.out⟩,by rw [e9];exact HO2⟩
      case measure=>first | (simp [intOf];done) | (simp [intOf];omega)
  ·have hd:decide ((j:Int)<(m:Int)+1)=true:=zt (by omega)
   have hd2:decide (j<m+1)=true:=zt hlt
   have hj40:j≤40:=by omega
   rcases zqi j kk with hjk | hjk
   ·have g1:decide ((j:Int)<(kk:Int))=true:=zt (by omega)
    have g1b:decide (j<kk)=true:=zt hjk
    rcases zqh j with hj0 | hj0
    ·have g2:(((j:Int)) == 0)=true:=by rw [beq_iff_eq];omega
     have HE:Hid (z2i kk j=1∧dlt j=1):=by unfold z2i dlt;rw [if_pos hjk,if_pos hj0];exact ⟨rfl,rfl⟩
     clear hj0;have HA1:=zh (z5ab HO.out)
     have HOk:=HO;clear HO;go_wp2_with (first | (go_at_call 39;(with_reducible refine HA1.out.mono ?_);rintro e v2 ⟨B1,m1,d1,rfl,how⟩) | (at_builtin;refine z1r elmN how (O.length+1) (.tmp 57) (.tmp 60) _ _ (zk rfl) rfl (by unfold maxLen;omega) (by omega) rfl rfl rfl rfl ?_;intro A' c' w8 how2;rw [z0n,zqe,zqd] at how2;have HA2:=zh (z5ab how2)) | (go_at_call 39;(with_reducible refine HA2.out.mono ?_);rintro e v3 ⟨B2,m2,d2,rfl,how3⟩) | (at_builtin;refine z1r elmN how3 (O.length+2) (.tmp 62) (.tmp 65) _ _ (zk rfl) rfl (by unfold maxLen;omega) (by omega) rfl rfl rfl rfl ?_;intro A3 c3 w9 how4;rw [z0n,zqe,zqe,zqd,zqa L,zqa L] at how4))
     have HZ:=zh how4;have HW:Hid (WayTo (L++(Ls++[(⟨B1,m1,d1,z0c (Na.dig 1)⟩:Ob)]++[(⟨B2,m2,d2,z0c (Na.dig 1)⟩:Ob)])) (xs++[.slice B1 m1 d1]) (j+1) (z2i kk)∧WayTo (L++(Ls++[(⟨B1,m1,d1,z0c (Na.dig 1)⟩:Ob)]++[(⟨B2,m2,d2,z0c (Na.dig 1)⟩:Ob)])) (ys++[.slice B2 m2 d2]) (j+1) dlt):=by
      rw [← zqa,← zqa];exact ⟨WayTo.snoc HV.out.1.more.more HL9.out.1 (NumIn.more ⟨B1,m1,d1,(L++Ls).length+0,rfl,by rw [z0b,HE.out.1];rfl⟩),WayTo.snoc HV.out.2.more.more HL9.out.2 ⟨B2,m2,d2,(L++Ls++[_]).length+0,rfl,by rw [z0b,HE.out.2];rfl⟩⟩
     clear how how2 how3 how4 HA1 HA2 HOk HV;go_wp2_with fail;go_roundw
     case rel=>exact ⟨j+1,A',c',_,A3,c3,_,_,by omega,rfl,rfl,z0o (by omega),HW,by unfold Hid;rw [zqa O];exact HZ.out⟩
     case measure=>simp [intOf];omega
    ·have g2:(((j:Int)) == 0)=false:=by rw [beq_eq_false_iff_ne];omega
     have HE:Hid (z2i kk j=1∧dlt j=0):=by unfold z2i dlt;rw [if_pos hjk,if_neg (by omega)];exact ⟨rfl,rfl⟩
     have HA1:=zh (z5ab HO.out)
     have HOk:=HO;clear HO;go_wp2_with (first | (go_at_call 39;(with_reducible refine HA1.out.mono ?_);rintro e v2 ⟨B1,m1,d1,rfl,how⟩) | (at_builtin;refine z1r elmN how (O.length+1) (.tmp 57) (.tmp 60) _ _ (zk rfl) rfl (by unfold maxLen;omega) (by omega) rfl rfl rfl rfl ?_;intro A' c' w8 how2;rw [z0n,zqe,zqd] at how2;have HA2:=zh (z8ay how2)) | (go_at_call 39;(with_reducible refine HA2.out.mono ?_);rintro e v3 ⟨B2,m2,d2,rfl,how3⟩) | (at_builtin;refine z1r elmN how3 (O.length+2) (.tmp 62) (.tmp 65) _ _ (zk rfl) rfl (by unfold maxLen;omega) (by omega) rfl rfl rfl rfl ?_;intro A3 c3 w9 how4;rw [z0n,zqe,zqe,zqd,zqa L,zqa L] at how4))
     have HZ:=zh how4;have HW:Hid (WayTo (L++(Ls++[(⟨B1,m1,d1,z0c (Na.dig 1)⟩:Ob)]++[(⟨B2,m2,d2,z0c (Na.dig 0)⟩:Ob)])) (xs++[.slice B1 m1 d1]) (j+1) (z2i kk)∧WayTo (L++(Ls++[(⟨B1,m1,d1,z0c (Na.dig 1)⟩:Ob)]++[(⟨B2,m2,d2,z0c (Na.dig 0)⟩:Ob)])) (ys++[.slice B2 m2 d2]) (j+1) dlt):=by
      rw [← zqa,← zqa];exact ⟨WayTo.snoc HV.out.1.more.more HL9.out.1 (NumIn.more ⟨B1,m1,d1,(L++Ls).length+0,rfl,by rw [z0b,HE.out.1];rfl⟩),WayTo.snoc HV.out.2.more.more HL9.out.2 ⟨B2,m2,d2,(L++Ls++[_]).length+0,rfl,by rw [z0b,HE.out.2];rfl⟩⟩
     clear how how2 how3 how4 HA1 HA2 HOk HV;go_wp2_with fail;go_roundw
     case rel=>exact ⟨j+1,A',c',_,A3,c3,_,_,by omega,rfl,rfl,z0o (by omega),HW,by unfold Hid;rw [zqa O];exact HZ.out⟩
     case measure=>simp [intOf];omega
   ·have g1:decide ((j:Int)<(kk:Int))=false:=zn (by omega)
    have g1b:decide (j<kk)=false:=zn (by omega)
    have g2:(((j:Int)) == 0)=false:=by rw [beq_eq_false_iff_ne];have:=HB.out.2.2.1;omega
    have HE:Hid (z2i kk j=0∧dlt j=0):=by unfold z2i dlt;rw [if_neg (by omega),if_neg (by have:=HB.out.2.2.1;omega)];exact ⟨rfl,rfl⟩
    have HA1:=zh (z8ay HO.out)
    have HOk:=HO;clear HO;go_wp2_with (first | (go_at_call 39;(with_reducible refine HA1.out.mono ?_);rintro e v2 ⟨B1,m1,d1,rfl,how⟩) | (at_builtin;refine z1r elmN how (O.length+1) (.tmp 57) (.tmp 60) _ _ (zk rfl) rfl (by unfold maxLen;omega) (by omega) rfl rfl rfl rfl ?_;intro A' c' w8 how2;rw [z0n,zqe,zqd] at how2;have HA2:=zh (z8ay how2)) | (go_at_call 39;(with_reducible refine HA2.out.mono ?_);rintro e v3 ⟨B2,m2,d2,rfl,how3⟩) | (at_builtin;refine z1r elmN how3 (O.length+2) (.tmp 62) (.tmp 65) _ _ (zk rfl) rfl (by unfold maxLen;omega) (by omega) rfl rfl rfl rfl ?_;intro A3 c3 w9 how4;rw [z0n,zqe,zqe,zqd,zqa L,zqa L] at how4))
    have HZ:=zh how4;have HW:Hid (WayTo (L++(Ls++[(⟨B1,m1,d1,z0c (Na.dig 0)⟩:Ob)]++[(⟨B2,m2,d2,z0c (Na.dig 0)⟩:Ob)])) (xs++[.slice B1 m1 d1]) (j+1) (z2i kk)∧WayTo (L++(Ls++[(⟨B1,m1,d1,z0c (Na.dig 0)⟩:Ob)]++[(⟨B2,m2,d2,z0c (Na.dig 0)⟩:Ob)])) (ys++[.slice B2 m2 d2]) (j+1) dlt):=by
     rw [← zqa,← zqa];exact ⟨WayTo.snoc HV.out.1.more.more HL9.out.1 (NumIn.more ⟨B1,m1,d1,(L++Ls).length+0,rfl,by rw [z0b,HE.out.1];rfl⟩),WayTo.snoc HV.out.2.more.more HL9.out.2 ⟨B2,m2,d2,(L++Ls++[_]).length+0,rfl,by rw [z0b,HE.out.2];rfl⟩⟩
    clear how how2 how3 how4 HA1 HA2 HOk HV;go_wp2_with fail;go_roundw
    case rel=>exact ⟨j+1,A',c',_,A3,c3,_,_,by omega,rfl,rfl,z0o (by omega),HW,by unfold Hid;rw [zqa O];exact HZ.out⟩
    case measure=>simp [intOf];omega
end
def z6h (a b k:Int):Nat×Nat×Int:=if a<0∨40<a∨b<1∨4096<b then frE 2 else if k≤0 then (1,1,0) else if a<k then (0,1,0) else frM (b.toNat ^ a.toNat - pwc (z2i k.toNat) b.toNat a.toNat) (b.toNat ^ a.toNat)
section
variable {w0 w w':World}{g:Option Nat}{M M2:List (Nat×Value)}{L:List Ob}{O:List Rw}
theorem z0ab (h:Ow w0 w g M L O)(a b k:Int)(ht:Tab w0):Calls Tryz.prog 63 #[.int .i64 a,.int .i64 b,.int .i64 k] w (z8k w0 g M L O (z6h a b k)):=by
 unfold z6h;by_cases h1:a<0∨40<a∨b<1∨4096<b
 ·rw [if_pos h1];exact z7q h a b k h1
 ·rw [if_neg h1];by_cases h2:k≤0
  ·rw [if_pos h2];exact z0ac h a b k ht (by omega) (by omega) h2
  ·rw [if_neg h2];by_cases h3:a<k
   ·rw [if_pos h3];exact z8o h a b k ht (by omega) (by omega) (by omega)
   ·rw [if_neg h3];obtain ⟨x,rfl⟩:=Int.eq_ofNat_of_zero_le (a:=a) (by omega)
    obtain ⟨y,rfl⟩:=Int.eq_ofNat_of_zero_le (a:=b) (by omega)
    obtain ⟨z,rfl⟩:=Int.eq_ofNat_of_zero_le (a:=k) (by omega)
    exact z0aa h x y z ht (by omega) (by omega) (by omega)
end
end Go.Proofs.YtpmofjomadibmaaGreatDoor
