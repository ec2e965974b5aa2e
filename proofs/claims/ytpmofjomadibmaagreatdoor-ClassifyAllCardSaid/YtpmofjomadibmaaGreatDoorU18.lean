/- Tm Tx Tp Xq Xr Xs -/
import Derived.Test.YtpmofjomadibmaaGreatDoorU17
namespace Go.Proofs.YtpmofjomadibmaaGreatDoor
set_option maxHeartbeats 16000000
open Go.RowKit Go.Sort
set_option linter.unusedVariables false
set_option maxRecDepth 100000
def Ones (L:List Ob)(xs:List Value)(i:Nat):Prop:=xs.length=41/\(∀ z,z<i->∃ u,xs[z]?=some u/\NumIn L u 1)/\∀ z,i<=z->z<41->xs[z]?=some (.slice none 0 0)
theorem Ones.more {L l:List Ob}{xs:List Value}{i:Nat}(h:Ones L xs i):Ones (L++l) xs i:=⟨h.1,fun z hz=>by
 obtain ⟨u,a,b⟩:=h.2.1 z hz
 exact ⟨u,a,b.more⟩,h.2.2⟩
theorem Ones.set {L:List Ob}{xs:List Value}{i:Nat}{v:Value}(h:Ones L xs i)(hi:i<41)(hv:NumIn L v 1):Ones L (xs.set i v) (i+1):=by
 refine ⟨by rw [List.length_set];exact h.1,fun z hz=>?_,fun z h1 h2=>by rw [zqf (by omega)];exact h.2.2 z (by omega) h2⟩
 rcases zqi z i with h1|h1
 ·obtain ⟨u,a,b⟩:=h.2.1 z h1
  exact ⟨u,by rw [zqf (by omega)];exact a,b⟩
 ·obtain rfl:z=i:=by omega
  exact ⟨v,List.getElem?_set_self (by rw [h.1];exact hi),hv⟩
theorem Ones.one {L:List Ob}{xs:List Value}{i:Nat}(h:Ones L xs i):xs.toArray.all (·.oneCell')=true:=by
 rw [Array.all_eq_true_iff_forall_mem];intro v hv;obtain ⟨z,hz,rfl⟩:=List.getElem_of_mem (by simpa using hv)
 rcases zqi z i with h1|h1
 ·obtain ⟨u,a,A,n,c,t,e,_⟩:=h.2.1 z h1
  rw [zql hz] at a;rw [zqk a,e];rfl
 ·have a:=h.2.2 z h1 (by rw [<- h.1];exact hz)
  rw [zql hz] at a;rw [zqk a];rfl
theorem Ones.ways {L:List Ob}{xs:List Value}{i n:Nat}(h:Ones L xs i)(hn:n<=40)(hz:NumIn L (.slice none 0 0) 0):Ways L xs n (z2l i):=⟨h.1,fun z hz2=>by
 unfold z2l;rcases zqi z i with h1|h1
 ·rw [if_pos h1];exact h.2.1 z h1
 ·rw [if_neg (by omega)]
  exact ⟨_,h.2.2 z h1 (by omega),hz⟩⟩
theorem TSets.more {L l:List Ob}{A:Option Addr}{m:Nat}(h:TSets L A m):TSets (L++l) A m:=by
 obtain ⟨ad,t,vs,h1,h2,h3⟩:=h;exact ⟨ad,t,vs,h1,by rw [zqn (z0d h2)];exact h2,h3.more⟩
def RC1 (w0:World)(g:Option Nat)(M:List (Nat×Value))(L:List Ob)(O:List Rw)(rb nb sb m kk:Nat)(A:Option Addr)(xn:List Value)(v:Value)(wr:World):Prop:=
 ∃ (i:Nat) (xs:List Value) (Ls:List Ob),i<=kk/\v=.int .i64 i/\Hid (Ones (L++Ls) xs i/\Ones (L++Ls) xn 1/\TSets (L++Ls) A m/\NumIn (L++Ls) (.slice none 0 0) 0)/\Hid (Ow w0 wr g M (L++Ls) (O++[Rw.pair rb 27 (.slice none 0 0) (.slice none 0 0),⟨some ⟨nb,0,none⟩,41,41,122,xn⟩,⟨some ⟨sb,0,none⟩,41,41,122,xs⟩]))
def RC2 (w0:World)(g:Option Nat)(M:List (Nat×Value))(L:List Ob)(O:List Rw)(rb nb sb m cc kk:Nat)(A:Option Addr)(v:Value)(wr:World):Prop:=
 ∃ (r p s:Nat) (xn xo:List Value) (Ls:List Ob),v=.int .i64 r/\Hid (r<=4096/\cc=p+s*r/\Ways (L++Ls) xn m (pwc (z2l kk) p)/\Ways (L++Ls) xo m (pwc (z2l kk) s)/\TSets (L++Ls) A m/\xn.toArray.all (·.oneCell')=true/\xo.toArray.all (·.oneCell')=true)/\Hid (Ow w0 wr g M (L++Ls) (O++[Rw.pair rb 27 (.slice none 0 0) (.slice none 0 0),⟨some ⟨nb,0,none⟩,41,41,122,xn⟩,⟨some ⟨sb,0,none⟩,41,41,122,xo⟩]))
section
variable {w0 w w':World}{g:Option Nat}{M M2:List (Nat×Value)}{L:List Ob}{O:List Rw}{A A2 A3 A4:Option Addr}{b n c m c2 n3 c3 n4 c4 x y:Nat}{p q r s:List Int}
structure CsK (w0:World)(g:Option Nat)(M:List (Nat×Value))(L:List Ob)(O:List Rw)(nb tb:Nat)(AT:Option Addr)(nT cT:Nat)(AB:Option Addr)(nB cB m a b:Nat)(Ld:Nat->Bool)(u0 u1 u2 u3 u4 u5 u6 u7 u8 u10:Value)(A:Option Addr)(n c:Nat)(ms:List (Nat×Value))(Ls:List Ob)(W:World):Prop where
 ow:Ow w0 W g (M++(tb,.slice AT nT cT) :: ms) (L++Ls) O
 h0:Ld 0=true->u0=.agg #[.slice AT nT cT]
 h1:Ld 1=true->u1=.int .i64 m
 h2:Ld 2=true->u2=.pointer (some ⟨nb,m,none⟩)
 h3:Ld 3=true->u3=.agg #[.slice AB nB cB]
 h4:Ld 4=true->u4=.tuple #[.agg #[.slice A n c],.int .i64 0]/\∃ t:Nat,Ls[t]?=some ⟨A,n,c,z0c (Na.dig (a - b))⟩
 h5:Ld 5=true->u5=.tuple #[.agg #[.slice A n c],.int .i64 0]
 h6:Ld 6=true->u6=.agg #[.slice A n c]
 h7:Ld 7=true->u7=.int .i64 0
 h8:Ld 8=true->∃ (t b2:Nat) (v:Value),u8=.pointer (some ⟨b2,0,none⟩)/\ms[t]?=some (b2,v)/\(Ld 9=true->v=.slice A n c)
def CsI (w0:World)(g:Option Nat)(M:List (Nat×Value))(L:List Ob)(O:List Rw)(nb tb:Nat)(AT:Option Addr)(nT cT:Nat)(AB:Option Addr)(nB cB m a b:Nat)(A0:Act)(Ld:Nat->Bool)(ac:Act)(W:World):Prop:=
 ∃ (u0 u1 u2 u3 u4 u5 u6 u7 u8 u10:Value) (A:Option Addr) (n c:Nat) (ms:List (Nat×Value)) (Ls:List Ob),ac=((((((((((A0.put (some 80) u0).put (some 81) u1).put (some 82) u2).put (some 83) u3).put (some 84) u4).put (some 79) u5).put (some 85) u6).put (some 86) u7).put (some 14) u8).put (some 15) u10)/\CsK w0 g M L O nb tb AT nT cT AB nB cB m a b Ld u0 u1 u2 u3 u4 u5 u6 u7 u8 u10 A n c ms Ls W
section
variable {w0 W W':World}{g:Option Nat}{M:List (Nat×Value)}{L:List Ob}{O:List Rw}{nb tb:Nat}{AT:Option Addr}{nT cT:Nat}{AB:Option Addr}{nB cB m a b:Nat}{Ld:Nat->Bool}{u0 u1 u2 u3 u4 u5 u6 u7 u8 u10:Value}{A:Option Addr}{n c:Nat}{ms:List (Nat×Value)}{Ls:List Ob}
theorem CsK.called (h:CsK w0 g M L O nb tb AT nT cT AB nB cB m a b Ld u0 u1 u2 u3 u4 u5 u6 u7 u8 u10 A n c ms Ls W)(f5:Ld 5=false)(f6:Ld 6=false)(f9:Ld 9=false){D:Option Addr}{i j:Nat}(ho:Ow w0 W' g (M++(tb,.slice AT nT cT) :: ms) (L++Ls++[⟨D,i,j,z0c (Na.dig (a - b))⟩]) O):
  CsK w0 g M L O nb tb AT nT cT AB nB cB m a b (z3i Ld 4) u0 u1 u2 u3 (.tuple #[.agg #[.slice D i j],.int .i64 0]) u5 u6 u7 u8 u10 D i j ms (Ls++[⟨D,i,j,z0c (Na.dig (a - b))⟩]) W':=
 ⟨by rw [zqa] at ho;exact ho,h.h0,h.h1,h.h2,h.h3,fun _=>⟨rfl,Ls.length,by simp⟩,fun e=>absurd ((show Ld 5=true from e).symm.trans f5) (by decide),fun e=>absurd ((show Ld 6=true from e).symm.trans f6) (by decide),h.h7,fun e=>by
  obtain ⟨t,b2,v,k1,k2,k3⟩:=h.h8 e
  exact ⟨t,b2,v,k1,k2,fun e2=>absurd ((show Ld 9=true from e2).symm.trans f9) (by decide)⟩⟩
theorem CsK.alloced (h:CsK w0 g M L O nb tb AT nT cT AB nB cB m a b Ld u0 u1 u2 u3 u4 u5 u6 u7 u8 u10 A n c ms Ls W)(f9:Ld 9=false):
  CsK w0 g M L O nb tb AT nT cT AB nB cB m a b (z3i Ld 8) u0 u1 u2 u3 u4 u5 u6 u7 (.pointer (some ⟨W.heap.size,0,none⟩)) u10 A n c (ms++[(W.heap.size,.slice none 0 0)]) Ls (W.alloc (.cells #[.slice none 0 0] 25)):=
 ⟨by have:=h.ow.boxed (.slice none 0 0) 25;rwa [zqa,zqb] at this,h.h0,h.h1,h.h2,h.h3,h.h4,h.h5,h.h6,h.h7,fun _=>⟨ms.length,W.heap.size,.slice none 0 0,rfl,by simp,fun e2=>absurd ((show Ld 9=true from e2).symm.trans f9) (by decide)⟩⟩
theorem CsK.stored (h:CsK w0 g M L O nb tb AT nT cT AB nB cB m a b Ld u0 u1 u2 u3 u4 u5 u6 u7 u8 u10 A n c ms Ls W)(h8:Ld 8=true)(h6:Ld 6=true):
  ∃ b2 v ms',u8=.pointer (some ⟨b2,0,none⟩)/\u6=.agg #[.slice A n c]/\W.cell? ⟨b2,0,none⟩=some v/\W.frozen? ⟨b2,0,none⟩=false/\CsK w0 g M L O nb tb AT nT cT AB nB cB m a b (z3i Ld 9) u0 u1 u2 u3 u4 u5 u6 u7 u8 u10 A n c ms' Ls (W.setCell ⟨b2,0,none⟩ (.slice A n c)):=by
 obtain ⟨t,b2,v,a1,a2,a3⟩:=h.h8 h8
 have hi:(M++(tb,.slice AT nT cT) :: ms)[M.length+(t+1)]?=some (b2,v):=by rw [z0b];exact a2
 have o1:=h.ow.setv _ hi (.slice A n c)
 rw [z0o,zqe] at o1;exact ⟨b2,v,_,a1,h.h6 h6,h.ow.cell _ hi,h.ow.free _ hi,o1,h.h0,h.h1,h.h2,h.h3,h.h4,h.h5,h.h6,h.h7,fun _=>⟨t,b2,_,a1,List.getElem?_set_self (z0d a2),fun _=>rfl⟩⟩
end
def FrE (w:World)(en:Ending):Prop:=∀ (A1:Option Addr) (n1 c1:Nat) (A2:Option Addr) (n2 c2:Nat) (x:Value),en=.returned (.tuple #[.agg #[.slice A1 n1 c1,.slice A2 n2 c2],x])->(∀ ad,A1=some ad->0<n1->w.heap.size<=ad.block)/\(∀ ad,A2=some ad->0<n2->w.heap.size<=ad.block)
theorem z3av {w0:World}{A1:Option Addr}{n1 c1:Nat}{A2:Option Addr}{n2 c2:Nat}{x:Value}(h:(∀ ad,A1=some ad->0<n1->w0.heap.size<=ad.block)/\(∀ ad,A2=some ad->0<n2->w0.heap.size<=ad.block)):FrE w0 (.returned (.tuple #[.agg #[.slice A1 n1 c1,.slice A2 n2 c2],x])):=by
 intro B1 m1 d1 B2 m2 d2 y e;injection e with e
 injection e with e
 simp only [Array.mk.injEq,List.cons.injEq,Value.agg.injEq,Value.slice.injEq] at e;obtain ⟨⟨⟨rfl,rfl,_⟩,⟨rfl,rfl,_⟩,_⟩,_⟩:=e
 exact h
theorem z7aj {x y:Nat}{t:Nat×Nat×Int}(h:Ow w0 w g M L O)(i j:Nat)(hi:L[i]?=some ⟨A,n,c,z0c (Na.dig x)⟩)(hj:L[j]?=some ⟨A2,m,c2,z0c (Na.dig y)⟩)(ht:Tab w0)(hx:x<Na.top)(hy:y<Na.top)(e:frM x y=t):
  Calls Tryz.prog 95 #[.agg #[.slice A n c],.agg #[.slice A2 m c2]] w fun en w'=>GotF w0 g M L O t en w'/\FrE w en:=by
 have k1:=h.sl hi
 have k2:=h.sl hj
 have:=z9v A A2 n c m c2 (Na.up (Na.dig x)) (Na.up (Na.dig y)) w (by rw [Na.up_length];have:=k1.1;unfold z0c at this;rwa [List.length_map] at this) (by rw [Na.up_length];have:=k2.1;unfold z0c at this;rwa [List.length_map] at this) k1.2.1 k2.2.1 (by rw [z0g];exact k1.2.2.2) (by rw [z0g];exact k2.2.2.2) k1.2.2.1 k2.2.2.1 (ht.below h.below)
 unfold z6l at this;rw [Na.vld_dig hx,Na.vld_dig hy,z0l,z0l,e] at this;refine this.mono fun en w' hr=>⟨z2bu h (by rw [<- e];exact (z5o hx hy).1) (by rw [<- e];exact (z5o hx hy).2) hr,?_⟩
 obtain ⟨A1,n1,d1,B2,n2,d2,rfl,_,_,o1,o2,_⟩:=hr;refine z3av ⟨fun ad ea h0=>?_,fun ad ea h0=>?_⟩
 ·obtain ⟨gb,hgb,h1,_⟩:=z0n o1 h0
  rw [ea] at hgb;obtain rfl:=zqk hgb
  exact h1
 ·obtain ⟨gb,hgb,h1,_⟩:=z0n o2 h0
  rw [ea] at hgb;obtain rfl:=zqk hgb
  exact h1
theorem z9h (h:Ow w0 w g M L O)(m cc kk:Nat)(ht:Tab w0)(hm:m<=40)(hc:1<=cc/\cc<=4096)(hk:1<=kk/\kk<=m):Calls Tryz.prog 63 #[.int .i64 m,.int .i64 cc,.int .i64 kk] w fun en w'=>GotF w0 g M L O (frM (cc ^ m - pwc (z2l kk) cc m) (cc ^ m)) en w'/\FrE w0 en:=by
 have H:=h.pair (.slice none 0 0) (.slice none 0 0) 27
 have t0:decide ((m:Int)<0)=false:=zn (by omega)
 have t1:decide (40<(m:Int))=false:=zn (by omega)
 have t1b:decide (40<m)=false:=zn (by omega)
 have t2:decide ((cc:Int)<1)=false:=zn (by omega)
 have t2b:decide (cc<1)=false:=zn (by omega)
 have t3:decide (4096<(cc:Int))=false:=zn (by omega)
 have t3b:decide (4096<cc)=false:=zn (by omega)
 have t4:decide ((kk:Int)<=0)=false:=zn (by omega)
 have t4b:decide (kk<=0)=false:=zn (by omega)
 have t5:decide ((m:Int)<kk)=false:=zn (by omega)
 have t5b:decide (m<kk)=false:=zn (by omega)
 have HT:=zh ht;have HM:Hid (m<=40/\1<=cc/\cc<=4096/\1<=kk/\kk<=m):=⟨hm,hc.1,hc.2,hk.1,hk.2⟩
 obtain ⟨t,hmk⟩:∃ t,frM (cc ^ m - pwc (z2l kk) cc m) (cc ^ m)=t:=⟨_,rfl⟩
 rw [hmk];have HMk:=zh hmk;have HC:=zh (z0bw H m hm)
 obtain ⟨rb,hrb⟩:∃ b,w.heap.size=b:=⟨_,rfl⟩
 clear h H hmk ht;go_enter Tryz.func63,Tryz.ntmps63
 go_wp2_with fail;refine HC.out.mono ?_;rintro e w1 ⟨A,Ls,rfl,G,HS⟩;clear HC;have H:=(G.arr #[.slice none 0 0,.slice none 0 0,.slice none 0 0,.slice none 0 0,.slice none 0 0,.slice none 0 0,.slice none 0 0,.slice none 0 0,.slice none 0 0,.slice none 0 0,.slice none 0 0,.slice none 0 0,.slice none 0 0,.slice none 0 0,.slice none 0 0,.slice none 0 0,.slice none 0 0,.slice none 0 0,.slice none 0 0,.slice none 0 0,.slice none 0 0,.slice none 0 0,.slice none 0 0,.slice none 0 0,.slice none 0 0,.slice none 0 0,.slice none 0 0,.slice none 0 0,.slice none 0 0,.slice none 0 0,.slice none 0 0,.slice none 0 0,.slice none 0 0,.slice none 0 0,.slice none 0 0,.slice none 0 0,.slice none 0 0,.slice none 0 0,.slice none 0 0,.slice none 0 0,.slice none 0 0] 41 rfl (by omega) 122).arr #[.slice none 0 0,.slice none 0 0,.slice none 0 0,.slice none 0 0,.slice none 0 0,.slice none 0 0,.slice none 0 0,.slice none 0 0,.slice none 0 0,.slice none 0 0,.slice none 0 0,.slice none 0 0,.slice none 0 0,.slice none 0 0,.slice none 0 0,.slice none 0 0,.slice none 0 0,.slice none 0 0,.slice none 0 0,.slice none 0 0,.slice none 0 0,.slice none 0 0,.slice none 0 0,.slice none 0 0,.slice none 0 0,.slice none 0 0,.slice none 0 0,.slice none 0 0,.slice none 0 0,.slice none 0 0,.slice none 0 0,.slice none 0 0,.slice none 0 0,.slice none 0 0,.slice none 0 0,.slice none 0 0,.slice none 0 0,.slice none 0 0,.slice none 0 0,.slice none 0 0,.slice none 0 0] 41 rfl (by omega) 122
 simp only [World.size_alloc,zqa,zqb,zqc] at H;rw [hrb] at H;obtain ⟨lr,hlr⟩:∃ l:List Value,([.slice none 0 0,.slice none 0 0,.slice none 0 0,.slice none 0 0,.slice none 0 0,.slice none 0 0,.slice none 0 0,.slice none 0 0,.slice none 0 0,.slice none 0 0,.slice none 0 0,.slice none 0 0,.slice none 0 0,.slice none 0 0,.slice none 0 0,.slice none 0 0,.slice none 0 0,.slice none 0 0,.slice none 0 0,.slice none 0 0,.slice none 0 0,.slice none 0 0,.slice none 0 0,.slice none 0 0,.slice none 0 0,.slice none 0 0,.slice none 0 0,.slice none 0 0,.slice none 0 0,.slice none 0 0,.slice none 0 0,.slice none 0 0,.slice none 0 0,.slice none 0 0,.slice none 0 0,.slice none 0 0,.slice none 0 0,.slice none 0 0,.slice none 0 0,.slice none 0 0,.slice none 0 0]:List Value)=l:=⟨_,rfl⟩
 have HL9:Hid (lr.length=41/\∀ z,z<41->lr[z]?=some (.slice none 0 0)):=by
  refine ⟨by rw [<- hlr];rfl,fun z hz=>?_⟩
  rw [<- hlr,show ([.slice none 0 0,.slice none 0 0,.slice none 0 0,.slice none 0 0,.slice none 0 0,.slice none 0 0,.slice none 0 0,.slice none 0 0,.slice none 0 0,.slice none 0 0,.slice none 0 0,.slice none 0 0,.slice none 0 0,.slice none 0 0,.slice none 0 0,.slice none 0 0,.slice none 0 0,.slice none 0 0,.slice none 0 0,.slice none 0 0,.slice none 0 0,.slice none 0 0,.slice none 0 0,.slice none 0 0,.slice none 0 0,.slice none 0 0,.slice none 0 0,.slice none 0 0,.slice none 0 0,.slice none 0 0,.slice none 0 0,.slice none 0 0,.slice none 0 0,.slice none 0 0,.slice none 0 0,.slice none 0 0,.slice none 0 0,.slice none 0 0,.slice none 0 0,.slice none 0 0,.slice none 0 0]:List Value)=List.replicate 41 (.slice none 0 0) from rfl,List.getElem?_replicate,if_pos hz]
 have hlr2:(#[.slice none 0 0,.slice none 0 0,.slice none 0 0,.slice none 0 0,.slice none 0 0,.slice none 0 0,.slice none 0 0,.slice none 0 0,.slice none 0 0,.slice none 0 0,.slice none 0 0,.slice none 0 0,.slice none 0 0,.slice none 0 0,.slice none 0 0,.slice none 0 0,.slice none 0 0,.slice none 0 0,.slice none 0 0,.slice none 0 0,.slice none 0 0,.slice none 0 0,.slice none 0 0,.slice none 0 0,.slice none 0 0,.slice none 0 0,.slice none 0 0,.slice none 0 0,.slice none 0 0,.slice none 0 0,.slice none 0 0,.slice none 0 0,.slice none 0 0,.slice none 0 0,.slice none 0 0,.slice none 0 0,.slice none 0 0,.slice none 0 0,.slice none 0 0,.slice none 0 0,.slice none 0 0]:Array Value)=lr.toArray:=by rw [<- hlr]
 have HSs:=zh HS;have HC:=zh (z5ba H)
 clear G H HS;have Hlr:=zh hlr;have Hlr2:=zh hlr2;clear hlr hlr2;go_wp2_with fail;refine HC.out.mono ?_;rintro e w2 ⟨B1,m1,d1,rfl,G⟩;rw [Hlr.out] at G;have c0:=z2a G (i:=O.length+1) (zk rfl) (HL9.out.2 0 (by omega)) (by omega)
 have f0:=(G.own (O.length+1) _ (zk rfl)).frozenAt 0
 have Z:=G.put (O.length+1) (zk rfl) 0 (.slice B1 m1 d1)
 rw [z0o,zqe,zqd] at Z;have Z2:=Z.old (A:=none) (n:=0) (c:=0) (vs:=z0c (Na.dig 0)) (by rw [Na.dig_zero];exact Sl.nil _ _ _) (by rw [Na.dig_zero];rfl) (zqj _) (by decide)
 rw [zqa (L++Ls),zqa L] at Z2
 have HZ2:=zh Z2;clear G Z Z2 HC Hlr Hlr2;go_wp2_with fail;clear c0 f0;go_loopw [11] (fun v wr=>RC1 w0 g M L O rb w1.heap.size (w1.heap.size+1) m kk A (lr.set 0 (.slice B1 m1 d1)) v wr) (fun v _=>kk+1 - (intOf v).toNat)
 case atStart=>
  refine ⟨0,lr,_,zqr _,rfl,⟨⟨HL9.out.1,fun z hz=>absurd hz (by omega),fun z _ hz=>HL9.out.2 z hz⟩,?_,?_,?_⟩,HZ2⟩
  ·refine Ones.set (i:=0) ⟨HL9.out.1,fun z hz=>absurd hz (by omega),fun z _ hz=>HL9.out.2 z hz⟩ (by omega) ⟨B1,m1,d1,(L++Ls).length+0,rfl,by rw [<- zqa,z0b];rfl⟩
  ·rw [<- zqa];exact TSets.more HSs.out
  ·exact ⟨none,0,0,(L++Ls).length+1,rfl,by rw [<- zqa,z0b];rfl⟩
 case round=>
  clear HZ2;obtain ⟨i,xs,Lt,hi,rfl,HV,HO⟩:=hrel;rcases Nat.eq_or_lt_of_le hi with he|hlt
  ·subst he
   have hd:decide ((i:Int)<i)=false:=zn (by omega)
   have hd2:decide (i<i)=false:=zn (by omega)
   go_wp2_with fail;go_loopw [12] (fun v wr=>RC2 w0 g M L O rb w1.heap.size (w1.heap.size+1) m cc i A v wr) (fun v _=>(intOf v).toNat)
   case atStart=>
    have e1:pwc (z2l i) 0=z2l 1:=by funext z;show dlt z=z2l 1 z;unfold dlt z2l;by_cases h:z=0 <;> simp [h]
    refine ⟨cc,0,1,_,xs,Lt,rfl,⟨HM.out.2.2.1,by omega,by rw [e1];exact HV.out.2.1.ways HM.out.1 HV.out.2.2.2,by rw [z6bc];exact HV.out.1.ways HM.out.1 HV.out.2.2.2,HV.out.2.2.1,HV.out.2.1.one,HV.out.1.one⟩,HO⟩
   case round=>
    clear HO HV;obtain ⟨r,p,s,xn,xo,Lt,rfl,HV,HO⟩:=hrel;have hr9:=HV.out.1;rcases zqh r with h0|h0
    ·subst h0
     have hd3:decide ((0:Int)<((0:Nat):Int))=false:=zn (by omega)
     obtain ⟨vb,hvb,AB,nB,cB,ib,rfl,hib⟩:=HV.out.2.2.1.2 m (zqj _)
     have hpc:p=cc:=by have:=HV.out.2.1;rw [Nat.mul_zero] at this;omega
     rw [hpc] at hib;have hB1:pwc (z2l i) cc m<=cc ^ m:=z7ak (z8p i) cc m
     have hc12:cc<=2 ^ 12:=HM.out.2.2.1
     have hTop:Hid (cc<Na.top/\cc ^ m<Na.top/\pwc (z2l i) cc m<Na.top/\pwc (z2l i) cc m<=cc ^ m):=by
      have h1:cc ^ m<Na.top:=z3y (z1al hc12 m) (by have:=HM.out.1;omega)
      exact ⟨z3y hc12 (by omega),h1,zqu hB1 h1,hB1⟩
     obtain ⟨bq,hbq⟩:∃ z,pwc (z2l i) cc m=z:=⟨_,rfl⟩
     rw [hbq] at hib hTop;rw [hbq] at HMk;obtain ⟨aq,haq⟩:∃ z,cc ^ m=z:=⟨_,rfl⟩
     have HC:=zh (t_of HO.out cc (by have:=HM.out.2.2.1;omega))
     have HP1:=zh hvb;have HP2:=zh hib;clear HO HV hpc hB1 hc12 hvb hib hbq;go_wp2_with fail;refine HC.out.mono ?_;clear HC;rintro e w3 ⟨A3,n3,c3,rfl,G⟩;have HC:=zh (z4bz G ((L++Lt).length+0) (zk rfl) hTop.out.1 m (by have:=HM.out.1;omega) hTop.out.2.1)
     clear G;go_wp2_with fail;refine HC.out.mono ?_;clear HC;rintro e w4 ⟨AT,nT,cT,rfl,G⟩;rw [haq] at G hTop HMk;clear haq;have H:=G.boxed (.slice AT nT cT) 25
     have hia:(L++Lt++[(⟨A3,n3,c3,z0c (Na.dig cc)⟩:Ob)]++[(⟨AT,nT,cT,z0c (Na.dig aq)⟩:Ob)])[(L++Lt++[(⟨A3,n3,c3,z0c (Na.dig cc)⟩:Ob)]).length+0]?=some ⟨AT,nT,cT,z0c (Na.dig aq)⟩:=by rw [z0b];rfl
     have hib:(L++Lt++[(⟨A3,n3,c3,z0c (Na.dig cc)⟩:Ob)]++[(⟨AT,nT,cT,z0c (Na.dig aq)⟩:Ob)])[ib]?=some ⟨AB,nB,cB,z0c (Na.dig bq)⟩:=by rw [zqa (L++Lt)];exact (z0r _ _ (z0d HP2.out)).trans HP2.out
     obtain ⟨ia,hia2⟩:∃ z,(L++Lt++[(⟨A3,n3,c3,z0c (Na.dig cc)⟩:Ob)]).length+0=z:=⟨_,rfl⟩
     rw [hia2] at hia;clear hia2;obtain ⟨LB,hLB⟩:∃ z,L++Lt++[(⟨A3,n3,c3,z0c (Na.dig cc)⟩:Ob)]++[(⟨AT,nT,cT,z0c (Na.dig aq)⟩:Ob)]=z:=⟨_,rfl⟩
     have hless:∀ (Lz:List Ob),∀ o∈L++Lz,o∈LB++Lz:=by
      intro Lz o ho;rw [<- hLB];rcases List.mem_append.1 ho with h|h
      ·exact List.mem_append_left _ (by simp [h])
      ·exact List.mem_append_right _ h
     rw [hLB] at hia hib H;have HLs:=zh hless;have HW:=zh H;have HI:=zh (And.intro hia hib)
     have HI2:Hid (aq<Na.top/\bq<Na.top/\bq<=aq):=hTop.out.2
     have hm40:m<=40:=HM.out.1
     have hm41:(m:Int)<41:=by omega
     have hm0:(0:Int)<=(m:Int):=by omega
     have hm42:m<41:=by omega
     clear G H hia hib hLB hless hTop;go_upto_region 21 with (fail)
     refine z1k (CsI w0 g M LB (O++[Rw.pair rb 27 (.slice none 0 0) (.slice none 0 0),⟨some ⟨w1.heap.size,0,none⟩,41,41,122,xn⟩,⟨some ⟨(w1.heap.size+1),0,none⟩,41,41,122,xo⟩]) w1.heap.size w4.heap.size AT nT cT AB nB cB m aq bq) (by kernel_rfl) (by kernel_rfl) ?_ ?_ ?_
     ·refine ⟨undef,undef,undef,undef,undef,undef,undef,undef,undef,undef,none,0,0,[],[],?_,⟨by rw [List.append_nil];exact HW.out.drew,?_,?_,?_,?_,?_,?_,?_,?_,?_⟩⟩
      ·simp only [Act.put,zT,zZ,zS]
      all_goals (intro h;cases h)
     ·rintro jj Ld b W hj hf hcl hd ⟨u0,u1,u2,u3,u4,u5,u6,u7,u8,u10,A,n,c,ms,Ls,rfl,hC⟩;have hj':jj<11:=hj
      have hcase:jj=0∨jj=1∨jj=2∨jj=3∨jj=4∨jj=5∨jj=6∨jj=7∨jj=8∨jj=9∨jj=10:=by omega
      have q0:=hC.ow.cell (M.length+0) (zk rfl)
      have q1:=z2a hC.ow (i:=O.length+1) (zk rfl) HP1.out (by omega)
      clear hj hj';simp only [Act.put,zT,zZ,zS];rcases hcase with rfl|rfl|rfl|rfl|rfl|rfl|rfl|rfl|rfl|rfl|rfl
      ·clear hd hcl;refine zw rfl fun K hK=>?_
       go_simp;refine hK _ _ ⟨_,u1,u2,u3,u4,u5,u6,u7,u8,u10,A,n,c,ms,Ls,?_,⟨hC.ow,fun _=>rfl,hC.h1,hC.h2,hC.h3,hC.h4,hC.h5,hC.h6,hC.h7,hC.h8⟩⟩;simp only [Act.put,zT,zZ,zS]
      ·clear hd hcl;refine zw rfl fun K hK=>?_
       go_simp;refine hK _ _ ⟨u0,_,u2,u3,u4,u5,u6,u7,u8,u10,A,n,c,ms,Ls,?_,⟨hC.ow,hC.h0,fun _=>rfl,hC.h2,hC.h3,hC.h4,hC.h5,hC.h6,hC.h7,hC.h8⟩⟩;simp only [Act.put,zT,zZ,zS]
      ·obtain rfl:=hC.h1 (hd 1 (by kernel_rfl));clear hd hcl;refine zw rfl fun K hK=>?_
       go_simp;refine hK _ _ ⟨u0,_,_,u3,u4,u5,u6,u7,u8,u10,A,n,c,ms,Ls,?_,⟨hC.ow,hC.h0,hC.h1,fun _=>rfl,hC.h3,hC.h4,hC.h5,hC.h6,hC.h7,hC.h8⟩⟩;simp only [Act.put,zT,zZ,zS]
      ·obtain rfl:=hC.h2 (hd 2 (by kernel_rfl));clear hd hcl;refine zw rfl fun K hK=>?_
       go_simp;refine hK _ _ ⟨u0,u1,_,_,u4,u5,u6,u7,u8,u10,A,n,c,ms,Ls,?_,⟨hC.ow,hC.h0,hC.h1,hC.h2,fun _=>rfl,hC.h4,hC.h5,hC.h6,hC.h7,hC.h8⟩⟩;simp only [Act.put,zT,zZ,zS]
      ·obtain rfl:=hC.h0 (hd 0 (by kernel_rfl));obtain rfl:=hC.h3 (hd 3 (by kernel_rfl));have f5:Ld 5=false:=by cases e:Ld 5 with|false=>rfl|true=>(rw [hcl 5 4 e (by kernel_rfl)] at hf;cases hf)
       have f6:Ld 6=false:=by cases e:Ld 6 with|false=>rfl|true=>(rw [hcl 6 5 e (by kernel_rfl)] at f5;cases f5)
       have f9:Ld 9=false:=by cases e:Ld 9 with|false=>rfl|true=>(rw [hcl 9 6 e (by kernel_rfl)] at f6;cases f6)
       clear hd hcl;refine zw rfl fun K hK=>?_
       go_simp;have hS:=z6bs hC.ow ia ib ((z0r _ _ (z0d HI.out.1)).trans HI.out.1) ((z0r _ _ (z0d HI.out.2)).trans HI.out.2) HI2.out.1 HI2.out.2.1
       rw [if_neg (Nat.not_lt.2 HI2.out.2.2),if_neg (Nat.not_lt.2 HI2.out.2.2)] at hS
       refine hS.mono ?_;rintro e W' ⟨D,i,j,rfl,ho⟩;refine hK _ _ ⟨_,u1,u2,_,_,u5,u6,u7,u8,u10,_,_,_,ms,_,?_,hC.called f5 f6 f9 ho⟩;simp only [Act.put,zT,zZ,zS]
      ·obtain ⟨rfl,-⟩:=hC.h4 (hd 4 (by kernel_rfl))
       clear hd hcl;refine zw rfl fun K hK=>?_
       go_simp;refine hK _ _ ⟨u0,u1,u2,u3,_,_,u6,u7,u8,u10,A,n,c,ms,Ls,?_,⟨hC.ow,hC.h0,hC.h1,hC.h2,hC.h3,hC.h4,fun _=>rfl,hC.h6,hC.h7,hC.h8⟩⟩;simp only [Act.put,zT,zZ,zS]
      ·obtain rfl:=hC.h5 (hd 5 (by kernel_rfl));clear hd hcl;refine zw rfl fun K hK=>?_
       go_simp;refine hK _ _ ⟨u0,u1,u2,u3,u4,_,_,u7,u8,u10,A,n,c,ms,Ls,?_,⟨hC.ow,hC.h0,hC.h1,hC.h2,hC.h3,hC.h4,hC.h5,fun _=>rfl,hC.h7,hC.h8⟩⟩;simp only [Act.put,zT,zZ,zS]
      ·obtain rfl:=hC.h5 (hd 5 (by kernel_rfl));clear hd hcl;refine zw rfl fun K hK=>?_
       go_simp;refine hK _ _ ⟨u0,u1,u2,u3,u4,_,u6,_,u8,u10,A,n,c,ms,Ls,?_,⟨hC.ow,hC.h0,hC.h1,hC.h2,hC.h3,hC.h4,hC.h5,hC.h6,fun _=>rfl,hC.h8⟩⟩;simp only [Act.put,zT,zZ,zS]
      ·have f9:Ld 9=false:=by cases e:Ld 9 with|false=>rfl|true=>(rw [hcl 9 8 e (by kernel_rfl)] at hf;cases hf)
       clear hd hcl;refine zw rfl fun K hK=>?_
       go_simp;refine hK _ _ ⟨u0,u1,u2,u3,u4,u5,u6,u7,_,u10,A,n,c,_,Ls,?_,hC.alloced f9⟩;simp only [Act.put,zT,zZ,zS]
      ·obtain ⟨b2,v,ms1,rfl,rfl,z1,z2,hC1⟩:=hC.stored (hd 8 (by kernel_rfl)) (hd 6 (by kernel_rfl))
       clear hd hcl;refine zw rfl fun K hK=>?_
       go_simp;refine hK _ _ ⟨u0,u1,u2,u3,u4,u5,_,u7,_,u10,A,n,c,ms1,Ls,?_,hC1⟩;simp only [Act.put,zT,zZ,zS]
      ·obtain rfl:=hC.h7 (hd 7 (by kernel_rfl));clear hd hcl;refine zw rfl fun K hK=>?_
       go_simp;refine hK _ _ ⟨u0,u1,u2,u3,u4,u5,u6,_,u8,.int .i64 0,A,n,c,ms,Ls,?_,⟨hC.ow,hC.h0,hC.h1,hC.h2,hC.h3,hC.h4,hC.h5,hC.h6,hC.h7,hC.h8⟩⟩;simp only [Act.put,zT,zZ,zS]
     ·rintro Ld b W hL ⟨u0,u1,u2,u3,u4,u5,u6,u7,u8,u10,A,n,c,ms,Ls,rfl,hC⟩;obtain ⟨t8,b2,v8,rfl,r1,r2⟩:=hC.h8 (hL 8 (by show 8<11;decide))
      obtain rfl:=r2 (hL 9 (by show 9<11;decide))
      obtain ⟨-,t4,r4⟩:=hC.h4 (hL 4 (by show 4<11;decide))
      have y0:=hC.ow.cell (M.length+0) (zk rfl)
      have y1:=hC.ow.cell (M.length+(t8+1)) (by rw [z0b];exact r1)
      have HSz:=zh hC.ow.size;have HC:=zh (z7aj hC.ow (LB.length+t4) ia ((z0b _ _ _).trans r4) ((z0r _ _ (z0d HI.out.1)).trans HI.out.1) HT.out (zqu (Nat.sub_le _ _) HI2.out.1) HI2.out.1 HMk.out)
      clear hC r1 r4 hL HW;go_wp2_with fail;refine HC.out.mono ?_;clear HC;rintro e w9 ⟨⟨C1,k1,e1,C2,k2,e2,rfl,G⟩,hfr⟩;have HFq:=zh (hfr _ _ _ _ _ _ _ rfl)
      clear hfr;clear y0 y1;have z0:=G.p0 (O.length+0) (zk rfl)
      have z1:=G.p1 (O.length+0) (zk rfl)
      have f0:=G.pf (O.length+0) (zk rfl) 0
      have f1:=G.pf (O.length+0) (zk rfl) 1
      have Z3:=G.set0 (O.length+0) (zk rfl) (.slice C1 k1 e1)
      rw [z0o] at Z3;simp only [zqd] at Z3;have Z4:=Z3.set1 (O.length+0) (zk rfl) (.slice C2 k2 e2)
      rw [z0o] at Z4;simp only [zqd] at Z4;have r0:=Z4.p0 (O.length+0) (zk rfl)
      have r1:=Z4.p1 (O.length+0) (zk rfl)
      have HF:=zh (Z4.fewM.fewO.less (L':=L++[⟨C1,k1,e1,z0c (Na.dig t.1)⟩]++[⟨C2,k2,e2,z0c (Na.dig t.2.1)⟩]) (fun o ho=>by
       rw [zqa] at ho;have h:=HLs.out _ o ho
       simp only [List.mem_append] at h ⊢
       rcases h with h|h|h
       ·exact .inl (.inl (.inl h))
       ·exact .inl (.inr h)
       ·exact .inr h))
      clear G Z3 Z4;go_wp2_with fail;refine bodyPost_ret (v:=.tuple #[.agg #[.slice C1 k1 e1,.slice C2 k2 e2],.int .i64 t.2.2]) (by simp [results,Tryz.results63,go_sem,r0,r1]) rfl ?_
      exact ⟨⟨C1,k1,e1,C2,k2,e2,rfl,HF.out⟩,z3av ⟨fun ad ea h0=>zqq HSz.out (HFq.out.1 ad ea h0),fun ad ea h0=>zqq HSz.out (HFq.out.2 ad ea h0)⟩⟩
    ·have hd3:decide ((0:Int)<r)=true:=zt (by omega)
     have hd4:decide (0<r)=true:=zt h0
     have HB:Hid (p<=4096/\s<=4096):=by
      have h1:=HV.out.2.1;have h2:=HM.out.2.2.1;have h3:s*1<=s*r:=Nat.mul_le_mul_left s h0
      exact ⟨by omega,by omega⟩
     rcases Nat.mod_two_eq_zero_or_one r with hm2|hm2
     ·have q1:((r:Int).tmod 2 == 1)=false:=by rw [beq_eq_false_iff_ne,Int.tmod_eq_emod_of_nonneg (by omega)];omega
      have q2:((r:Int) % 2 == 1)=false:=by rw [beq_eq_false_iff_ne];omega
      have HWn:Hid (Ways (L++Lt) xn m (pwc (z2l i) p)/\xn.toArray.all (·.oneCell')=true):=⟨HV.out.2.2.1,HV.out.2.2.2.2.2.1⟩
      have HWo:Hid (Ways (L++Lt) xo m (pwc (z2l i) s)/\xo.toArray.all (·.oneCell')=true):=⟨HV.out.2.2.2.1,HV.out.2.2.2.2.2.2⟩
      have HTs:=zh HV.out.2.2.2.2.1;obtain ⟨hn1,hn2⟩:=HO.out.rowHeap (O.length+1) (zk rfl)
      obtain ⟨ho1,ho2⟩:=HO.out.rowHeap (O.length+2) (zk rfl)
      have hin:(Tryz.prog.info? 122).map (·.size)=some xn.toArray.size:=by rw [z2y];simp [hn2]
      have hio:(Tryz.prog.info? 122).map (·.size)=some xo.toArray.size:=by rw [z2y];simp [ho2]
      have HC:=zh (z6ak HO.out m HM.out.1 xo.toArray xo.toArray A (pwc (z2l i) s) (pwc (z2l i) s) (12*m) (by have:=HM.out.1;omega) HTs.out HWo.out.1 HWo.out.1 (fun z hz=>z4c (by have:=HB.out;omega) hz) (fun z hz=>z4c (by have:=HB.out;omega) hz))
      rw [z8l] at HC;clear HO;go_wp2_with (refine wpList_load_row rfl 122 (.tmp 10) rfl (w1.heap.size+1) rfl 122 xo.toArray (0,0) _ ho1 Tryz.underlying122 rfl hio ?_)
      clear hn1 hn2 ho1 ho2 hin hio;refine HC.out.mono ?_;clear HC;rintro e w51 ⟨vc1,Lz1,rfl,G,HWy,HAl⟩;obtain ⟨y1,rfl⟩:∃ y:List Value,vc1=y.toArray:=⟨vc1.toList,by simp⟩
      dsimp only at HWy
      have hvc:y1.toArray.size=41:=by have:=HWy.1;simpa using this
      obtain ⟨hg1,hg2⟩:=G.rowHeap (O.length+2) (zk rfl)
      have hiv:(Tryz.prog.info? 122).map (·.size)=some y1.toArray.size:=by rw [z2y,hvc]
      have hsv:xo.toArray.size=y1.toArray.size:=by rw [hvc];simp [hg2]
      have Z:=G.putRow (O.length+2) (zk rfl) y1.toArray hvc (by omega)
      rw [z0o,zqe,zqe,zqd,zqa] at Z;have hal:y1.toArray.all (·.oneCell')=true:=HAl
      rw [zqa] at HWy;have HO1:=zh Z;have HY1:Hid (Ways (L++(Lt++Lz1)) y1 m (pwc (z2l i) (s+s))/\y1.toArray.all (·.oneCell')=true):=⟨HWy,HAl⟩
      have hcc:cc=p+(s+s)*(r / 2):=by
       have h5:=HV.out.2.1;have h6:2*(r / 2)=r:=by omega
       have h7:s*r=(s+s)*(r / 2):=by rw [<- Nat.two_mul,Nat.mul_comm 2 s,zqs,h6]
       omega
      have HV9:Hid (r / 2<=4096/\cc=p+(s+s)*(r / 2)/\Ways (L++(Lt++Lz1)) xn m (pwc (z2l i) p)/\Ways (L++(Lt++Lz1)) y1 m (pwc (z2l i) (s+s))/\TSets (L++(Lt++Lz1)) A m/\xn.toArray.all (·.oneCell')=true/\y1.toArray.all (·.oneCell')=true):=by
       refine ⟨by omega,hcc,?_,HY1.out.1,?_,HWn.out.2,HY1.out.2⟩
       ·rw [<- zqa];exact HWn.out.1.more
       ·rw [<- zqa];exact TSets.more HTs.out
      clear HV HWn HWo HTs HY1 hcc G Z HWy HAl;go_wp2_with (refine wpList_store_row rfl 122 (.tmp 10) (.tmp 74) rfl (w1.heap.size+1) y1.toArray rfl rfl 122 xo.toArray hg1 hiv hsv hal ?_)
      go_roundw
      case rel=>exact ⟨r / 2,p,s+s,xn,y1,_,z0q (by omega),HV9,HO1⟩
      case measure=>simp [intOf];omega
     ·have q1:((r:Int).tmod 2 == 1)=true:=by rw [beq_iff_eq,Int.tmod_eq_emod_of_nonneg (by omega)];omega
      have q2:((r:Int) % 2 == 1)=true:=by rw [beq_iff_eq];omega
      have HWn:Hid (Ways (L++Lt) xn m (pwc (z2l i) p)/\xn.toArray.all (·.oneCell')=true):=⟨HV.out.2.2.1,HV.out.2.2.2.2.2.1⟩
      have HWo:Hid (Ways (L++Lt) xo m (pwc (z2l i) s)/\xo.toArray.all (·.oneCell')=true):=⟨HV.out.2.2.2.1,HV.out.2.2.2.2.2.2⟩
      have HTs:=zh HV.out.2.2.2.2.1;obtain ⟨hn1,hn2⟩:=HO.out.rowHeap (O.length+1) (zk rfl)
      obtain ⟨ho1,ho2⟩:=HO.out.rowHeap (O.length+2) (zk rfl)
      have hin:(Tryz.prog.info? 122).map (·.size)=some xn.toArray.size:=by rw [z2y];simp [hn2]
      have hio:(Tryz.prog.info? 122).map (·.size)=some xo.toArray.size:=by rw [z2y];simp [ho2]
      have HC:=zh (z6ak HO.out m HM.out.1 xn.toArray xo.toArray A (pwc (z2l i) p) (pwc (z2l i) s) (12*m) (by have:=HM.out.1;omega) HTs.out HWn.out.1 HWo.out.1 (fun z hz=>z4c (by have:=HB.out;omega) hz) (fun z hz=>z4c (by have:=HB.out;omega) hz))
      rw [z8l] at HC;clear HO;go_wp2_with (first|(refine wpList_load_row rfl 122 (.tmp 9) rfl w1.heap.size rfl 122 xn.toArray (0,0) _ hn1 Tryz.underlying122 rfl hin ?_)|(refine wpList_load_row rfl 122 (.tmp 10) rfl (w1.heap.size+1) rfl 122 xo.toArray (0,0) _ ho1 Tryz.underlying122 rfl hio ?_))
      clear hn1 hn2 ho1 ho2 hin hio;refine HC.out.mono ?_;clear HC;rintro e w51 ⟨vc1,Lz1,rfl,G,HWy,HAl⟩;obtain ⟨y1,rfl⟩:∃ y:List Value,vc1=y.toArray:=⟨vc1.toList,by simp⟩
      dsimp only at HWy
      have hvc:y1.toArray.size=41:=by have:=HWy.1;simpa using this
      obtain ⟨hg1,hg2⟩:=G.rowHeap (O.length+1) (zk rfl)
      have hiv:(Tryz.prog.info? 122).map (·.size)=some y1.toArray.size:=by rw [z2y,hvc]
      have hsv:xn.toArray.size=y1.toArray.size:=by rw [hvc];simp [hg2]
      have Z:=G.putRow (O.length+1) (zk rfl) y1.toArray hvc (by omega)
      rw [z0o,zqe,zqd,zqa] at Z;have hal:y1.toArray.all (·.oneCell')=true:=HAl
      rw [zqa] at HWy;have HO1:=zh Z;have HY1:Hid (Ways (L++(Lt++Lz1)) y1 m (pwc (z2l i) (p+s))/\y1.toArray.all (·.oneCell')=true):=⟨HWy,HAl⟩
      have HWo2:Hid (Ways (L++(Lt++Lz1)) xo m (pwc (z2l i) s)/\xo.toArray.all (·.oneCell')=true):=⟨by rw [<- zqa];exact HWo.out.1.more,HWo.out.2⟩
      have HTs2:Hid (TSets (L++(Lt++Lz1)) A m):=by rw [<- zqa];exact TSets.more HTs.out
      clear HWn HWo HTs G Z HWy HAl;obtain ⟨hn1,hn2⟩:=HO1.out.rowHeap (O.length+1) (zk rfl)
      obtain ⟨ho1,ho2⟩:=HO1.out.rowHeap (O.length+2) (zk rfl)
      have hin:(Tryz.prog.info? 122).map (·.size)=some y1.toArray.size:=by rw [z2y];simp [hn2]
      have hio:(Tryz.prog.info? 122).map (·.size)=some xo.toArray.size:=by rw [z2y];simp [ho2]
      have HC:=zh (z6ak HO1.out m HM.out.1 xo.toArray xo.toArray A (pwc (z2l i) s) (pwc (z2l i) s) (12*m) (by have:=HM.out.1;omega) HTs2.out HWo2.out.1 HWo2.out.1 (fun z hz=>z4c (by have:=HB.out;omega) hz) (fun z hz=>z4c (by have:=HB.out;omega) hz))
      rw [z8l] at HC;clear HO1;go_wp2_with (first|(refine wpList_store_row rfl 122 (.tmp 9) (.tmp 69) rfl w1.heap.size y1.toArray rfl rfl 122 xn.toArray hg1 hiv hsv hal ?_)|(refine wpList_load_row rfl 122 (.tmp 10) rfl (w1.heap.size+1) rfl 122 xo.toArray (0,0) _ ho1 Tryz.underlying122 rfl hio ?_))
      clear hn1 hn2 ho1 ho2 hin hio;refine HC.out.mono ?_;clear HC;rintro e w52 ⟨vc2,Lz2,rfl,G,HWy,HAl⟩;obtain ⟨y2,rfl⟩:∃ y:List Value,vc2=y.toArray:=⟨vc2.toList,by simp⟩
      dsimp only at HWy
      have hvc:y2.toArray.size=41:=by have:=HWy.1;simpa using this
      obtain ⟨hg1,hg2⟩:=G.rowHeap (O.length+2) (zk rfl)
      have hiv:(Tryz.prog.info? 122).map (·.size)=some y2.toArray.size:=by rw [z2y,hvc]
      have hsv:xo.toArray.size=y2.toArray.size:=by rw [hvc];simp [hg2]
      have Z:=G.putRow (O.length+2) (zk rfl) y2.toArray hvc (by omega)
      rw [z0o,zqe,zqe,zqd,zqa] at Z;have hal:y2.toArray.all (·.oneCell')=true:=HAl
      rw [zqa] at HWy;have HO2:=zh Z;have HY2:Hid (Ways (L++((Lt++Lz1)++Lz2)) y2 m (pwc (z2l i) (s+s))/\y2.toArray.all (·.oneCell')=true):=⟨HWy,HAl⟩
      have hcc:cc=p+s+(s+s)*(r / 2):=by
       have h5:=HV.out.2.1;have h6:2*(r / 2)+1=r:=by omega
       have h7:s*r=(s+s)*(r / 2)+s:=by rw [<- Nat.two_mul,Nat.mul_comm 2 s,zqs,<- Nat.mul_succ,Nat.succ_eq_add_one,h6]
       omega
      have HV9:Hid (r / 2<=4096/\cc=p+s+(s+s)*(r / 2)/\Ways (L++(Lt++Lz1++Lz2)) y1 m (pwc (z2l i) (p+s))/\Ways (L++(Lt++Lz1++Lz2)) y2 m (pwc (z2l i) (s+s))/\TSets (L++(Lt++Lz1++Lz2)) A m/\y1.toArray.all (·.oneCell')=true/\y2.toArray.all (·.oneCell')=true):=by
       refine ⟨by omega,hcc,?_,HY2.out.1,?_,HY1.out.2,HY2.out.2⟩
       ·rw [<- zqa];exact HY1.out.1.more
       ·rw [<- zqa];exact TSets.more HTs2.out
      clear HV HWo2 HTs2 HY1 HY2 hcc G Z HWy HAl;go_wp2_with (refine wpList_store_row rfl 122 (.tmp 10) (.tmp 74) rfl (w1.heap.size+1) y2.toArray rfl rfl 122 xo.toArray hg1 hiv hsv hal ?_)
      go_roundw
      case rel=>exact ⟨r / 2,p+s,s+s,y1,y2,_,z0q (by omega),HV9,HO2⟩
      case measure=>simp [intOf];omega
  ·have hd:decide ((i:Int)<kk)=true:=zt (by omega)
   have hd2:decide (i<kk)=true:=zt hlt
   have hk40:kk<=40:=by have:=HM.out;omega
   have HC:=zh (z5ba HO.out)
   clear HO;have hi41:(i:Int)<41:=by omega
   have hi0:(0:Int)<=(i:Int):=by omega
   have hi42:i<41:=by omega
   go_wp2_with fail;refine HC.out.mono ?_;rintro e w3 ⟨B2,m2,d2,rfl,G⟩;have c1:=z2a G (i:=O.length+2) (zk rfl) (HV.out.1.2.2 i (zqj _) (by omega)) (by omega)
   have f1:=(G.own (O.length+2) _ (zk rfl)).frozenAt i
   have Z:=G.put (O.length+2) (zk rfl) i (.slice B2 m2 d2)
   rw [z0o,zqe,zqe,zqd,zqa] at Z;have HZ:=zh Z;have HV2:Hid (Ones (L++(Lt++[(⟨B2,m2,d2,z0c (Na.dig 1)⟩:Ob)])) (xs.set i (.slice B2 m2 d2)) (i+1)/\Ones (L++(Lt++[(⟨B2,m2,d2,z0c (Na.dig 1)⟩:Ob)])) (lr.set 0 (.slice B1 m1 d1)) 1/\TSets (L++(Lt++[(⟨B2,m2,d2,z0c (Na.dig 1)⟩:Ob)])) A m/\NumIn (L++(Lt++[(⟨B2,m2,d2,z0c (Na.dig 1)⟩:Ob)])) (.slice none 0 0) 0):=by
    rw [<- zqa];exact ⟨Ones.set HV.out.1.more (by omega) ⟨B2,m2,d2,(L++Lt).length+0,rfl,by rw [z0b];rfl⟩,HV.out.2.1.more,TSets.more HV.out.2.2.1,HV.out.2.2.2.more⟩
   clear G Z HC HV;go_wp2_with fail;go_roundw
   case rel=>exact ⟨i+1,_,_,hlt,z0q (by omega),HV2,HZ⟩
   case measure=>simp [intOf];omega
end
theorem z5x {w0 w:World}{g:Option Nat}{M:List (Nat×Value)}{L:List Ob}{O:List Rw}{tb m n c t:Nat}{v u:Value}{ad:Addr}{zs:List Value}{l:List (Nat×Value)}(h:Ow w0 w g (M++(tb,v) :: l) L O)(hd:L[t]?=some ⟨some ad,n,c,zs⟩)(hz:zs[m]?=some u):w.cell? ⟨tb,0,none⟩=some v/\w.cell? (ad.add m)=some u:=
 ⟨h.cell (M.length+0) (zk rfl),(h.sl hd).2.2.2.c hz⟩
def RCu (w0:World)(g:Option Nat)(M:List (Nat×Value))(L:List Ob)(O:List Rw)(m kk:Nat)(v8 v9 v49:Value)(wr:World):Prop:=
 ∃ (j:Nat) (A1:Option Addr) (c1:Nat) (xs:List Value) (A2:Option Addr) (c2:Nat) (ys:List Value) (Ls:List Ob),j<=m+1/\v8=.slice A1 j c1/\v9=.slice A2 j c2/\v49=.int .i64 j/\Hid (WayTo (L++Ls) xs j (z2l kk)/\WayTo (L++Ls) ys j dlt)/\Hid (Ow w0 wr g M (L++Ls) (O++[⟨A1,j,c1,25,xs⟩,⟨A2,j,c2,25,ys⟩]))
def RCv (w0:World)(g:Option Nat)(M:List (Nat×Value))(L:List Ob)(O:List Rw)(m cc kk:Nat)(v9 v14:Value)(wr:World):Prop:=
 ∃ (b r:Nat) (z:Int) (D:Option Addr) (c t:Nat) (ys:List Value) (Ls:List Ob),b<=13/\z+1=(b:Int)/\v9=.slice D (m+1) c/\v14=.int .i64 z/\Hid (r=cc / 2 ^ b/\(L++Ls)[t]?=some ⟨D,m+1,c,ys⟩/\WaysU (L++Ls) ys m (pwc (z2l kk) r))/\Hid (Ow w0 wr g M (L++Ls) O)
section
variable {w0 w w':World}{g:Option Nat}{M M2:List (Nat×Value)}{L:List Ob}{O:List Rw}{A A2 A3 A4:Option Addr}{b n c m c2 n3 c3 n4 c4 x y:Nat}{p q r s:List Int}
end
def z7u (a b k:Int):Nat×Nat×Int:=if a<0∨40<a∨b<1∨4096<b then frE 2 else if k<=0 then (1,1,0) else if a<k then (0,1,0) else frM (b.toNat ^ a.toNat - pwc (z2l k.toNat) b.toNat a.toNat) (b.toNat ^ a.toNat)
section
variable {w0 w w':World}{g:Option Nat}{M M2:List (Nat×Value)}{L:List Ob}{O:List Rw}
theorem z9i (h:Ow w0 w g M L O)(a b k:Int)(ht:Tab w0)(h1:0<=a/\a<=40)(h2:1<=b/\b<=4096)(h3:1<=k/\k<=a):Calls Tryz.prog 63 #[.int .i64 a,.int .i64 b,.int .i64 k] w fun en w'=>GotF w0 g M L O (z7u a b k) en w'/\FrE w0 en:=by
 unfold z7u;rw [if_neg (by omega),if_neg (by omega),if_neg (by omega)]
 obtain ⟨x,rfl⟩:=Int.eq_ofNat_of_zero_le (a:=a) (by omega)
 obtain ⟨y,rfl⟩:=Int.eq_ofNat_of_zero_le (a:=b) (by omega)
 obtain ⟨z,rfl⟩:=Int.eq_ofNat_of_zero_le (a:=k) (by omega)
 exact z9h h x y z ht (by omega) (by omega) (by omega)
end
open Go.ChangeMaps (setBlock heap_setBlock_same heap_setBlock_other)
open Cl
namespace Cl
set_option maxHeartbeats 16000000
structure Vd where
 k:Int
 p:Pl
 cp:Int
 h:Int
 x:Nat
 y:Nat
def Vd.vs (v:Vd)(A1:Option Addr)(n1 c1:Nat)(A2:Option Addr)(n2 c2:Nat):Array Value:=#[.int .i64 v.k,.int .i64 v.p.so,.int .i64 v.p.ch,.int .i64 v.p.ra,.int .i64 v.p.ba,.int .i64 v.p.ro,.int .i64 v.p.co,.int .i64 v.cp,.int .i64 v.h,.slice A1 n1 c1,.slice A2 n2 c2]
def vd0:Vd:=⟨0,⟨0,0,0,0,0,0⟩,0,0,1,1⟩
def fst (l:List Sn)(g:List Nat):Sn:=(l[g.headD 0]?).getD ⟨⟨0,0,0,0,0,0⟩,0,0⟩
def chc (s:Pl)(l:List Sn)(k:Int):Nat×Nat×Int:=z7u (l.length:Int) (prt k s) ((z6k k l).length:Int)
def cV (t:Nat×Nat×Int)(p q:List Int):Int:=cmpV (Na.up (Na.dig t.1)) (Na.up (Na.dig t.2.1)) p q
def cE (t:Nat×Nat×Int)(p q:List Int):Int:=cmpE (Na.up (Na.dig t.1)) (Na.up (Na.dig t.2.1)) p q
def jst (s:Pl)(p q:List Int)(l:List Sn)(k:Int):Option Vd:=
 if (z6k k l).length<2 then none else
 if cE (chc s l k) p q=0/\cV (chc s l k) p q<=0 then some ⟨k,wh k (fst l (z6k k l)).p,(fst l (z6k k l)).cp,((z6k k l).length:Int),(chc s l k).1,(chc s l k).2.1⟩ else none
def z7y (s:Pl)(p q:List Int)(l:List Sn):Nat->Nat->Vd
 | _,0=>vd0
 | k,f+1=>match jst s p q l (k:Int) with
  | some v=>v
  | none=>z7y s p q l (k+1) f
def jud (s:Pl)(p q:List Int)(l:List Sn):Vd:=z7y s p q l 1 5
theorem z0an {s:Pl}{p q:List Int}{l:List Sn}{i:Nat}{v:Vd}(hi:i<=5)(h:jst s p q l (i:Int)=some v):z7y s p q l i (6 - i)=v:=by
 rw [show 6 - i=(5 - i)+1 from by omega]
 unfold z7y;rw [h]
theorem z3p {s:Pl}{p q:List Int}{l:List Sn}{i:Nat}(hi:i<=5)(h:jst s p q l (i:Int)=none):z7y s p q l i (6 - i)=z7y s p q l (i+1) (6 - (i+1)):=by
 rw [show 6 - i=(5 - i)+1 from by omega,show 6 - (i+1)=5 - i from by omega]
 conv=>lhs;unfold z7y
 rw [h]
theorem z9ag {s:Pl}{p q:List Int}{l:List Sn}{k:Int}(h:(z6k k l).length<2):jst s p q l k=none:=by unfold jst;rw [if_pos h]
theorem z0ao {s:Pl}{p q:List Int}{l:List Sn}{k:Int}(h:¬ (cE (chc s l k) p q=0/\cV (chc s l k) p q<=0)):jst s p q l k=none:=by
 unfold jst;rw [if_neg h];split <;> rfl
theorem z9af {s:Pl}{p q:List Int}{l:List Sn}{k:Int}(h1:¬ (z6k k l).length<2)(h:cE (chc s l k) p q=0/\cV (chc s l k) p q<=0):jst s p q l k=some ⟨k,wh k (fst l (z6k k l)).p,(fst l (z6k k l)).cp,((z6k k l).length:Int),(chc s l k).1,(chc s l k).2.1⟩:=by
 unfold jst;rw [if_neg h1,if_pos h]
theorem z7bj {x y:Nat}(h:(frM x y).2.2≠0):(frM x y).1=0/\(frM x y).2.1=0:=by
 unfold frM at *
 by_cases hy:y=0
 ·rw [if_pos hy];exact ⟨rfl,rfl⟩
 ·rw [if_neg hy] at h;exact absurd rfl h
theorem z9ax {a b k:Int}(h:(z7u a b k).2.2≠0):(z7u a b k).1=0/\(z7u a b k).2.1=0:=by
 unfold z7u at *
 by_cases h1:a<0∨40<a∨b<1∨4096<b
 ·rw [if_pos h1];exact ⟨rfl,rfl⟩
 ·rw [if_neg h1] at h ⊢
  by_cases h2:k<=0
  ·rw [if_pos h2] at h;exact absurd rfl h
  ·rw [if_neg h2] at h ⊢
   by_cases h3:a<k
   ·rw [if_pos h3] at h;exact absurd rfl h
   ·rw [if_neg h3] at h ⊢
    exact z7bj h
theorem z9bz {t:Nat×Nat×Int}{p q:List Int}(h:t.1=0/\t.2.1=0):cE t p q≠0:=by
 unfold cE cmpE;rw [h.1,h.2];have:rv (Na.up (Na.dig 0)) (Na.up (Na.dig 0))=false:=by decide +kernel
 rw [this,Bool.false_and,if_neg (by decide)]
 decide
theorem z7bp {s:Pl}{p q:List Int}{l:List Sn}{k:Int}(h:(chc s l k).2.2≠0):cE (chc s l k) p q≠0:=z9bz (z9ax h)
theorem z3ao {gs:List (Sp×List Nat)}:∀ i,z5z gs i=[]∨∃ p∈gs,z5z gs i=p.2
 | 0=>.inl rfl
 | i+1=>by
  have ih:=z3ao (gs:=gs) i
  have e:z5z gs (i+1)=(match gs[i]? with|some p=>if (z5z gs i).length<p.2.length then p.2 else z5z gs i|none=>z5z gs i):=rfl
  rw [e];split
  ·next p hp=>
   split
   ·exact .inr ⟨p,List.mem_of_getElem? hp,rfl⟩
   ·exact ih
  ·exact ih
theorem z7m {k:Int}{l:List Sn}{h:Nat}{t:List Nat}(e:z6k k l=h :: t):∃ x,l[h]?=some x/\fst l (z6k k l)=x:=by
 rcases z3ao (gs:=z2j k l l.length) (z2j k l l.length).length with h0|⟨p,hp,h0⟩
 ·unfold z6k at e;rw [h0] at e;cases e
 ·obtain ⟨h',t',y,e2,hlt,hy,_⟩:=z4n k l l.length p hp
  have:h :: t=h' :: t':=by rw [<- e,<- e2];exact h0
  injection this with e3 e4
  subst e3
  refine ⟨y,hy,?_⟩
  unfold fst;rw [e]
  show (l[h]?).getD _=y
  rw [hy];rfl
theorem z9ac {k:Int}{l:List Sn}:(z6k k l).length<=l.length:=z6s (fun p hp=>(z2z k l l.length).1 p hp) _
end Cl
namespace Cl
set_option maxHeartbeats 16000000
def VdR (w0:World)(g:Option Nat)(M:List (Nat×Value))(L:List Ob)(O:List Rw)(v:Vd)(en:Ending)(w':World):Prop:=
 ∃ (A1:Option Addr) (n1 c1:Nat) (A2:Option Addr) (n2 c2:Nat),en=.returned (.agg (v.vs A1 n1 c1 A2 n2 c2))/\Ow w0 w' g M (L++[⟨A1,n1,c1,z0c (Na.dig v.x)⟩]++[⟨A2,n2,c2,z0c (Na.dig v.y)⟩]) O
end Cl
theorem of11:ofF 1 1=(1,1,0):=by decide +kernel
theorem z9w {w0 w:World}{g:Option Nat}{M:List (Nat×Value)}{L:List Ob}{O:List Rw}(h:Ow w0 w g M L O)(i:Nat){gb n c:Nat}{e:TypeId}{z0 z1 z2 z3 z4 z5 z6 z7 z8 z9 z10:Value}(hi:O[i]?=some ⟨some ⟨gb,0,none⟩,n,c,e,[z0,z1,z2,z3,z4,z5,z6,z7,z8,z9,z10]⟩)(v0 v1 v2 v3 v4 v5 v6 v7 v8 v9 v10:Value):Ow w0 (((((((((((w.setCell ⟨gb,0,none⟩ v0).setCell ⟨gb,1,none⟩ v1).setCell ⟨gb,2,none⟩ v2).setCell ⟨gb,3,none⟩ v3).setCell ⟨gb,4,none⟩ v4).setCell ⟨gb,5,none⟩ v5).setCell ⟨gb,6,none⟩ v6).setCell ⟨gb,7,none⟩ v7).setCell ⟨gb,8,none⟩ v8).setCell ⟨gb,9,none⟩ v9).setCell ⟨gb,10,none⟩ v10) g M L (O.set i ⟨some ⟨gb,0,none⟩,n,c,e,[v0,v1,v2,v3,v4,v5,v6,v7,v8,v9,v10]⟩):=by
 have h0:=h.put i hi 0 v0
 have h1:=h0.put i (z0a hi) 1 v1
 have h2:=h1.put i (z0a (z0a hi)) 2 v2
 have h3:=h2.put i (z0a (z0a (z0a hi))) 3 v3
 have h4:=h3.put i (z0a (z0a (z0a (z0a hi)))) 4 v4
 have h5:=h4.put i (z0a (z0a (z0a (z0a (z0a hi))))) 5 v5
 have h6:=h5.put i (z0a (z0a (z0a (z0a (z0a (z0a hi)))))) 6 v6
 have h7:=h6.put i (z0a (z0a (z0a (z0a (z0a (z0a (z0a hi))))))) 7 v7
 have h8:=h7.put i (z0a (z0a (z0a (z0a (z0a (z0a (z0a (z0a hi)))))))) 8 v8
 have h9:=h8.put i (z0a (z0a (z0a (z0a (z0a (z0a (z0a (z0a (z0a hi))))))))) 9 v9
 have h10:=h9.put i (z0a (z0a (z0a (z0a (z0a (z0a (z0a (z0a (z0a (z0a hi)))))))))) 10 v10
 simp only [List.set_set,zqd,zqe] at h10;exact h10
namespace Cl
set_option maxHeartbeats 16000000
def VdF (w0:World)(g:Option Nat)(M:List (Nat×Value))(L:List Ob)(O:List Rw)(v:Vd)(en:Ending)(w':World):Prop:=
 ∃ (A1:Option Addr) (n1 c1:Nat) (A2:Option Addr) (n2 c2:Nat),en=.returned (.agg (v.vs A1 n1 c1 A2 n2 c2))/\Ow w0 w' g M (L++[⟨A1,n1,c1,z0c (Na.dig v.x)⟩]++[⟨A2,n2,c2,z0c (Na.dig v.y)⟩]) O/\(v.k≠0->(∀ ad,A1=some ad->0<n1->w0.heap.size<=ad.block)/\(∀ ad,A2=some ad->0<n2->w0.heap.size<=ad.block))
theorem z3bt {k:Int}{s:Pl}(hk:kd k)(hs:shV s):1<=prt k s/\prt k s<=4096:=by
 unfold prt;rw [if_pos hk];obtain ⟨⟨a1,_⟩,⟨b1,_⟩,⟨c1,_⟩,⟨d1,_⟩,⟨e1,_⟩,⟨f1,_⟩,hsum⟩:=hs
 have hb:(bt k s).toNat<=12:=by
  unfold bt
  repeat' split
  all_goals omega
 obtain ⟨m,hm⟩:∃ m,(bt k s).toNat=m:=⟨_,rfl⟩
 rw [hm] at hb ⊢
 have h1:1<=2 ^ m:=Nat.pow_pos (by omega)
 have h2:2 ^ m<=2 ^ 12:=Nat.pow_le_pow_right (by omega) hb
 have e:((2:Int) ^ m)=((2 ^ m:Nat):Int):=by simp
 rw [e];omega
end Cl
def z0bk (s:Pl)(p q:List Int)(l:List Sn)(w0:World)(g:Option Nat)(M:List (Nat×Value))(L:List Ob)(O:List Rw)(x:Value)(wr:World):Prop:=
 ∃ i:Nat,1<=i/\i<=6/\x=.int .i64 i/\Hid (Ow w0 wr g M L O)/\Hid (jud s p q l=z7y s p q l i (6 - i))
theorem z7at {w0 w:World}{g:Option Nat}{M:List (Nat×Value)}{L:List Ob}{O:List Rw}{A A2 A3:Option Addr}{n c m c2 n3 c3 e3:Nat}{p q:List Int}{l:List Sn}(s:Pl)(hs:shV s)(h:Ow w0 w g M L O)(i j k:Nat)(hi:L[i]?=some ⟨A,n,c,z0p p⟩)(hj:L[j]?=some ⟨A2,m,c2,z0p q⟩)(hk:L[k]?=some ⟨A3,n3*8,e3,fl l⟩)(hn3:n3<=40)(ht:Tab w0):
  Calls Tryz.prog 35 #[.agg s.vs,.agg #[.slice A n c,.slice A2 m c2],.slice A3 n3 c3] w (VdF w0 g M L O (jud s p q l)):=by
 have H0:=((h.arr s.vs 6 rfl (by omega) 33).pair (.slice A n c) (.slice A2 m c2) 27).arr #[.int .i64 0,.int .i64 0,.int .i64 0,.int .i64 0,.int .i64 0,.int .i64 0,.int .i64 0,.int .i64 0,.int .i64 0,.slice none 0 0,.slice none 0 0] 11 rfl (by omega) 42
 simp only [World.size_alloc,zqa,zqb,zqc] at H0;have HLn:l.length=n3:=by
  have a:=(h.sl hk).1
  rw [z2q] at a;omega
 have HS:=zh hs;have HK:=zh hk;have HI:=zh hi;have HJ:=zh hj;have HNl:=zh HLn;have HT:=zh ht;obtain ⟨so,ch,ra,ba,ro,co⟩:=s;unfold Pl.vs at *
 have HO:Hid (Ow w0 (((w.alloc (.cells #[.int .i64 so,.int .i64 ch,.int .i64 ra,.int .i64 ba,.int .i64 ro,.int .i64 co] 33)).alloc (.cells #[.slice A n c,.slice A2 m c2] 27)).alloc (.cells #[.int .i64 0,.int .i64 0,.int .i64 0,.int .i64 0,.int .i64 0,.int .i64 0,.int .i64 0,.int .i64 0,.int .i64 0,.slice none 0 0,.slice none 0 0] 42)) g M L (O++[(⟨some ⟨w.heap.size,0,none⟩,6,6,33,[.int .i64 so,.int .i64 ch,.int .i64 ra,.int .i64 ba,.int .i64 ro,.int .i64 co]⟩:Rw),Rw.pair (w.heap.size+1) 27 (.slice A n c) (.slice A2 m c2),(⟨some ⟨w.heap.size+1+1,0,none⟩,11,11,42,[.int .i64 0,.int .i64 0,.int .i64 0,.int .i64 0,.int .i64 0,.int .i64 0,.int .i64 0,.int .i64 0,.int .i64 0,.slice none 0 0,.slice none 0 0]⟩:Rw)])):=H0
 clear H0 hs hi hj hk HLn h ht;go_enter Tryz.func35,Tryz.ntmps35
 go_wp2_with fail;go_loopw [7] (fun x wr=>z0bk ⟨so,ch,ra,ba,ro,co⟩ p q l w0 g M L (O++[(⟨some ⟨w.heap.size,0,none⟩,6,6,33,[.int .i64 so,.int .i64 ch,.int .i64 ra,.int .i64 ba,.int .i64 ro,.int .i64 co]⟩:Rw),Rw.pair (w.heap.size+1) 27 (.slice A n c) (.slice A2 m c2),(⟨some ⟨w.heap.size+1+1,0,none⟩,11,11,42,[.int .i64 0,.int .i64 0,.int .i64 0,.int .i64 0,.int .i64 0,.int .i64 0,.int .i64 0,.int .i64 0,.int .i64 0,.slice none 0 0,.slice none 0 0]⟩:Rw)]) x wr) (fun x _=>7 - (intOf x).toNat)
 case atStart=>exact ⟨1,by omega,by omega,rfl,HO,rfl⟩
 case round=>
  clear HO;obtain ⟨kk,h1,h6,rfl,HO,HF⟩:=hrel;rcases zqi 5 kk with h5|h5
  ·obtain rfl:kk=6:=by omega
   clear h1 h6 h5;have HR:Hid (jud ⟨so,ch,ra,ba,ro,co⟩ p q l=vd0):=HF.out
   have HC:=zh (z8bx HO.out 1 1 (by omega) (by omega) HT.out)
   rw [of11] at HC;clear HF HO;go_wp2_with fail;refine HC.out.mono ?_;rintro e w3 ⟨B1,n1,d1,B2,n2,d2,rfl,G⟩;have H7:=G.pair (.slice B1 n1 d1) (.slice B2 n2 d2) 27
   simp only [zqa,zqb,zqc] at H7;clear HC G;have c0:=H7.p0 (O.length+3) (zk rfl)
   have c1:=H7.p1 (O.length+3) (zk rfl)
   obtain ⟨v0,v1,v2,v3,v4,v5,v6,v7,v8,v9,v10⟩:=zc11 (H7.row (O.length+2) (zk rfl));obtain ⟨f0,f1,f2,f3,f4,f5,f6,f7,f8,f9,f10⟩:=zf11 (H7.row (O.length+2) (zk rfl));have H8:=z9w H7 (O.length+2) (zk rfl) (.int .i64 0) (.int .i64 0) (.int .i64 0) (.int .i64 0) (.int .i64 0) (.int .i64 0) (.int .i64 0) (.int .i64 0) (.int .i64 0) (.slice B1 n1 d1) (.slice B2 n2 d2)
   rw [z0o] at H8;simp only [zqe,zqd] at H8;obtain ⟨z0,z1,z2,z3,z4,z5,z6,z7,z8,z9,z10⟩:=zc11 (H8.row (O.length+2) (zk rfl));have HE:=zh H8.fewO;clear H7 H8;go_wp2_with fail;refine bodyPost_ret (v:=.agg #[.int .i64 0,.int .i64 0,.int .i64 0,.int .i64 0,.int .i64 0,.int .i64 0,.int .i64 0,.int .i64 0,.int .i64 0,.slice B1 n1 d1,.slice B2 n2 d2]) (by simp [results,Tryz.results35,go_sem,z0,z1,z2,z3,z4,z5,z6,z7,z8,z9,z10]) rfl ?_
   rw [HR.out];exact ⟨B1,n1,d1,B2,n2,d2,rfl,by rw [zqa];exact HE.out,fun h=>absurd rfl h⟩
  ·have hd:decide ((kk:Int)<=5)=true:=zt (by omega)
   have HKd:Hid (kd (kk:Int)):=⟨by omega,by omega⟩
   have HK5:=zh h5;have hw1:IntKind.i64.wrap ((kk:Int)+1)=((kk+1:Nat):Int):=by rw [IntWalk.i64_in _ (by omega)];omega
   have HLg:=zh (z1bq (kk:Int) HKd.out A3 n3 c3 l wr HNl.out (by omega) (HO.out.sl HK.out).2.2.2)
   obtain ⟨gl,hgl⟩:∃ z,z6k (kk:Int) l=z:=⟨_,rfl⟩
   have HGl:=zh hgl;rw [hgl] at HLg;clear hgl h1 h6 h5;go_wp2_with fail;refine HLg.out.mono ?_;rintro e w1 ⟨Ag,ng,cg,rfl,hng,how,hb⟩;have H1:=HO.out.add how hb
   clear HLg how hb HO;rcases zqi ng 2 with h2|h2
   ·have hd2:decide ((ng:Int)<2)=true:=zt (by omega)
    have HN:Hid (jud ⟨so,ch,ra,ba,ro,co⟩ p q l=z7y ⟨so,ch,ra,ba,ro,co⟩ p q l (kk+1) (6 - (kk+1))):=by
     unfold Hid;rw [HF.out];exact z3p HK5.out (z9ag (by rw [HGl.out,hng];exact h2))
    have HE:=zh H1.fewO;clear H1 h2 hng;go_wp2_with fail;go_roundw
    case rel=>exact ⟨kk+1,by omega,Nat.succ_le_succ HK5.out,rfl,HE,HN⟩
    case measure=>
     have:=HK5.out
     simp [intOf]
     omega
   ·have hd2:decide ((ng:Int)<2)=false:=zn (by omega)
    simp only [zqa,zqb,zqc] at H1;obtain ⟨a0,a1,a2,a3,a4,a5⟩:=zc6 (H1.row (O.length+0) (zk rfl));have HP:=zh (fun W=>z8f (kk:Int) ⟨so,ch,ra,ba,ro,co⟩ HS.out W)
    unfold Pl.vs at HP;have HT0:Hid (chc ⟨so,ch,ra,ba,ro,co⟩ l (kk:Int)=z7u (n3:Int) (prt (kk:Int) ⟨so,ch,ra,ba,ro,co⟩) (ng:Int)):=by unfold Hid chc;rw [HNl.out,HGl.out,hng]
    go_wp2_with fail;refine (HP.out _).mono ?_
    rintro e w2 ⟨rfl,hb⟩;have H2:=H1.go hb
    clear a0 a1 a2 a3 a4 a5 hb H1 HP;have HC:=zh (z9i H2 (n3:Int) (prt (kk:Int) ⟨so,ch,ra,ba,ro,co⟩) (ng:Int) HT.out ⟨by omega,by omega⟩ (z3bt HKd.out HS.out) ⟨by omega,by have:=HGl.out;have:=HNl.out;have hl:=@z9ac (kk:Int) l;rw [HGl.out] at hl;omega⟩)
    rw [<- HT0.out] at HC;obtain ⟨t,ht⟩:∃ t,chc ⟨so,ch,ra,ba,ro,co⟩ l (kk:Int)=t:=⟨_,rfl⟩
    rw [ht] at HC;have HTt:=zh ht;clear ht;skip
    go_wp2_with fail;refine HC.out.mono ?_;rintro e w3 ⟨⟨B1,n1,d1,B2,n2,d2,rfl,G⟩,hfr⟩;have HFq:=zh (hfr _ _ _ _ _ _ _ rfl)
    clear hfr;have H4:=G.pair (.slice B1 n1 d1) (.slice B2 n2 d2) 27
    simp only [zqa,zqb,zqc] at H4;clear H2 HC G;have c0:=H4.p0 (O.length+4) (zk rfl)
    have c1:=H4.p1 (O.length+4) (zk rfl)
    have b0:=H4.p0 (O.length+1) (zk rfl)
    have b1:=H4.p1 (O.length+1) (zk rfl)
    have HM:=zh (z1bl (p:=Na.up (Na.dig t.1)) (q:=Na.up (Na.dig t.2.1)) H4 (L.length+0) (L.length+1) i j (by rw [z0b,z0g];rfl) (by rw [z0b,z0g];rfl) (by rw [z0r _ _ (z0d HI.out)];exact HI.out) (by rw [z0r _ _ (z0d HJ.out)];exact HJ.out) HT.out)
    obtain ⟨er,her⟩:∃ z,t.2.2=z:=⟨_,rfl⟩
    obtain ⟨cv,hcv⟩:∃ z,cmpV (Na.up (Na.dig t.1)) (Na.up (Na.dig t.2.1)) p q=z:=⟨_,rfl⟩
    obtain ⟨ce,hce⟩:∃ z,cmpE (Na.up (Na.dig t.1)) (Na.up (Na.dig t.2.1)) p q=z:=⟨_,rfl⟩
    rw [hcv,hce] at HM;rw [her];have HEr:=zh her;have HCv:Hid (cV t p q=cv):=hcv
    have HCe:Hid (cE t p q=ce):=hce
    clear her hcv hce H4;go_wp2_with fail;refine HM.out.mono ?_;rintro e w4 ⟨rfl,H5⟩;clear HM c0 c1 b0 b1;by_cases he:er=0
    ·subst he
     by_cases hc:ce=0
     ·subst hc
      rcases Int.lt_or_le 0 cv with h|h
      ·have g1:decide (0<cv)=true:=zt h
       have HN:Hid (jud ⟨so,ch,ra,ba,ro,co⟩ p q l=z7y ⟨so,ch,ra,ba,ro,co⟩ p q l (kk+1) (6 - (kk+1))):=by
        unfold Hid;rw [HF.out];exact z3p HK5.out (z0ao (by rw [HTt.out];rw [HCv.out];omega))
       have HE:Hid (Ow w0 w4 g M L (O++[(⟨some ⟨w.heap.size,0,none⟩,6,6,33,[.int .i64 so,.int .i64 ch,.int .i64 ra,.int .i64 ba,.int .i64 ro,.int .i64 co]⟩:Rw),Rw.pair (w.heap.size+1) 27 (.slice A n c) (.slice A2 m c2),(⟨some ⟨w.heap.size+1+1,0,none⟩,11,11,42,[.int .i64 0,.int .i64 0,.int .i64 0,.int .i64 0,.int .i64 0,.int .i64 0,.int .i64 0,.int .i64 0,.int .i64 0,.slice none 0 0,.slice none 0 0]⟩:Rw)])):=(Ow.fewO (O:=O++[(⟨some ⟨w.heap.size,0,none⟩,6,6,33,[.int .i64 so,.int .i64 ch,.int .i64 ra,.int .i64 ba,.int .i64 ro,.int .i64 co]⟩:Rw),Rw.pair (w.heap.size+1) 27 (.slice A n c) (.slice A2 m c2),(⟨some ⟨w.heap.size+1+1,0,none⟩,11,11,42,[.int .i64 0,.int .i64 0,.int .i64 0,.int .i64 0,.int .i64 0,.int .i64 0,.int .i64 0,.int .i64 0,.int .i64 0,.slice none 0 0,.slice none 0 0]⟩:Rw)]) (by simpa only [zqa,zqb,zqc] using H5)).less (fun o ho=>List.mem_append_left _ ho)
       clear H5;go_wp2_with fail;go_roundw
       case rel=>exact ⟨kk+1,by omega,Nat.succ_le_succ HK5.out,rfl,HE,HN⟩
       case measure=>
        have:=HK5.out
        simp [intOf]
        omega
      ·have g1:decide (0<cv)=false:=zn (by omega)
       obtain ⟨hh,tl,hgt⟩:∃ hh tl,gl=hh :: tl:=by
        cases gl with
        | nil=>simp at hng;omega
        | cons a b=>exact ⟨a,b,rfl⟩
       obtain ⟨x,hx,hfx⟩:=z7m (HGl.out.trans hgt)
       have hR:=H5.row (O.length+3) (zk rfl)
       obtain ⟨gb,hgb,_,_⟩:=z0n hR (by omega)
       obtain rfl:=hgb
       have y0:=hR.cells (g:=gb) rfl 0 (.int .i64 hh) (by rw [hgt];rfl)
       rw [z6n] at y0;obtain ⟨a,rfl,e0,e1,e2,e3,e4,e5,e6,e7⟩:=z2v (H5.sl (i:=k) (by rw [z0r _ _ (z0d HK.out)];exact HK.out)).2.2.2 hx
       have hhl:hh<n3:=by have:=z0d hx;have:=HNl.out;omega
       have hhI:(hh:Int)<n3:=by omega
       have hgI:(0:Int)<ng:=by omega
       have HWh:=zh (fun W=>z5q (kk:Int) x.p W)
       rw [zt HKd.out,z2aj HKd.out] at HWh;have HRs:Hid (jud ⟨so,ch,ra,ba,ro,co⟩ p q l=⟨(kk:Int),wh (kk:Int) x.p,x.cp,(ng:Int),t.1,t.2.1⟩):=by
        unfold Hid;rw [HF.out];refine z0an HK5.out ?_
        rw [z9af (by rw [HGl.out,hng];omega) (by rw [HTt.out];exact ⟨HCe.out,by rw [HCv.out];exact h⟩),hfx,HGl.out,hng,HTt.out]
       obtain ⟨⟨x0,x1,x2,x3,x4,x5⟩,x6,x7⟩:=x
       simp only at e0 e1 e2 e3 e4 e5 e6 e7 HWh HRs
       obtain ⟨⟨q0,q1,q2,q3,q4,q5⟩,hq⟩:∃ z,wh (kk:Int) ⟨x0,x1,x2,x3,x4,x5⟩=z:=⟨_,rfl⟩
       rw [hq] at HWh HRs;unfold Pl.vs at HWh;have H6:=H5.arr #[.int .i64 x0,.int .i64 x1,.int .i64 x2,.int .i64 x3,.int .i64 x4,.int .i64 x5,.int .i64 x6,.int .i64 x7] 8 rfl (by omega) 40
       simp only [zqa,zqb,zqc] at H6;clear hR hx hfx hgt hq h hng H5;go_wp2_with fail;refine (HWh.out _).mono ?_
       rintro e w5 ⟨rfl,hb⟩;have H7:=(H6.go hb).arr #[.int .i64 q0,.int .i64 q1,.int .i64 q2,.int .i64 q3,.int .i64 q4,.int .i64 q5] 6 rfl (by omega) 38
       simp only [zqa,zqb,zqc] at H7;clear H6 hb HWh y0 e0 e1 e2 e3 e4 e5 e6 e7;obtain ⟨p0,p1,p2,p3,p4,p5⟩:=zc6 (H7.row (O.length+6) (zk rfl));have x6c:=(H7.row (O.length+5) (zk rfl)).cellAt 6 (by decide)
       have c0:=H7.p0 (O.length+4) (zk rfl)
       have c1:=H7.p1 (O.length+4) (zk rfl)
       obtain ⟨v0,v1,v2,v3,v4,v5,v6,v7,v8,v9,v10⟩:=zc11 (H7.row (O.length+2) (zk rfl));obtain ⟨f0,f1,f2,f3,f4,f5,f6,f7,f8,f9,f10⟩:=zf11 (H7.row (O.length+2) (zk rfl));have H8:=z9w H7 (O.length+2) (zk rfl) (.int .i64 kk) (.int .i64 q0) (.int .i64 q1) (.int .i64 q2) (.int .i64 q3) (.int .i64 q4) (.int .i64 q5) (.int .i64 x6) (.int .i64 ng) (.slice B1 n1 d1) (.slice B2 n2 d2)
       rw [z0o] at H8;simp only [zqe,zqd] at H8;obtain ⟨z0,z1,z2,z3,z4,z5,z6,z7,z8,z9,z10⟩:=zc11 (H8.row (O.length+2) (zk rfl));have HE:=zh H8.fewO;clear H7 H8;go_wp2_with fail;refine bodyPost_ret (v:=.agg #[.int .i64 kk,.int .i64 q0,.int .i64 q1,.int .i64 q2,.int .i64 q3,.int .i64 q4,.int .i64 q5,.int .i64 x6,.int .i64 ng,.slice B1 n1 d1,.slice B2 n2 d2]) (by simp [results,Tryz.results35,go_sem,z0,z1,z2,z3,z4,z5,z6,z7,z8,z9,z10]) rfl ?_
       rw [HRs.out];exact ⟨B1,n1,d1,B2,n2,d2,rfl,by rw [zqa];exact HE.out,fun _=>HFq.out⟩
     ·have g1:(ce == 0)=false:=z1n hc
      have g2:(ce != 0)=true:=by rw [bne,g1];rfl
      have HN:Hid (jud ⟨so,ch,ra,ba,ro,co⟩ p q l=z7y ⟨so,ch,ra,ba,ro,co⟩ p q l (kk+1) (6 - (kk+1))):=by
       unfold Hid;rw [HF.out];exact z3p HK5.out (z0ao (by rw [HTt.out];rw [HCe.out];omega))
      have HE:Hid (Ow w0 w4 g M L (O++[(⟨some ⟨w.heap.size,0,none⟩,6,6,33,[.int .i64 so,.int .i64 ch,.int .i64 ra,.int .i64 ba,.int .i64 ro,.int .i64 co]⟩:Rw),Rw.pair (w.heap.size+1) 27 (.slice A n c) (.slice A2 m c2),(⟨some ⟨w.heap.size+1+1,0,none⟩,11,11,42,[.int .i64 0,.int .i64 0,.int .i64 0,.int .i64 0,.int .i64 0,.int .i64 0,.int .i64 0,.int .i64 0,.int .i64 0,.slice none 0 0,.slice none 0 0]⟩:Rw)])):=(Ow.fewO (O:=O++[(⟨some ⟨w.heap.size,0,none⟩,6,6,33,[.int .i64 so,.int .i64 ch,.int .i64 ra,.int .i64 ba,.int .i64 ro,.int .i64 co]⟩:Rw),Rw.pair (w.heap.size+1) 27 (.slice A n c) (.slice A2 m c2),(⟨some ⟨w.heap.size+1+1,0,none⟩,11,11,42,[.int .i64 0,.int .i64 0,.int .i64 0,.int .i64 0,.int .i64 0,.int .i64 0,.int .i64 0,.int .i64 0,.int .i64 0,.slice none 0 0,.slice none 0 0]⟩:Rw)]) (by simpa only [zqa,zqb,zqc] using H5)).less (fun o ho=>List.mem_append_left _ ho)
      clear H5;go_wp2_with fail;go_roundw
      case rel=>exact ⟨kk+1,by omega,Nat.succ_le_succ HK5.out,rfl,HE,HN⟩
      case measure=>
       have:=HK5.out
       simp [intOf]
       omega
    ·have g1:(er == 0)=false:=z1n he
     have g2:(er != 0)=true:=by rw [bne,g1];rfl
     have HN:Hid (jud ⟨so,ch,ra,ba,ro,co⟩ p q l=z7y ⟨so,ch,ra,ba,ro,co⟩ p q l (kk+1) (6 - (kk+1))):=by
      unfold Hid;rw [HF.out];exact z3p HK5.out (z0ao (by rw [HTt.out];exact fun h=>z7bp (p:=p) (q:=q) (by rw [HTt.out,HEr.out];exact he) (by rw [HTt.out];exact h.1)))
     have HE:Hid (Ow w0 w4 g M L (O++[(⟨some ⟨w.heap.size,0,none⟩,6,6,33,[.int .i64 so,.int .i64 ch,.int .i64 ra,.int .i64 ba,.int .i64 ro,.int .i64 co]⟩:Rw),Rw.pair (w.heap.size+1) 27 (.slice A n c) (.slice A2 m c2),(⟨some ⟨w.heap.size+1+1,0,none⟩,11,11,42,[.int .i64 0,.int .i64 0,.int .i64 0,.int .i64 0,.int .i64 0,.int .i64 0,.int .i64 0,.int .i64 0,.int .i64 0,.slice none 0 0,.slice none 0 0]⟩:Rw)])):=(Ow.fewO (O:=O++[(⟨some ⟨w.heap.size,0,none⟩,6,6,33,[.int .i64 so,.int .i64 ch,.int .i64 ra,.int .i64 ba,.int .i64 ro,.int .i64 co]⟩:Rw),Rw.pair (w.heap.size+1) 27 (.slice A n c) (.slice A2 m c2),(⟨some ⟨w.heap.size+1+1,0,none⟩,11,11,42,[.int .i64 0,.int .i64 0,.int .i64 0,.int .i64 0,.int .i64 0,.int .i64 0,.int .i64 0,.int .i64 0,.int .i64 0,.slice none 0 0,.slice none 0 0]⟩:Rw)]) (by simpa only [zqa,zqb,zqc] using H5)).less (fun o ho=>List.mem_append_left _ ho)
     clear H5;go_wp2_with fail;go_roundw
     case rel=>exact ⟨kk+1,by omega,Nat.succ_le_succ HK5.out,rfl,HE,HN⟩
     case measure=>
      have:=HK5.out
      simp [intOf]
      omega
theorem z9bb {w0 w:World}{g:Option Nat}{M:List (Nat×Value)}{L:List Ob}{O:List Rw}{A A2 A3:Option Addr}{n c m c2 n3 c3 e3:Nat}{p q:List Int}{l:List Sn}(s:Pl)(hs:shV s)(h:Ow w0 w g M L O)(i j k:Nat)(hi:L[i]?=some ⟨A,n,c,z0p p⟩)(hj:L[j]?=some ⟨A2,m,c2,z0p q⟩)(hk:L[k]?=some ⟨A3,n3*8,e3,fl l⟩)(hn3:n3<=40)(ht:Tab w0):
  Calls Tryz.prog 35 #[.agg s.vs,.agg #[.slice A n c,.slice A2 m c2],.slice A3 n3 c3] w (VdR w0 g M L O (jud s p q l)):=
 (z7at s hs h i j k hi hj hk hn3 ht).mono fun e w' ⟨A1,n1,c1,A2,n2,c2,he,ho,_⟩=>⟨A1,n1,c1,A2,n2,c2,he,ho⟩
theorem z0co {w0 w:World}{g:Option Nat}{M:List (Nat×Value)}{L:List Ob}{O:List Rw}(h:Ow w0 w g M L O):
  Calls Tryz.prog 68 #[] w (VdR w0 g M L O vd0):=by
 have H0:=h.arr #[.int .i64 0,.int .i64 0,.int .i64 0,.int .i64 0,.int .i64 0,.int .i64 0,.int .i64 0,.int .i64 0,.int .i64 0,.slice none 0 0,.slice none 0 0] 11 rfl (by omega) 42
 have HC:=zh (z7ag H0 1 1 (by omega) (by omega))
 rw [of11] at HC;clear h H0;go_enter Tryz.func68,Tryz.ntmps68
 go_wp2_with fail;refine HC.out.mono ?_;rintro e w3 ⟨B1,n1,d1,B2,n2,d2,rfl,G⟩;have H7:=G.pair (.slice B1 n1 d1) (.slice B2 n2 d2) 27
 simp only [zqa,zqb,zqc] at H7;clear HC G;have c0:=H7.p0 (O.length+1) (zk rfl)
 have c1:=H7.p1 (O.length+1) (zk rfl)
 obtain ⟨v0,v1,v2,v3,v4,v5,v6,v7,v8,v9,v10⟩:=zc11 (H7.row (O.length+0) (zk rfl));obtain ⟨f0,f1,f2,f3,f4,f5,f6,f7,f8,f9,f10⟩:=zf11 (H7.row (O.length+0) (zk rfl));have H8:=z9w H7 (O.length+0) (zk rfl) (.int .i64 0) (.int .i64 0) (.int .i64 0) (.int .i64 0) (.int .i64 0) (.int .i64 0) (.int .i64 0) (.int .i64 0) (.int .i64 0) (.slice B1 n1 d1) (.slice B2 n2 d2)
 rw [z0o] at H8;simp only [zqd] at H8;obtain ⟨z0,z1,z2,z3,z4,z5,z6,z7,z8,z9,z10⟩:=zc11 (H8.row (O.length+0) (zk rfl));have HE:=zh H8.fewO;clear H7 H8;go_wp2_with fail;refine bodyPost_ret (v:=.agg #[.int .i64 0,.int .i64 0,.int .i64 0,.int .i64 0,.int .i64 0,.int .i64 0,.int .i64 0,.int .i64 0,.int .i64 0,.slice B1 n1 d1,.slice B2 n2 d2]) (by simp [results,Tryz.results68,go_sem,z0,z1,z2,z3,z4,z5,z6,z7,z8,z9,z10]) rfl ?_
 exact ⟨B1,n1,d1,B2,n2,d2,rfl,by rw [zqa];exact HE.out⟩
structure VjK (w0:World)(g:Option Nat)(M:List (Nat×Value))(LL:List Ob)(OO:List Rw)(vb vi sb cb kk ng cg:Nat)(Ag B1:Option Addr)(n1 d1:Nat)(B2:Option Addr)(n2 d2:Nat)(x0 x1 x2 x3 x4 x5 x6 x7 q0 q1 q2 q3 q4 q5:Int)(Ld:Nat->Bool)(u0 u1 u2 u3 u4 u5 u6 u7 u8 u9 u10:Value)(W:World):Prop where
 ow:Ow w0 W g M LL (if Ld 11=true then OO.set vi (⟨some ⟨vb,0,none⟩,11,11,42,[.int .i64 kk,.int .i64 q0,.int .i64 q1,.int .i64 q2,.int .i64 q3,.int .i64 q4,.int .i64 q5,.int .i64 x6,.int .i64 ng,.slice B1 n1 d1,.slice B2 n2 d2]⟩:Rw) else OO)
 h0:Ld 0=true->u0=.int .i64 kk
 h1:Ld 1=true->u1=.int .i64 kk
 h2:Ld 2=true->u2=.pointer (some ⟨sb,0,none⟩)
 h3:Ld 3=true->u3=.agg #[.int .i64 x0,.int .i64 x1,.int .i64 x2,.int .i64 x3,.int .i64 x4,.int .i64 x5]
 h4:Ld 4=true->u4=.agg #[.int .i64 q0,.int .i64 q1,.int .i64 q2,.int .i64 q3,.int .i64 q4,.int .i64 q5]
 h5:Ld 5=true->u5=.pointer (some ⟨sb,6,none⟩)
 h6:Ld 6=true->u6=.int .i64 x6
 h7:Ld 7=true->u7=.slice Ag ng cg
 h8:Ld 8=true->u8=.int .i64 ng
 h9:Ld 9=true->u9=.agg #[.slice B1 n1 d1,.slice B2 n2 d2]
 h10:Ld 10=true->u10=.agg #[.int .i64 kk,.int .i64 q0,.int .i64 q1,.int .i64 q2,.int .i64 q3,.int .i64 q4,.int .i64 q5,.int .i64 x6,.int .i64 ng,.slice B1 n1 d1,.slice B2 n2 d2]
inductive VjI (w0:World)(g:Option Nat)(M:List (Nat×Value))(LL:List Ob)(OO:List Rw)(vb vi sb cb kk ng cg:Nat)(Ag B1:Option Addr)(n1 d1:Nat)(B2:Option Addr)(n2 d2:Nat)(x0 x1 x2 x3 x4 x5 x6 x7 q0 q1 q2 q3 q4 q5:Int)(A0:Act)(Ld:Nat->Bool)(a:Act)(W:World):Prop
 | m {u0 u1 u2 u3 u4 u5 u6 u7 u8 u9 u10:Value}(k:VjK w0 g M LL OO vb vi sb cb kk ng cg Ag B1 n1 d1 B2 n2 d2 x0 x1 x2 x3 x4 x5 x6 x7 q0 q1 q2 q3 q4 q5 Ld u0 u1 u2 u3 u4 u5 u6 u7 u8 u9 u10 W)(h:a=(((((((((((A0.put (some 53) u0).put (some 54) u1).put (some 55) u2).put (some 56) u3).put (some 57) u4).put (some 58) u5).put (some 59) u6).put (some 60) u7).put (some 61) u8).put (some 62) u9).put (some 63) u10):=by simp only [Act.put,zT,zZ,zS])
theorem z3as {OO:List Rw}{b:Bool}{vi si:Nat}{R S:Rw}(hne:vi≠si)(h:OO[si]?=some S):(if b=true then OO.set vi R else OO)[si]?=some S:=by
 split
 ·rw [zqf hne];exact h
 ·exact h
end Go.Proofs.YtpmofjomadibmaaGreatDoor
