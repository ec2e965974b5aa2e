/- Tc Tj Tk Tl -/
import Derived.Test.YtpmofjomadibmaaGreatDoorU15
import Derived.Laws.Tables
namespace Go.Proofs.YtpmofjomadibmaaGreatDoor
set_option maxHeartbeats 16000000
open Go.RowKit Go.Sort
set_option linter.unusedVariables false
set_option maxRecDepth 100000
def GN (L:Nat->Bool)(k:Nat)(u:Value)(X:Nat)(Ls:List Ob):Prop:=
 L k=true->∃ (t:Nat) (A:Option Addr) (n c:Nat),u=.agg #[.slice A n c]/\Ls[t]?=some ⟨A,n,c,z0c (Na.dig X)⟩
theorem GN.more {L:Nat->Bool}{k:Nat}{u:Value}{X:Nat}{Ls l:List Ob}(h:GN L k u X Ls):GN L k u X (Ls++l):=fun e=>by
 obtain ⟨t,B,m,d,h1,h2⟩:=h e
 exact ⟨t,B,m,d,h1,by rw [zqn (z0d h2)];exact h2⟩
theorem GN.new (L:Nat->Bool)(k:Nat)(A:Option Addr)(n c X:Nat)(Ls:List Ob):GN L k (.agg #[.slice A n c]) X (Ls++[⟨A,n,c,z0c (Na.dig X)⟩]):=fun _=>⟨Ls.length,A,n,c,rfl,by simp⟩
def GV (L:Nat->Bool)(k:Nat)(u:Value)(X:Nat)(Ls:List Ob):Prop:=
 L k=true->∃ (t:Nat) (A:Option Addr) (n c:Nat),u=.slice A n c/\Ls[t]?=some ⟨A,n,c,z0c (Na.dig X)⟩
theorem GV.more {L:Nat->Bool}{k:Nat}{u:Value}{X:Nat}{Ls l:List Ob}(h:GV L k u X Ls):GV L k u X (Ls++l):=fun e=>by
 obtain ⟨t,B,m,d,h1,h2⟩:=h e
 exact ⟨t,B,m,d,h1,by rw [zqn (z0d h2)];exact h2⟩
def GL (L:Nat->Bool)(k:Nat)(u:Value)(xs:List Nat)(m:Nat)(LL Ls:List Ob):Prop:=
 L k=true->∃ (t:Nat) (A:Option Addr) (vs:List Value),u=.slice A m m/\Ls[t]?=some ⟨A,m,m,vs⟩/\Nums (LL++Ls) vs xs
theorem Nums.more {L l:List Ob}{vs:List Value}{xs:List Nat}(h:Nums L vs xs):Nums (L++l) vs xs:=fun k x hx=>by
 obtain ⟨A,n,c,t,h1,h2⟩:=h k x hx
 exact ⟨A,n,c,t,h1,by rw [zqn (z0d h2)];exact h2⟩
theorem GL.more {L:Nat->Bool}{k:Nat}{u:Value}{xs:List Nat}{m:Nat}{LL Ls l:List Ob}(h:GL L k u xs m LL Ls):GL L k u xs m LL (Ls++l):=fun e=>by
 obtain ⟨t,A,vs,h1,h2,h3⟩:=h e
 exact ⟨t,A,vs,h1,by rw [zqn (z0d h2)];exact h2,by rw [<- zqa];exact h3.more⟩
theorem GL.new (L:Nat->Bool)(k:Nat)(A:Option Addr)(m:Nat)(vs:List Value)(LL Ls:List Ob){xs:List Nat}(h:Nums (LL++Ls) vs xs):GL L k (.slice A m m) xs m LL (Ls++[⟨A,m,m,vs⟩]):=fun _=>⟨Ls.length,A,vs,rfl,by simp,by rw [<- zqa];exact h.more⟩
theorem Nums.three {L:List Ob}{A1 A2 A3:Option Addr}{n1 c1 n2 c2 n3 c3 x1 x2 x3 t1 t2 t3:Nat}(h1:L[t1]?=some ⟨A1,n1,c1,z0c (Na.dig x1)⟩)(h2:L[t2]?=some ⟨A2,n2,c2,z0c (Na.dig x2)⟩)(h3:L[t3]?=some ⟨A3,n3,c3,z0c (Na.dig x3)⟩):Nums L [.slice A1 n1 c1,.slice A2 n2 c2,.slice A3 n3 c3] [x1,x2,x3]:=fun k x hx=>by
  match k,hx with
  | 0,hx=>
    obtain rfl:x1=x:=by simpa using hx
    exact ⟨A1,n1,c1,t1,rfl,h1⟩
  | 1,hx=>
    obtain rfl:x2=x:=by simpa using hx
    exact ⟨A2,n2,c2,t2,rfl,h2⟩
  | 2,hx=>
    obtain rfl:x3=x:=by simpa using hx
    exact ⟨A3,n3,c3,t3,rfl,h3⟩
theorem Nums.two {L:List Ob}{A1 A2:Option Addr}{n1 c1 n2 c2 x1 x2 t1 t2:Nat}(h1:L[t1]?=some ⟨A1,n1,c1,z0c (Na.dig x1)⟩)(h2:L[t2]?=some ⟨A2,n2,c2,z0c (Na.dig x2)⟩):Nums L [.slice A1 n1 c1,.slice A2 n2 c2] [x1,x2]:=fun k x hx=>by
  match k,hx with
  | 0,hx=>
    obtain rfl:x1=x:=by simpa using hx
    exact ⟨A1,n1,c1,t1,rfl,h1⟩
  | 1,hx=>
    obtain rfl:x2=x:=by simpa using hx
    exact ⟨A2,n2,c2,t2,rfl,h2⟩
theorem two_top {k:Nat}(h:k<4800):2 ^ k<Na.top:=by
 have h1:(2 ^ 24) ^ 200<=Na.top:=Nat.pow_le_pow_left (by decide) 200
 rw [<- Nat.pow_mul] at h1;exact zqv (Nat.pow_lt_pow_right (by omega) (by omega)) h1
theorem z3y {x k:Nat}(hx:x<=2 ^ k)(h:k<4800):x<Na.top:=zqu hx (two_top h)
theorem z1al {x a:Nat}(hx:x<=2 ^ a)(j:Nat):x ^ j<=2 ^ (a*j):=by
 rw [Nat.pow_mul];exact Nat.pow_le_pow_left hx j
theorem z6e {x y a b:Nat}(hx:x<=2 ^ a)(hy:y<=2 ^ b):x*y<=2 ^ (a+b):=by
 rw [Nat.pow_add];exact Nat.mul_le_mul hx hy
theorem z3bj {x a b:Nat}(hx:x<=2 ^ a)(h:a<=b):x<=2 ^ b:=zqq hx (Nat.pow_le_pow_right (by omega) h)
theorem bin_two (n k:Nat):Na.bin n k<=2 ^ n:=by
 induction n generalizing k with
 | zero=>
  cases k with
  | zero=>exact zqj _
  | succ k=>exact zqr _
 | succ n ih=>
  cases k with
  | zero=>rw [Na.bin_zero];exact Nat.one_le_two_pow
  | succ k=>
   rw [Na.bin_succ,Nat.pow_succ];have h1:=ih k
   have h2:=ih (k+1)
   omega
section
variable {w0 w w':World}{g:Option Nat}{M M2:List (Nat×Value)}{L:List Ob}{O:List Rw}{A A2 A3 A4:Option Addr}{b n c m c2 n3 c3 n4 c4 x y:Nat}{p q r s:List Int}
theorem z0bv {vs:List Value}{a b d:Nat}(h:Ow w0 w g M L O)(i:Nat)(hi:L[i]?=some ⟨A,3,3,vs⟩)(hN:Nums L vs [a,b,d])(ha:a<Na.top)(hb:b<Na.top)(hd:d<Na.top)(h1:a*b<Na.top)(h2:a*(b*d)<Na.top):
  Calls Tryz.prog 124 #[.slice A 3 3] w (GotU w0 g M L O (Na.dig (a*(b*d)))):=by
 have:=z4by h i hi [a,b,d] rfl hN (fun x hx=>by
  simp only [List.mem_cons,List.mem_nil_iff,or_false] at hx;rcases hx with rfl|rfl|rfl <;> assumption) (fun k hk=>by
  have hk':k=0∨k=1∨k=2∨k=3:=by omega
  have ht:1<Na.top:=zqv (by omega) (two_top (k:=1) (by omega))
  rcases hk' with rfl|rfl|rfl|rfl
  ·exact ht
  ·show a*1<Na.top
   rwa [Nat.mul_one]
  ·show a*(b*1)<Na.top
   rwa [Nat.mul_one]
  ·show a*(b*(d*1))<Na.top
   rwa [Nat.mul_one])
 rwa [show pr [a,b,d]=a*(b*d) by show a*(b*(d*1))=_;rw [Nat.mul_one]] at this
end
theorem z9bk:(Tryz.prog.info? 73).map (fun i=>(i.zero,i.size,i.bytes))=some (some (.slice none 0 0),1,24):=by kernel_rfl
theorem z9bl:(Tryz.prog.info? 25).map (fun i=>(i.zero,i.size,i.bytes))=some (some (.agg #[.slice none 0 0]),1,24):=by kernel_rfl
theorem z8as (a b:Int)(n:Nat)(ha:a=(n:Int))(hb:b=(n:Int))(h:n<=1000)(w:World):
  (Instr.makeSlice 75 (.int .i64 a) (.int .i64 b)).run Tryz.prog w=.ok (.slice (some ⟨w.heap.size,0,none⟩) n n) (w.alloc (.cells (madeCells #[.slice none 0 0] n) 73)):=by
 obtain ⟨i0,hi,hz0,hz1,hz2⟩:=info_parts z9bk
 exact z1h _ _ i0 (.slice none 0 0) Tryz.underlying75 hi hz0 hz1 .i64 .i64 a b n n ha hb (zqj _) (by rw [hz2];omega) (by omega) w
theorem z8at (a b:Int)(n:Nat)(ha:a=(n:Int))(hb:b=(n:Int))(h:n<=1000)(w:World):
  (Instr.makeSlice 73 (.int .i64 a) (.int .i64 b)).run Tryz.prog w=.ok (.slice (some ⟨w.heap.size,0,none⟩) n n) (w.alloc (.cells (madeCells #[.slice none 0 0] n) 25)):=by
 obtain ⟨i0,hi,hz0,hz1,hz2⟩:=info_parts z9bl
 exact z1h _ _ i0 (.agg #[.slice none 0 0]) Tryz.underlying73 hi hz0 hz1 .i64 .i64 a b n n ha hb (zqj _) (by rw [hz2];omega) (by omega) w
def NumIn (L:List Ob)(v:Value)(x:Nat):Prop:=∃ (A:Option Addr) (n c t:Nat),v=.slice A n c/\L[t]?=some ⟨A,n,c,z0c (Na.dig x)⟩
theorem NumIn.more {L l:List Ob}{v:Value}{x:Nat}(h:NumIn L v x):NumIn (L++l) v x:=by
 obtain ⟨A,n,c,t,h1,h2⟩:=h;exact ⟨A,n,c,t,h1,by rw [zqn (z0d h2)];exact h2⟩
def TRow (L:List Ob)(v:Value)(i:Nat):Prop:=∃ (ad:Addr) (t:Nat) (vs:List Value),v=.slice (some ad) (i+1) (i+1)/\L[t]?=some ⟨some ad,i+1,i+1,vs⟩/\∀ k,k<=i->∃ u,vs[k]?=some u/\NumIn L u (Na.bin i k)
theorem TRow.more {L l:List Ob}{v:Value}{i:Nat}(h:TRow L v i):TRow (L++l) v i:=by
 obtain ⟨ad,t,vs,h1,h2,h3⟩:=h;exact ⟨ad,t,vs,h1,by rw [zqn (z0d h2)];exact h2,fun k hk=>by
  obtain ⟨u,a,b⟩:=h3 k hk
  exact ⟨u,a,b.more⟩⟩
def TRows (L:List Ob)(vs:List Value)(m:Nat):Prop:=∀ i,i<m->∃ u,vs[i]?=some u/\TRow L u i
theorem TRows.more {L l:List Ob}{vs:List Value}{m:Nat}(h:TRows L vs m):TRows (L++l) vs m:=fun i hi=>by
 obtain ⟨u,a,b⟩:=h i hi
 exact ⟨u,a,b.more⟩
def TSets (L:List Ob)(A:Option Addr)(m:Nat):Prop:=∃ (ad:Addr) (t:Nat) (vs:List Value),A=some ad/\L[t]?=some ⟨some ad,m+1,m+1,vs⟩/\TRows L vs (m+1)
def TFst (L:List Ob)(vs:List Value)(i k:Nat):Prop:=∀ q,q<k->∃ u,vs[q]?=some u/\NumIn L u (Na.bin i q)
theorem TFst.more {L l:List Ob}{vs:List Value}{i k:Nat}(h:TFst L vs i k):TFst (L++l) vs i k:=fun q hq=>by
 obtain ⟨u,a,b⟩:=h q hq
 exact ⟨u,a,b.more⟩
theorem TFst.set {L l:List Ob}{xs:List Value}{i k:Nat}{v:Value}(h:TFst L xs i k)(hk:k<xs.length)(hv:NumIn (L++l) v (Na.bin i k)):TFst (L++l) (xs.set k v) i (k+1):=fun q hq=>by
 rcases zqi q k with h1|h1
 ·obtain ⟨u,a,b⟩:=h q h1
  exact ⟨u,by rw [zqf (by omega)];exact a,b.more⟩
 ·obtain rfl:q=k:=by omega
  exact ⟨v,List.getElem?_set_self hk,hv⟩
theorem Sl.c {w:World}{B:Nat}{ad:Addr}{vs:List Value}(h:Sl w B (some ad) vs){k:Nat}{v:Value}(hv:vs[k]?=some v):w.cell? (ad.add k)=some v:=by
 obtain ⟨h1,h2⟩:=List.getElem?_eq_some_iff.1 hv
 obtain ⟨ad',e,_,hc⟩:=h.at_ h1
 obtain rfl:=zqk e
 rw [hc,h2]
def RPas (w0:World)(g:Option Nat)(M:List (Nat×Value))(L:List Ob)(O:List Rw)(ob m:Nat)(v:Value)(wr:World):Prop:=
 ∃ (i:Nat) (vs:List Value) (Ls:List Ob),i<=m+1/\v=.int .i64 i/\Hid (vs.length=m+1/\TRows (L++Ls) vs i)/\Hid (Ow w0 wr g M (L++Ls) (O++[⟨some ⟨ob,0,none⟩,m+1,m+1,73,vs⟩]))
def RPin (w0:World)(g:Option Nat)(M:List (Nat×Value))(L:List Ob)(O:List Rw)(ob rb m i:Nat)(v:Value)(wr:World):Prop:=
 ∃ (k:Nat) (vs xs:List Value) (Ls:List Ob),k<=i+1/\v=.int .i64 k/\Hid (vs.length=m+1/\TRows (L++Ls) vs i/\xs.length=i+1/\TFst (L++Ls) xs i k/\vs[i]?=some (.slice (some ⟨rb,0,none⟩) (i+1) (i+1)))/\Hid (Ow w0 wr g M (L++Ls) (O++[⟨some ⟨ob,0,none⟩,m+1,m+1,73,vs⟩,⟨some ⟨rb,0,none⟩,i+1,i+1,25,xs⟩]))
section
variable {w0 w w':World}{g:Option Nat}{M M2:List (Nat×Value)}{L:List Ob}{O:List Rw}{A A2 A3 A4:Option Addr}{b n c m c2 n3 c3 n4 c4 x y:Nat}{p q r s:List Int}
theorem z2a (h:Ow w0 w g M L O){i:Nat}{b n c:Nat}{e:TypeId}{vs:List Value}(hi:O[i]?=some ⟨some ⟨b,0,none⟩,n,c,e,vs⟩){k:Nat}{v:Value}(hv:vs[k]?=some v)(hk:k<n*1):w.cell? ⟨b,k,none⟩=some v:=by
 exact ((h.own i _ hi).cellAt k hk).trans hv
theorem z7e {ob rb m i i1 k k1 t:Nat}{ad:Addr}{ys xs ws:List Value}{v u x1 x2:Value}{e1 e2:TypeId}(h:Ow w0 w g M L (O++[⟨some ⟨ob,0,none⟩,m+1,m+1,e1,ys⟩,⟨some ⟨rb,0,none⟩,i+1,i+1,e2,xs⟩]))(h1:ys[i]?=some v)(h2:ys[i1]?=some u)(ht:L[t]?=some ⟨some ad,i1+1,i1+1,ws⟩)(h3:ws[k1]?=some x1)(h4:ws[k]?=some x2)(hi:i<m+1)(hi1:i1<m+1):
  w.cell? ⟨ob,i,none⟩=some v/\w.cell? ⟨ob,i1,none⟩=some u/\w.cell? (ad.add k1)=some x1/\w.cell? (ad.add k)=some x2:=
 ⟨z2a h (i:=O.length+0) (zk rfl) h1 (by omega),z2a h (i:=O.length+0) (zk rfl) h2 (by omega),(h.sl ht).2.2.2.c h3,(h.sl ht).2.2.2.c h4⟩
theorem z5ba (h:Ow w0 w g M L O):Calls Tryz.prog 91 #[.int .i64 1] w (GotU w0 g M L O (Na.dig 1)):=t_of h 1 (by omega)
theorem z0bw (h:Ow w0 w g M L O)(m:Nat)(hm:m<=40):
  Calls Tryz.prog 90 #[.int .i64 m] w fun e w'=>∃ (A:Option Addr) (Ls:List Ob),e=.returned (.slice A (m+1) (m+1))/\Ow w0 w' g M (L++Ls) O/\TSets (L++Ls) A m:=by
 have hmk:=z8as ((m:Int)+1) ((m:Int)+1) (m+1) (by omega) (by omega) (by omega) w
 have H:=h.made 73 (.slice none 0 0) (m+1) (m+1) rfl (zqj _) (by unfold maxLen;omega)
 have HO:=zh H;clear h H;go_enter Tryz.func90,Tryz.ntmps90
 go_wp2_with fail;obtain ⟨ob,hob⟩:∃ r,w.heap.size=r:=⟨_,rfl⟩
 rw [hob] at HO
 try rw [hob]
 clear hmk;go_loopw [11] (fun v wr=>RPas w0 g M L O ob m v wr) (fun v _=>m+2 - (intOf v).toNat)
 case atStart=>exact ⟨0,_,[],by omega,rfl,⟨List.length_replicate ..,fun i hi=>absurd hi (by omega)⟩,by rw [List.append_nil];exact HO⟩
 case round=>
  clear HO;obtain ⟨i,vs,Ls,hi,rfl,HV,HO⟩:=hrel;rcases Nat.eq_or_lt_of_le hi with he|hlt
  ·subst he
   have hd:decide (((m+1:Nat):Int)<((m+1:Nat):Int))=false:=zn (by omega)
   have hd9:decide (((m+1:Nat):Int)<(m:Int)+1)=false:=zn (by omega)
   have hd2:decide (m+1<m+1)=false:=zn (by omega)
   go_wp2_with fail;have hk:=HO.out.keep (O.length+0) (zk rfl) (by omega)
   rw [z0o,zqd] at hk;have hr:=hk.fewO;rw [zqa] at hr;refine bodyPost_ret (v:=.slice (some ⟨ob,0,none⟩) (m+1) (m+1)) (by simp [results,Tryz.results90,go_sem]) rfl ?_
   refine ⟨some ⟨ob,0,none⟩,Ls++[⟨some ⟨ob,0,none⟩,m+1,m+1,vs⟩],rfl,hr,⟨ob,0,none⟩,L.length+Ls.length,vs,rfl,?_,?_⟩
   ·rw [<- zqa,<- zqm,zqo (zqj _),Nat.sub_self];rfl
   ·rw [<- zqa];exact TRows.more HV.out.2
  ·have hd:decide ((i:Int)<m+1)=true:=zt (by omega)
   have hd2:decide (i<m+1)=true:=zt (by omega)
   have hi40:i<=40:=by omega
   have hmk:=fun W=>z8at ((i:Int)+1) ((i:Int)+1) (i+1) (by omega) (by omega) (by omega) W
   have H:=HO.out.made 25 (.slice none 0 0) (i+1) (i+1) rfl (zqj _) (by unfold maxLen;omega)
   rw [zqa,zqb,zqc] at H;have hvi:vs[i]?=some (vs[i]'(by have:=HV.out.1;omega)):=zql _
   have co:=z2a H (i:=O.length+0) (zk rfl) hvi (by omega)
   have fo:=(H.own (O.length+0) _ (zk rfl)).frozenAt i
   go_wp2_with fail;have H2:=H.put (O.length+0) (zk rfl) i (.slice (some ⟨wr.heap.size,0,none⟩) (i+1) (i+1))
   rw [z0o,zqd] at H2;obtain ⟨rb,hrb⟩:∃ r,wr.heap.size=r:=⟨_,rfl⟩
   rw [hrb] at H2
   try rw [hrb]
   have HI2:=zh H2;have hm40:m<=40:=hm
   clear H H2 hmk hvi co fo HO;go_loopw [25] (fun v wr=>RPin w0 g M L O ob rb m i v wr) (fun v _=>i+2 - (intOf v).toNat)
   case atStart=>
    refine ⟨0,_,_,Ls,zqr _,rfl,⟨?_,?_,List.length_replicate ..,fun q hq=>absurd hq (by omega),?_⟩,HI2⟩
    ·rw [List.length_set];exact HV.out.1
    ·intro q hq;obtain ⟨u,a,b⟩:=HV.out.2 q hq
     exact ⟨u,by rw [zqf (by omega)];exact a,b⟩
    ·exact List.getElem?_set_self (by have:=HV.out.1;omega)
   case round=>
    clear HI2 HV;obtain ⟨k,ys,xs,Lt,hk,rfl,HV,HO⟩:=hrel;rcases Nat.eq_or_lt_of_le hk with he|hlt2
    ·subst he
     have hd3:decide (((i+1:Nat):Int)<(i:Int)+1)=false:=zn (by omega)
     have hd4:decide (((i+1:Nat):Int)<((i+1:Nat):Int))=false:=zn (by omega)
     have hd5:decide (i+1<i+1)=false:=zn (by omega)
     go_wp2_with fail;have hk2:=HO.out.keep (O.length+1) (zk rfl) (by omega)
     rw [z0o,zqe,zqd] at hk2;have hk3:=hk2.few (O.length+1)
     rw [List.take_append,zqp (by omega),Nat.add_sub_cancel_left,List.take_succ_cons,List.take_zero,zqa L] at hk3
     have HG:=zh hk3;have HW:Hid (ys.length=m+1/\TRows (L++(Lt++[(⟨some ⟨rb,0,none⟩,i+1,i+1,xs⟩:Ob)])) ys (i+1)):=by
      refine ⟨HV.out.1,fun q hq=>?_⟩
      rw [<- zqa];rcases zqi q i with h|h
      ·obtain ⟨u,a,b⟩:=HV.out.2.1 q h
       exact ⟨u,a,b.more⟩
      ·obtain rfl:q=i:=by omega
       exact ⟨_,HV.out.2.2.2.2,⟨rb,0,none⟩,(L++Lt).length+0,xs,rfl,by rw [z0b];rfl,fun z hz=>by
        obtain ⟨u,a,b⟩:=HV.out.2.2.2.1 z (by omega)
        exact ⟨u,a,b.more⟩⟩
     clear hk2 hk3 HO HV;go_roundw
     case rel=>exact ⟨i+1,ys,_,by omega,z0q (by omega),HW,HG⟩
     case measure=>simp [intOf];omega
    ·have hd3:decide ((k:Int)<i+1)=true:=zt (by omega)
     have hd4:decide (k<i+1)=true:=zt hlt2
     have hk40:k<=40:=by omega
     have HD:=zh HO.out.drew;have HA1:=zh (z5ba HD.out)
     have hyi:(ys)[i]?=some (.slice (some ⟨rb,0,none⟩) (i+1) (i+1)):=HV.out.2.2.2.2
     have HYI:=zh hyi;obtain ⟨xv,hxv⟩:∃ v,xs[k]?=some v:=⟨xs[k]'(by have:=HV.out.2.2.1;omega),zql _⟩
     have HXV:=zh hxv;clear HO hyi hxv;have hb1:(0:Int)<=(i:Int):=by omega
     have hb2:(i:Int)<=(m:Int):=by omega
     have hb3:(0:Int)<=(k:Int):=by omega
     have hb4:(k:Int)<=(i:Int):=by omega
     have hb5:(i:Int)<m+1:=by omega
     have hb6:(k:Int)<i+1:=by omega
     have hb7:i<m+1:=by omega
     have hb8:k<i+1:=by omega
     go_upto_region 9 with (fail)
     have c0:=z2a HD.out (i:=O.length+0) (zk rfl) HYI.out (by omega)
     go_region_held3 (fun W=>W.cell? ⟨ob,i,none⟩=some (.slice (some ⟨rb,0,none⟩) (i+1) (i+1))) (first|exact c0|exact z2a how (i:=O.length+0) (zk rfl) HYI.out (by omega)|exact z2a how2 (i:=O.length+0) (zk rfl) HYI.out (by omega)) ((go_at_call 91;(with_reducible refine HA1.out.mono ?_);rintro e v2 ⟨B1,m1,d1,rfl,how⟩;have z0:=z2a how (i:=O.length+1) (zk rfl) HXV.out (by omega);have zf:=(how.own (O.length+1) _ (zk rfl)).frozenAt k;have how2:=how.put (O.length+1) (zk rfl) k (.slice B1 m1 d1);rw [z0o,zqe,zqd] at how2))
     have HN:=zh how2;clear how how2 z0 zf c0 HA1 HD HXV;have HX1:Hid (xs.length=i+1/\k<xs.length):=⟨HV.out.2.2.1,by have:=HV.out.2.2.1;omega⟩
     have hcs:(0<k/\k<i)∨(k=0∨k=i):=by omega
     rcases hcs with ⟨hk0,hki⟩|hkk
     ·have q1:decide ((0:Int)<k)=true:=zt (by omega)
      have q2:decide (0<k)=true:=zt hk0
      have q3:decide ((k:Int)<i)=true:=zt (by omega)
      have q4:decide (k<i)=true:=zt hki
      obtain ⟨i1,hi1⟩:∃ z,i=z+1:=⟨i - 1,by omega⟩
      obtain ⟨k1,hk1⟩:∃ z,k=z+1:=⟨k - 1,by omega⟩
      obtain ⟨u,hu,ad,t,ws,rfl,ht,hnum⟩:=HV.out.2.1 i1 (by omega)
      obtain ⟨x1,hx1,X1,a1,b1,p1,rfl,hp1⟩:=hnum k1 (by omega)
      obtain ⟨x2,hx2,X2,a2,b2,p2,rfl,hp2⟩:=hnum k (by omega)
      have hsum:Na.bin i1 k1+Na.bin i1 k=Na.bin i k:=by rw [hi1,hk1,Na.bin_succ]
      have htop:∀ a b,a<=40->Na.bin a b<Na.top:=fun a b h=>z3y (bin_two a b) (by omega)
      have HC:=zh (z8bo HN.out.drew p1 p2 ((z0r _ _ (z0d hp1)).trans hp1) ((z0r _ _ (z0d hp2)).trans hp2) (htop _ _ (by omega)) (htop _ _ (by omega)) (by rw [hsum];exact htop _ _ (by omega)))
      rw [hsum] at HC;have HP:=zh (And.intro HYI.out (And.intro hu (And.intro ht (And.intro hx1 hx2))))
      have HD2:=zh HN.out.drew;have e1:((i:Int) - 1).toNat=i1:=by omega
      have e2:((k:Int) - 1).toNat=k1:=by omega
      have w1:IntKind.i64.wrap ((i:Int) - 1)=(i:Int) - 1:=IntWalk.i64_in _ (by omega)
      have w2:IntKind.i64.wrap ((k:Int) - 1)=(k:Int) - 1:=IntWalk.i64_in _ (by omega)
      have w3:(0:Int)<=(i:Int) - 1:=by omega
      have w4:(i:Int) - 1<(m:Int)+1:=by omega
      have w5:(0:Int)<=(k:Int) - 1:=by omega
      have w6:(k:Int) - 1<(i1:Int)+1:=by omega
      have x1:(1:Int)<=(i:Int):=by omega
      have x2:(i:Int)<=(m:Int)+1:=by omega
      have x3:(i:Int)<m+1+1:=by omega
      have x4:(1:Int)<=(k:Int):=by omega
      have x5:(k:Int)<=(i1:Int)+1:=by omega
      have x6:(k:Int)<i1+1+1:=by omega
      have x7:(0:Int)<i:=by omega
      have x8:1<=i:=by omega
      have x9:1<=k:=by omega
      have hc1:(0:Int)<=(i1:Int):=by omega
      have hc2:(i1:Int)<m+1:=by omega
      have hc3:(0:Int)<=(k1:Int):=by omega
      have hc4:(k1:Int)<i1+1:=by omega
      have hc5:(k:Int)<i1+1:=by omega
      have hc6:i1<m+1:=by omega
      have hc7:k1<i1+1:=by omega
      have hc8:k<i1+1:=by omega
      have HI1:=zh (And.intro hi1 hk1)
      clear hu ht hnum hx1 hx2 hp1 hp2 hsum htop hi1 hk1;go_upto_region 11 with (fail)
      have c4:=z7e HD2.out HP.out.1 HP.out.2.1 ((z0r _ _ (z0d HP.out.2.2.1)).trans HP.out.2.2.1) HP.out.2.2.2.1 HP.out.2.2.2.2 (by omega) (by omega)
      go_region_held3 (fun W=>W.cell? ⟨ob,i,none⟩=some (.slice (some ⟨rb,0,none⟩) (i+1) (i+1))/\W.cell? ⟨ob,i1,none⟩=some (.slice (some ad) (i1+1) (i1+1))/\W.cell? (ad.add k1)=some (.slice X1 a1 b1)/\W.cell? (ad.add k)=some (.slice X2 a2 b2)) (first|exact c4|exact z7e how HP.out.1 HP.out.2.1 ((z0r _ _ (by have:=z0d HP.out.2.2.1;rw [zqm];omega)).trans ((z0r _ _ (z0d HP.out.2.2.1)).trans HP.out.2.2.1)) HP.out.2.2.2.1 HP.out.2.2.2.2 (by omega) (by omega)|exact z7e how2 HP.out.1 HP.out.2.1 (by rw [<- zqa];exact (z0r _ _ (z0d HP.out.2.2.1)).trans HP.out.2.2.1) HP.out.2.2.2.1 HP.out.2.2.2.2 (by omega) (by omega)) ((go_at_call 123;(with_reducible refine HC.out.mono ?_);rintro e v3 ⟨B2,m2,d2,rfl,how⟩;have hz:=z2a how (i:=O.length+1) (zk rfl) (List.getElem?_set_self HX1.out.2) (by omega);have zf:=(how.own (O.length+1) _ (zk rfl)).frozenAt k;have how2:=how.put (O.length+1) (zk rfl) k (.slice B2 m2 d2);rw [z0o,zqe,zqd,List.set_set,zqa,zqa] at how2))
      have HG:=zh how2;have HW:Hid (ys.length=m+1/\TRows (L++(Lt++([(⟨B1,m1,d1,z0c (Na.dig 1)⟩:Ob)]++[(⟨B2,m2,d2,z0c (Na.dig (Na.bin i k))⟩:Ob)]))) ys i/\(xs.set k (.slice B2 m2 d2)).length=i+1/\TFst (L++(Lt++([(⟨B1,m1,d1,z0c (Na.dig 1)⟩:Ob)]++[(⟨B2,m2,d2,z0c (Na.dig (Na.bin i k))⟩:Ob)]))) (xs.set k (.slice B2 m2 d2)) i (k+1)/\ys[i]?=some (.slice (some ⟨rb,0,none⟩) (i+1) (i+1))):=by
       refine ⟨HV.out.1,by rw [<- zqa];exact TRows.more HV.out.2.1,by rw [List.length_set];exact HX1.out.1,?_,HYI.out⟩
       rw [<- zqa];exact TFst.set HV.out.2.2.2.1 HX1.out.2 ⟨B2,m2,d2,(L++Lt).length+1,rfl,by rw [z0b];rfl⟩
      clear how how2 hz zf c4 HC HD2 HN HP HV HYI e1 e2 w1 w2 w3 w4 w5 w6 x1 x2 x3 x4 x5 x6 x7 x8 x9;go_wp2_with fail;go_roundw
      case rel=>exact ⟨k+1,ys,_,_,by omega,z0q (by omega),HW,HG⟩
      case measure=>simp [intOf];omega
     ·have hb1k:Na.bin i k=1:=by
       rcases hkk with rfl|rfl
       ·exact Na.bin_zero _
       ·exact Na.bin_self _
      have HW:Hid (ys.length=m+1/\TRows (L++(Lt++[(⟨B1,m1,d1,z0c (Na.dig 1)⟩:Ob)])) ys i/\(xs.set k (.slice B1 m1 d1)).length=i+1/\TFst (L++(Lt++[(⟨B1,m1,d1,z0c (Na.dig 1)⟩:Ob)])) (xs.set k (.slice B1 m1 d1)) i (k+1)/\ys[i]?=some (.slice (some ⟨rb,0,none⟩) (i+1) (i+1))):=by
       refine ⟨HV.out.1,by rw [<- zqa];exact TRows.more HV.out.2.1,by rw [List.length_set];exact HX1.out.1,?_,HYI.out⟩
       rw [<- zqa];exact TFst.set HV.out.2.2.2.1 HX1.out.2 (by rw [hb1k];exact ⟨B1,m1,d1,(L++Lt).length+0,rfl,by rw [z0b];rfl⟩)
      have HG2:=HN.out;rw [zqa L] at HG2;have HG:=zh HG2;have hq:(decide ((0:Int)<k)=false/\decide (0<k)=false)∨(decide ((0:Int)<k)=true/\decide (0<k)=true/\decide ((k:Int)<i)=false/\decide (k<i)=false):=by
       rcases zqh k with h|h
       ·exact .inl ⟨zn (by omega),zn (by omega)⟩
       ·exact .inr ⟨zt (by omega),zt h,zn (by omega),zn (by omega)⟩
      clear HG2 HN HV HYI hkk hb1k;rcases hq with ⟨q1,q2⟩|⟨q1,q2,q3,q4⟩
      ·go_wp2_with fail;go_roundw
       case rel=>exact ⟨k+1,ys,_,_,by omega,z0q (by omega),HW,HG⟩
       case measure=>simp [intOf];omega
      ·go_wp2_with fail;go_roundw
       case rel=>exact ⟨k+1,ys,_,_,by omega,z0q (by omega),HW,HG⟩
       case measure=>simp [intOf];omega
end
def cvS (f q:Nat->Nat)(i:Nat):Nat->Nat
 | 0=>0
 | c+1=>cvS f q i c+Na.bin i c*(f c*q (i - c))
def conv (f q:Nat->Nat)(i:Nat):Nat:=cvS f q i (i+1)
def Ways (L:List Ob)(vs:List Value)(n:Nat)(f:Nat->Nat):Prop:=vs.length=41/\∀ i,i<=n->∃ u,vs[i]?=some u/\NumIn L u (f i)
theorem Ways.more {L l:List Ob}{vs:List Value}{n:Nat}{f:Nat->Nat}(h:Ways L vs n f):Ways (L++l) vs n f:=⟨h.1,fun i hi=>by
 obtain ⟨u,a,b⟩:=h.2 i hi
 exact ⟨u,a,b.more⟩⟩
theorem z9aq {f q:Nat->Nat}{i n e:Nat}(hf:∀ k,k<=n->f k<=2 ^ e)(hq:∀ k,k<=n->q k<=2 ^ e)(hi:i<=n)(hn:n<=40):∀ c,c<=i+1->cvS f q i c<=c*2 ^ (40+(e+e))
 | 0,_=>zqr _
 | c+1,h=>by
  have h1:=z9aq (f:=f) (q:=q) hf hq hi hn c (by omega)
  have h2:Na.bin i c*(f c*q (i - c))<=2 ^ (40+(e+e)):=z6e (z3bj (bin_two i c) (by omega)) (z6e (hf c (by omega)) (hq (i - c) (by omega)))
  show cvS f q i c+Na.bin i c*(f c*q (i - c))<=_
  rw [Nat.succ_mul];omega
structure CvK (f q:Nat->Nat)(i k s:Nat):Prop where
 st:s<Na.top
 b1:Na.bin i k<Na.top
 b2:f k<Na.top
 b3:q (i - k)<Na.top
 b4:Na.bin i k*f k<Na.top
 b5:Na.bin i k*(f k*q (i - k))<Na.top
 bs:s+Na.bin i k*(f k*q (i - k))<Na.top
theorem z4bl {f q:Nat->Nat}{i k n e:Nat}(he:e<=1000)(hf:∀ k,k<=n->f k<=2 ^ e)(hq:∀ k,k<=n->q k<=2 ^ e)(hi:i<=n)(hn:n<=40)(hk:k<=i):CvK f q i k (cvS f q i k):=by
 have h1:=z9aq (f:=f) (q:=q) hf hq hi hn (k+1) (by omega)
 have h0:cvS f q i (k+1)=cvS f q i k+Na.bin i k*(f k*q (i - k)):=rfl
 have h2:cvS f q i (k+1)<=2 ^ (6+(40+(e+e))):=by
  rw [Nat.pow_add];exact zqq h1 (Nat.mul_le_mul_right _ (by show k+1<=64;omega))
 have h3:cvS f q i (k+1)<Na.top:=z3y h2 (by omega)
 have hb:Na.bin i k<=2 ^ 40:=z3bj (bin_two i k) (by omega)
 exact ⟨by omega,z3y hb (by omega),z3y (hf k (by omega)) (by omega),z3y (hq _ (by omega)) (by omega),z3y (z6e hb (hf k (by omega))) (by omega),z3y (z6e hb (z6e (hf k (by omega)) (hq _ (by omega)))) (by omega),by rw [h0] at h3;exact h3⟩
def z0ci (va:Array Value):Prop:=va.all (·.oneCell')=true
def Made (L:List Ob)(xs:List Value)(f q:Nat->Nat)(i:Nat):Prop:=xs.length=41/\(∀ z,z<i->∃ u,xs[z]?=some u/\NumIn L u (conv f q z))/\∀ z,i<=z->z<41->xs[z]?=some (.slice none 0 0)
theorem Made.more {L l:List Ob}{xs:List Value}{f q:Nat->Nat}{i:Nat}(h:Made L xs f q i):Made (L++l) xs f q i:=⟨h.1,fun z hz=>by
 obtain ⟨u,a,b⟩:=h.2.1 z hz
 exact ⟨u,a,b.more⟩,h.2.2⟩
theorem Made.one {L:List Ob}{xs:List Value}{f q:Nat->Nat}{i:Nat}(h:Made L xs f q i)(hi:i<=41):xs.toArray.all (·.oneCell')=true:=by
 rw [Array.all_eq_true_iff_forall_mem];intro v hv;obtain ⟨z,hz,rfl⟩:=List.getElem_of_mem (by simpa using hv)
 rcases zqi z i with h1|h1
 ·obtain ⟨u,a,A,n,c,t,e,_⟩:=h.2.1 z h1
  rw [zql hz] at a;rw [zqk a,e];rfl
 ·have a:=h.2.2 z h1 (by rw [<- h.1];exact hz)
  rw [zql hz] at a;rw [zqk a];rfl
theorem Made.set {L:List Ob}{xs:List Value}{f q:Nat->Nat}{i:Nat}{v:Value}(h:Made L xs f q i)(hi:i<41)(hv:NumIn L v (conv f q i)):Made L (xs.set i v) f q (i+1):=by
 refine ⟨by rw [List.length_set];exact h.1,fun z hz=>?_,fun z h1 h2=>by rw [zqf (by omega)];exact h.2.2 z (by omega) h2⟩
 rcases zqi z i with h1|h1
 ·obtain ⟨u,a,b⟩:=h.2.1 z h1
  exact ⟨u,by rw [zqf (by omega)];exact a,b⟩
 ·obtain rfl:z=i:=by omega
  exact ⟨v,List.getElem?_set_self (by rw [h.1];exact hi),hv⟩
def RJo (w0:World)(g:Option Nat)(M:List (Nat×Value))(L:List Ob)(O:List Rw)(ab bb rb ob:Nat)(la lb lr:List Value)(f q:Nat->Nat)(nn:Nat)(v:Value)(wr:World):Prop:=
 ∃ (i:Nat) (xs:List Value) (Ls:List Ob),i<=nn+1/\v=.int .i64 i/\Hid (Made (L++Ls) xs f q i)/\Hid (Ow w0 wr g M (L++Ls) (O++[⟨some ⟨ab,0,none⟩,41,41,122,la⟩,⟨some ⟨bb,0,none⟩,41,41,122,lb⟩,⟨some ⟨rb,0,none⟩,41,41,122,lr⟩,⟨some ⟨ob,0,none⟩,41,41,122,xs⟩]))
def RJi (w0:World)(g:Option Nat)(M:List (Nat×Value))(L:List Ob)(O:List Rw)(ab bb rb ob:Nat)(la lb lr xs:List Value)(f q:Nat->Nat)(i:Nat)(v:Value)(wr:World):Prop:=
 ∃ (k:Nat) (va:Value) (Ls:List Ob),k<=i+1/\v=.int .i64 k/\Hid (NumIn (L++Ls) va (cvS f q i k)/\Made (L++Ls) xs f q i)/\Hid (Ow w0 wr g M (L++Ls) (O++[⟨some ⟨ab,0,none⟩,41,41,122,la⟩,⟨some ⟨bb,0,none⟩,41,41,122,lb⟩,⟨some ⟨rb,0,none⟩,41,41,122,lr⟩,⟨some ⟨ob,0,none⟩,41,41,122,xs.set i va⟩]))
structure JK (w0:World)(g:Option Nat)(M:List (Nat×Value))(L:List Ob)(O:List Rw)(ab bb rb ob:Nat)(la lb lr xs:List Value)(sad ad:Addr)(As:Option Addr)(nn i k ik:Nat)(X1:Option Addr)(a1 b1:Nat)(X2:Option Addr)(a2 b2:Nat)(X3:Option Addr)(a3 b3:Nat)(AS:Option Addr)(nS cS:Nat)(x1 x2 x3 s:Nat)(Ld:Nat->Bool)(u0 u1 u2 u3 u4 u5 u6 u7 u8 u9 u10 u11 u12 u13 u14 u15 u16 u17 u18 u19 u20 u21 u22:Value)(va:Value)(Ls:List Ob)(W:World):Prop where
 ow:Ow w0 W g (M) (L++Ls) (O++[⟨some ⟨ab,0,none⟩,41,41,122,la⟩,⟨some ⟨bb,0,none⟩,41,41,122,lb⟩,⟨some ⟨rb,0,none⟩,41,41,122,lr⟩,⟨some ⟨ob,0,none⟩,41,41,122,xs.set i va⟩])
 h0:Ld 0=true->u0=.int .i64 i
 h1:Ld 1=true->u1=.int .i64 i
 h2:Ld 2=true->u2=.pointer (some ⟨ob,i,none⟩)
 h3:Ld 3=true->u3=.agg #[.slice AS nS cS]
 h4:Ld 4=true->u4=.slice (some sad) (nn+1) (nn+1)
 h5:Ld 5=true->u5=.int .i64 i
 h6:Ld 6=true->u6=.pointer (some (sad.add i))
 h7:Ld 7=true->u7=.slice (some ad) (i+1) (i+1)
 h8:Ld 8=true->u8=.int .i64 k
 h9:Ld 9=true->u9=.pointer (some (ad.add k))
 h10:Ld 10=true->u10=.agg #[.slice X1 a1 b1]
 h11:Ld 11=true->u11=.int .i64 k
 h12:Ld 12=true->u12=.pointer (some ⟨ab,k,none⟩)
 h13:Ld 13=true->u13=.agg #[.slice X2 a2 b2]
 h14:Ld 14=true->u14=.int .i64 i
 h15:Ld 15=true->u15=.int .i64 k
 h16:Ld 16=true->u16=.int .i64 ((i:Int) - (k:Int))
 h17:Ld 17=true->u17=.pointer (some ⟨bb,ik,none⟩)
 h18:Ld 18=true->u18=.agg #[.slice X3 a3 b3]
 h19:GL Ld 19 u19 [x1,x2,x3] 3 (L) Ls
 h20:GN Ld 20 u20 (x1*(x2*x3)) Ls
 h21:GN Ld 21 u21 (s+x1*(x2*x3)) Ls
 h22:Ld 22=true->u22=.pointer (some ⟨ob,i,none⟩)
 v0:Ld 23=false->va=.slice AS nS cS
 v1:GV Ld 23 va (s+x1*(x2*x3)) Ls
def JI (w0:World)(g:Option Nat)(M:List (Nat×Value))(L:List Ob)(O:List Rw)(ab bb rb ob:Nat)(la lb lr xs:List Value)(sad ad:Addr)(As:Option Addr)(nn i k ik:Nat)(X1:Option Addr)(a1 b1:Nat)(X2:Option Addr)(a2 b2:Nat)(X3:Option Addr)(a3 b3:Nat)(AS:Option Addr)(nS cS:Nat)(x1 x2 x3 s:Nat)(A0:Act)(Ld:Nat->Bool)(a:Act)(W:World):Prop:=
 ∃ (u0 u1 u2 u3 u4 u5 u6 u7 u8 u9 u10 u11 u12 u13 u14 u15 u16 u17 u18 u19 u20 u21 u22:Value) (va:Value) (Ls:List Ob),a=(((((((((((((((((((((((A0.put (some 22) u0).put (some 23) u1).put (some 24) u2).put (some 25) u3).put (some 26) u4).put (some 27) u5).put (some 28) u6).put (some 29) u7).put (some 30) u8).put (some 31) u9).put (some 32) u10).put (some 33) u11).put (some 34) u12).put (some 35) u13).put (some 36) u14).put (some 37) u15).put (some 38) u16).put (some 39) u17).put (some 40) u18).put (some 41) u19).put (some 42) u20).put (some 43) u21).put (some 44) u22)/\JK w0 g M L O ab bb rb ob la lb lr xs sad ad As nn i k ik X1 a1 b1 X2 a2 b2 X3 a3 b3 AS nS cS x1 x2 x3 s Ld u0 u1 u2 u3 u4 u5 u6 u7 u8 u9 u10 u11 u12 u13 u14 u15 u16 u17 u18 u19 u20 u21 u22 va Ls W
section
variable {w0 w w':World}{g:Option Nat}{M M2:List (Nat×Value)}{L:List Ob}{O:List Rw}{A A2 A3 A4:Option Addr}{b n c m c2 n3 c3 n4 c4 x y:Nat}{p q r s:List Int}
theorem z2y:(Tryz.prog.info? 122).map (·.size)=some 41:=by kernel_rfl
theorem z0bz {xs:List Value}{i:Nat}{v:Value}(h:xs[i]?=some v):xs.set i v=xs:=by
 obtain ⟨h1,h2⟩:=List.getElem?_eq_some_iff.1 h
 rw [<- h2];exact List.set_getElem_self h1
theorem z6ak (h:Ow w0 w g M L O)(nn:Nat)(hn:nn<=40)(va vb:Array Value)(As:Option Addr)(f q:Nat->Nat)(e:Nat)(he:e<=1000)(hs:TSets L As nn)(ha:Ways L va.toList nn f)(hb:Ways L vb.toList nn q)(hf:∀ k,k<=nn->f k<=2 ^ e)(hq:∀ k,k<=nn->q k<=2 ^ e):
  Calls Tryz.prog 92 #[.agg va,.agg vb,.int .i64 nn,.slice As (nn+1) (nn+1)] w fun e w'=>∃ (vc:Array Value) (Ls:List Ob),e=.returned (.agg vc)/\Ow w0 w' g M (L++Ls) O/\Ways (L++Ls) vc.toList nn (conv f q)/\z0ci vc:=by
 obtain ⟨sad,tS,vsS,rfl,hS1,hS2⟩:=hs;have H:=((((h.arr va 41 (by have:=ha.1;simpa using this) (by omega) 122).arr vb 41 (by have:=hb.1;simpa using this) (by omega) 122).arr #[.slice none 0 0,.slice none 0 0,.slice none 0 0,.slice none 0 0,.slice none 0 0,.slice none 0 0,.slice none 0 0,.slice none 0 0,.slice none 0 0,.slice none 0 0,.slice none 0 0,.slice none 0 0,.slice none 0 0,.slice none 0 0,.slice none 0 0,.slice none 0 0,.slice none 0 0,.slice none 0 0,.slice none 0 0,.slice none 0 0,.slice none 0 0,.slice none 0 0,.slice none 0 0,.slice none 0 0,.slice none 0 0,.slice none 0 0,.slice none 0 0,.slice none 0 0,.slice none 0 0,.slice none 0 0,.slice none 0 0,.slice none 0 0,.slice none 0 0,.slice none 0 0,.slice none 0 0,.slice none 0 0,.slice none 0 0,.slice none 0 0,.slice none 0 0,.slice none 0 0,.slice none 0 0] 41 rfl (by omega) 122).arr #[.slice none 0 0,.slice none 0 0,.slice none 0 0,.slice none 0 0,.slice none 0 0,.slice none 0 0,.slice none 0 0,.slice none 0 0,.slice none 0 0,.slice none 0 0,.slice none 0 0,.slice none 0 0,.slice none 0 0,.slice none 0 0,.slice none 0 0,.slice none 0 0,.slice none 0 0,.slice none 0 0,.slice none 0 0,.slice none 0 0,.slice none 0 0,.slice none 0 0,.slice none 0 0,.slice none 0 0,.slice none 0 0,.slice none 0 0,.slice none 0 0,.slice none 0 0,.slice none 0 0,.slice none 0 0,.slice none 0 0,.slice none 0 0,.slice none 0 0,.slice none 0 0,.slice none 0 0,.slice none 0 0,.slice none 0 0,.slice none 0 0,.slice none 0 0,.slice none 0 0,.slice none 0 0] 41 rfl (by omega) 122)
 simp only [World.size_alloc,zqa,zqb,zqc] at H;obtain ⟨lr,hlr⟩:∃ l:List Value,([.slice none 0 0,.slice none 0 0,.slice none 0 0,.slice none 0 0,.slice none 0 0,.slice none 0 0,.slice none 0 0,.slice none 0 0,.slice none 0 0,.slice none 0 0,.slice none 0 0,.slice none 0 0,.slice none 0 0,.slice none 0 0,.slice none 0 0,.slice none 0 0,.slice none 0 0,.slice none 0 0,.slice none 0 0,.slice none 0 0,.slice none 0 0,.slice none 0 0,.slice none 0 0,.slice none 0 0,.slice none 0 0,.slice none 0 0,.slice none 0 0,.slice none 0 0,.slice none 0 0,.slice none 0 0,.slice none 0 0,.slice none 0 0,.slice none 0 0,.slice none 0 0,.slice none 0 0,.slice none 0 0,.slice none 0 0,.slice none 0 0,.slice none 0 0,.slice none 0 0,.slice none 0 0]:List Value)=l:=⟨_,rfl⟩
 have hlr0:∀ z,z<41->lr[z]?=some (.slice none 0 0):=by
  intro z hz;rw [<- hlr,show ([.slice none 0 0,.slice none 0 0,.slice none 0 0,.slice none 0 0,.slice none 0 0,.slice none 0 0,.slice none 0 0,.slice none 0 0,.slice none 0 0,.slice none 0 0,.slice none 0 0,.slice none 0 0,.slice none 0 0,.slice none 0 0,.slice none 0 0,.slice none 0 0,.slice none 0 0,.slice none 0 0,.slice none 0 0,.slice none 0 0,.slice none 0 0,.slice none 0 0,.slice none 0 0,.slice none 0 0,.slice none 0 0,.slice none 0 0,.slice none 0 0,.slice none 0 0,.slice none 0 0,.slice none 0 0,.slice none 0 0,.slice none 0 0,.slice none 0 0,.slice none 0 0,.slice none 0 0,.slice none 0 0,.slice none 0 0,.slice none 0 0,.slice none 0 0,.slice none 0 0,.slice none 0 0]:List Value)=List.replicate 41 (.slice none 0 0) from rfl,List.getElem?_replicate,if_pos hz]
 have hlr1:lr.length=41:=by rw [<- hlr];rfl
 rw [hlr] at H;have HO:=zh H;have HL9:=zh hlr;have HLr:=zh (And.intro hlr1 hlr0)
 have HSs:=zh (And.intro hS1 hS2)
 have HF:=zh (And.intro he (And.intro ha (And.intro hb (And.intro hf hq))))
 clear h H hS1 hS2 ha hb hf hq he hlr hlr0 hlr1;go_enter Tryz.func92,Tryz.ntmps92
 go_wp2_with fail;go_loopw [10] (fun v wr=>RJo w0 g M L O w.heap.size (w.heap.size+1) (w.heap.size+1+1) (w.heap.size+1+1+1) va.toList vb.toList lr f q nn v wr) (fun v _=>nn+2 - (intOf v).toNat)
 case atStart=>
  obtain rfl:=HL9.out
  exact ⟨0,_,[],by omega,rfl,⟨HLr.out.1,fun z hz=>absurd hz (by omega),fun z _ hz=>HLr.out.2 z hz⟩,by rw [List.append_nil];exact HO⟩
 case round=>
  clear HO;obtain ⟨i,xs,Ls,hi,rfl,HV,HO⟩:=hrel;rcases Nat.eq_or_lt_of_le hi with he|hlt
  ·subst he
   have hd:decide (((nn+1:Nat):Int)<=(nn:Int))=false:=zn (by omega)
   have hd1:decide ((nn:Int)+1<=(nn:Int))=false:=zn (by omega)
   have hd2:decide (nn+1<=nn)=false:=zn (by omega)
   obtain ⟨hx1,hx2⟩:=HO.out.rowHeap (O.length+3) (zk rfl)
   obtain ⟨hr1,hr2⟩:=HO.out.rowHeap (O.length+2) (zk rfl)
   have hone:xs.toArray.all (·.oneCell')=true:=HV.out.one (by omega)
   have hinf:(Tryz.prog.info? 122).map (·.size)=some xs.toArray.size:=by rw [z2y];simp [hx2]
   have Z:=HO.out.putRow (O.length+2) (zk rfl) xs.toArray (by simp [hx2]) (by omega)
   rw [z0o,zqe,zqe,zqd] at Z;obtain ⟨hz1,-⟩:=Z.rowHeap (O.length+2) (zk rfl)
   have HF9:=zh Z.fewO;have hsz:lr.toArray.size=xs.toArray.size:=by simp [hr2,hx2]
   clear HO Z;go_wp2_with (first|(refine wpList_load_row rfl 122 (.tmp 9) rfl (w.heap.size+1+1+1) rfl 122 xs.toArray (0,0) _ hx1 Tryz.underlying122 rfl hinf ?_)|(refine wpList_store_row rfl 122 (.tmp 8) (.tmp 45) rfl (w.heap.size+1+1) xs.toArray rfl rfl 122 lr.toArray hr1 hinf hsz hone ?_))
   refine bodyPost_ret (v:=.agg xs.toArray) (results_cell_row Tryz.results92 _ _ (w.heap.size+1+1) 122 xs.toArray (0,0) _ rfl hz1 Tryz.underlying122 rfl hinf) rfl ?_
   refine ⟨xs.toArray,rfl,Ls,HF9.out,⟨?_,fun z hz=>?_⟩,hone⟩
   ·exact HV.out.1
   ·exact HV.out.2.1 z (by omega)
  ·have hd:decide ((i:Int)<=(nn:Int))=true:=zt (by omega)
   have hd2:decide (i<=nn)=true:=zt (by omega)
   have hi40:i<=40:=by omega
   go_wp2_with fail;have H0:=HO.out.old (A:=none) (n:=0) (c:=0) (vs:=z0c (Na.dig 0)) (by rw [Na.dig_zero];exact Sl.nil _ _ _) (by rw [Na.dig_zero];rfl) (zqj _) (by decide)
   rw [zqa] at H0;have HS0:=zh H0;clear HO H0;go_loopw [11] (fun v wr=>RJi w0 g M L O w.heap.size (w.heap.size+1) (w.heap.size+1+1) (w.heap.size+1+1+1) va.toList vb.toList lr xs f q i v wr) (fun v _=>i+2 - (intOf v).toNat)
   case atStart=>
    refine ⟨0,.slice none 0 0,_,zqr _,rfl,⟨(show NumIn (L++(Ls++[(⟨none,0,0,z0c (Na.dig 0)⟩:Ob)])) (.slice none 0 0) 0 from ⟨none,0,0,(L++Ls).length+0,rfl,by rw [<- zqa,z0b];rfl⟩),by rw [<- zqa];exact HV.out.more⟩,?_⟩
    have h1:=HV.out.2.2 i (zqj _) (by omega)
    rw [z0bz h1];exact HS0
   case round=>
    clear HS0;obtain ⟨k,v1,Lt,hk,rfl,HN,HO⟩:=hrel;rcases Nat.eq_or_lt_of_le hk with he|hlt2
    ·subst he
     have hd3:decide (((i+1:Nat):Int)<=(i:Int))=false:=zn (by omega)
     have hd4:decide ((i:Int)+1<=(i:Int))=false:=zn (by omega)
     have hd5:decide (i+1<=i)=false:=zn (by omega)
     go_wp2_with fail;go_roundw
     case rel=>exact ⟨i+1,xs.set i v1,Lt,by omega,z0q (by omega),Made.set HN.out.2 (by omega) HN.out.1,HO⟩
     case measure=>simp [intOf];omega
    ·have hd3:decide ((k:Int)<=(i:Int))=true:=zt (by omega)
     have hd4:decide (k<=i)=true:=zt (by omega)
     have hk40:k<=40:=by omega
     obtain ⟨AS,nS,cS,ts,rfl,hts⟩:=HN.out.1;have HMd:=zh HN.out.2;obtain ⟨ik,hik⟩:∃ z,i - k=z:=⟨_,rfl⟩
     obtain ⟨u0,hu0,ad,tr,ws,rfl,htr,hnum⟩:=HSs.out.2 i (by omega)
     obtain ⟨u1,hu1,X1,a1,b1,p1,rfl,hp1⟩:=hnum k (by omega)
     obtain ⟨u2,hu2,X2,a2,b2,p2,rfl,hp2⟩:=HF.out.2.1.2 k (by omega)
     obtain ⟨u3,hu3,X3,a3,b3,p3,rfl,hp3⟩:=HF.out.2.2.1.2 ik (by omega)
     have hcv:=z4bl (i:=i) (k:=k) HF.out.1 HF.out.2.2.2.1 HF.out.2.2.2.2 (by omega) hn (by omega)
     obtain ⟨s,hs⟩:∃ z,cvS f q i k=z:=⟨_,rfl⟩
     obtain ⟨x1,hx1⟩:∃ z,Na.bin i k=z:=⟨_,rfl⟩
     obtain ⟨x2,hx2⟩:∃ z,f k=z:=⟨_,rfl⟩
     obtain ⟨x3,hx3⟩:∃ z,q ik=z:=⟨_,rfl⟩
     have HB:Hid (x1<Na.top/\x2<Na.top/\x3<Na.top/\x1*x2<Na.top/\x1*(x2*x3)<Na.top/\s<Na.top/\s+x1*(x2*x3)<Na.top):=by
      rw [<- hx1,<- hx2,<- hx3,<- hs,<- hik];exact ⟨hcv.b1,hcv.b2,hcv.b3,hcv.b4,hcv.b5,hcv.st,hcv.bs⟩
     have HE9:Hid (s+x1*(x2*x3)=cvS f q i (k+1)):=by rw [<- hx1,<- hx2,<- hx3,<- hs,<- hik];rfl
     rw [hx1] at hp1;rw [hx2] at hp2;rw [hx3] at hp3;rw [hs] at hts;have HP:=zh (And.intro (show (L++Lt)[p1]?=_ from (z0r _ _ (z0d hp1)).trans hp1) (And.intro (show (L++Lt)[p2]?=_ from (z0r _ _ (z0d hp2)).trans hp2) (And.intro (show (L++Lt)[p3]?=_ from (z0r _ _ (z0d hp3)).trans hp3) hts)))
     have HX:=zh (And.intro (show i<xs.length by have:=HV.out.1;omega) (And.intro hu2 (And.intro hu3 (And.intro (show (L++Lt)[tS]?=_ from (z0r _ _ (z0d HSs.out.1)).trans HSs.out.1) (And.intro hu0 (And.intro (show (L++Lt)[tr]?=_ from (z0r _ _ (z0d htr)).trans htr) hu1))))))
     have s1:IntKind.i64.wrap ((i:Int) - (k:Int))=(i:Int) - (k:Int):=IntWalk.i64_in _ (by omega)
     have s2:(0:Int)<=(i:Int) - (k:Int):=by omega
     have s3:(i:Int) - (k:Int)<41:=by omega
     have s4:((i:Int) - (k:Int)).toNat=ik:=by omega
     have s5:(k:Int)<=(i:Int):=by omega
     have s6:(i:Int)<41:=by omega
     have s7:(k:Int)<41:=by omega
     have s8:(i:Int)<nn+1:=by omega
     have s9:(k:Int)<i+1:=by omega
     have s10:(i:Int)<41+(k:Int):=by omega
     have s11:(0:Int)<=(i:Int):=by omega
     have s12:(0:Int)<=(k:Int):=by omega
     have hik9:ik<41:=by omega
     clear hu0 hu1 hu2 hu3 hp1 hp2 hp3 hts htr hnum hcv hs hx1 hx2 hx3 hik HN;go_upto_region 8 with (fail)
     refine z1k (JI w0 g M (L++Lt) O w.heap.size (w.heap.size+1) (w.heap.size+1+1) (w.heap.size+1+1+1) va.toList vb.toList lr xs sad ad (some sad) nn i k ik X1 a1 b1 X2 a2 b2 X3 a3 b3 AS nS cS x1 x2 x3 s) (by kernel_rfl) (by kernel_rfl) ?_ ?_ ?_
     ·refine ⟨u22,u23,u24,u25,u26,u27,u28,u29,u30,u31,u32,u33,u34,u35,u36,u37,u38,u39,u40,u41,u42,u43,u44,.slice AS nS cS,[],?_,⟨by rw [List.append_nil];exact HO.out.drew,?_,?_,?_,?_,?_,?_,?_,?_,?_,?_,?_,?_,?_,?_,?_,?_,?_,?_,?_,?_,?_,?_,?_,fun _=>rfl,?_⟩⟩
      ·simp only [Act.put,zT,zZ,zS]
      all_goals (intro h;cases h)
     ·rintro jj Ld b W hj hf hcl hd ⟨u0,u1,u2,u3,u4,u5,u6,u7,u8,u9,u10,u11,u12,u13,u14,u15,u16,u17,u18,u19,u20,u21,u22,vv,Ls,rfl,hC⟩;have hj':jj<24:=hj
      have hcase:jj=0∨jj=1∨jj=2∨jj=3∨jj=4∨jj=5∨jj=6∨jj=7∨jj=8∨jj=9∨jj=10∨jj=11∨jj=12∨jj=13∨jj=14∨jj=15∨jj=16∨jj=17∨jj=18∨jj=19∨jj=20∨jj=21∨jj=22∨jj=23:=by omega
      have co:=z2a hC.ow (i:=O.length+3) (zk rfl) (List.getElem?_set_self HX.out.1) (by omega)
      have zo:=(hC.ow.own (O.length+3) _ (zk rfl)).frozenAt i
      have ca:=z2a hC.ow (i:=O.length+0) (zk rfl) HX.out.2.1 (by omega)
      have cb:=z2a hC.ow (i:=O.length+1) (zk rfl) HX.out.2.2.1 (by omega)
      have cs:=(hC.ow.sl ((z0r _ _ (z0d HX.out.2.2.2.1)).trans HX.out.2.2.2.1)).2.2.2.c HX.out.2.2.2.2.1
      have cr:=(hC.ow.sl ((z0r _ _ (z0d HX.out.2.2.2.2.2.1)).trans HX.out.2.2.2.2.2.1)).2.2.2.c HX.out.2.2.2.2.2.2
      clear hj hj';simp only [Act.put,zT,zZ,zS];rcases hcase with rfl|rfl|rfl|rfl|rfl|rfl|rfl|rfl|rfl|rfl|rfl|rfl|rfl|rfl|rfl|rfl|rfl|rfl|rfl|rfl|rfl|rfl|rfl|rfl
      ·clear hd hcl;refine zw rfl fun K hK=>?_
       go_simp;refine hK _ _ ⟨_,u1,u2,u3,u4,u5,u6,u7,u8,u9,u10,u11,u12,u13,u14,u15,u16,u17,u18,u19,u20,u21,u22,vv,Ls,?_,⟨hC.ow,fun _=>rfl,hC.h1,hC.h2,hC.h3,hC.h4,hC.h5,hC.h6,hC.h7,hC.h8,hC.h9,hC.h10,hC.h11,hC.h12,hC.h13,hC.h14,hC.h15,hC.h16,hC.h17,hC.h18,hC.h19,hC.h20,hC.h21,hC.h22,hC.v0,hC.v1⟩⟩;simp only [Act.put,zT,zZ,zS]
      ·clear hd hcl;refine zw rfl fun K hK=>?_
       go_simp;refine hK _ _ ⟨u0,_,u2,u3,u4,u5,u6,u7,u8,u9,u10,u11,u12,u13,u14,u15,u16,u17,u18,u19,u20,u21,u22,vv,Ls,?_,⟨hC.ow,hC.h0,fun _=>rfl,hC.h2,hC.h3,hC.h4,hC.h5,hC.h6,hC.h7,hC.h8,hC.h9,hC.h10,hC.h11,hC.h12,hC.h13,hC.h14,hC.h15,hC.h16,hC.h17,hC.h18,hC.h19,hC.h20,hC.h21,hC.h22,hC.v0,hC.v1⟩⟩;simp only [Act.put,zT,zZ,zS]
      ·obtain rfl:=hC.h1 (hd 1 (by kernel_rfl));clear hd hcl;refine zw rfl fun K hK=>?_
       go_simp;refine hK _ _ ⟨u0,_,_,u3,u4,u5,u6,u7,u8,u9,u10,u11,u12,u13,u14,u15,u16,u17,u18,u19,u20,u21,u22,vv,Ls,?_,⟨hC.ow,hC.h0,hC.h1,fun _=>rfl,hC.h3,hC.h4,hC.h5,hC.h6,hC.h7,hC.h8,hC.h9,hC.h10,hC.h11,hC.h12,hC.h13,hC.h14,hC.h15,hC.h16,hC.h17,hC.h18,hC.h19,hC.h20,hC.h21,hC.h22,hC.v0,hC.v1⟩⟩;simp only [Act.put,zT,zZ,zS]
      ·obtain rfl:=hC.h2 (hd 2 (by kernel_rfl));have g21:Ld 21=false:=by cases e:Ld 21 with|false=>rfl|true=>(rw [hcl 21 3 e (by kernel_rfl)] at hf;cases hf)
       have g23:Ld 23=false:=by cases e:Ld 23 with|false=>rfl|true=>(rw [hcl 23 21 e (by kernel_rfl)] at g21;cases g21)
       obtain rfl:=hC.v0 g23
       clear hd hcl;refine zw rfl fun K hK=>?_
       go_simp;refine hK _ _ ⟨u0,u1,_,_,u4,u5,u6,u7,u8,u9,u10,u11,u12,u13,u14,u15,u16,u17,u18,u19,u20,u21,u22,_,Ls,?_,⟨hC.ow,hC.h0,hC.h1,hC.h2,fun _=>rfl,hC.h4,hC.h5,hC.h6,hC.h7,hC.h8,hC.h9,hC.h10,hC.h11,hC.h12,hC.h13,hC.h14,hC.h15,hC.h16,hC.h17,hC.h18,hC.h19,hC.h20,hC.h21,hC.h22,hC.v0,hC.v1⟩⟩;simp only [Act.put,zT,zZ,zS]
      ·clear hd hcl;refine zw rfl fun K hK=>?_
       go_simp;refine hK _ _ ⟨u0,u1,u2,u3,_,u5,u6,u7,u8,u9,u10,u11,u12,u13,u14,u15,u16,u17,u18,u19,u20,u21,u22,vv,Ls,?_,⟨hC.ow,hC.h0,hC.h1,hC.h2,hC.h3,fun _=>rfl,hC.h5,hC.h6,hC.h7,hC.h8,hC.h9,hC.h10,hC.h11,hC.h12,hC.h13,hC.h14,hC.h15,hC.h16,hC.h17,hC.h18,hC.h19,hC.h20,hC.h21,hC.h22,hC.v0,hC.v1⟩⟩;simp only [Act.put,zT,zZ,zS]
      ·clear hd hcl;refine zw rfl fun K hK=>?_
       go_simp;refine hK _ _ ⟨u0,u1,u2,u3,u4,_,u6,u7,u8,u9,u10,u11,u12,u13,u14,u15,u16,u17,u18,u19,u20,u21,u22,vv,Ls,?_,⟨hC.ow,hC.h0,hC.h1,hC.h2,hC.h3,hC.h4,fun _=>rfl,hC.h6,hC.h7,hC.h8,hC.h9,hC.h10,hC.h11,hC.h12,hC.h13,hC.h14,hC.h15,hC.h16,hC.h17,hC.h18,hC.h19,hC.h20,hC.h21,hC.h22,hC.v0,hC.v1⟩⟩;simp only [Act.put,zT,zZ,zS]
      ·obtain rfl:=hC.h4 (hd 4 (by kernel_rfl));obtain rfl:=hC.h5 (hd 5 (by kernel_rfl));clear hd hcl;refine zw rfl fun K hK=>?_
       go_simp;refine hK _ _ ⟨u0,u1,u2,u3,_,_,_,u7,u8,u9,u10,u11,u12,u13,u14,u15,u16,u17,u18,u19,u20,u21,u22,vv,Ls,?_,⟨hC.ow,hC.h0,hC.h1,hC.h2,hC.h3,hC.h4,hC.h5,fun _=>rfl,hC.h7,hC.h8,hC.h9,hC.h10,hC.h11,hC.h12,hC.h13,hC.h14,hC.h15,hC.h16,hC.h17,hC.h18,hC.h19,hC.h20,hC.h21,hC.h22,hC.v0,hC.v1⟩⟩;simp only [Act.put,zT,zZ,zS]
      ·obtain rfl:=hC.h6 (hd 6 (by kernel_rfl));clear hd hcl;refine zw rfl fun K hK=>?_
       go_simp;refine hK _ _ ⟨u0,u1,u2,u3,u4,u5,_,_,u8,u9,u10,u11,u12,u13,u14,u15,u16,u17,u18,u19,u20,u21,u22,vv,Ls,?_,⟨hC.ow,hC.h0,hC.h1,hC.h2,hC.h3,hC.h4,hC.h5,hC.h6,fun _=>rfl,hC.h8,hC.h9,hC.h10,hC.h11,hC.h12,hC.h13,hC.h14,hC.h15,hC.h16,hC.h17,hC.h18,hC.h19,hC.h20,hC.h21,hC.h22,hC.v0,hC.v1⟩⟩;simp only [Act.put,zT,zZ,zS]
      ·clear hd hcl;refine zw rfl fun K hK=>?_
       go_simp;refine hK _ _ ⟨u0,u1,u2,u3,u4,u5,u6,u7,_,u9,u10,u11,u12,u13,u14,u15,u16,u17,u18,u19,u20,u21,u22,vv,Ls,?_,⟨hC.ow,hC.h0,hC.h1,hC.h2,hC.h3,hC.h4,hC.h5,hC.h6,hC.h7,fun _=>rfl,hC.h9,hC.h10,hC.h11,hC.h12,hC.h13,hC.h14,hC.h15,hC.h16,hC.h17,hC.h18,hC.h19,hC.h20,hC.h21,hC.h22,hC.v0,hC.v1⟩⟩;simp only [Act.put,zT,zZ,zS]
      ·obtain rfl:=hC.h7 (hd 7 (by kernel_rfl));obtain rfl:=hC.h8 (hd 8 (by kernel_rfl));clear hd hcl;refine zw rfl fun K hK=>?_
       go_simp;refine hK _ _ ⟨u0,u1,u2,u3,u4,u5,u6,_,_,_,u10,u11,u12,u13,u14,u15,u16,u17,u18,u19,u20,u21,u22,vv,Ls,?_,⟨hC.ow,hC.h0,hC.h1,hC.h2,hC.h3,hC.h4,hC.h5,hC.h6,hC.h7,hC.h8,fun _=>rfl,hC.h10,hC.h11,hC.h12,hC.h13,hC.h14,hC.h15,hC.h16,hC.h17,hC.h18,hC.h19,hC.h20,hC.h21,hC.h22,hC.v0,hC.v1⟩⟩;simp only [Act.put,zT,zZ,zS]
      ·obtain rfl:=hC.h9 (hd 9 (by kernel_rfl));clear hd hcl;refine zw rfl fun K hK=>?_
       go_simp;refine hK _ _ ⟨u0,u1,u2,u3,u4,u5,u6,u7,u8,_,_,u11,u12,u13,u14,u15,u16,u17,u18,u19,u20,u21,u22,vv,Ls,?_,⟨hC.ow,hC.h0,hC.h1,hC.h2,hC.h3,hC.h4,hC.h5,hC.h6,hC.h7,hC.h8,hC.h9,fun _=>rfl,hC.h11,hC.h12,hC.h13,hC.h14,hC.h15,hC.h16,hC.h17,hC.h18,hC.h19,hC.h20,hC.h21,hC.h22,hC.v0,hC.v1⟩⟩;simp only [Act.put,zT,zZ,zS]
      ·clear hd hcl;refine zw rfl fun K hK=>?_
       go_simp;refine hK _ _ ⟨u0,u1,u2,u3,u4,u5,u6,u7,u8,u9,u10,_,u12,u13,u14,u15,u16,u17,u18,u19,u20,u21,u22,vv,Ls,?_,⟨hC.ow,hC.h0,hC.h1,hC.h2,hC.h3,hC.h4,hC.h5,hC.h6,hC.h7,hC.h8,hC.h9,hC.h10,fun _=>rfl,hC.h12,hC.h13,hC.h14,hC.h15,hC.h16,hC.h17,hC.h18,hC.h19,hC.h20,hC.h21,hC.h22,hC.v0,hC.v1⟩⟩;simp only [Act.put,zT,zZ,zS]
      ·obtain rfl:=hC.h11 (hd 11 (by kernel_rfl));clear hd hcl;refine zw rfl fun K hK=>?_
       go_simp;refine hK _ _ ⟨u0,u1,u2,u3,u4,u5,u6,u7,u8,u9,u10,_,_,u13,u14,u15,u16,u17,u18,u19,u20,u21,u22,vv,Ls,?_,⟨hC.ow,hC.h0,hC.h1,hC.h2,hC.h3,hC.h4,hC.h5,hC.h6,hC.h7,hC.h8,hC.h9,hC.h10,hC.h11,fun _=>rfl,hC.h13,hC.h14,hC.h15,hC.h16,hC.h17,hC.h18,hC.h19,hC.h20,hC.h21,hC.h22,hC.v0,hC.v1⟩⟩;simp only [Act.put,zT,zZ,zS]
      ·obtain rfl:=hC.h12 (hd 12 (by kernel_rfl));clear hd hcl;refine zw rfl fun K hK=>?_
       go_simp;refine hK _ _ ⟨u0,u1,u2,u3,u4,u5,u6,u7,u8,u9,u10,u11,_,_,u14,u15,u16,u17,u18,u19,u20,u21,u22,vv,Ls,?_,⟨hC.ow,hC.h0,hC.h1,hC.h2,hC.h3,hC.h4,hC.h5,hC.h6,hC.h7,hC.h8,hC.h9,hC.h10,hC.h11,hC.h12,fun _=>rfl,hC.h14,hC.h15,hC.h16,hC.h17,hC.h18,hC.h19,hC.h20,hC.h21,hC.h22,hC.v0,hC.v1⟩⟩;simp only [Act.put,zT,zZ,zS]
      ·clear hd hcl;refine zw rfl fun K hK=>?_
       go_simp;refine hK _ _ ⟨u0,u1,u2,u3,u4,u5,u6,u7,u8,u9,u10,u11,u12,u13,_,u15,u16,u17,u18,u19,u20,u21,u22,vv,Ls,?_,⟨hC.ow,hC.h0,hC.h1,hC.h2,hC.h3,hC.h4,hC.h5,hC.h6,hC.h7,hC.h8,hC.h9,hC.h10,hC.h11,hC.h12,hC.h13,fun _=>rfl,hC.h15,hC.h16,hC.h17,hC.h18,hC.h19,hC.h20,hC.h21,hC.h22,hC.v0,hC.v1⟩⟩;simp only [Act.put,zT,zZ,zS]
      ·clear hd hcl;refine zw rfl fun K hK=>?_
       go_simp;refine hK _ _ ⟨u0,u1,u2,u3,u4,u5,u6,u7,u8,u9,u10,u11,u12,u13,u14,_,u16,u17,u18,u19,u20,u21,u22,vv,Ls,?_,⟨hC.ow,hC.h0,hC.h1,hC.h2,hC.h3,hC.h4,hC.h5,hC.h6,hC.h7,hC.h8,hC.h9,hC.h10,hC.h11,hC.h12,hC.h13,hC.h14,fun _=>rfl,hC.h16,hC.h17,hC.h18,hC.h19,hC.h20,hC.h21,hC.h22,hC.v0,hC.v1⟩⟩;simp only [Act.put,zT,zZ,zS]
      ·obtain rfl:=hC.h14 (hd 14 (by kernel_rfl));obtain rfl:=hC.h15 (hd 15 (by kernel_rfl));clear hd hcl;refine zw rfl fun K hK=>?_
       go_simp;refine hK _ _ ⟨u0,u1,u2,u3,u4,u5,u6,u7,u8,u9,u10,u11,u12,u13,_,_,_,u17,u18,u19,u20,u21,u22,vv,Ls,?_,⟨hC.ow,hC.h0,hC.h1,hC.h2,hC.h3,hC.h4,hC.h5,hC.h6,hC.h7,hC.h8,hC.h9,hC.h10,hC.h11,hC.h12,hC.h13,hC.h14,hC.h15,fun _=>rfl,hC.h17,hC.h18,hC.h19,hC.h20,hC.h21,hC.h22,hC.v0,hC.v1⟩⟩;simp only [Act.put,zT,zZ,zS]
      ·obtain rfl:=hC.h16 (hd 16 (by kernel_rfl));clear hd hcl;refine zw rfl fun K hK=>?_
       go_simp;refine hK _ _ ⟨u0,u1,u2,u3,u4,u5,u6,u7,u8,u9,u10,u11,u12,u13,u14,u15,_,_,u18,u19,u20,u21,u22,vv,Ls,?_,⟨hC.ow,hC.h0,hC.h1,hC.h2,hC.h3,hC.h4,hC.h5,hC.h6,hC.h7,hC.h8,hC.h9,hC.h10,hC.h11,hC.h12,hC.h13,hC.h14,hC.h15,hC.h16,fun _=>rfl,hC.h18,hC.h19,hC.h20,hC.h21,hC.h22,hC.v0,hC.v1⟩⟩;simp only [Act.put,zT,zZ,zS]
      ·obtain rfl:=hC.h17 (hd 17 (by kernel_rfl));clear hd hcl;refine zw rfl fun K hK=>?_
       go_simp;refine hK _ _ ⟨u0,u1,u2,u3,u4,u5,u6,u7,u8,u9,u10,u11,u12,u13,u14,u15,u16,_,_,u19,u20,u21,u22,vv,Ls,?_,⟨hC.ow,hC.h0,hC.h1,hC.h2,hC.h3,hC.h4,hC.h5,hC.h6,hC.h7,hC.h8,hC.h9,hC.h10,hC.h11,hC.h12,hC.h13,hC.h14,hC.h15,hC.h16,hC.h17,fun _=>rfl,hC.h19,hC.h20,hC.h21,hC.h22,hC.v0,hC.v1⟩⟩;simp only [Act.put,zT,zZ,zS]
      ·obtain rfl:=hC.h10 (hd 10 (by kernel_rfl));obtain rfl:=hC.h13 (hd 13 (by kernel_rfl));obtain rfl:=hC.h18 (hd 18 (by kernel_rfl));clear hd hcl;refine zw rfl fun K hK=>?_
       go_simp;have ho:=hC.ow.push (World.ownsRow_lit (base:=W.heap.size) (e:=25) (size:=1) W #[.slice X1 a1 b1,.slice X2 a2 b2,.slice X3 a3 b3] 3 (zqj _) (by decide) rfl) (by omega) (z0i _ _)
       rw [zqa (L++Lt) Ls] at ho
       refine hK _ _ ⟨u0,u1,u2,u3,u4,u5,u6,u7,u8,u9,_,u11,u12,_,u14,u15,u16,u17,_,_,u20,u21,u22,vv,_,?_,⟨ho,hC.h0,hC.h1,hC.h2,hC.h3,hC.h4,hC.h5,hC.h6,hC.h7,hC.h8,hC.h9,hC.h10,hC.h11,hC.h12,hC.h13,hC.h14,hC.h15,hC.h16,hC.h17,hC.h18,GL.new _ _ _ _ _ _ _ (Nums.three ((z0r _ _ (z0d HP.out.1)).trans HP.out.1) ((z0r _ _ (z0d HP.out.2.1)).trans HP.out.2.1) ((z0r _ _ (z0d HP.out.2.2.1)).trans HP.out.2.2.1)),hC.h20.more,hC.h21.more,hC.h22,hC.v0,hC.v1.more⟩⟩;simp only [Act.put,zT,zZ,zS]
      ·obtain ⟨t19,A19,vs19,rfl,r19,m19⟩:=hC.h19 (hd 19 (by kernel_rfl))
       have R19:=hC.ow.got r19
       clear hd hcl;refine zw rfl fun K hK=>?_
       go_simp;refine (z0bv hC.ow _ R19 m19 HB.out.1 HB.out.2.1 HB.out.2.2.1 HB.out.2.2.2.1 HB.out.2.2.2.2.1).mono ?_
       rintro e W' ⟨Az,nz,cz,rfl,ho⟩;rw [zqa (L++Lt) Ls] at ho
       refine hK _ _ ⟨u0,u1,u2,u3,u4,u5,u6,u7,u8,u9,u10,u11,u12,u13,u14,u15,u16,u17,u18,_,_,u21,u22,vv,_,?_,⟨ho,hC.h0,hC.h1,hC.h2,hC.h3,hC.h4,hC.h5,hC.h6,hC.h7,hC.h8,hC.h9,hC.h10,hC.h11,hC.h12,hC.h13,hC.h14,hC.h15,hC.h16,hC.h17,hC.h18,hC.h19.more,GN.new _ _ _ _ _ _ _,hC.h21.more,hC.h22,hC.v0,hC.v1.more⟩⟩;simp only [Act.put,zT,zZ,zS]
      ·obtain rfl:=hC.h3 (hd 3 (by kernel_rfl));obtain ⟨t20,A20,n20,c20,rfl,r20⟩:=hC.h20 (hd 20 (by kernel_rfl))
       have R20:=hC.ow.got r20
       clear hd hcl;refine zw rfl fun K hK=>?_
       go_simp;refine (z8bo hC.ow ts _ ((z0r _ _ (z0d HP.out.2.2.2)).trans HP.out.2.2.2) R20 HB.out.2.2.2.2.2.1 HB.out.2.2.2.2.1 HB.out.2.2.2.2.2.2).mono ?_
       rintro e W' ⟨Az,nz,cz,rfl,ho⟩;rw [zqa (L++Lt) Ls] at ho
       refine hK _ _ ⟨u0,u1,u2,_,u4,u5,u6,u7,u8,u9,u10,u11,u12,u13,u14,u15,u16,u17,u18,u19,_,_,u22,vv,_,?_,⟨ho,hC.h0,hC.h1,hC.h2,hC.h3,hC.h4,hC.h5,hC.h6,hC.h7,hC.h8,hC.h9,hC.h10,hC.h11,hC.h12,hC.h13,hC.h14,hC.h15,hC.h16,hC.h17,hC.h18,hC.h19.more,hC.h20.more,GN.new _ _ _ _ _ _ _,hC.h22,hC.v0,hC.v1.more⟩⟩;simp only [Act.put,zT,zZ,zS]
      ·obtain rfl:=hC.h0 (hd 0 (by kernel_rfl));clear hd hcl;refine zw rfl fun K hK=>?_
       go_simp;refine hK _ _ ⟨_,u1,u2,u3,u4,u5,u6,u7,u8,u9,u10,u11,u12,u13,u14,u15,u16,u17,u18,u19,u20,u21,_,vv,Ls,?_,⟨hC.ow,hC.h0,hC.h1,hC.h2,hC.h3,hC.h4,hC.h5,hC.h6,hC.h7,hC.h8,hC.h9,hC.h10,hC.h11,hC.h12,hC.h13,hC.h14,hC.h15,hC.h16,hC.h17,hC.h18,hC.h19,hC.h20,hC.h21,fun _=>rfl,hC.v0,hC.v1⟩⟩;simp only [Act.put,zT,zZ,zS]
      ·obtain ⟨t21,A21,n21,c21,rfl,r21⟩:=hC.h21 (hd 21 (by kernel_rfl))
       have R21:=hC.ow.got r21
       obtain rfl:=hC.h22 (hd 22 (by kernel_rfl));clear hd hcl;refine zw rfl fun K hK=>?_
       go_simp;have ho:=hC.ow.put (O.length+3) (zk rfl) i (.slice A21 n21 c21)
       rw [z0o,zqe,zqe,zqe,zqd,List.set_set] at ho;refine hK _ _ ⟨u0,u1,u2,u3,u4,u5,u6,u7,u8,u9,u10,u11,u12,u13,u14,u15,u16,u17,u18,u19,u20,_,_,_,Ls,?_,⟨ho,hC.h0,hC.h1,hC.h2,hC.h3,hC.h4,hC.h5,hC.h6,hC.h7,hC.h8,hC.h9,hC.h10,hC.h11,hC.h12,hC.h13,hC.h14,hC.h15,hC.h16,hC.h17,hC.h18,hC.h19,hC.h20,hC.h21,hC.h22,fun e=>absurd (show true=false from e) (by decide),fun _=>⟨t21,A21,n21,c21,rfl,r21⟩⟩⟩;simp only [Act.put,zT,zZ,zS]
     ·rintro Ld b W hL ⟨u0,u1,u2,u3,u4,u5,u6,u7,u8,u9,u10,u11,u12,u13,u14,u15,u16,u17,u18,u19,u20,u21,u22,vv,Ls,rfl,hC⟩;obtain ⟨tz,Az,nz,cz,rfl,rz⟩:=hC.v1 (hL 23 (by show 23<24;decide))
      have ho:=hC.ow;rw [zqa] at ho;have HG:=zh ho;have HW:Hid (NumIn (L++(Lt++Ls)) (.slice Az nz cz) (cvS f q i (k+1))/\Made (L++(Lt++Ls)) xs f q i):=⟨⟨Az,nz,cz,(L++Lt).length+tz,rfl,by rw [<- zqa,z0b,<- HE9.out];exact rz⟩,by rw [<- zqa];exact HMd.out.more⟩
      clear hL hC rz HO HB HE9 HX HP ho HMd;simp only [Act.put,zT,zZ,zS];go_wp2_with fail;go_roundw
      case rel=>exact ⟨k+1,_,_,by omega,z0q (by omega),HW,HG⟩
      case measure=>simp [intOf];omega
end
open Go.RowKit
def sft (f:Nat->Nat):Nat->Nat:=fun i=>f (i+1)
theorem z4ad (f q:Nat->Nat)(i:Nat):∀ c,c<=i+1->cvS f q (i+1) (c+1)=cvS (sft f) q i c+cvS f (sft q) i (c+1)
 | 0,_=>by
  show 0+Na.bin (i+1) 0*(f 0*q (i+1 - 0))=0+(0+Na.bin i 0*(f 0*q (i - 0+1)))
  rw [Na.bin_zero,Na.bin_zero,Nat.sub_zero,Nat.sub_zero];simp only [Nat.zero_add]
 | c+1,h=>by
  have ih:=z4ad f q i c (by omega)
  show cvS f q (i+1) (c+1)+Na.bin (i+1) (c+1)*(f (c+1)*q (i+1 - (c+1)))=(cvS (sft f) q i c+Na.bin i c*(f (c+1)*q (i - c)))+(cvS f (sft q) i (c+1)+Na.bin i (c+1)*(f (c+1)*q (i - (c+1)+1)))
  rw [ih,Na.bin_succ,show i+1 - (c+1)=i - c by omega]
  rcases zqi c i with h1|h1
  ·rw [show i - (c+1)+1=i - c by omega,Nat.add_mul]
   omega
  ·rw [Na.bin_more (n:=i) (k:=c+1) (by omega)]
   simp only [Nat.add_zero,Nat.zero_mul];omega
theorem z1c (f q:Nat->Nat):conv f q 0=f 0*q 0:=by
 show 0+Na.bin 0 0*(f 0*q (0 - 0))=_
 rw [Na.bin_zero,Nat.one_mul,Nat.zero_add]
theorem z1g (f q:Nat->Nat)(i:Nat):conv f q (i+1)=conv (sft f) q i+conv f (sft q) i:=by
 have h:=z4ad f q i (i+1) (zqj _)
 show cvS f q (i+1) (i+1+1)=cvS (sft f) q i (i+1)+cvS f (sft q) i (i+1)
 rw [h]
 show _+(cvS f (sft q) i (i+1)+Na.bin i (i+1)*(f (i+1)*sft q (i - (i+1))))=_
 rw [Na.bin_more (n:=i) (k:=i+1) (by omega)]
 simp only [Nat.zero_mul,Nat.add_zero]
theorem z9au (f f' q:Nat->Nat)(i:Nat):conv (fun k=>f k+f' k) q i=conv f q i+conv f' q i:=by
 induction i generalizing f f' q with
 | zero=>rw [z1c,z1c,z1c,Nat.add_mul]
 | succ i ih=>
  rw [z1g,z1g,z1g,ih f f' (sft q),show (sft fun k=>f k+f' k)=fun k=>sft f k+sft f' k from rfl,ih (sft f) (sft f') q]
  omega
theorem z9at (f q q':Nat->Nat)(i:Nat):conv f (fun k=>q k+q' k) i=conv f q i+conv f q' i:=by
 induction i generalizing f q q' with
 | zero=>rw [z1c,z1c,z1c,zqt]
 | succ i ih=>
  rw [z1g,z1g,z1g,ih (sft f) q q',show (sft fun k=>q k+q' k)=fun k=>sft q k+sft q' k from rfl,ih f (sft q) (sft q')]
  omega
theorem z2ap (f q:Nat->Nat):sft (conv f q)=fun k=>conv (sft f) q k+conv f (sft q) k:=by
 funext k
 exact z1g f q k
theorem z5ax (f q r:Nat->Nat)(i:Nat):conv (conv f q) r i=conv f (conv q r) i:=by
 induction i generalizing f q r with
 | zero=>rw [z1c,z1c,z1c,z1c,zqs]
 | succ i ih=>
  rw [z1g,z1g,z2ap f q,z2ap q r,z9au,z9at,ih (sft f) q r,ih f (sft q) r,ih f q (sft r)]
  omega
def dlt:Nat->Nat:=fun i=>if i=0 then 1 else 0
theorem z2bz (f:Nat->Nat)(i:Nat):conv f (fun _=>0) i=0:=by
 induction i generalizing f with
 | zero=>rw [z1c,Nat.mul_zero]
 | succ i ih=>rw [z1g,ih,show (sft fun _=>0)=fun _=>0 from rfl,ih]
theorem z3ba (f:Nat->Nat)(i:Nat):conv f dlt i=f i:=by
 induction i generalizing f with
 | zero=>rw [z1c];show f 0*1=f 0;rw [Nat.mul_one]
 | succ i ih=>
  rw [z1g,ih,show sft dlt=fun _=>0 from rfl,z2bz];rfl
def pwc (o:Nat->Nat):Nat->Nat->Nat
 | 0=>dlt
 | c+1=>conv (pwc o c) o
theorem z8l (o:Nat->Nat)(a b:Nat):conv (pwc o a) (pwc o b)=pwc o (a+b):=by
 induction b with
 | zero=>funext i;exact z3ba _ i
 | succ b ih=>
  show conv (pwc o a) (conv (pwc o b) o)=conv (pwc o (a+b)) o
  rw [<- ih];funext i
  exact (z5ax _ _ _ i).symm
theorem z6bc (o:Nat->Nat):pwc o 1=o:=by
 have key:∀ (q:Nat->Nat) (i:Nat),conv dlt q i=q i:=by
  intro q i
  induction i generalizing q with
  | zero=>rw [z1c];show 1*q 0=q 0;rw [Nat.one_mul]
  | succ i ih=>
   have e0:∀ (q:Nat->Nat) (i:Nat),conv (fun _=>0) q i=0:=by
    intro q i
    induction i generalizing q with
    | zero=>rw [z1c,Nat.zero_mul]
    | succ i ih=>rw [z1g,ih,show (sft fun _=>0)=fun _=>0 from rfl,ih]
   rw [z1g,ih,show sft dlt=fun _=>0 from rfl,e0,Nat.zero_add];rfl
 funext i
 exact key o i
theorem z9as {f f' q q':Nat->Nat}(i:Nat)(hf:∀ k,k<=i->f k<=f' k)(hq:∀ k,k<=i->q k<=q' k):conv f q i<=conv f' q' i:=by
 induction i generalizing f f' q q' with
 | zero=>rw [z1c,z1c];exact Nat.mul_le_mul (hf 0 (by omega)) (hq 0 (by omega))
 | succ i ih=>
  rw [z1g,z1g];exact Nat.add_le_add (ih (fun k hk=>hf (k+1) (by omega)) (fun k hk=>hq k (by omega))) (ih (fun k hk=>hf k (by omega)) (fun k hk=>hq (k+1) (by omega)))
theorem z9ar (a:Nat)(f q:Nat->Nat)(i:Nat):conv (fun k=>a*f k) q i=a*conv f q i:=by
 induction i generalizing f q with
 | zero=>rw [z1c,z1c,zqs]
 | succ i ih=>rw [z1g,z1g,ih f (sft q),show (sft fun k=>a*f k)=fun k=>a*sft f k from rfl,ih (sft f) q,zqt]
theorem z2by (c i:Nat):conv (fun k=>c ^ k) (fun _=>1) i=(c+1) ^ i:=by
 induction i with
 | zero=>rw [z1c];rfl
 | succ i ih=>
  rw [z1g,show (sft fun _=>1)=fun _=>1 from rfl,show (sft fun k=>c ^ k)=fun k=>c*c ^ k by funext k;exact (Nat.pow_succ c k).trans (Nat.mul_comm _ _),z9ar,ih,Nat.pow_succ,Nat.mul_comm ((c+1) ^ i),Nat.add_mul,Nat.one_mul]
theorem z7ak {o:Nat->Nat}(ho:∀ k,o k<=1)(c i:Nat):pwc o c i<=c ^ i:=by
 induction c generalizing i with
 | zero=>
  show dlt i<=0 ^ i
  unfold dlt;split
  ·subst i;exact zqj _
  ·exact zqr _
 | succ c ih=>
  rw [<- z2by c i];exact z9as i (fun k _=>ih k) (fun k _=>ho k)
def z2l (k:Nat):Nat->Nat:=fun i=>if i<k then 1 else 0
theorem z8p (k i:Nat):z2l k i<=1:=by unfold z2l;split <;> omega
theorem z4c {k c i m:Nat}(hc:c<=4096)(hi:i<=m):pwc (z2l k) c i<=2 ^ (12*m):=
 zqq (z7ak (z8p k) c i) (zqq (z1al (a:=12) hc i) (Nat.pow_le_pow_right (by omega) (by omega)))
end Go.Proofs.YtpmofjomadibmaaGreatDoor
