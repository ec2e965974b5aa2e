/- Xt Xu -/
import Derived.Test.YtpmofjomadibmaaGreatDoorQ20
namespace Go.Proofs.YtpmofjomadibmaaGreatDoor
set_option maxHeartbeats 8000000
open Go.RowKit Go.Sort
open Go.ChangeMaps (setBlock heap_setBlock_same heap_setBlock_other)
set_option linter.unusedVariables false
set_option maxRecDepth 100000
open Cl
namespace Cl
set_option maxHeartbeats 8000000
def vdZ:Vd:=⟨0,⟨0,0,0,0,0,0⟩,0,0,0,0⟩
def z8p (s:Pl)(p q:List Int)(l:List Sn):Vd×Int:=
 if chk s p q l=0 then (if 1<(z4m 6 l l.length).length then (vdZ,40) else (jud s p q l,0)) else (vdZ,chk s p q l)
theorem z3ac {s:Pl}{p q:List Int}{l:List Sn}(h:chk s p q l=0):shV s∧rv p q=true∧z6k s l=true∧l.length≤40∧p.length≤20∧q.length≤20:=by
 unfold chk at h;cases h1:(decide (shV s) && rv p q && z6k s l) with
 | false=>rw [h1,if_neg (by decide)] at h;cases h
 | true=>
  rw [h1,if_pos rfl] at h;cases h2:(decide (40<l.length) || decide (20<p.length) || decide (20<q.length)) with
  | true=>rw [h2,if_pos rfl] at h;cases h
  | false=>
   rw [Bool.and_eq_true,Bool.and_eq_true] at h1;rw [Bool.or_eq_false_iff,Bool.or_eq_false_iff] at h2;exact ⟨of_decide_eq_true h1.1.1,h1.1.2,h1.2,by have:=of_decide_eq_false h2.1.1;omega,by have:=of_decide_eq_false h2.1.2;omega,by have:=of_decide_eq_false h2.2;omega⟩
def JdR (w0:World)(g:Option Nat)(M:List (Nat×Value))(L:List Ob)(O:List Rw)(v:Vd×Int)(en:Ending)(w':World):Prop:=
 ∃ (A1:Option Addr) (n1 c1:Nat) (A2:Option Addr) (n2 c2:Nat),en=.returned (.tuple #[.agg (v.1.vs A1 n1 c1 A2 n2 c2),.int .i64 v.2])∧Ow w0 w' g M (L++[⟨A1,n1,c1,z0c (Na.dig v.1.x)⟩]++[⟨A2,n2,c2,z0c (Na.dig v.1.y)⟩]) O
end Cl
theorem z8g {w0 w:World}{g:Option Nat}{M:List (Nat×Value)}{L:List Ob}{O:List Rw}(h:Ow w0 w g M L O):Ow w0 w g M (L++[⟨none,0,0,z0c (Na.dig 0)⟩]++[⟨none,0,0,z0c (Na.dig 0)⟩]) O:=
 (h.old (A:=none) (n:=0) (c:=0) (vs:=z0c (Na.dig 0)) (fun hh=>absurd hh (by decide +kernel)) (by decide +kernel) (by omega) (by omega)).old (A:=none) (n:=0) (c:=0) (vs:=z0c (Na.dig 0)) (fun hh=>absurd hh (by decide +kernel)) (by decide +kernel) (by omega) (by omega)
theorem z2bb {w0 w:World}{g:Option Nat}{M:List (Nat×Value)}{L:List Ob}{O:List Rw}{A A2 A3:Option Addr}{n c m c2 n3 c3 e3:Nat}{p q:List Int}{l:List Sn}(s:Pl)(h:Ow w0 w g M L O)(i j k:Nat)(hi:L[i]?=some ⟨A,n,c,z0p p⟩)(hj:L[j]?=some ⟨A2,m,c2,z0p q⟩)(hk:L[k]?=some ⟨A3,n3*8,e3,fl l⟩)(ht:Tab w0):
  Calls Tryz.prog 15 #[.agg s.vs,.agg #[.slice A n c,.slice A2 m c2],.slice A3 n3 c3] w (JdR w0 g M L O (z8p s p q l)):=by
 have H0:=((h.arr s.vs 6 rfl (by omega) 33).pair (.slice A n c) (.slice A2 m c2) 27).arr #[.int .i64 0,.int .i64 0,.int .i64 0,.int .i64 0,.int .i64 0,.int .i64 0,.int .i64 0,.int .i64 0,.int .i64 0,.slice none 0 0,.slice none 0 0] 11 rfl (by omega) 42
 simp only [World.size_alloc,zqa,zqb,zqc] at H0;have HLn:l.length=n3:=by
  have a:=(h.sl hk).1
  rw [z3m] at a;omega
 have HNl:=zh HLn;have HC:=zh (z6bo s H0 i j k hi hj hk ht (c3:=c3))
 have HH:Hid (L[i]?=some ⟨A,n,c,z0p p⟩∧L[j]?=some ⟨A2,m,c2,z0p q⟩∧L[k]?=some ⟨A3,n3*8,e3,fl l⟩):=⟨hi,hj,hk⟩
 have HT:=zh ht;obtain ⟨so,ch,ra,ba,ro,co⟩:=s;unfold Pl.vs at *
 obtain ⟨a0,a1,a2,a3,a4,a5⟩:=zc6 (H0.row (O.length+0) (zk rfl));have b0:=H0.p0 (O.length+1) (zk rfl)
 have b1:=H0.p1 (O.length+1) (zk rfl)
 clear hi hj hk HLn h ht;go_enter Tryz.func15,Tryz.ntmps15
 go_wp2_with fail;refine HC.out.mono ?_;rintro e w1 ⟨rfl,H1⟩;clear HC H0 a0 a1 a2 a3 a4 a5 b0 b1;obtain ⟨er,her⟩:∃ z,chk ⟨so,ch,ra,ba,ro,co⟩ p q l=z:=⟨_,rfl⟩
 rw [her];by_cases he:er=0
 ·subst he
  have HZ:=zh (z3ac her)
  have HJ:Hid (z8p ⟨so,ch,ra,ba,ro,co⟩ p q l=if 1<(z4m 6 l n3).length then (vdZ,40) else (jud ⟨so,ch,ra,ba,ro,co⟩ p q l,0)):=by unfold Hid z8p;rw [if_pos her,HNl.out]
  have hn100:n3≤100:=by have:=HZ.out.2.2.2.1;have:=HNl.out;omega
  have HG:=zh (z6ar 6 (by decide) A3 n3 c3 l w1 HNl.out hn100 (H1.sl HH.out.2.2).2.2.2)
  clear her;obtain ⟨gs,hgs⟩:∃ z,z4m 6 l n3=z:=⟨_,rfl⟩
  rw [hgs] at HJ HG;clear hgs;go_wp2_with fail;refine HG.out.mono ?_;rintro e w2 ⟨Ao,co2,inn,rfl,hV,-,hO⟩;have hgl:=z4b hV
  obtain ⟨gn,hgn⟩:∃ z,inn.length=z:=⟨_,rfl⟩
  rw [hgn] at hgl;rw [hgn];have H2:=H1.go hO.below
  clear HG hV hO H1 hgn;rcases zqi 1 gn with h1 | h1
  ·have d1:decide (1<gn)=true:=zt h1
   have d2:decide ((1:Int)<(gn:Int))=true:=zt (by omega)
   have HR:Hid (z8p ⟨so,ch,ra,ba,ro,co⟩ p q l=(vdZ,40)):=by unfold Hid;rw [HJ.out,if_pos (by omega)]
   clear h1 hgl;obtain ⟨v0,v1,v2,v3,v4,v5,v6,v7,v8,v9,v10⟩:=zc11 (H2.row (O.length+2) (zk rfl));obtain ⟨f0,f1,f2,f3,f4,f5,f6,f7,f8,f9,f10⟩:=zf11 (H2.row (O.length+2) (zk rfl));have H8:=z6y H2 (O.length+2) (zk rfl) (.int .i64 0) (.int .i64 0) (.int .i64 0) (.int .i64 0) (.int .i64 0) (.int .i64 0) (.int .i64 0) (.int .i64 0) (.int .i64 0) (.slice none 0 0) (.slice none 0 0)
   rw [z0n] at H8;simp only [zqe,zqd] at H8;obtain ⟨z0,z1,z2,z3,z4,z5,z6,z7,z8,z9,z10⟩:=zc11 (H8.row (O.length+2) (zk rfl));have HE:=zh (z8g H8.fewO)
   clear H2 H8;go_wp2_with fail;refine bodyPost_ret (v:=.tuple #[.agg #[.int .i64 0,.int .i64 0,.int .i64 0,.int .i64 0,.int .i64 0,.int .i64 0,.int .i64 0,.int .i64 0,.int .i64 0,.slice none 0 0,.slice none 0 0],.int .i64 40]) (by simp [results,Tryz.results15,go_sem,z0,z1,z2,z3,z4,z5,z6,z7,z8,z9,z10]) rfl ?_
   rw [HR.out];exact ⟨none,0,0,none,0,0,rfl,HE.out⟩
  ·have d1:decide (1<gn)=false:=zn (by omega)
   have d2:decide ((1:Int)<(gn:Int))=false:=zn (by omega)
   have HR:Hid (z8p ⟨so,ch,ra,ba,ro,co⟩ p q l=(jud ⟨so,ch,ra,ba,ro,co⟩ p q l,0)):=by unfold Hid;rw [HJ.out,if_neg (by omega)]
   have HC:=zh (z6bn ⟨so,ch,ra,ba,ro,co⟩ HZ.out.1 H2 i j k HH.out.1 HH.out.2.1 HH.out.2.2 hn100 HT.out (c3:=c3))
   unfold Pl.vs at HC;obtain ⟨a0,a1,a2,a3,a4,a5⟩:=zc6 (H2.row (O.length+0) (zk rfl));have b0:=H2.p0 (O.length+1) (zk rfl)
   have b1:=H2.p1 (O.length+1) (zk rfl)
   clear h1 hgl H2;go_wp2_with fail;refine HC.out.mono ?_;rintro e w3 ⟨B1,n1,d1,B2,n2,d2,rfl,H7⟩;obtain ⟨v,hv⟩:∃ z,jud ⟨so,ch,ra,ba,ro,co⟩ p q l=z:=⟨_,rfl⟩
   rw [hv] at HR H7;rw [hv];obtain ⟨vk,⟨q0,q1,q2,q3,q4,q5⟩,vc,vh,vx,vy⟩:=v
   unfold Vd.vs;simp only [zqa,zqb,zqc] at H7;clear HC a0 a1 a2 a3 a4 a5 b0 b1 hv;obtain ⟨v0,v1,v2,v3,v4,v5,v6,v7,v8,v9,v10⟩:=zc11 (H7.row (O.length+2) (zk rfl));obtain ⟨f0,f1,f2,f3,f4,f5,f6,f7,f8,f9,f10⟩:=zf11 (H7.row (O.length+2) (zk rfl));have H8:=z6y H7 (O.length+2) (zk rfl) (.int .i64 vk) (.int .i64 q0) (.int .i64 q1) (.int .i64 q2) (.int .i64 q3) (.int .i64 q4) (.int .i64 q5) (.int .i64 vc) (.int .i64 vh) (.slice B1 n1 d1) (.slice B2 n2 d2)
   rw [z0n] at H8;simp only [zqe,zqd] at H8;obtain ⟨z0,z1,z2,z3,z4,z5,z6,z7,z8,z9,z10⟩:=zc11 (H8.row (O.length+2) (zk rfl));have HE:=zh H8.fewO;clear H7 H8;go_wp2_with fail;refine bodyPost_ret (v:=.tuple #[.agg #[.int .i64 vk,.int .i64 q0,.int .i64 q1,.int .i64 q2,.int .i64 q3,.int .i64 q4,.int .i64 q5,.int .i64 vc,.int .i64 vh,.slice B1 n1 d1,.slice B2 n2 d2],.int .i64 0]) (by simp [results,Tryz.results15,go_sem,z0,z1,z2,z3,z4,z5,z6,z7,z8,z9,z10]) rfl ?_
   rw [HR.out];exact ⟨B1,n1,d1,B2,n2,d2,rfl,by rw [zqa];exact HE.out⟩
 ·have g1:(er == 0)=false:=z1n he
  have g2:(er != 0)=true:=by rw [bne,g1];rfl
  have HR:Hid (z8p ⟨so,ch,ra,ba,ro,co⟩ p q l=(vdZ,er)):=by unfold Hid z8p;rw [her,if_neg he]
  clear he her;obtain ⟨v0,v1,v2,v3,v4,v5,v6,v7,v8,v9,v10⟩:=zc11 (H1.row (O.length+2) (zk rfl));obtain ⟨f0,f1,f2,f3,f4,f5,f6,f7,f8,f9,f10⟩:=zf11 (H1.row (O.length+2) (zk rfl));have H8:=z6y H1 (O.length+2) (zk rfl) (.int .i64 0) (.int .i64 0) (.int .i64 0) (.int .i64 0) (.int .i64 0) (.int .i64 0) (.int .i64 0) (.int .i64 0) (.int .i64 0) (.slice none 0 0) (.slice none 0 0)
  rw [z0n] at H8;simp only [zqe,zqd] at H8;obtain ⟨z0,z1,z2,z3,z4,z5,z6,z7,z8,z9,z10⟩:=zc11 (H8.row (O.length+2) (zk rfl));have HE:=zh (z8g H8.fewO)
  clear H1 H8;go_wp2_with fail;refine bodyPost_ret (v:=.tuple #[.agg #[.int .i64 0,.int .i64 0,.int .i64 0,.int .i64 0,.int .i64 0,.int .i64 0,.int .i64 0,.int .i64 0,.int .i64 0,.slice none 0 0,.slice none 0 0],.int .i64 er]) (by simp [results,Tryz.results15,go_sem,z0,z1,z2,z3,z4,z5,z6,z7,z8,z9,z10]) rfl ?_
  rw [HR.out];exact ⟨none,0,0,none,0,0,rfl,HE.out⟩
theorem z6bk {w0 w:World}{g:Option Nat}{M:List (Nat×Value)}{L:List Ob}{O:List Rw}{A A2 A3:Option Addr}{n c m c2 n3 c3 e3:Nat}{p q:List Int}{l:List Sn}(s:Pl)(h:Ow w0 w g M L O)(i j k:Nat)(hi:L[i]?=some ⟨A,n,c,z0p p⟩)(hj:L[j]?=some ⟨A2,m,c2,z0p q⟩)(hk:L[k]?=some ⟨A3,n3*8,e3,fl l⟩):
  Calls Tryz.prog 16 #[.agg s.vs,.agg #[.slice A n c,.slice A2 m c2],.slice A3 n3 c3] w (JdR w0 g M L O (z8p s p q l)):=by
 have H0:=((h.arr s.vs 6 rfl (by omega) 33).pair (.slice A n c) (.slice A2 m c2) 27).arr #[.int .i64 0,.int .i64 0,.int .i64 0,.int .i64 0,.int .i64 0,.int .i64 0,.int .i64 0,.int .i64 0,.int .i64 0,.slice none 0 0,.slice none 0 0] 11 rfl (by omega) 42
 simp only [World.size_alloc,zqa,zqb,zqc] at H0;have HLn:l.length=n3:=by
  have a:=(h.sl hk).1
  rw [z3m] at a;omega
 have HNl:=zh HLn;have HC:=zh (z6bj s H0 i j k hi hj hk (c3:=c3))
 have HH:Hid (L[i]?=some ⟨A,n,c,z0p p⟩∧L[j]?=some ⟨A2,m,c2,z0p q⟩∧L[k]?=some ⟨A3,n3*8,e3,fl l⟩):=⟨hi,hj,hk⟩
 obtain ⟨so,ch,ra,ba,ro,co⟩:=s;unfold Pl.vs at *
 obtain ⟨a0,a1,a2,a3,a4,a5⟩:=zc6 (H0.row (O.length+0) (zk rfl));have b0:=H0.p0 (O.length+1) (zk rfl)
 have b1:=H0.p1 (O.length+1) (zk rfl)
 clear hi hj hk HLn h;go_enter Tryz.func16,Tryz.ntmps16
 go_wp2_with fail;refine HC.out.mono ?_;rintro e w1 ⟨rfl,H1⟩;clear HC H0 a0 a1 a2 a3 a4 a5 b0 b1;obtain ⟨er,her⟩:∃ z,chk ⟨so,ch,ra,ba,ro,co⟩ p q l=z:=⟨_,rfl⟩
 rw [her];by_cases he:er=0
 ·subst he
  have HZ:=zh (z3ac her)
  have HJ:Hid (z8p ⟨so,ch,ra,ba,ro,co⟩ p q l=if 1<(z4m 6 l n3).length then (vdZ,40) else (jud ⟨so,ch,ra,ba,ro,co⟩ p q l,0)):=by unfold Hid z8p;rw [if_pos her,HNl.out]
  have hn100:n3≤100:=by have:=HZ.out.2.2.2.1;have:=HNl.out;omega
  have HG:=zh (z5au 6 (by decide) A3 n3 c3 l w1 HNl.out hn100 (H1.sl HH.out.2.2).2.2.2)
  clear her;obtain ⟨gs,hgs⟩:∃ z,z4m 6 l n3=z:=⟨_,rfl⟩
  rw [hgs] at HJ HG;clear hgs;go_wp2_with fail;refine HG.out.mono ?_;rintro e w2 ⟨Ao,co2,inn,rfl,hV,-,hO⟩;have hgl:=z4b hV
  obtain ⟨gn,hgn⟩:∃ z,inn.length=z:=⟨_,rfl⟩
  rw [hgn] at hgl;rw [hgn];have H2:=H1.go hO.below
  clear HG hV hO H1 hgn;rcases zqi 1 gn with h1 | h1
  ·have d1:decide (1<gn)=true:=zt h1
   have d2:decide ((1:Int)<(gn:Int))=true:=zt (by omega)
   have HR:Hid (z8p ⟨so,ch,ra,ba,ro,co⟩ p q l=(vdZ,40)):=by unfold Hid;rw [HJ.out,if_pos (by omega)]
   clear h1 hgl;obtain ⟨v0,v1,v2,v3,v4,v5,v6,v7,v8,v9,v10⟩:=zc11 (H2.row (O.length+2) (zk rfl));obtain ⟨f0,f1,f2,f3,f4,f5,f6,f7,f8,f9,f10⟩:=zf11 (H2.row (O.length+2) (zk rfl));have H8:=z6y H2 (O.length+2) (zk rfl) (.int .i64 0) (.int .i64 0) (.int .i64 0) (.int .i64 0) (.int .i64 0) (.int .i64 0) (.int .i64 0) (.int .i64 0) (.int .i64 0) (.slice none 0 0) (.slice none 0 0)
   rw [z0n] at H8;simp only [zqe,zqd] at H8;obtain ⟨z0,z1,z2,z3,z4,z5,z6,z7,z8,z9,z10⟩:=zc11 (H8.row (O.length+2) (zk rfl));have HE:=zh (z8g H8.fewO)
   clear H2 H8;go_wp2_with fail;refine bodyPost_ret (v:=.tuple #[.agg #[.int .i64 0,.int .i64 0,.int .i64 0,.int .i64 0,.int .i64 0,.int .i64 0,.int .i64 0,.int .i64 0,.int .i64 0,.slice none 0 0,.slice none 0 0],.int .i64 40]) (by simp [results,Tryz.results16,go_sem,z0,z1,z2,z3,z4,z5,z6,z7,z8,z9,z10]) rfl ?_
   rw [HR.out];exact ⟨none,0,0,none,0,0,rfl,HE.out⟩
  ·have d1:decide (1<gn)=false:=zn (by omega)
   have d2:decide ((1:Int)<(gn:Int))=false:=zn (by omega)
   have HR:Hid (z8p ⟨so,ch,ra,ba,ro,co⟩ p q l=(jud ⟨so,ch,ra,ba,ro,co⟩ p q l,0)):=by unfold Hid;rw [HJ.out,if_neg (by omega)]
   have HC:=zh (z6bi ⟨so,ch,ra,ba,ro,co⟩ HZ.out.1 H2 i j k HH.out.1 HH.out.2.1 HH.out.2.2 hn100 (c3:=c3))
   unfold Pl.vs at HC;obtain ⟨a0,a1,a2,a3,a4,a5⟩:=zc6 (H2.row (O.length+0) (zk rfl));have b0:=H2.p0 (O.length+1) (zk rfl)
   have b1:=H2.p1 (O.length+1) (zk rfl)
   clear h1 hgl H2;go_wp2_with fail;refine HC.out.mono ?_;rintro e w3 ⟨B1,n1,d1,B2,n2,d2,rfl,H7⟩;obtain ⟨v,hv⟩:∃ z,jud ⟨so,ch,ra,ba,ro,co⟩ p q l=z:=⟨_,rfl⟩
   rw [hv] at HR H7;rw [hv];obtain ⟨vk,⟨q0,q1,q2,q3,q4,q5⟩,vc,vh,vx,vy⟩:=v
   unfold Vd.vs;simp only [zqa,zqb,zqc] at H7;clear HC a0 a1 a2 a3 a4 a5 b0 b1 hv;obtain ⟨v0,v1,v2,v3,v4,v5,v6,v7,v8,v9,v10⟩:=zc11 (H7.row (O.length+2) (zk rfl));obtain ⟨f0,f1,f2,f3,f4,f5,f6,f7,f8,f9,f10⟩:=zf11 (H7.row (O.length+2) (zk rfl));have H8:=z6y H7 (O.length+2) (zk rfl) (.int .i64 vk) (.int .i64 q0) (.int .i64 q1) (.int .i64 q2) (.int .i64 q3) (.int .i64 q4) (.int .i64 q5) (.int .i64 vc) (.int .i64 vh) (.slice B1 n1 d1) (.slice B2 n2 d2)
   rw [z0n] at H8;simp only [zqe,zqd] at H8;obtain ⟨z0,z1,z2,z3,z4,z5,z6,z7,z8,z9,z10⟩:=zc11 (H8.row (O.length+2) (zk rfl));have HE:=zh H8.fewO;clear H7 H8;go_wp2_with fail;refine bodyPost_ret (v:=.tuple #[.agg #[.int .i64 vk,.int .i64 q0,.int .i64 q1,.int .i64 q2,.int .i64 q3,.int .i64 q4,.int .i64 q5,.int .i64 vc,.int .i64 vh,.slice B1 n1 d1,.slice B2 n2 d2],.int .i64 0]) (by simp [results,Tryz.results16,go_sem,z0,z1,z2,z3,z4,z5,z6,z7,z8,z9,z10]) rfl ?_
   rw [HR.out];exact ⟨B1,n1,d1,B2,n2,d2,rfl,by rw [zqa];exact HE.out⟩
 ·have g1:(er == 0)=false:=z1n he
  have g2:(er != 0)=true:=by rw [bne,g1];rfl
  have HR:Hid (z8p ⟨so,ch,ra,ba,ro,co⟩ p q l=(vdZ,er)):=by unfold Hid z8p;rw [her,if_neg he]
  clear he her;obtain ⟨v0,v1,v2,v3,v4,v5,v6,v7,v8,v9,v10⟩:=zc11 (H1.row (O.length+2) (zk rfl));obtain ⟨f0,f1,f2,f3,f4,f5,f6,f7,f8,f9,f10⟩:=zf11 (H1.row (O.length+2) (zk rfl));have H8:=z6y H1 (O.length+2) (zk rfl) (.int .i64 0) (.int .i64 0) (.int .i64 0) (.int .i64 0) (.int .i64 0) (.int .i64 0) (.int .i64 0) (.int .i64 0) (.int .i64 0) (.slice none 0 0) (.slice none 0 0)
  rw [z0n] at H8;simp only [zqe,zqd] at H8;obtain ⟨z0,z1,z2,z3,z4,z5,z6,z7,z8,z9,z10⟩:=zc11 (H8.row (O.length+2) (zk rfl));have HE:=zh (z8g H8.fewO)
  clear H1 H8;go_wp2_with fail;refine bodyPost_ret (v:=.tuple #[.agg #[.int .i64 0,.int .i64 0,.int .i64 0,.int .i64 0,.int .i64 0,.int .i64 0,.int .i64 0,.int .i64 0,.int .i64 0,.slice none 0 0,.slice none 0 0],.int .i64 er]) (by simp [results,Tryz.results16,go_sem,z0,z1,z2,z3,z4,z5,z6,z7,z8,z9,z10]) rfl ?_
  rw [HR.out];exact ⟨none,0,0,none,0,0,rfl,HE.out⟩
structure SvK (w0:World)(g:Option Nat)(M:List (Nat×Value))(L:List Ob)(OO:List Rw)(b0 b1:Nat)(A1:Option Addr)(an1 ad1:Nat)(A2:Option Addr)(an2 ad2:Nat)(B1:Option Addr)(bn1 bd1:Nat)(B2:Option Addr)(bn2 bd2:Nat)(vk q0 q1 q2 q3 q4 q5 vc vh:Int)(S:ByteArray)(Ld:Nat→Bool)(u0 u1 u2 u3 u4 u5 u6 u7 u8 u9 u10 u11 u12 u13 u14 u15 u16 u17 u18 u19 u20 u21 u22 u23 u24 u25 u26 u27 u28 u29 u30 u31 u32 u33 u34 u35:Value)(W:World):Prop where
 ow:Ow w0 W g M L OO
 h0:Ld 0=true→u0=.pointer (some ⟨b0,0,none⟩)
 h1:Ld 1=true→u1=.int .i64 vk
 h2:Ld 2=true→u2=.pointer (some ⟨b1,0,none⟩)
 h3:Ld 3=true→u3=.int .i64 vk
 h4:Ld 4=true→u4=.bool true
 h5:Ld 5=true→u5=.bool true
 h6:Ld 6=true→u6=.pointer (some ⟨b0,1,none⟩)
 h7:Ld 7=true→u7=.agg #[.int .i64 q0,.int .i64 q1,.int .i64 q2,.int .i64 q3,.int .i64 q4,.int .i64 q5]
 h8:Ld 8=true→u8=.pointer (some ⟨b1,1,none⟩)
 h9:Ld 9=true→u9=.agg #[.int .i64 q0,.int .i64 q1,.int .i64 q2,.int .i64 q3,.int .i64 q4,.int .i64 q5]
 h10:Ld 10=true→u10=.bool true
 h11:Ld 11=true→u11=.bool true
 h12:Ld 12=true→u12=.bool true
 h13:Ld 13=true→u13=.pointer (some ⟨b0,7,none⟩)
 h14:Ld 14=true→u14=.int .i64 vc
 h15:Ld 15=true→u15=.pointer (some ⟨b1,7,none⟩)
 h16:Ld 16=true→u16=.int .i64 vc
 h17:Ld 17=true→u17=.bool true
 h18:Ld 18=true→u18=.bool true
 h19:Ld 19=true→u19=.bool true
 h20:Ld 20=true→u20=.pointer (some ⟨b0,8,none⟩)
 h21:Ld 21=true→u21=.int .i64 vh
 h22:Ld 22=true→u22=.pointer (some ⟨b1,8,none⟩)
 h23:Ld 23=true→u23=.int .i64 vh
 h24:Ld 24=true→u24=.bool true
 h25:Ld 25=true→u25=.bool true
 h26:Ld 26=true→u26=.bool true
 h27:Ld 27=true→u27=.pointer (some ⟨b0,9,none⟩)
 h28:Ld 28=true→u28=.agg #[.slice A1 an1 ad1,.slice A2 an2 ad2]
 h29:Ld 29=true→u29=.string S
 h30:Ld 30=true→u30=.pointer (some ⟨b1,9,none⟩)
 h31:Ld 31=true→u31=.agg #[.slice B1 bn1 bd1,.slice B2 bn2 bd2]
 h32:Ld 32=true→u32=.string S
 h33:Ld 33=true→u33=.bool true
 h34:Ld 34=true→u34=.bool true
 h35:Ld 35=true→u35=.bool true
def SvI (w0:World)(g:Option Nat)(M:List (Nat×Value))(L:List Ob)(OO:List Rw)(b0 b1:Nat)(A1:Option Addr)(an1 ad1:Nat)(A2:Option Addr)(an2 ad2:Nat)(B1:Option Addr)(bn1 bd1:Nat)(B2:Option Addr)(bn2 bd2:Nat)(vk q0 q1 q2 q3 q4 q5 vc vh:Int)(S:ByteArray)(A0:Act)(Ld:Nat→Bool)(a:Act)(W:World):Prop:=
 ∃ (u0 u1 u2 u3 u4 u5 u6 u7 u8 u9 u10 u11 u12 u13 u14 u15 u16 u17 u18 u19 u20 u21 u22 u23 u24 u25 u26 u27 u28 u29 u30 u31 u32 u33 u34 u35:Value),a=((((((((((((((((((((((((((((((((((((A0.put (some 5) u0).put (some 6) u1).put (some 7) u2).put (some 8) u3).put (some 9) u4).put (some 10) u5).put (some 11) u6).put (some 12) u7).put (some 13) u8).put (some 14) u9).put (some 15) u10).put (some 16) u11).put (some 17) u12).put (some 18) u13).put (some 19) u14).put (some 20) u15).put (some 21) u16).put (some 22) u17).put (some 23) u18).put (some 24) u19).put (some 25) u20).put (some 26) u21).put (some 27) u22).put (some 28) u23).put (some 29) u24).put (some 30) u25).put (some 31) u26).put (some 32) u27).put (some 33) u28).put (some 34) u29).put (some 35) u30).put (some 36) u31).put (some 37) u32).put (some 38) u33).put (some 39) u34).put (some 4) u35)∧SvK w0 g M L OO b0 b1 A1 an1 ad1 A2 an2 ad2 B1 bn1 bd1 B2 bn2 bd2 vk q0 q1 q2 q3 q4 q5 vc vh S Ld u0 u1 u2 u3 u4 u5 u6 u7 u8 u9 u10 u11 u12 u13 u14 u15 u16 u17 u18 u19 u20 u21 u22 u23 u24 u25 u26 u27 u28 u29 u30 u31 u32 u33 u34 u35 W
theorem z6bd {w0 w:World}{g:Option Nat}{M:List (Nat×Value)}{L:List Ob}{O:List Rw}(v:Vd){A1 A2 B1 B2:Option Addr}{an1 ad1 an2 ad2 bn1 bd1 bn2 bd2:Nat}(h:Ow w0 w g M L O)(i j k l:Nat)(hi:L[i]?=some ⟨A1,an1,ad1,z0c (Na.dig v.x)⟩)(hj:L[j]?=some ⟨A2,an2,ad2,z0c (Na.dig v.y)⟩)(hk:L[k]?=some ⟨B1,bn1,bd1,z0c (Na.dig v.x)⟩)(hl:L[l]?=some ⟨B2,bn2,bd2,z0c (Na.dig v.y)⟩):
  Calls Tryz.prog 17 #[.agg (v.vs A1 an1 ad1 A2 an2 ad2),.agg (v.vs B1 bn1 bd1 B2 bn2 bd2)] w fun e w'=>e=.returned (.bool true)∧Ow w0 w' g M L O:=by
 obtain ⟨vk,⟨q0,q1,q2,q3,q4,q5⟩,vc,vh,vx,vy⟩:=v
 unfold Vd.vs;have H0:=(h.arr #[.int .i64 vk,.int .i64 q0,.int .i64 q1,.int .i64 q2,.int .i64 q3,.int .i64 q4,.int .i64 q5,.int .i64 vc,.int .i64 vh,.slice A1 an1 ad1,.slice A2 an2 ad2] 11 rfl (by omega) 42).arr #[.int .i64 vk,.int .i64 q0,.int .i64 q1,.int .i64 q2,.int .i64 q3,.int .i64 q4,.int .i64 q5,.int .i64 vc,.int .i64 vh,.slice B1 bn1 bd1,.slice B2 bn2 bd2] 11 rfl (by omega) 42
 simp only [World.size_alloc,zqa,zqb,zqc] at H0;obtain ⟨S,hS⟩:∃ S,str (rprt (Na.up (Na.dig vx)) (Na.up (Na.dig vy)))=S:=⟨_,rfl⟩
 have HP1:Hid (∀ (W:World) {O:List Rw},Ow w0 W g M L O→Calls Tryz.prog 24 #[.agg #[.slice A1 an1 ad1,.slice A2 an2 ad2]] W fun e w'=>e=.returned (.string S)∧Ow w0 w' g M L O):=fun W O how=>by
  have:=z5g (p:=Na.up (Na.dig vx)) (q:=Na.up (Na.dig vy)) how i j (by rw [z0g];exact hi) (by rw [z0g];exact hj)
  rwa [hS] at this
 have HP2:Hid (∀ (W:World) {O:List Rw},Ow w0 W g M L O→Calls Tryz.prog 24 #[.agg #[.slice B1 bn1 bd1,.slice B2 bn2 bd2]] W fun e w'=>e=.returned (.string S)∧Ow w0 w' g M L O):=fun W O how=>by
  have:=z5g (p:=Na.up (Na.dig vx)) (q:=Na.up (Na.dig vy)) how k l (by rw [z0g];exact hk) (by rw [z0g];exact hl)
  rwa [hS] at this
 have HPl:Hid (∀ W:World,(binOp .eql 38 (.agg #[.int .i64 q0,.int .i64 q1,.int .i64 q2,.int .i64 q3,.int .i64 q4,.int .i64 q5]) (.agg #[.int .i64 q0,.int .i64 q1,.int .i64 q2,.int .i64 q3,.int .i64 q4,.int .i64 q5])).run Tryz.prog W=.ok (.bool true) W):=fun W=>by rw [z0af,zt rfl]
 obtain ⟨OO,hOO⟩:∃ z,O++[(⟨some ⟨w.heap.size,0,none⟩,11,11,42,[.int .i64 vk,.int .i64 q0,.int .i64 q1,.int .i64 q2,.int .i64 q3,.int .i64 q4,.int .i64 q5,.int .i64 vc,.int .i64 vh,.slice A1 an1 ad1,.slice A2 an2 ad2]⟩:Rw),⟨some ⟨w.heap.size+1,0,none⟩,11,11,42,[.int .i64 vk,.int .i64 q0,.int .i64 q1,.int .i64 q2,.int .i64 q3,.int .i64 q4,.int .i64 q5,.int .i64 vc,.int .i64 vh,.slice B1 bn1 bd1,.slice B2 bn2 bd2]⟩]=z:=⟨_,rfl⟩
 have HO:Hid (Ow w0 ((w.alloc (.cells #[.int .i64 vk,.int .i64 q0,.int .i64 q1,.int .i64 q2,.int .i64 q3,.int .i64 q4,.int .i64 q5,.int .i64 vc,.int .i64 vh,.slice A1 an1 ad1,.slice A2 an2 ad2] 42)).alloc (.cells #[.int .i64 vk,.int .i64 q0,.int .i64 q1,.int .i64 q2,.int .i64 q3,.int .i64 q4,.int .i64 q5,.int .i64 vc,.int .i64 vh,.slice B1 bn1 bd1,.slice B2 bn2 bd2] 42)) g M L OO):=by rw [← hOO];exact H0
 obtain ⟨vi,hvi⟩:∃ z,O.length+0=z:=⟨_,rfl⟩
 obtain ⟨wi,hwi⟩:∃ z,O.length+1=z:=⟨_,rfl⟩
 have HVr:Hid (OO[vi]?=some (⟨some ⟨w.heap.size,0,none⟩,11,11,42,[.int .i64 vk,.int .i64 q0,.int .i64 q1,.int .i64 q2,.int .i64 q3,.int .i64 q4,.int .i64 q5,.int .i64 vc,.int .i64 vh,.slice A1 an1 ad1,.slice A2 an2 ad2]⟩:Rw)):=by unfold Hid;rw [← hOO,← hvi,z0a];rfl
 have HWr:Hid (OO[wi]?=some (⟨some ⟨w.heap.size+1,0,none⟩,11,11,42,[.int .i64 vk,.int .i64 q0,.int .i64 q1,.int .i64 q2,.int .i64 q3,.int .i64 q4,.int .i64 q5,.int .i64 vc,.int .i64 vh,.slice B1 bn1 bd1,.slice B2 bn2 bd2]⟩:Rw)):=by unfold Hid;rw [← hOO,← hwi,z0a];rfl
 have HOe:=zh hOO;clear h hi hj hk hl H0 hS hOO hvi hwi;go_enter Tryz.func17,Tryz.ntmps17
 go_wp2_with fail;refine z0u (SvI w0 g M L OO w.heap.size (w.heap.size+1) A1 an1 ad1 A2 an2 ad2 B1 bn1 bd1 B2 bn2 bd2 vk q0 q1 q2 q3 q4 q5 vc vh S) (by kernel_rfl) (by kernel_rfl) ?_ ?_ ?_
 ·refine ⟨undef,undef,undef,undef,undef,undef,undef,undef,undef,undef,undef,undef,undef,undef,undef,undef,undef,undef,undef,undef,undef,undef,undef,undef,undef,undef,undef,undef,undef,undef,undef,undef,undef,undef,undef,(.bool false),?_,⟨HO.out.drew,?_,?_,?_,?_,?_,?_,?_,?_,?_,?_,?_,?_,?_,?_,?_,?_,?_,?_,?_,?_,?_,?_,?_,?_,?_,?_,?_,?_,?_,?_,?_,?_,?_,?_,?_,?_⟩⟩
  ·simp only [Act.put,zT,zZ,zS]
  all_goals (intro h;cases h)
 ·rintro jj Ld b W hj hf hcl hd ⟨u0,u1,u2,u3,u4,u5,u6,u7,u8,u9,u10,u11,u12,u13,u14,u15,u16,u17,u18,u19,u20,u21,u22,u23,u24,u25,u26,u27,u28,u29,u30,u31,u32,u33,u34,u35,rfl,hC⟩;have hj':jj<36:=hj
  have hcase:jj=0∨jj=1∨jj=2∨jj=3∨jj=4∨jj=5∨jj=6∨jj=7∨jj=8∨jj=9∨jj=10∨jj=11∨jj=12∨jj=13∨jj=14∨jj=15∨jj=16∨jj=17∨jj=18∨jj=19∨jj=20∨jj=21∨jj=22∨jj=23∨jj=24∨jj=25∨jj=26∨jj=27∨jj=28∨jj=29∨jj=30∨jj=31∨jj=32∨jj=33∨jj=34∨jj=35:=by omega
  clear hj hj';simp only [Act.put,zT,zZ,zS];rcases hcase with rfl | rfl | rfl | rfl | rfl | rfl | rfl | rfl | rfl | rfl | rfl | rfl | rfl | rfl | rfl | rfl | rfl | rfl | rfl | rfl | rfl | rfl | rfl | rfl | rfl | rfl | rfl | rfl | rfl | rfl | rfl | rfl | rfl | rfl | rfl | rfl
  ·clear hd hcl;refine zw rfl fun K hK=>?_
   go_simp;refine hK _ _ ⟨_,_,_,_,_,_,_,_,_,_,_,_,_,_,_,_,_,_,_,_,_,_,_,_,_,_,_,_,_,_,_,_,_,_,_,_,?_,{hC with h0:=fun _=>rfl}⟩;simp only [Act.put,zT,zZ,zS]
  ·obtain rfl:=hC.h0 (hd 0 (by kernel_rfl));have y0:=(hC.ow.row vi HVr.out).cellAt 0 (by decide)
   clear hd hcl;refine zw rfl fun K hK=>?_
   go_simp;refine hK _ _ ⟨_,_,_,_,_,_,_,_,_,_,_,_,_,_,_,_,_,_,_,_,_,_,_,_,_,_,_,_,_,_,_,_,_,_,_,_,?_,{hC with h1:=fun _=>rfl}⟩;simp only [Act.put,zT,zZ,zS]
  ·clear hd hcl;refine zw rfl fun K hK=>?_
   go_simp;refine hK _ _ ⟨_,_,_,_,_,_,_,_,_,_,_,_,_,_,_,_,_,_,_,_,_,_,_,_,_,_,_,_,_,_,_,_,_,_,_,_,?_,{hC with h2:=fun _=>rfl}⟩;simp only [Act.put,zT,zZ,zS]
  ·obtain rfl:=hC.h2 (hd 2 (by kernel_rfl));have z0:=(hC.ow.row wi HWr.out).cellAt 0 (by decide)
   clear hd hcl;refine zw rfl fun K hK=>?_
   go_simp;refine hK _ _ ⟨_,_,_,_,_,_,_,_,_,_,_,_,_,_,_,_,_,_,_,_,_,_,_,_,_,_,_,_,_,_,_,_,_,_,_,_,?_,{hC with h3:=fun _=>rfl}⟩;simp only [Act.put,zT,zZ,zS]
  ·obtain rfl:=hC.h1 (hd 1 (by kernel_rfl));obtain rfl:=hC.h3 (hd 3 (by kernel_rfl));clear hd hcl;refine zw rfl fun K hK=>?_
   go_simp;refine hK _ _ ⟨_,_,_,_,_,_,_,_,_,_,_,_,_,_,_,_,_,_,_,_,_,_,_,_,_,_,_,_,_,_,_,_,_,_,_,_,?_,{hC with h4:=fun _=>rfl}⟩;simp only [Act.put,zT,zZ,zS]
  ·obtain rfl:=hC.h4 (hd 4 (by kernel_rfl));clear hd hcl;refine zw rfl fun K hK=>?_
   go_simp;refine hK _ _ ⟨_,_,_,_,_,_,_,_,_,_,_,_,_,_,_,_,_,_,_,_,_,_,_,_,_,_,_,_,_,_,_,_,_,_,_,_,?_,{hC with h5:=fun _=>rfl}⟩;simp only [Act.put,zT,zZ,zS]
  ·obtain rfl:=hC.h5 (hd 5 (by kernel_rfl));clear hd hcl;refine zw rfl fun K hK=>?_
   go_simp;refine hK _ _ ⟨_,_,_,_,_,_,_,_,_,_,_,_,_,_,_,_,_,_,_,_,_,_,_,_,_,_,_,_,_,_,_,_,_,_,_,_,?_,{hC with h6:=fun _=>rfl}⟩;simp only [Act.put,zT,zZ,zS]
  ·obtain rfl:=hC.h5 (hd 5 (by kernel_rfl));obtain rfl:=hC.h6 (hd 6 (by kernel_rfl));have y1:=(hC.ow.row vi HVr.out).cellAt 1 (by decide)
   have y2:=(hC.ow.row vi HVr.out).cellAt 2 (by decide)
   have y3:=(hC.ow.row vi HVr.out).cellAt 3 (by decide)
   have y4:=(hC.ow.row vi HVr.out).cellAt 4 (by decide)
   have y5:=(hC.ow.row vi HVr.out).cellAt 5 (by decide)
   have y6:=(hC.ow.row vi HVr.out).cellAt 6 (by decide)
   clear hd hcl;refine zw rfl fun K hK=>?_
   go_simp;refine hK _ _ ⟨_,_,_,_,_,_,_,_,_,_,_,_,_,_,_,_,_,_,_,_,_,_,_,_,_,_,_,_,_,_,_,_,_,_,_,_,?_,{hC with h7:=fun _=>rfl}⟩;simp only [Act.put,zT,zZ,zS]
  ·obtain rfl:=hC.h5 (hd 5 (by kernel_rfl));clear hd hcl;refine zw rfl fun K hK=>?_
   go_simp;refine hK _ _ ⟨_,_,_,_,_,_,_,_,_,_,_,_,_,_,_,_,_,_,_,_,_,_,_,_,_,_,_,_,_,_,_,_,_,_,_,_,?_,{hC with h8:=fun _=>rfl}⟩;simp only [Act.put,zT,zZ,zS]
  ·obtain rfl:=hC.h5 (hd 5 (by kernel_rfl));obtain rfl:=hC.h8 (hd 8 (by kernel_rfl));have z1:=(hC.ow.row wi HWr.out).cellAt 1 (by decide)
   have z2:=(hC.ow.row wi HWr.out).cellAt 2 (by decide)
   have z3:=(hC.ow.row wi HWr.out).cellAt 3 (by decide)
   have z4:=(hC.ow.row wi HWr.out).cellAt 4 (by decide)
   have z5:=(hC.ow.row wi HWr.out).cellAt 5 (by decide)
   have z6:=(hC.ow.row wi HWr.out).cellAt 6 (by decide)
   clear hd hcl;refine zw rfl fun K hK=>?_
   go_simp;refine hK _ _ ⟨_,_,_,_,_,_,_,_,_,_,_,_,_,_,_,_,_,_,_,_,_,_,_,_,_,_,_,_,_,_,_,_,_,_,_,_,?_,{hC with h9:=fun _=>rfl}⟩;simp only [Act.put,zT,zZ,zS]
  ·obtain rfl:=hC.h5 (hd 5 (by kernel_rfl));obtain rfl:=hC.h7 (hd 7 (by kernel_rfl));obtain rfl:=hC.h9 (hd 9 (by kernel_rfl));have hr:=HPl.out;have hg:=z0ac;clear hd hcl;refine zw rfl fun K hK=>?_
   go_simp;refine hK _ _ ⟨_,_,_,_,_,_,_,_,_,_,_,_,_,_,_,_,_,_,_,_,_,_,_,_,_,_,_,_,_,_,_,_,_,_,_,_,?_,{hC with h10:=fun _=>rfl}⟩;simp only [Act.put,zT,zZ,zS]
  ·obtain rfl:=hC.h5 (hd 5 (by kernel_rfl));obtain rfl:=hC.h10 (hd 10 (by kernel_rfl));clear hd hcl;refine zw rfl fun K hK=>?_
   go_simp;refine hK _ _ ⟨_,_,_,_,_,_,_,_,_,_,_,_,_,_,_,_,_,_,_,_,_,_,_,_,_,_,_,_,_,_,_,_,_,_,_,_,?_,{hC with h11:=fun _=>rfl}⟩;simp only [Act.put,zT,zZ,zS]
  ·obtain rfl:=hC.h11 (hd 11 (by kernel_rfl));clear hd hcl;refine zw rfl fun K hK=>?_
   go_simp;refine hK _ _ ⟨_,_,_,_,_,_,_,_,_,_,_,_,_,_,_,_,_,_,_,_,_,_,_,_,_,_,_,_,_,_,_,_,_,_,_,_,?_,{hC with h12:=fun _=>rfl}⟩;simp only [Act.put,zT,zZ,zS]
  ·obtain rfl:=hC.h12 (hd 12 (by kernel_rfl));clear hd hcl;refine zw rfl fun K hK=>?_
   go_simp;refine hK _ _ ⟨_,_,_,_,_,_,_,_,_,_,_,_,_,_,_,_,_,_,_,_,_,_,_,_,_,_,_,_,_,_,_,_,_,_,_,_,?_,{hC with h13:=fun _=>rfl}⟩;simp only [Act.put,zT,zZ,zS]
  ·obtain rfl:=hC.h12 (hd 12 (by kernel_rfl));obtain rfl:=hC.h13 (hd 13 (by kernel_rfl));have y7:=(hC.ow.row vi HVr.out).cellAt 7 (by decide)
   clear hd hcl;refine zw rfl fun K hK=>?_
   go_simp;refine hK _ _ ⟨_,_,_,_,_,_,_,_,_,_,_,_,_,_,_,_,_,_,_,_,_,_,_,_,_,_,_,_,_,_,_,_,_,_,_,_,?_,{hC with h14:=fun _=>rfl}⟩;simp only [Act.put,zT,zZ,zS]
  ·obtain rfl:=hC.h12 (hd 12 (by kernel_rfl));clear hd hcl;refine zw rfl fun K hK=>?_
   go_simp;refine hK _ _ ⟨_,_,_,_,_,_,_,_,_,_,_,_,_,_,_,_,_,_,_,_,_,_,_,_,_,_,_,_,_,_,_,_,_,_,_,_,?_,{hC with h15:=fun _=>rfl}⟩;simp only [Act.put,zT,zZ,zS]
  ·obtain rfl:=hC.h12 (hd 12 (by kernel_rfl));obtain rfl:=hC.h15 (hd 15 (by kernel_rfl));have z7:=(hC.ow.row wi HWr.out).cellAt 7 (by decide)
   clear hd hcl;refine zw rfl fun K hK=>?_
   go_simp;refine hK _ _ ⟨_,_,_,_,_,_,_,_,_,_,_,_,_,_,_,_,_,_,_,_,_,_,_,_,_,_,_,_,_,_,_,_,_,_,_,_,?_,{hC with h16:=fun _=>rfl}⟩;simp only [Act.put,zT,zZ,zS]
  ·obtain rfl:=hC.h12 (hd 12 (by kernel_rfl));obtain rfl:=hC.h14 (hd 14 (by kernel_rfl));obtain rfl:=hC.h16 (hd 16 (by kernel_rfl));clear hd hcl;refine zw rfl fun K hK=>?_
   go_simp;refine hK _ _ ⟨_,_,_,_,_,_,_,_,_,_,_,_,_,_,_,_,_,_,_,_,_,_,_,_,_,_,_,_,_,_,_,_,_,_,_,_,?_,{hC with h17:=fun _=>rfl}⟩;simp only [Act.put,zT,zZ,zS]
  ·obtain rfl:=hC.h12 (hd 12 (by kernel_rfl));obtain rfl:=hC.h17 (hd 17 (by kernel_rfl));clear hd hcl;refine zw rfl fun K hK=>?_
   go_simp;refine hK _ _ ⟨_,_,_,_,_,_,_,_,_,_,_,_,_,_,_,_,_,_,_,_,_,_,_,_,_,_,_,_,_,_,_,_,_,_,_,_,?_,{hC with h18:=fun _=>rfl}⟩;simp only [Act.put,zT,zZ,zS]
  ·obtain rfl:=hC.h18 (hd 18 (by kernel_rfl));clear hd hcl;refine zw rfl fun K hK=>?_
   go_simp;refine hK _ _ ⟨_,_,_,_,_,_,_,_,_,_,_,_,_,_,_,_,_,_,_,_,_,_,_,_,_,_,_,_,_,_,_,_,_,_,_,_,?_,{hC with h19:=fun _=>rfl}⟩;simp only [Act.put,zT,zZ,zS]
  ·obtain rfl:=hC.h19 (hd 19 (by kernel_rfl));clear hd hcl;refine zw rfl fun K hK=>?_
   go_simp;refine hK _ _ ⟨_,_,_,_,_,_,_,_,_,_,_,_,_,_,_,_,_,_,_,_,_,_,_,_,_,_,_,_,_,_,_,_,_,_,_,_,?_,{hC with h20:=fun _=>rfl}⟩;simp only [Act.put,zT,zZ,zS]
  ·obtain rfl:=hC.h19 (hd 19 (by kernel_rfl));obtain rfl:=hC.h20 (hd 20 (by kernel_rfl));have y8:=(hC.ow.row vi HVr.out).cellAt 8 (by decide)
   clear hd hcl;refine zw rfl fun K hK=>?_
   go_simp;refine hK _ _ ⟨_,_,_,_,_,_,_,_,_,_,_,_,_,_,_,_,_,_,_,_,_,_,_,_,_,_,_,_,_,_,_,_,_,_,_,_,?_,{hC with h21:=fun _=>rfl}⟩;simp only [Act.put,zT,zZ,zS]
  ·obtain rfl:=hC.h19 (hd 19 (by kernel_rfl));clear hd hcl;refine zw rfl fun K hK=>?_
   go_simp;refine hK _ _ ⟨_,_,_,_,_,_,_,_,_,_,_,_,_,_,_,_,_,_,_,_,_,_,_,_,_,_,_,_,_,_,_,_,_,_,_,_,?_,{hC with h22:=fun _=>rfl}⟩;simp only [Act.put,zT,zZ,zS]
  ·obtain rfl:=hC.h19 (hd 19 (by kernel_rfl));obtain rfl:=hC.h22 (hd 22 (by kernel_rfl));have z8:=(hC.ow.row wi HWr.out).cellAt 8 (by decide)
   clear hd hcl;refine zw rfl fun K hK=>?_
   go_simp;refine hK _ _ ⟨_,_,_,_,_,_,_,_,_,_,_,_,_,_,_,_,_,_,_,_,_,_,_,_,_,_,_,_,_,_,_,_,_,_,_,_,?_,{hC with h23:=fun _=>rfl}⟩;simp only [Act.put,zT,zZ,zS]
  ·obtain rfl:=hC.h19 (hd 19 (by kernel_rfl));obtain rfl:=hC.h21 (hd 21 (by kernel_rfl));obtain rfl:=hC.h23 (hd 23 (by kernel_rfl));clear hd hcl;refine zw rfl fun K hK=>?_
   go_simp;refine hK _ _ ⟨_,_,_,_,_,_,_,_,_,_,_,_,_,_,_,_,_,_,_,_,_,_,_,_,_,_,_,_,_,_,_,_,_,_,_,_,?_,{hC with h24:=fun _=>rfl}⟩;simp only [Act.put,zT,zZ,zS]
  ·obtain rfl:=hC.h19 (hd 19 (by kernel_rfl));obtain rfl:=hC.h24 (hd 24 (by kernel_rfl));clear hd hcl;refine zw rfl fun K hK=>?_
   go_simp;refine hK _ _ ⟨_,_,_,_,_,_,_,_,_,_,_,_,_,_,_,_,_,_,_,_,_,_,_,_,_,_,_,_,_,_,_,_,_,_,_,_,?_,{hC with h25:=fun _=>rfl}⟩;simp only [Act.put,zT,zZ,zS]
  ·obtain rfl:=hC.h25 (hd 25 (by kernel_rfl));clear hd hcl;refine zw rfl fun K hK=>?_
   go_simp;refine hK _ _ ⟨_,_,_,_,_,_,_,_,_,_,_,_,_,_,_,_,_,_,_,_,_,_,_,_,_,_,_,_,_,_,_,_,_,_,_,_,?_,{hC with h26:=fun _=>rfl}⟩;simp only [Act.put,zT,zZ,zS]
  ·obtain rfl:=hC.h26 (hd 26 (by kernel_rfl));clear hd hcl;refine zw rfl fun K hK=>?_
   go_simp;refine hK _ _ ⟨_,_,_,_,_,_,_,_,_,_,_,_,_,_,_,_,_,_,_,_,_,_,_,_,_,_,_,_,_,_,_,_,_,_,_,_,?_,{hC with h27:=fun _=>rfl}⟩;simp only [Act.put,zT,zZ,zS]
  ·obtain rfl:=hC.h26 (hd 26 (by kernel_rfl));obtain rfl:=hC.h27 (hd 27 (by kernel_rfl));have y9:=(hC.ow.row vi HVr.out).cellAt 9 (by decide)
   have y10:=(hC.ow.row vi HVr.out).cellAt 10 (by decide)
   clear hd hcl;refine zw rfl fun K hK=>?_
   go_simp;refine hK _ _ ⟨_,_,_,_,_,_,_,_,_,_,_,_,_,_,_,_,_,_,_,_,_,_,_,_,_,_,_,_,_,_,_,_,_,_,_,_,?_,{hC with h28:=fun _=>rfl}⟩;simp only [Act.put,zT,zZ,zS]
  ·obtain rfl:=hC.h26 (hd 26 (by kernel_rfl));obtain rfl:=hC.h28 (hd 28 (by kernel_rfl));have hcall:=HP1.out W hC.ow
   clear hd hcl;refine zw rfl fun K hK=>?_
   go_simp;refine (hcall).mono ?_
   rintro e W' ⟨rfl,how⟩;refine hK _ _ ⟨_,_,_,_,_,_,_,_,_,_,_,_,_,_,_,_,_,_,_,_,_,_,_,_,_,_,_,_,_,_,_,_,_,_,_,_,?_,{hC with ow:=how,h29:=fun _=>rfl}⟩;simp only [Act.put,zT,zZ,zS]
  ·obtain rfl:=hC.h26 (hd 26 (by kernel_rfl));clear hd hcl;refine zw rfl fun K hK=>?_
   go_simp;refine hK _ _ ⟨_,_,_,_,_,_,_,_,_,_,_,_,_,_,_,_,_,_,_,_,_,_,_,_,_,_,_,_,_,_,_,_,_,_,_,_,?_,{hC with h30:=fun _=>rfl}⟩;simp only [Act.put,zT,zZ,zS]
  ·obtain rfl:=hC.h26 (hd 26 (by kernel_rfl));obtain rfl:=hC.h30 (hd 30 (by kernel_rfl));have z9:=(hC.ow.row wi HWr.out).cellAt 9 (by decide)
   have z10:=(hC.ow.row wi HWr.out).cellAt 10 (by decide)
   clear hd hcl;refine zw rfl fun K hK=>?_
   go_simp;refine hK _ _ ⟨_,_,_,_,_,_,_,_,_,_,_,_,_,_,_,_,_,_,_,_,_,_,_,_,_,_,_,_,_,_,_,_,_,_,_,_,?_,{hC with h31:=fun _=>rfl}⟩;simp only [Act.put,zT,zZ,zS]
  ·obtain rfl:=hC.h26 (hd 26 (by kernel_rfl));obtain rfl:=hC.h31 (hd 31 (by kernel_rfl));have hcall:=HP2.out W hC.ow
   clear hd hcl;refine zw rfl fun K hK=>?_
   go_simp;refine (hcall).mono ?_
   rintro e W' ⟨rfl,how⟩;refine hK _ _ ⟨_,_,_,_,_,_,_,_,_,_,_,_,_,_,_,_,_,_,_,_,_,_,_,_,_,_,_,_,_,_,_,_,_,_,_,_,?_,{hC with ow:=how,h32:=fun _=>rfl}⟩;simp only [Act.put,zT,zZ,zS]
  ·obtain rfl:=hC.h26 (hd 26 (by kernel_rfl));obtain rfl:=hC.h29 (hd 29 (by kernel_rfl));obtain rfl:=hC.h32 (hd 32 (by kernel_rfl));clear hd hcl;refine zw rfl fun K hK=>?_
   go_simp;refine hK _ _ ⟨_,_,_,_,_,_,_,_,_,_,_,_,_,_,_,_,_,_,_,_,_,_,_,_,_,_,_,_,_,_,_,_,_,_,_,_,?_,{hC with h33:=fun _=>rfl}⟩;simp only [Act.put,zT,zZ,zS]
  ·obtain rfl:=hC.h26 (hd 26 (by kernel_rfl));obtain rfl:=hC.h33 (hd 33 (by kernel_rfl));clear hd hcl;refine zw rfl fun K hK=>?_
   go_simp;refine hK _ _ ⟨_,_,_,_,_,_,_,_,_,_,_,_,_,_,_,_,_,_,_,_,_,_,_,_,_,_,_,_,_,_,_,_,_,_,_,_,?_,{hC with h34:=fun _=>rfl}⟩;simp only [Act.put,zT,zZ,zS]
  ·obtain rfl:=hC.h34 (hd 34 (by kernel_rfl));clear hd hcl;refine zw rfl fun K hK=>?_
   go_simp;refine hK _ _ ⟨_,_,_,_,_,_,_,_,_,_,_,_,_,_,_,_,_,_,_,_,_,_,_,_,_,_,_,_,_,_,_,_,_,_,_,_,?_,{hC with h35:=fun _=>rfl}⟩;simp only [Act.put,zT,zZ,zS]
 ·rintro Ld b W hL ⟨u0,u1,u2,u3,u4,u5,u6,u7,u8,u9,u10,u11,u12,u13,u14,u15,u16,u17,u18,u19,u20,u21,u22,u23,u24,u25,u26,u27,u28,u29,u30,u31,u32,u33,u34,u35,rfl,hC⟩;obtain rfl:=hC.h35 (hL 35 (by show 35<36;decide))
  have HG:Hid (Ow w0 W g M L O):=by
   have how:=hC.ow;rw [← HOe.out] at how;exact how.fewO
  clear hC;simp only [Act.put,zT,zZ,zS];go_wp2_with fail;go_ret;exact ⟨rfl,HG.out⟩
end Go.Proofs.YtpmofjomadibmaaGreatDoor
