/- Xt Xu Xv Xw Xx -/
import Derived.Test.YtpmofjomadibmaaGreatDoorU18
namespace Go.Proofs.YtpmofjomadibmaaGreatDoor
set_option maxHeartbeats 8000000
open Go.RowKit Go.Sort
open Go.ChangeMaps (setBlock heap_setBlock_same heap_setBlock_other)
set_option linter.unusedVariables false
set_option maxRecDepth 100000
open Cl
namespace Cl
set_option maxHeartbeats 8000000
def vdZ:Vd:=⟨0,⟨0,0,0,0,0,0⟩,0,0,0,0⟩
def judV (s:Pl)(p q:List Int)(l:List Sn):Vd×Int:=
 if chk s p q l=0 then (if 1<(z2j 6 l l.length).length then (vdZ,40) else (jud s p q l,0)) else (vdZ,chk s p q l)
theorem z9d {s:Pl}{p q:List Int}{l:List Sn}(h:chk s p q l=0):shV s/\rv p q=true/\z7w s l=true/\l.length<=40/\p.length<=20/\q.length<=20:=by
 unfold chk at h;cases h1:(decide (shV s) && rv p q && z7w s l) with
 | false=>rw [h1,if_neg (by decide)] at h;cases h
 | true=>
  rw [h1,if_pos rfl] at h;cases h2:(decide (40<l.length) || decide (20<p.length) || decide (20<q.length)) with
  | true=>rw [h2,if_pos rfl] at h;cases h
  | false=>
   rw [Bool.and_eq_true,Bool.and_eq_true] at h1;rw [Bool.or_eq_false_iff,Bool.or_eq_false_iff] at h2;exact ⟨of_decide_eq_true h1.1.1,h1.1.2,h1.2,by have:=of_decide_eq_false h2.1.1;omega,by have:=of_decide_eq_false h2.1.2;omega,by have:=of_decide_eq_false h2.2;omega⟩
def JdR (w0:World)(g:Option Nat)(M:List (Nat×Value))(L:List Ob)(O:List Rw)(v:Vd×Int)(en:Ending)(w':World):Prop:=
 ∃ (A1:Option Addr) (n1 c1:Nat) (A2:Option Addr) (n2 c2:Nat),en=.returned (.tuple #[.agg (v.1.vs A1 n1 c1 A2 n2 c2),.int .i64 v.2])/\Ow w0 w' g M (L++[⟨A1,n1,c1,z0c (Na.dig v.1.x)⟩]++[⟨A2,n2,c2,z0c (Na.dig v.1.y)⟩]) O
end Cl
theorem z7aw {w0 w:World}{g:Option Nat}{M:List (Nat×Value)}{L:List Ob}{O:List Rw}(h:Ow w0 w g M L O):Ow w0 w g M (L++[⟨none,0,0,z0c (Na.dig 0)⟩]++[⟨none,0,0,z0c (Na.dig 0)⟩]) O:=
 (h.old (A:=none) (n:=0) (c:=0) (vs:=z0c (Na.dig 0)) (fun hh=>absurd hh (by decide +kernel)) (by decide +kernel) (by omega) (by omega)).old (A:=none) (n:=0) (c:=0) (vs:=z0c (Na.dig 0)) (fun hh=>absurd hh (by decide +kernel)) (by decide +kernel) (by omega) (by omega)
theorem z9bc {w0 w:World}{g:Option Nat}{M:List (Nat×Value)}{L:List Ob}{O:List Rw}{A A2 A3:Option Addr}{n c m c2 n3 c3 e3:Nat}{p q:List Int}{l:List Sn}(s:Pl)(h:Ow w0 w g M L O)(i j k:Nat)(hi:L[i]?=some ⟨A,n,c,z0p p⟩)(hj:L[j]?=some ⟨A2,m,c2,z0p q⟩)(hk:L[k]?=some ⟨A3,n3*8,e3,fl l⟩)(ht:Tab w0):
  Calls Tryz.prog 15 #[.agg s.vs,.agg #[.slice A n c,.slice A2 m c2],.slice A3 n3 c3] w (JdR w0 g M L O (judV s p q l)):=by
 have H0:=((h.arr s.vs 6 rfl (by omega) 33).pair (.slice A n c) (.slice A2 m c2) 27).arr #[.int .i64 0,.int .i64 0,.int .i64 0,.int .i64 0,.int .i64 0,.int .i64 0,.int .i64 0,.int .i64 0,.int .i64 0,.slice none 0 0,.slice none 0 0] 11 rfl (by omega) 42
 simp only [World.size_alloc,zqa,zqb,zqc] at H0;have HLn:l.length=n3:=by
  have a:=(h.sl hk).1
  rw [z2q] at a;omega
 have HNl:=zh HLn;have HC:=zh (z3bv s H0 i j k hi hj hk ht (c3:=c3))
 have HH:Hid (L[i]?=some ⟨A,n,c,z0p p⟩/\L[j]?=some ⟨A2,m,c2,z0p q⟩/\L[k]?=some ⟨A3,n3*8,e3,fl l⟩):=⟨hi,hj,hk⟩
 have HT:=zh ht;obtain ⟨so,ch,ra,ba,ro,co⟩:=s;unfold Pl.vs at *
 obtain ⟨a0,a1,a2,a3,a4,a5⟩:=zc6 (H0.row (O.length+0) (zk rfl));have b0:=H0.p0 (O.length+1) (zk rfl)
 have b1:=H0.p1 (O.length+1) (zk rfl)
 clear hi hj hk HLn h ht;go_enter Tryz.func15,Tryz.ntmps15
 go_wp2_with fail;refine HC.out.mono ?_;rintro e w1 ⟨rfl,H1⟩;clear HC H0 a0 a1 a2 a3 a4 a5 b0 b1;obtain ⟨er,her⟩:∃ z,chk ⟨so,ch,ra,ba,ro,co⟩ p q l=z:=⟨_,rfl⟩
 rw [her];by_cases he:er=0
 ·subst he
  have HZ:=zh (z9d her)
  have HJ:Hid (judV ⟨so,ch,ra,ba,ro,co⟩ p q l=if 1<(z2j 6 l n3).length then (vdZ,40) else (jud ⟨so,ch,ra,ba,ro,co⟩ p q l,0)):=by unfold Hid judV;rw [if_pos her,HNl.out]
  have hn100:n3<=100:=by have:=HZ.out.2.2.2.1;have:=HNl.out;omega
  have HG:=zh (z1am 6 (by decide) A3 n3 c3 l w1 HNl.out hn100 (H1.sl HH.out.2.2).2.2.2)
  clear her;obtain ⟨gs,hgs⟩:∃ z,z2j 6 l n3=z:=⟨_,rfl⟩
  rw [hgs] at HJ HG;clear hgs;go_wp2_with fail;refine HG.out.mono ?_;rintro e w2 ⟨Ao,co2,inn,rfl,hV,-,hO⟩;have hgl:=z4m hV
  obtain ⟨gn,hgn⟩:∃ z,inn.length=z:=⟨_,rfl⟩
  rw [hgn] at hgl;rw [hgn];have H2:=H1.go hO.below
  clear HG hV hO H1 hgn;rcases zqi 1 gn with h1|h1
  ·have d1:decide (1<gn)=true:=zt h1
   have d2:decide ((1:Int)<gn)=true:=zt (by omega)
   have HR:Hid (judV ⟨so,ch,ra,ba,ro,co⟩ p q l=(vdZ,40)):=by unfold Hid;rw [HJ.out,if_pos (by omega)]
   clear h1 hgl;obtain ⟨v0,v1,v2,v3,v4,v5,v6,v7,v8,v9,v10⟩:=zc11 (H2.row (O.length+2) (zk rfl));obtain ⟨f0,f1,f2,f3,f4,f5,f6,f7,f8,f9,f10⟩:=zf11 (H2.row (O.length+2) (zk rfl));have H8:=z9w H2 (O.length+2) (zk rfl) (.int .i64 0) (.int .i64 0) (.int .i64 0) (.int .i64 0) (.int .i64 0) (.int .i64 0) (.int .i64 0) (.int .i64 0) (.int .i64 0) (.slice none 0 0) (.slice none 0 0)
   rw [z0o] at H8;simp only [zqe,zqd] at H8;obtain ⟨z0,z1,z2,z3,z4,z5,z6,z7,z8,z9,z10⟩:=zc11 (H8.row (O.length+2) (zk rfl));have HE:=zh (z7aw H8.fewO)
   clear H2 H8;go_wp2_with fail;refine bodyPost_ret (v:=.tuple #[.agg #[.int .i64 0,.int .i64 0,.int .i64 0,.int .i64 0,.int .i64 0,.int .i64 0,.int .i64 0,.int .i64 0,.int .i64 0,.slice none 0 0,.slice none 0 0],.int .i64 40]) (by simp [results,Tryz.results15,go_sem,z0,z1,z2,z3,z4,z5,z6,z7,z8,z9,z10]) rfl ?_
   rw [HR.out];exact ⟨none,0,0,none,0,0,rfl,HE.out⟩
  ·have d1:decide (1<gn)=false:=zn (by omega)
   have d2:decide ((1:Int)<gn)=false:=zn (by omega)
   have HR:Hid (judV ⟨so,ch,ra,ba,ro,co⟩ p q l=(jud ⟨so,ch,ra,ba,ro,co⟩ p q l,0)):=by unfold Hid;rw [HJ.out,if_neg (by omega)]
   have HC:=zh (z9bb ⟨so,ch,ra,ba,ro,co⟩ HZ.out.1 H2 i j k HH.out.1 HH.out.2.1 HH.out.2.2 (by have:=HZ.out.2.2.2.1;have:=HNl.out;omega) HT.out (c3:=c3))
   unfold Pl.vs at HC;obtain ⟨a0,a1,a2,a3,a4,a5⟩:=zc6 (H2.row (O.length+0) (zk rfl));have b0:=H2.p0 (O.length+1) (zk rfl)
   have b1:=H2.p1 (O.length+1) (zk rfl)
   clear h1 hgl H2;go_wp2_with fail;refine HC.out.mono ?_;rintro e w3 ⟨B1,n1,d1,B2,n2,d2,rfl,H7⟩;obtain ⟨v,hv⟩:∃ z,jud ⟨so,ch,ra,ba,ro,co⟩ p q l=z:=⟨_,rfl⟩
   rw [hv] at HR H7;rw [hv];obtain ⟨vk,⟨q0,q1,q2,q3,q4,q5⟩,vc,vh,vx,vy⟩:=v
   unfold Vd.vs;simp only [zqa,zqb,zqc] at H7;clear HC a0 a1 a2 a3 a4 a5 b0 b1 hv;obtain ⟨v0,v1,v2,v3,v4,v5,v6,v7,v8,v9,v10⟩:=zc11 (H7.row (O.length+2) (zk rfl));obtain ⟨f0,f1,f2,f3,f4,f5,f6,f7,f8,f9,f10⟩:=zf11 (H7.row (O.length+2) (zk rfl));have H8:=z9w H7 (O.length+2) (zk rfl) (.int .i64 vk) (.int .i64 q0) (.int .i64 q1) (.int .i64 q2) (.int .i64 q3) (.int .i64 q4) (.int .i64 q5) (.int .i64 vc) (.int .i64 vh) (.slice B1 n1 d1) (.slice B2 n2 d2)
   rw [z0o] at H8;simp only [zqe,zqd] at H8;obtain ⟨z0,z1,z2,z3,z4,z5,z6,z7,z8,z9,z10⟩:=zc11 (H8.row (O.length+2) (zk rfl));have HE:=zh H8.fewO;clear H7 H8;go_wp2_with fail;refine bodyPost_ret (v:=.tuple #[.agg #[.int .i64 vk,.int .i64 q0,.int .i64 q1,.int .i64 q2,.int .i64 q3,.int .i64 q4,.int .i64 q5,.int .i64 vc,.int .i64 vh,.slice B1 n1 d1,.slice B2 n2 d2],.int .i64 0]) (by simp [results,Tryz.results15,go_sem,z0,z1,z2,z3,z4,z5,z6,z7,z8,z9,z10]) rfl ?_
   rw [HR.out];exact ⟨B1,n1,d1,B2,n2,d2,rfl,by rw [zqa];exact HE.out⟩
 ·have g1:(er == 0)=false:=z1n he
  have g2:(er != 0)=true:=by rw [bne,g1];rfl
  have HR:Hid (judV ⟨so,ch,ra,ba,ro,co⟩ p q l=(vdZ,er)):=by unfold Hid judV;rw [her,if_neg he]
  clear he her;obtain ⟨v0,v1,v2,v3,v4,v5,v6,v7,v8,v9,v10⟩:=zc11 (H1.row (O.length+2) (zk rfl));obtain ⟨f0,f1,f2,f3,f4,f5,f6,f7,f8,f9,f10⟩:=zf11 (H1.row (O.length+2) (zk rfl));have H8:=z9w H1 (O.length+2) (zk rfl) (.int .i64 0) (.int .i64 0) (.int .i64 0) (.int .i64 0) (.int .i64 0) (.int .i64 0) (.int .i64 0) (.int .i64 0) (.int .i64 0) (.slice none 0 0) (.slice none 0 0)
  rw [z0o] at H8;simp only [zqe,zqd] at H8;obtain ⟨z0,z1,z2,z3,z4,z5,z6,z7,z8,z9,z10⟩:=zc11 (H8.row (O.length+2) (zk rfl));have HE:=zh (z7aw H8.fewO)
  clear H1 H8;go_wp2_with fail;refine bodyPost_ret (v:=.tuple #[.agg #[.int .i64 0,.int .i64 0,.int .i64 0,.int .i64 0,.int .i64 0,.int .i64 0,.int .i64 0,.int .i64 0,.int .i64 0,.slice none 0 0,.slice none 0 0],.int .i64 er]) (by simp [results,Tryz.results15,go_sem,z0,z1,z2,z3,z4,z5,z6,z7,z8,z9,z10]) rfl ?_
  rw [HR.out];exact ⟨none,0,0,none,0,0,rfl,HE.out⟩
theorem z8bq {w0 w:World}{g:Option Nat}{M:List (Nat×Value)}{L:List Ob}{O:List Rw}(v:Vd){A1 A2 B1 B2:Option Addr}{an1 ad1 an2 ad2 bn1 bd1 bn2 bd2:Nat}(h:Ow w0 w g M L O)(i j k l:Nat)(hi:L[i]?=some ⟨A1,an1,ad1,z0c (Na.dig v.x)⟩)(hj:L[j]?=some ⟨A2,an2,ad2,z0c (Na.dig v.y)⟩)(hk:L[k]?=some ⟨B1,bn1,bd1,z0c (Na.dig v.x)⟩)(hl:L[l]?=some ⟨B2,bn2,bd2,z0c (Na.dig v.y)⟩):
  Calls Tryz.prog 17 #[.agg (v.vs A1 an1 ad1 A2 an2 ad2),.agg (v.vs B1 bn1 bd1 B2 bn2 bd2)] w fun e w'=>e=.returned (.bool true)/\Ow w0 w' g M L O:=by
 obtain ⟨vk,⟨q0,q1,q2,q3,q4,q5⟩,vc,vh,vx,vy⟩:=v
 unfold Vd.vs;rw [<- z0g] at hi hj hk hl;have H1:=(h.arr #[.int .i64 vk,.int .i64 q0,.int .i64 q1,.int .i64 q2,.int .i64 q3,.int .i64 q4,.int .i64 q5,.int .i64 vc,.int .i64 vh,.slice A1 an1 ad1,.slice A2 an2 ad2] 11 rfl (by omega) 42).arr #[.int .i64 vk,.int .i64 q0,.int .i64 q1,.int .i64 q2,.int .i64 q3,.int .i64 q4,.int .i64 q5,.int .i64 vc,.int .i64 vh,.slice B1 bn1 bd1,.slice B2 bn2 bd2] 11 rfl (by omega) 42
 simp only [World.size_alloc,zqa,zqb,zqc] at H1;have HF:=zh H1;have x0:=cell_regrown ((H1.row (O.length+0) (zk rfl)).cellAt 0 (by decide))
 have y0:=cell_regrown ((H1.row (O.length+1) (zk rfl)).cellAt 0 (by decide))
 have x1:=cell_regrown ((H1.row (O.length+0) (zk rfl)).cellAt 1 (by decide))
 have y1:=cell_regrown ((H1.row (O.length+1) (zk rfl)).cellAt 1 (by decide))
 have x2:=cell_regrown ((H1.row (O.length+0) (zk rfl)).cellAt 2 (by decide))
 have y2:=cell_regrown ((H1.row (O.length+1) (zk rfl)).cellAt 2 (by decide))
 have x3:=cell_regrown ((H1.row (O.length+0) (zk rfl)).cellAt 3 (by decide))
 have y3:=cell_regrown ((H1.row (O.length+1) (zk rfl)).cellAt 3 (by decide))
 have x4:=cell_regrown ((H1.row (O.length+0) (zk rfl)).cellAt 4 (by decide))
 have y4:=cell_regrown ((H1.row (O.length+1) (zk rfl)).cellAt 4 (by decide))
 have x5:=cell_regrown ((H1.row (O.length+0) (zk rfl)).cellAt 5 (by decide))
 have y5:=cell_regrown ((H1.row (O.length+1) (zk rfl)).cellAt 5 (by decide))
 have x6:=cell_regrown ((H1.row (O.length+0) (zk rfl)).cellAt 6 (by decide))
 have y6:=cell_regrown ((H1.row (O.length+1) (zk rfl)).cellAt 6 (by decide))
 have x7:=cell_regrown ((H1.row (O.length+0) (zk rfl)).cellAt 7 (by decide))
 have y7:=cell_regrown ((H1.row (O.length+1) (zk rfl)).cellAt 7 (by decide))
 have x8:=cell_regrown ((H1.row (O.length+0) (zk rfl)).cellAt 8 (by decide))
 have y8:=cell_regrown ((H1.row (O.length+1) (zk rfl)).cellAt 8 (by decide))
 have x9:=cell_regrown ((H1.row (O.length+0) (zk rfl)).cellAt 9 (by decide))
 have y9:=cell_regrown ((H1.row (O.length+1) (zk rfl)).cellAt 9 (by decide))
 have x10:=cell_regrown ((H1.row (O.length+0) (zk rfl)).cellAt 10 (by decide))
 have y10:=cell_regrown ((H1.row (O.length+1) (zk rfl)).cellAt 10 (by decide))
 obtain ⟨sP,hsP⟩:∃ z,str (rprt (Na.up (Na.dig vx)) (Na.up (Na.dig vy)))=z:=⟨_,rfl⟩
 have cP1:=z1i (P:=Tryz.prog) (w:=((w.alloc (.cells #[.int .i64 vk,.int .i64 q0,.int .i64 q1,.int .i64 q2,.int .i64 q3,.int .i64 q4,.int .i64 q5,.int .i64 vc,.int .i64 vh,.slice A1 an1 ad1,.slice A2 an2 ad2] 42)).alloc (.cells #[.int .i64 vk,.int .i64 q0,.int .i64 q1,.int .i64 q2,.int .i64 q3,.int .i64 q4,.int .i64 q5,.int .i64 vc,.int .i64 vh,.slice B1 bn1 bd1,.slice B2 bn2 bd2] 42))) (f:=24) (args:=#[.agg #[.slice A1 an1 ad1,.slice A2 an2 ad2]]) (v:=.string sP) (fun W hW=>by rw [<- hsP];exact (z5k (HF.out.go hW).self i j hi hj).mono fun e w h=>⟨h.1,h.2.below⟩)
 have cP2:=z1i (P:=Tryz.prog) (w:=((w.alloc (.cells #[.int .i64 vk,.int .i64 q0,.int .i64 q1,.int .i64 q2,.int .i64 q3,.int .i64 q4,.int .i64 q5,.int .i64 vc,.int .i64 vh,.slice A1 an1 ad1,.slice A2 an2 ad2] 42)).alloc (.cells #[.int .i64 vk,.int .i64 q0,.int .i64 q1,.int .i64 q2,.int .i64 q3,.int .i64 q4,.int .i64 q5,.int .i64 vc,.int .i64 vh,.slice B1 bn1 bd1,.slice B2 bn2 bd2] 42))) (f:=24) (args:=#[.agg #[.slice B1 bn1 bd1,.slice B2 bn2 bd2]]) (v:=.string sP) (fun W hW=>by rw [<- hsP];exact (z5k (HF.out.go hW).self k l hk hl).mono fun e w h=>⟨h.1,h.2.below⟩)
 have he:∀ w,(binOp .eql 38 (.agg #[.int .i64 q0,.int .i64 q1,.int .i64 q2,.int .i64 q3,.int .i64 q4,.int .i64 q5]) (.agg #[.int .i64 q0,.int .i64 q1,.int .i64 q2,.int .i64 q3,.int .i64 q4,.int .i64 q5])).run Tryz.prog w=.ok (.bool true) w:=fun w=>by rw [z0ar,zt rfl]
 have hg:=z0ap;clear h H1 hi hj hk hl hsP;go_enter Tryz.func17,Tryz.ntmps17
 go_upto_region 1 with (fail)
 refine wp_region_quiet_below (by kernel_rfl) (by kernel_rfl) ?_
 repeat (go_big_quiet_step ((first|with_reducible exact cP1 _ _|with_reducible exact cP2 _ _)))
 refine wpQuiet_nil ?_
 intro W hW;have HZ:=zh (HF.out.go (z0v hW)).fewO
 clear hW x0 y0 x1 y1 x2 y2 x3 y3 x4 y4 x5 y5 x6 y6 x7 y7 x8 y8 x9 y9 x10 y10 cP1 cP2;go_wp2_with fail;go_ret;exact ⟨rfl,HZ.out⟩
theorem six {α:Type}{R:List α}(h:R.length=6):∃ r0 r1 r2 r3 r4 r5,R=[r0,r1,r2,r3,r4,r5]:=by
 match R,h with
 | [r0,r1,r2,r3,r4,r5],_=>exact ⟨r0,r1,r2,r3,r4,r5,rfl⟩
theorem z6bf {w0 w:World}{g:Option Nat}{M:List (Nat×Value)}{L:List Ob}{O:List Rw}(h:Ow w0 w g M L O)(i:Nat){gb n c:Nat}{e:TypeId}{z0 z1 z2 z3 z4 z5:Value}(hi:O[i]?=some ⟨some ⟨gb,0,none⟩,n,c,e,[z0,z1,z2,z3,z4,z5]⟩)(v0 v1 v2 v3 v4 v5:Value):Ow w0 ((((((w.setCell ⟨gb,0,none⟩ v0).setCell ⟨gb,1,none⟩ v1).setCell ⟨gb,2,none⟩ v2).setCell ⟨gb,3,none⟩ v3).setCell ⟨gb,4,none⟩ v4).setCell ⟨gb,5,none⟩ v5) g M L (O.set i ⟨some ⟨gb,0,none⟩,n,c,e,[v0,v1,v2,v3,v4,v5]⟩):=by
 have h0:=h.put i hi 0 v0
 have h1:=h0.put i (z0a hi) 1 v1
 have h2:=h1.put i (z0a (z0a hi)) 2 v2
 have h3:=h2.put i (z0a (z0a (z0a hi))) 3 v3
 have h4:=h3.put i (z0a (z0a (z0a (z0a hi)))) 4 v4
 have h5:=h4.put i (z0a (z0a (z0a (z0a (z0a hi))))) 5 v5
 simp only [List.set_set,zqd,zqe] at h5;exact h5
theorem z7s {w0 w:World}{g B:Nat}{M:List (Nat×Value)}{L:List Ob}{O:List Rw}(hd:Dice w g B)(hB:B<=w0.heap.size)(h:Ow w0 w (some g) M L O){i gb n c:Nat}{e:TypeId}{z0 z1 z2 z3 z4 z5:Value}(hi:O[i]?=some ⟨some ⟨gb,0,none⟩,n,c,e,[z0,z1,z2,z3,z4,z5]⟩)(v0 v1 v2 v3 v4 v5:Value):Dice ((((((w.setCell ⟨gb,0,none⟩ v0).setCell ⟨gb,1,none⟩ v1).setCell ⟨gb,2,none⟩ v2).setCell ⟨gb,3,none⟩ v3).setCell ⟨gb,4,none⟩ v4).setCell ⟨gb,5,none⟩ v5) g B:=by
 have key:∀ {W:World} {O':List Rw} {vs:List Value},Dice W g B->Ow w0 W (some g) M L O'->O'[i]?=some ⟨some ⟨gb,0,none⟩,n,c,e,vs⟩->∀ (k:Nat) (v:Value),Dice (W.setCell ⟨gb,k,none⟩ v) g B:=fun hd h hi k v=>hd.turned hB h hi (z0f _ _ _)
 have h0:=h.put i hi 0 v0
 have d0:=key hd h hi 0 v0
 have h1:=h0.put i (z0a hi) 1 v1
 have d1:=key d0 h0 (z0a hi) 1 v1
 have h2:=h1.put i (z0a (z0a hi)) 2 v2
 have d2:=key d1 h1 (z0a (z0a hi)) 2 v2
 have h3:=h2.put i (z0a (z0a (z0a hi))) 3 v3
 have d3:=key d2 h2 (z0a (z0a (z0a hi))) 3 v3
 have h4:=h3.put i (z0a (z0a (z0a (z0a hi)))) 4 v4
 have d4:=key d3 h3 (z0a (z0a (z0a (z0a hi)))) 4 v4
 exact key d4 h4 (z0a (z0a (z0a (z0a (z0a hi))))) 5 v5
theorem z3az {wb w:World}{g:Nat}(h:wb.grownBy w (some g))(pb:Nat)(hp:wb.heap.size<=pb)(v0 v1 v2 v3 v4 v5:Value):wb.grownBy ((((((w.setCell ⟨pb,0,none⟩ v0).setCell ⟨pb,1,none⟩ v1).setCell ⟨pb,2,none⟩ v2).setCell ⟨pb,3,none⟩ v3).setCell ⟨pb,4,none⟩ v4).setCell ⟨pb,5,none⟩ v5) (some g):=by
 have key:∀ {W:World},wb.grownBy W (some g)->∀ (k:Nat) (v:Value),wb.grownBy (W.setCell ⟨pb,k,none⟩ v) (some g):=fun h k v=>z0t h (z0f _ ⟨pb,k,none⟩ v) (fun x e=>by cases e;exact hp)
 exact key (key (key (key (key (key h 0 v0) 1 v1) 2 v2) 3 v3) 4 v4) 5 v5
theorem z4aq {b:Nat}(h:b<=12):∃ m:Nat,IntKind.i64.wrap ((2:Int) ^ min b 64)=(m:Int)/\(0<m/\m<=9223372036854775807)/\(m:Int)=2 ^ b:=by
 refine ⟨2 ^ b,?_,⟨Nat.pos_of_ne_zero (by simp),?_⟩,by simp⟩
 ·rw [show min b 64=b from by omega,z3bm h];simp
 ·exact zqq (Nat.pow_le_pow_right (by omega) h) (by decide)
structure DpK (w0 wb:World)(g:Nat)(B:Nat)(M:List (Nat×Value))(L:List Ob)(OO:List Rw)(sb pb vi so ch ra ba ro co m0 m1 m2 m3 m4 m5:Nat)(Ld:Nat->Bool)(u0 u1 u2 u3 u4 u5 u6 u7 u8 u9 u10 u11 u12 u13 u14 u15 u16 u17 u18 u19 u20 u21 u22 u23 u24 u25 u26 u27 u28 u29 u30 u31 u32 u33 u34 u35 u36:Value)(W:World):Prop where
 ow:∃ R:List Value,R.length=6/\Ow w0 W (some g) M L (OO.set vi ⟨some ⟨pb,0,none⟩,6,6,38,R⟩)/\(Ld 37=true->∃ pv:Pl,plV ⟨(so:Int),ch,ra,ba,ro,co⟩ pv=true/\R=pv.vs.toList)
 hd:Dice W g B
 gr:wb.grownBy W (some g)
 h0:Ld 0=true->u0=.pointer (some ⟨g,0,none⟩)
 h1:Ld 1=true->u1=.pointer (some ⟨sb,0,none⟩)
 h2:Ld 2=true->u2=.int .i64 so
 h3:Ld 3=true->u3=.int .u64 (so:Int)
 h4:Ld 4=true->u4=.int .i64 m0
 h5:Ld 5=true->∃ z:Nat,z<m0/\u5=.int .i64 z
 h6:Ld 6=true->u6=.pointer (some ⟨g,0,none⟩)
 h7:Ld 7=true->u7=.pointer (some ⟨sb,1,none⟩)
 h8:Ld 8=true->u8=.int .i64 ch
 h9:Ld 9=true->u9=.int .u64 (ch:Int)
 h10:Ld 10=true->u10=.int .i64 m1
 h11:Ld 11=true->∃ z:Nat,z<m1/\u11=.int .i64 z
 h12:Ld 12=true->u12=.pointer (some ⟨g,0,none⟩)
 h13:Ld 13=true->u13=.pointer (some ⟨sb,2,none⟩)
 h14:Ld 14=true->u14=.int .i64 ra
 h15:Ld 15=true->u15=.int .u64 (ra:Int)
 h16:Ld 16=true->u16=.int .i64 m2
 h17:Ld 17=true->∃ z:Nat,z<m2/\u17=.int .i64 z
 h18:Ld 18=true->u18=.pointer (some ⟨g,0,none⟩)
 h19:Ld 19=true->u19=.pointer (some ⟨sb,3,none⟩)
 h20:Ld 20=true->u20=.int .i64 ba
 h21:Ld 21=true->u21=.int .u64 (ba:Int)
 h22:Ld 22=true->u22=.int .i64 m3
 h23:Ld 23=true->∃ z:Nat,z<m3/\u23=.int .i64 z
 h24:Ld 24=true->u24=.pointer (some ⟨g,0,none⟩)
 h25:Ld 25=true->u25=.pointer (some ⟨sb,4,none⟩)
 h26:Ld 26=true->u26=.int .i64 ro
 h27:Ld 27=true->u27=.int .u64 (ro:Int)
 h28:Ld 28=true->u28=.int .i64 m4
 h29:Ld 29=true->∃ z:Nat,z<m4/\u29=.int .i64 z
 h30:Ld 30=true->u30=.pointer (some ⟨g,0,none⟩)
 h31:Ld 31=true->u31=.pointer (some ⟨sb,5,none⟩)
 h32:Ld 32=true->u32=.int .i64 co
 h33:Ld 33=true->u33=.int .u64 (co:Int)
 h34:Ld 34=true->u34=.int .i64 m5
 h35:Ld 35=true->∃ z:Nat,z<m5/\u35=.int .i64 z
 h36:Ld 36=true->∃ pv:Pl,plV ⟨(so:Int),ch,ra,ba,ro,co⟩ pv=true/\u36=.agg pv.vs
inductive DpI (w0 wb:World)(g:Nat)(B:Nat)(M:List (Nat×Value))(L:List Ob)(OO:List Rw)(sb pb vi so ch ra ba ro co m0 m1 m2 m3 m4 m5:Nat)(A0:Act)(Ld:Nat->Bool)(a:Act)(W:World):Prop
 | m {u0 u1 u2 u3 u4 u5 u6 u7 u8 u9 u10 u11 u12 u13 u14 u15 u16 u17 u18 u19 u20 u21 u22 u23 u24 u25 u26 u27 u28 u29 u30 u31 u32 u33 u34 u35 u36:Value}(k:DpK w0 wb g B M L OO sb pb vi so ch ra ba ro co m0 m1 m2 m3 m4 m5 Ld u0 u1 u2 u3 u4 u5 u6 u7 u8 u9 u10 u11 u12 u13 u14 u15 u16 u17 u18 u19 u20 u21 u22 u23 u24 u25 u26 u27 u28 u29 u30 u31 u32 u33 u34 u35 u36 W)(h:a=(((((((((((((((((((((((((((((((((((((A0.put (some 5) u0).put (some 6) u1).put (some 7) u2).put (some 8) u3).put (some 9) u4).put (some 10) u5).put (some 11) u6).put (some 12) u7).put (some 13) u8).put (some 14) u9).put (some 15) u10).put (some 16) u11).put (some 17) u12).put (some 18) u13).put (some 19) u14).put (some 20) u15).put (some 21) u16).put (some 22) u17).put (some 23) u18).put (some 24) u19).put (some 25) u20).put (some 26) u21).put (some 27) u22).put (some 28) u23).put (some 29) u24).put (some 30) u25).put (some 31) u26).put (some 32) u27).put (some 33) u28).put (some 34) u29).put (some 35) u30).put (some 36) u31).put (some 37) u32).put (some 38) u33).put (some 39) u34).put (some 40) u35).put (some 41) u36):=by simp only [Act.put,zT,zZ,zS])
theorem z1br {w0 w:World}{g B:Nat}{M:List (Nat×Value)}{L:List Ob}{O:List Rw}(h:Ow w0 w (some g) M L O)(hd:Dice w g B)(hB:B<=w0.heap.size)(so ch ra ba ro co:Nat)(hs:so+ch+ra+ba+ro+co<=12):
  Calls Tryz.prog 79 #[.pointer (some ⟨g,0,none⟩),.agg #[.int .i64 so,.int .i64 ch,.int .i64 ra,.int .i64 ba,.int .i64 ro,.int .i64 co]] w fun e w'=>∃ pv:Pl,e=.returned (.agg pv.vs)/\plV ⟨(so:Int),ch,ra,ba,ro,co⟩ pv=true/\Dice w' g B/\Ow w0 w' (some g) M L O/\w.grownBy w' (some g):=by
 obtain ⟨m0,e0,⟨f0,t0⟩,q0⟩:=z4aq (b:=so) (by omega)
 have HWm0:Hid (IntKind.i64.wrap ((2:Int) ^ min so 64)=(m0:Int)/\0<m0/\m0<=9223372036854775807):=⟨e0,f0,t0⟩
 obtain ⟨m1,e1,⟨f1,t1⟩,q1⟩:=z4aq (b:=ch) (by omega)
 have HWm1:Hid (IntKind.i64.wrap ((2:Int) ^ min ch 64)=(m1:Int)/\0<m1/\m1<=9223372036854775807):=⟨e1,f1,t1⟩
 obtain ⟨m2,e2,⟨f2,t2⟩,q2⟩:=z4aq (b:=ra) (by omega)
 have HWm2:Hid (IntKind.i64.wrap ((2:Int) ^ min ra 64)=(m2:Int)/\0<m2/\m2<=9223372036854775807):=⟨e2,f2,t2⟩
 obtain ⟨m3,e3,⟨f3,t3⟩,q3⟩:=z4aq (b:=ba) (by omega)
 have HWm3:Hid (IntKind.i64.wrap ((2:Int) ^ min ba 64)=(m3:Int)/\0<m3/\m3<=9223372036854775807):=⟨e3,f3,t3⟩
 obtain ⟨m4,e4,⟨f4,t4⟩,q4⟩:=z4aq (b:=ro) (by omega)
 have HWm4:Hid (IntKind.i64.wrap ((2:Int) ^ min ro 64)=(m4:Int)/\0<m4/\m4<=9223372036854775807):=⟨e4,f4,t4⟩
 obtain ⟨m5,e5,⟨f5,t5⟩,q5⟩:=z4aq (b:=co) (by omega)
 have HWm5:Hid (IntKind.i64.wrap ((2:Int) ^ min co 64)=(m5:Int)/\0<m5/\m5<=9223372036854775807):=⟨e5,f5,t5⟩
 have HW:Hid ((∀ b∈[so,ch,ra,ba,ro,co],IntKind.u64.wrap (b:Int)=(b:Int))/\True):=⟨fun b hb=>IntWalk.u64_in _ (by simp only [List.mem_cons,List.mem_nil_iff,or_false] at hb;omega),trivial⟩
 have HPV:Hid (∀ z0 z1 z2 z3 z4 z5:Nat,z0<m0->z1<m1->z2<m2->z3<m3->z4<m4->z5<m5->plV ⟨(so:Int),ch,ra,ba,ro,co⟩ ⟨(z0:Int),z1,z2,z3,z4,z5⟩=true):=by
  intro z0 z1 z2 z3 z4 z5 a0 a1 a2 a3 a4 a5;refine z7d (z2r hs) fun j hj=>?_
  have hcase:j=0∨j=1∨j=2∨j=3∨j=4∨j=5:=by omega
  rcases hcase with rfl|rfl|rfl|rfl|rfl|rfl
  ·rw [z2o (b:=(so:Int)) (n:=(z0:Int)) rfl rfl,zt (show (0:Int)<=(z0:Int) by omega),zt (show (z0:Int)<2 ^ (so:Int).toNat from by show (z0:Int)<2 ^ so;omega)];rfl
  ·rw [z2o (b:=(ch:Int)) (n:=(z1:Int)) rfl rfl,zt (show (0:Int)<=(z1:Int) by omega),zt (show (z1:Int)<2 ^ (ch:Int).toNat from by show (z1:Int)<2 ^ ch;omega)];rfl
  ·rw [z2o (b:=(ra:Int)) (n:=(z2:Int)) rfl rfl,zt (show (0:Int)<=(z2:Int) by omega),zt (show (z2:Int)<2 ^ (ra:Int).toNat from by show (z2:Int)<2 ^ ra;omega)];rfl
  ·rw [z2o (b:=(ba:Int)) (n:=(z3:Int)) rfl rfl,zt (show (0:Int)<=(z3:Int) by omega),zt (show (z3:Int)<2 ^ (ba:Int).toNat from by show (z3:Int)<2 ^ ba;omega)];rfl
  ·rw [z2o (b:=(ro:Int)) (n:=(z4:Int)) rfl rfl,zt (show (0:Int)<=(z4:Int) by omega),zt (show (z4:Int)<2 ^ (ro:Int).toNat from by show (z4:Int)<2 ^ ro;omega)];rfl
  ·rw [z2o (b:=(co:Int)) (n:=(z5:Int)) rfl rfl,zt (show (0:Int)<=(z5:Int) by omega),zt (show (z5:Int)<2 ^ (co:Int).toNat from by show (z5:Int)<2 ^ co;omega)];rfl
 have hBd:=zh hB;have H0:=(h.arr #[.int .i64 so,.int .i64 ch,.int .i64 ra,.int .i64 ba,.int .i64 ro,.int .i64 co] 6 rfl (by omega) 33).arr #[.int .i64 0,.int .i64 0,.int .i64 0,.int .i64 0,.int .i64 0,.int .i64 0] 6 rfl (by omega) 38
 simp only [World.size_alloc,zqa,zqb,zqc] at H0;have HD0:Hid (Dice ((w.alloc (.cells #[.int .i64 so,.int .i64 ch,.int .i64 ra,.int .i64 ba,.int .i64 ro,.int .i64 co] 33)).alloc (.cells #[.int .i64 0,.int .i64 0,.int .i64 0,.int .i64 0,.int .i64 0,.int .i64 0] 38)) g B):=(hd.below (z0i _ _)).below (z0i _ _)
 obtain ⟨OO,hOO⟩:∃ z,O++[(⟨some ⟨w.heap.size,0,none⟩,6,6,33,[.int .i64 so,.int .i64 ch,.int .i64 ra,.int .i64 ba,.int .i64 ro,.int .i64 co]⟩:Rw),⟨some ⟨w.heap.size+1,0,none⟩,6,6,38,[.int .i64 0,.int .i64 0,.int .i64 0,.int .i64 0,.int .i64 0,.int .i64 0]⟩]=z:=⟨_,rfl⟩
 obtain ⟨vi,hvi⟩:∃ z,O.length+1=z:=⟨_,rfl⟩
 obtain ⟨si,hsi⟩:∃ z,O.length+0=z:=⟨_,rfl⟩
 have HNs:Hid (vi≠si):=by unfold Hid;omega
 have HVr:Hid (OO[vi]?=some (⟨some ⟨w.heap.size+1,0,none⟩,6,6,38,[.int .i64 0,.int .i64 0,.int .i64 0,.int .i64 0,.int .i64 0,.int .i64 0]⟩:Rw)):=by unfold Hid;rw [<- hOO,<- hvi,z0b];rfl
 have HSr:Hid (OO[si]?=some (⟨some ⟨w.heap.size,0,none⟩,6,6,33,[.int .i64 so,.int .i64 ch,.int .i64 ra,.int .i64 ba,.int .i64 ro,.int .i64 co]⟩:Rw)):=by unfold Hid;rw [<- hOO,<- hsi,z0b];rfl
 have HO:Hid (Ow w0 ((w.alloc (.cells #[.int .i64 so,.int .i64 ch,.int .i64 ra,.int .i64 ba,.int .i64 ro,.int .i64 co] 33)).alloc (.cells #[.int .i64 0,.int .i64 0,.int .i64 0,.int .i64 0,.int .i64 0,.int .i64 0] 38)) (some g) M L (OO.set vi ⟨some ⟨w.heap.size+1,0,none⟩,6,6,38,[.int .i64 0,.int .i64 0,.int .i64 0,.int .i64 0,.int .i64 0,.int .i64 0]⟩)):=by unfold Hid;rw [z1p HVr.out,<- hOO];exact H0
 have HPb:Hid (w.heap.size<=w.heap.size+1):=Nat.le_succ _
 have HG0:Hid (w.grownBy ((w.alloc (.cells #[.int .i64 so,.int .i64 ch,.int .i64 ra,.int .i64 ba,.int .i64 ro,.int .i64 co] 33)).alloc (.cells #[.int .i64 0,.int .i64 0,.int .i64 0,.int .i64 0,.int .i64 0,.int .i64 0] 38)) (some g)):=z1q (z1q (World.grownBy.refl _ _) _) _
 have HOe:=zh hOO;have HVi:=zh hvi;clear h hd hB hs H0 hOO hvi hsi e0 f0 t0 q0 e1 f1 t1 q1 e2 f2 t2 q2 e3 f3 t3 q3 e4 f4 t4 q4 e5 f5 t5 q5;go_enter Tryz.func79,Tryz.ntmps79
 go_wp2_with fail;refine z1k (DpI w0 w g B M L OO w.heap.size (w.heap.size+1) vi so ch ra ba ro co m0 m1 m2 m3 m4 m5) (by kernel_rfl) (by kernel_rfl) ?_ ?_ ?_
 ·refine @DpI.m _ _ _ _ _ _ _ _ _ _ _ _ _ _ _ _ _ _ _ _ _ _ _ _ _ _ undef undef undef undef undef undef undef undef undef undef undef undef undef undef undef undef undef undef undef undef undef undef undef undef undef undef undef undef undef undef undef undef undef undef undef undef undef ⟨⟨_,rfl,HO.out.drew,fun h=>by cases h⟩,HD0.out.drew,z1z HG0.out,?_,?_,?_,?_,?_,?_,?_,?_,?_,?_,?_,?_,?_,?_,?_,?_,?_,?_,?_,?_,?_,?_,?_,?_,?_,?_,?_,?_,?_,?_,?_,?_,?_,?_,?_,?_,?_⟩ ?_
  all_goals first|(intro h;cases h)|simp only [Act.put,zT,zZ,zS]
 ·rintro jj Ld b W hj hf hcl hd ⟨hC,rfl⟩;have hj':jj<38:=hj
  have hcase:jj=0∨jj=1∨jj=2∨jj=3∨jj=4∨jj=5∨jj=6∨jj=7∨jj=8∨jj=9∨jj=10∨jj=11∨jj=12∨jj=13∨jj=14∨jj=15∨jj=16∨jj=17∨jj=18∨jj=19∨jj=20∨jj=21∨jj=22∨jj=23∨jj=24∨jj=25∨jj=26∨jj=27∨jj=28∨jj=29∨jj=30∨jj=31∨jj=32∨jj=33∨jj=34∨jj=35∨jj=36∨jj=37:=by omega
  clear hj hj';simp only [Act.put,zT,zZ,zS];rcases hcase with rfl|rfl|rfl|rfl|rfl|rfl|rfl|rfl|rfl|rfl|rfl|rfl|rfl|rfl|rfl|rfl|rfl|rfl|rfl|rfl|rfl|rfl|rfl|rfl|rfl|rfl|rfl|rfl|rfl|rfl|rfl|rfl|rfl|rfl|rfl|rfl|rfl|rfl
  ·clear hd hcl;refine zw rfl fun K hK=>?_
   go_simp;exact hK _ _ (.m {hC with h0:=fun _=>rfl})
  ·clear hd hcl;refine zw rfl fun K hK=>?_
   go_simp;exact hK _ _ (.m {hC with h1:=fun _=>rfl})
  ·obtain rfl:=hC.h1 (hd 1 (by kernel_rfl));obtain ⟨R,hRl,how,hRp⟩:=hC.ow;have y0:=(how.row si (by rw [zqf HNs.out];exact HSr.out)).cellAt 0 (by decide)
   clear hd hcl;refine zw rfl fun K hK=>?_
   go_simp;exact hK _ _ (.m {hC with h2:=fun _=>rfl})
  ·obtain rfl:=hC.h2 (hd 2 (by kernel_rfl));have hw:=HW.out.1 so (by simp)
   clear hd hcl;refine zw rfl fun K hK=>?_
   go_simp;exact hK _ _ (.m {hC with h3:=fun _=>rfl})
  ·obtain rfl:=hC.h3 (hd 3 (by kernel_rfl));have hw:=HWm0.out.1;clear hd hcl;refine zw rfl fun K hK=>?_
   go_simp;exact hK _ _ (.m {hC with h4:=fun _=>rfl})
  ·obtain rfl:=hC.h0 (hd 0 (by kernel_rfl));obtain rfl:=hC.h4 (hd 4 (by kernel_rfl));obtain ⟨R,hRl,how,hRp⟩:=hC.ow;have hcall:=z1e how hC.hd m0 HWm0.out.2.1 HWm0.out.2.2
   clear hd hcl;refine zw rfl fun K hK=>?_
   go_simp;refine (hcall).mono ?_
   rintro e W' ⟨r,rfl,hr,hd',how',hgr⟩;exact hK _ _ (.m {hC with ow:=⟨R,hRl,how',hRp⟩,hd:=hd',gr:=z0j hC.gr hgr,h5:=fun _=>⟨r,hr,rfl⟩})
  ·clear hd hcl;refine zw rfl fun K hK=>?_
   go_simp;exact hK _ _ (.m {hC with h6:=fun _=>rfl})
  ·clear hd hcl;refine zw rfl fun K hK=>?_
   go_simp;exact hK _ _ (.m {hC with h7:=fun _=>rfl})
  ·obtain rfl:=hC.h7 (hd 7 (by kernel_rfl));obtain ⟨R,hRl,how,hRp⟩:=hC.ow;have y0:=(how.row si (by rw [zqf HNs.out];exact HSr.out)).cellAt 1 (by decide)
   clear hd hcl;refine zw rfl fun K hK=>?_
   go_simp;exact hK _ _ (.m {hC with h8:=fun _=>rfl})
  ·obtain rfl:=hC.h8 (hd 8 (by kernel_rfl));have hw:=HW.out.1 ch (by simp)
   clear hd hcl;refine zw rfl fun K hK=>?_
   go_simp;exact hK _ _ (.m {hC with h9:=fun _=>rfl})
  ·obtain rfl:=hC.h9 (hd 9 (by kernel_rfl));have hw:=HWm1.out.1;clear hd hcl;refine zw rfl fun K hK=>?_
   go_simp;exact hK _ _ (.m {hC with h10:=fun _=>rfl})
  ·obtain rfl:=hC.h6 (hd 6 (by kernel_rfl));obtain rfl:=hC.h10 (hd 10 (by kernel_rfl));obtain ⟨R,hRl,how,hRp⟩:=hC.ow;have hcall:=z1e how hC.hd m1 HWm1.out.2.1 HWm1.out.2.2
   clear hd hcl;refine zw rfl fun K hK=>?_
   go_simp;refine (hcall).mono ?_
   rintro e W' ⟨r,rfl,hr,hd',how',hgr⟩;exact hK _ _ (.m {hC with ow:=⟨R,hRl,how',hRp⟩,hd:=hd',gr:=z0j hC.gr hgr,h11:=fun _=>⟨r,hr,rfl⟩})
  ·clear hd hcl;refine zw rfl fun K hK=>?_
   go_simp;exact hK _ _ (.m {hC with h12:=fun _=>rfl})
  ·clear hd hcl;refine zw rfl fun K hK=>?_
   go_simp;exact hK _ _ (.m {hC with h13:=fun _=>rfl})
  ·obtain rfl:=hC.h13 (hd 13 (by kernel_rfl));obtain ⟨R,hRl,how,hRp⟩:=hC.ow;have y0:=(how.row si (by rw [zqf HNs.out];exact HSr.out)).cellAt 2 (by decide)
   clear hd hcl;refine zw rfl fun K hK=>?_
   go_simp;exact hK _ _ (.m {hC with h14:=fun _=>rfl})
  ·obtain rfl:=hC.h14 (hd 14 (by kernel_rfl));have hw:=HW.out.1 ra (by simp)
   clear hd hcl;refine zw rfl fun K hK=>?_
   go_simp;exact hK _ _ (.m {hC with h15:=fun _=>rfl})
  ·obtain rfl:=hC.h15 (hd 15 (by kernel_rfl));have hw:=HWm2.out.1;clear hd hcl;refine zw rfl fun K hK=>?_
   go_simp;exact hK _ _ (.m {hC with h16:=fun _=>rfl})
  ·obtain rfl:=hC.h12 (hd 12 (by kernel_rfl));obtain rfl:=hC.h16 (hd 16 (by kernel_rfl));obtain ⟨R,hRl,how,hRp⟩:=hC.ow;have hcall:=z1e how hC.hd m2 HWm2.out.2.1 HWm2.out.2.2
   clear hd hcl;refine zw rfl fun K hK=>?_
   go_simp;refine (hcall).mono ?_
   rintro e W' ⟨r,rfl,hr,hd',how',hgr⟩;exact hK _ _ (.m {hC with ow:=⟨R,hRl,how',hRp⟩,hd:=hd',gr:=z0j hC.gr hgr,h17:=fun _=>⟨r,hr,rfl⟩})
  ·clear hd hcl;refine zw rfl fun K hK=>?_
   go_simp;exact hK _ _ (.m {hC with h18:=fun _=>rfl})
  ·clear hd hcl;refine zw rfl fun K hK=>?_
   go_simp;exact hK _ _ (.m {hC with h19:=fun _=>rfl})
  ·obtain rfl:=hC.h19 (hd 19 (by kernel_rfl));obtain ⟨R,hRl,how,hRp⟩:=hC.ow;have y0:=(how.row si (by rw [zqf HNs.out];exact HSr.out)).cellAt 3 (by decide)
   clear hd hcl;refine zw rfl fun K hK=>?_
   go_simp;exact hK _ _ (.m {hC with h20:=fun _=>rfl})
  ·obtain rfl:=hC.h20 (hd 20 (by kernel_rfl));have hw:=HW.out.1 ba (by simp)
   clear hd hcl;refine zw rfl fun K hK=>?_
   go_simp;exact hK _ _ (.m {hC with h21:=fun _=>rfl})
  ·obtain rfl:=hC.h21 (hd 21 (by kernel_rfl));have hw:=HWm3.out.1;clear hd hcl;refine zw rfl fun K hK=>?_
   go_simp;exact hK _ _ (.m {hC with h22:=fun _=>rfl})
  ·obtain rfl:=hC.h18 (hd 18 (by kernel_rfl));obtain rfl:=hC.h22 (hd 22 (by kernel_rfl));obtain ⟨R,hRl,how,hRp⟩:=hC.ow;have hcall:=z1e how hC.hd m3 HWm3.out.2.1 HWm3.out.2.2
   clear hd hcl;refine zw rfl fun K hK=>?_
   go_simp;refine (hcall).mono ?_
   rintro e W' ⟨r,rfl,hr,hd',how',hgr⟩;exact hK _ _ (.m {hC with ow:=⟨R,hRl,how',hRp⟩,hd:=hd',gr:=z0j hC.gr hgr,h23:=fun _=>⟨r,hr,rfl⟩})
  ·clear hd hcl;refine zw rfl fun K hK=>?_
   go_simp;exact hK _ _ (.m {hC with h24:=fun _=>rfl})
  ·clear hd hcl;refine zw rfl fun K hK=>?_
   go_simp;exact hK _ _ (.m {hC with h25:=fun _=>rfl})
  ·obtain rfl:=hC.h25 (hd 25 (by kernel_rfl));obtain ⟨R,hRl,how,hRp⟩:=hC.ow;have y0:=(how.row si (by rw [zqf HNs.out];exact HSr.out)).cellAt 4 (by decide)
   clear hd hcl;refine zw rfl fun K hK=>?_
   go_simp;exact hK _ _ (.m {hC with h26:=fun _=>rfl})
  ·obtain rfl:=hC.h26 (hd 26 (by kernel_rfl));have hw:=HW.out.1 ro (by simp)
   clear hd hcl;refine zw rfl fun K hK=>?_
   go_simp;exact hK _ _ (.m {hC with h27:=fun _=>rfl})
  ·obtain rfl:=hC.h27 (hd 27 (by kernel_rfl));have hw:=HWm4.out.1;clear hd hcl;refine zw rfl fun K hK=>?_
   go_simp;exact hK _ _ (.m {hC with h28:=fun _=>rfl})
  ·obtain rfl:=hC.h24 (hd 24 (by kernel_rfl));obtain rfl:=hC.h28 (hd 28 (by kernel_rfl));obtain ⟨R,hRl,how,hRp⟩:=hC.ow;have hcall:=z1e how hC.hd m4 HWm4.out.2.1 HWm4.out.2.2
   clear hd hcl;refine zw rfl fun K hK=>?_
   go_simp;refine (hcall).mono ?_
   rintro e W' ⟨r,rfl,hr,hd',how',hgr⟩;exact hK _ _ (.m {hC with ow:=⟨R,hRl,how',hRp⟩,hd:=hd',gr:=z0j hC.gr hgr,h29:=fun _=>⟨r,hr,rfl⟩})
  ·clear hd hcl;refine zw rfl fun K hK=>?_
   go_simp;exact hK _ _ (.m {hC with h30:=fun _=>rfl})
  ·clear hd hcl;refine zw rfl fun K hK=>?_
   go_simp;exact hK _ _ (.m {hC with h31:=fun _=>rfl})
  ·obtain rfl:=hC.h31 (hd 31 (by kernel_rfl));obtain ⟨R,hRl,how,hRp⟩:=hC.ow;have y0:=(how.row si (by rw [zqf HNs.out];exact HSr.out)).cellAt 5 (by decide)
   clear hd hcl;refine zw rfl fun K hK=>?_
   go_simp;exact hK _ _ (.m {hC with h32:=fun _=>rfl})
  ·obtain rfl:=hC.h32 (hd 32 (by kernel_rfl));have hw:=HW.out.1 co (by simp)
   clear hd hcl;refine zw rfl fun K hK=>?_
   go_simp;exact hK _ _ (.m {hC with h33:=fun _=>rfl})
  ·obtain rfl:=hC.h33 (hd 33 (by kernel_rfl));have hw:=HWm5.out.1;clear hd hcl;refine zw rfl fun K hK=>?_
   go_simp;exact hK _ _ (.m {hC with h34:=fun _=>rfl})
  ·obtain rfl:=hC.h30 (hd 30 (by kernel_rfl));obtain rfl:=hC.h34 (hd 34 (by kernel_rfl));obtain ⟨R,hRl,how,hRp⟩:=hC.ow;have hcall:=z1e how hC.hd m5 HWm5.out.2.1 HWm5.out.2.2
   clear hd hcl;refine zw rfl fun K hK=>?_
   go_simp;refine (hcall).mono ?_
   rintro e W' ⟨r,rfl,hr,hd',how',hgr⟩;exact hK _ _ (.m {hC with ow:=⟨R,hRl,how',hRp⟩,hd:=hd',gr:=z0j hC.gr hgr,h35:=fun _=>⟨r,hr,rfl⟩})
  ·obtain ⟨z5,hz5,rfl⟩:=hC.h5 (hd 5 (by kernel_rfl))
   obtain ⟨z11,hz11,rfl⟩:=hC.h11 (hd 11 (by kernel_rfl))
   obtain ⟨z17,hz17,rfl⟩:=hC.h17 (hd 17 (by kernel_rfl))
   obtain ⟨z23,hz23,rfl⟩:=hC.h23 (hd 23 (by kernel_rfl))
   obtain ⟨z29,hz29,rfl⟩:=hC.h29 (hd 29 (by kernel_rfl))
   obtain ⟨z35,hz35,rfl⟩:=hC.h35 (hd 35 (by kernel_rfl))
   clear hd hcl;refine zw rfl fun K hK=>?_
   go_simp;refine hK _ _ (.m (h:=?_) {hC with h36:=fun _=>⟨⟨z5,z11,z17,z23,z29,z35⟩,HPV.out z5 z11 z17 z23 z29 z35 hz5 hz11 hz17 hz23 hz29 hz35,rfl⟩});simp only [Act.put,List.setIfInBounds_toArray,zqd,zqe,Pl.vs]
  ·obtain ⟨pv,hpv,rfl⟩:=hC.h36 (hd 36 (by kernel_rfl))
   obtain ⟨R,hRl,how,hRp⟩:=hC.ow;obtain ⟨r0,r1,r2,r3,r4,r5,rfl⟩:=six hRl
   have hV:=z0a (r':=(⟨some ⟨w.heap.size+1,0,none⟩,6,6,38,[r0,r1,r2,r3,r4,r5]⟩:Rw)) HVr.out
   obtain ⟨p0,p1,p2,p3,p4,p5⟩:=pv;obtain ⟨y0,y1,y2,y3,y4,y5⟩:=zc6 (how.row vi hV);obtain ⟨f0,f1,f2,f3,f4,f5⟩:=zf6 (how.row vi hV);have HZ:=zh (z6bf how vi hV (.int .i64 p0) (.int .i64 p1) (.int .i64 p2) (.int .i64 p3) (.int .i64 p4) (.int .i64 p5))
   rw [List.set_set] at HZ;have HDg:=zh (z7s hC.hd hBd.out how hV (.int .i64 p0) (.int .i64 p1) (.int .i64 p2) (.int .i64 p3) (.int .i64 p4) (.int .i64 p5))
   have HGr:=zh (z3az hC.gr (w.heap.size+1) HPb.out (.int .i64 p0) (.int .i64 p1) (.int .i64 p2) (.int .i64 p3) (.int .i64 p4) (.int .i64 p5))
   clear hd hcl;unfold Pl.vs;refine zw rfl fun K hK=>?_
   go_simp;refine hK _ _ (.m (h:=?_) {hC with ow:=⟨_,rfl,HZ.out,fun _=>⟨⟨p0,p1,p2,p3,p4,p5⟩,hpv,rfl⟩⟩,hd:=HDg.out,gr:=HGr.out,h36:=fun _=>⟨⟨p0,p1,p2,p3,p4,p5⟩,hpv,rfl⟩});simp only [Act.put,List.setIfInBounds_toArray,zqd,zqe,Pl.vs]
 ·rintro Ld b W hL ⟨hC,rfl⟩;obtain ⟨R,hRl,how,hRp⟩:=hC.ow;obtain ⟨pv,hpv,rfl⟩:=hRp (hL 37 (by show 37<38;decide))
  have HDf:=zh hC.hd;have HPv:=zh hpv;have HGf:=zh hC.gr;obtain ⟨p0,p1,p2,p3,p4,p5⟩:=pv;obtain ⟨z0,z1,z2,z3,z4,z5⟩:=zc6 (how.row vi (z0a HVr.out));have HE:Hid (Ow w0 W (some g) M L O):=by
   unfold Hid;rw [<- HOe.out,<- HVi.out,z0o] at how;exact how.fewO
  clear hC how hL hRl hRp hpv;simp only [Act.put,zT,zZ,zS];(first|unfold Pl.vs at z0 z1 z2 z3 z4 z5|dsimp only at z0 z1 z2 z3 z4 z5);go_wp2_with fail;refine bodyPost_ret (v:=.agg #[.int .i64 p0,.int .i64 p1,.int .i64 p2,.int .i64 p3,.int .i64 p4,.int .i64 p5]) (by simp [results,Tryz.results79,go_sem,z0,z1,z2,z3,z4,z5]) rfl ?_
  exact ⟨⟨p0,p1,p2,p3,p4,p5⟩,rfl,HPv.out,HDf.out,HE.out,HGf.out⟩
namespace Cl
set_option maxHeartbeats 8000000
def shM (s:Pl):Prop:=(0<=s.so/\s.so<=1)/\(0<=s.ch/\s.ch<=1)/\(0<=s.ra/\s.ra<=1)/\s.ba=1/\(1<=s.ro/\s.ro<=3)/\s.co=2
theorem z0cn {s:Pl}(h:shM s):shV s:=by
 obtain ⟨h1,h2,h3,h4,h5,h6⟩:=h;exact ⟨by omega,by omega,by omega,by omega,by omega,by omega,by omega⟩
end Cl
theorem z0by {w0 w:World}{g B:Nat}{M:List (Nat×Value)}{L:List Ob}{O:List Rw}(h:Ow w0 w (some g) M L O)(hd:Dice w g B)(hB:B<=w0.heap.size):
  Calls Tryz.prog 11 #[.pointer (some ⟨g,0,none⟩)] w fun e w'=>∃ s:Pl,e=.returned (.agg s.vs)/\shM s/\Dice w' g B/\Ow w0 w' (some g) M L O:=by
 have H0:=h.arr #[.int .i64 0,.int .i64 0,.int .i64 0,.int .i64 0,.int .i64 0,.int .i64 0] 6 rfl (by omega) 33
 have D0:Dice (w.alloc (.cells #[.int .i64 0,.int .i64 0,.int .i64 0,.int .i64 0,.int .i64 0,.int .i64 0] 33)) g B:=hd.below (z0i _ _)
 clear h hd;have HN0:=zh (z1e H0 D0 2 (by omega) (by omega))
 clear H0 D0;go_enter Tryz.func11,Tryz.ntmps11
 go_wp2_with fail;refine HN0.out.mono ?_;rintro e w1 ⟨z0,rfl,h0,D1,H1,-⟩;have HN1:=zh (z1e H1 D1 2 (by omega) (by omega))
 have HH0:=zh h0;clear HN0 H1 D1 h0;go_wp2_with fail;refine HN1.out.mono ?_;rintro e w2 ⟨z1,rfl,h1,D2,H2,-⟩;have HN2:=zh (z1e H2 D2 2 (by omega) (by omega))
 have HH1:=zh h1;clear HN1 H2 D2 h1;go_wp2_with fail;refine HN2.out.mono ?_;rintro e w3 ⟨z2,rfl,h2,D3,H3,-⟩;have HN3:=zh (z1e H3 D3 2 (by omega) (by omega))
 have HH2:=zh h2;clear HN2 H3 D3 h2;go_wp2_with fail;refine HN3.out.mono ?_;rintro e w4 ⟨z3,rfl,h3,D4,H4,-⟩;have HN4:=zh (z1e H4 D4 3 (by omega) (by omega))
 have HH3:=zh h3;clear HN3 H4 D4 h3;have q1:((z3:Int)).tdiv 2=0:=by have:=HH3.out;rcases (show z3=0∨z3=1 by omega) with rfl|rfl <;> rfl
 have HW1:IntKind.i64.wrap (z3:Int)=(z3:Int):=IntWalk.i64_in _ (by have:=HH3.out;omega)
 go_wp2_with fail;refine HN4.out.mono ?_;rintro e w5 ⟨z4,rfl,h4,D5,H5,-⟩;have HH4:=zh h4;have HD5:=zh D5;have HBd:=zh hB;have hw4:IntKind.i64.wrap (1+(z4:Int))=1+(z4:Int):=IntWalk.i64_in _ (by omega)
 obtain ⟨y0,y1,y2,y3,y4,y5⟩:=zc6 (H5.row (O.length+0) (zk rfl));obtain ⟨f0,f1,f2,f3,f4,f5⟩:=zf6 (H5.row (O.length+0) (zk rfl));have H6:=z6bf H5 (O.length+0) (zk rfl) (.int .i64 z0) (.int .i64 z1) (.int .i64 z2) (.int .i64 1) (.int .i64 (1+(z4:Int))) (.int .i64 2)
 have HD6:=zh (z7s D5 hB H5 (i:=O.length+0) (zk rfl) (.int .i64 z0) (.int .i64 z1) (.int .i64 z2) (.int .i64 1) (.int .i64 (1+(z4:Int))) (.int .i64 2))
 rw [z0o] at H6;simp only [zqd] at H6;obtain ⟨x0,x1,x2,x3,x4,x5⟩:=zc6 (H6.row (O.length+0) (zk rfl));have HE:=zh H6.fewO;clear H5 H6 D5 HN4 hB h4;go_wp2_with fail;refine bodyPost_ret (v:=.agg #[.int .i64 z0,.int .i64 z1,.int .i64 z2,.int .i64 1,.int .i64 (1+(z4:Int)),.int .i64 2]) (by simp [results,Tryz.results11,go_sem,x0,x1,x2,x3,x4,x5]) rfl ?_
 exact ⟨⟨(z0:Int),z1,z2,1,1+z4,2⟩,rfl,by
  have:=HH0.out
  have:=HH1.out
  have:=HH2.out
  have:=HH4.out
  exact ⟨⟨by show (0:Int)<=z0;omega,by show (z0:Int)<=1;omega⟩,⟨by show (0:Int)<=z1;omega,by show (z1:Int)<=1;omega⟩,⟨by show (0:Int)<=z2;omega,by show (z2:Int)<=1;omega⟩,rfl,⟨by show (1:Int)<=1+z4;omega,by show (1:Int)+z4<=3;omega⟩,rfl⟩,HD6.out,HE.out⟩
theorem z0ac {w:World}{base g:Nat}{T:TypeId}{a b:Value}(hh:w.heap[g]?=some (.cells #[a,b] T (0,0)))(hb:base<=g):w.ownsRow base T 1 (.slice (some ⟨g,0,none⟩) 2 2) 2 [a,b]:=
 ⟨rfl,.inr ⟨g,2,#[a,b],rfl,hb,hh,zqj _,by unfold maxLen;omega,rfl,rfl⟩⟩
theorem z3at {α:Type}{l:List α}{i:Nat}{x y:α}(h:l[i]?=some x):(l++[y])[i]?=some x:=by rw [zqn (z0d h)];exact h
theorem z6w {α:Type}{l:List α}{y:α}:(l++[y])[l.length]?=some y:=by simp
theorem z3s {α:Type}{OO l:List α}{i:Nat}{x:α}(h:l[i]?=some x):(OO++l)[OO.length+i]?=some x:=by rw [z0b];exact h
def SqO (w0 wb:World)(g:Nat)(M:List (Nat×Value))(L:List Ob)(OO:List Rw)(so ch ra ba ro co:Nat)(Ld:Nat->Bool)(u12 u13 u16:Value)(W:World):Prop:=
 ∃ l:List Rw,Ow w0 W (some g) M L (OO++l)/\
  (Ld 12=true->Ld 13=false->∃ (i:Nat) (A:Option Addr) (c:Nat) (ts:List Int),ts.length=6/\u12=.slice A 6 c/\l[i]?=some ⟨A,6,c,3,z0p ts⟩)/\
  (Ld 13=true->Ld 15=false->∃ (i g2 B2:Nat) (A2:Option Addr) (n2 c2 at2:Nat) (W1:World),u13=.pointer (some ⟨g2,0,none⟩)/\wb.heap.size<=g2/\l[i]?=some (⟨some ⟨g2,0,none⟩,2,2,67,[.slice A2 n2 c2,.int .i64 at2]⟩:Rw)/\Dice W g2 B2/\B2<=W1.heap.size/\Ow W1 W (some g2) [] [] [])/\
  (Ld 16=true->∃ (i pb:Nat) (R:List Value),u16=.pointer (some ⟨pb,0,none⟩)/\wb.heap.size<=pb/\R.length=6/\l[i]?=some (⟨some ⟨pb,0,none⟩,6,6,38,R⟩:Rw)/\(Ld 17=true->∃ pv:Pl,plV ⟨(so:Int),ch,ra,ba,ro,co⟩ pv=true/\R=pv.vs.toList))
theorem z4b {ops:Array Oper}{Ld:Nat->Bool}{i j:Nat}(hcl:z0ax ops Ld)(h:Ld i=false)(hp:(z9x .any ops j).elem i=true):Ld j=false:=by
 cases e:Ld j with
 | false=>rfl
 | true=>
  rw [hcl j i e hp] at h;cases h
theorem z2aa {wb w w':World}{g:Option Nat}(h:wb.grownBy w g)(hb:Below w.heap.size w w'):wb.grownBy w' g:=z0t h (row:=none) ⟨hb.os,hb.tape,hb.output,hb.size,fun k hk _=>hb.block k hk⟩ (fun x e=>by cases e)
structure SqK (w0 wb:World)(g B:Nat)(M:List (Nat×Value))(L:List Ob)(OO:List Rw)(so ch ra ba ro co:Nat)(Ld:Nat->Bool)(u0 u1 u2 u3 u4 u5 u6 u7 u8 u9 u10 u11 u12 u13 u14 u15 u16:Value)(W:World):Prop where
 ow:SqO w0 wb g M L OO so ch ra ba ro co Ld u12 u13 u16 W
 hd:Dice W g B
 gr:wb.grownBy W (some g)
 h0:Ld 0=true->u0=.pointer (some ⟨g,0,none⟩)
 h1:Ld 1=true->∃ z:Nat,z<64/\u1=.int .i64 z
 h2:Ld 2=true->u2=.pointer (some ⟨g,0,none⟩)
 h3:Ld 3=true->∃ z:Nat,z<64/\u3=.int .i64 z
 h4:Ld 4=true->u4=.pointer (some ⟨g,0,none⟩)
 h5:Ld 5=true->∃ z:Nat,z<64/\u5=.int .i64 z
 h6:Ld 6=true->u6=.pointer (some ⟨g,0,none⟩)
 h7:Ld 7=true->∃ z:Nat,z<64/\u7=.int .i64 z
 h8:Ld 8=true->u8=.pointer (some ⟨g,0,none⟩)
 h9:Ld 9=true->∃ z:Nat,z<64/\u9=.int .i64 z
 h10:Ld 10=true->u10=.pointer (some ⟨g,0,none⟩)
 h11:Ld 11=true->∃ z:Nat,z<64/\u11=.int .i64 z
 h12:Ld 12=true->True
 h13:Ld 13=true->True
 h14:Ld 14=true->u14=.agg #[.int .i64 so,.int .i64 ch,.int .i64 ra,.int .i64 ba,.int .i64 ro,.int .i64 co]
 h15:Ld 15=true->∃ pv:Pl,plV ⟨(so:Int),ch,ra,ba,ro,co⟩ pv=true/\u15=.agg pv.vs
 h16:Ld 16=true->True
def SqI (w0 wb:World)(g B:Nat)(M:List (Nat×Value))(L:List Ob)(OO:List Rw)(so ch ra ba ro co:Nat)(A0:Act)(Ld:Nat->Bool)(a:Act)(W:World):Prop:=
 ∃ (u0 u1 u2 u3 u4 u5 u6 u7 u8 u9 u10 u11 u12 u13 u14 u15 u16:Value),a=(((((((((((((((((A0.put (some 8) u0).put (some 9) u1).put (some 10) u2).put (some 11) u3).put (some 12) u4).put (some 13) u5).put (some 14) u6).put (some 15) u7).put (some 16) u8).put (some 17) u9).put (some 18) u10).put (some 19) u11).put (some 20) u12).put (some 21) u13).put (some 22) u14).put (some 23) u15).put (some 7) u16)/\SqK w0 wb g B M L OO so ch ra ba ro co Ld u0 u1 u2 u3 u4 u5 u6 u7 u8 u9 u10 u11 u12 u13 u14 u15 u16 W
end Go.Proofs.YtpmofjomadibmaaGreatDoor
