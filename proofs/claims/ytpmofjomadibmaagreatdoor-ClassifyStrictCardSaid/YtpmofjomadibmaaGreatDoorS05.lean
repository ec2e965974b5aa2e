/- Xc Xd Xe Xf -/
import Derived.Test.YtpmofjomadibmaaGreatDoorS04
import Derived.Laws.StructEq
import Derived.MapKept
import Derived.ChangeMaps5
namespace Go.Proofs.YtpmofjomadibmaaGreatDoor
set_option maxHeartbeats 2000000
open Go.RowKit Go.Sort
set_option linter.unusedVariables false
set_option maxRecDepth 100000
open Cl
def Cl.spV (k:Int)(x:Sn):Array Value:=#[.int .i64 (whV k x.p).so,.int .i64 (whV k x.p).ch,.int .i64 (whV k x.p).ra,.int .i64 (whV k x.p).ba,.int .i64 (whV k x.p).ro,.int .i64 (whV k x.p).co,.int .i64 x.cp]
theorem z7ay (k:Int)(x:Sn)(w:World):
  Calls Tryz.prog 61 #[.int .i64 k,.agg x.vs] w fun e w'=>e=.returned (.agg (spV k x))∧Below w.heap.size w w':=by
 have H0:=((Ow.of (St.refl w)).arr x.vs 8 rfl (by omega) 40).arr #[.int .i64 0,.int .i64 0,.int .i64 0,.int .i64 0,.int .i64 0,.int .i64 0,.int .i64 0] 7 rfl (by omega) 99
 simp only [zqc,zqb,World.size_alloc] at H0;obtain ⟨⟨so,ch,ra,ba,ro,co⟩,cp,ti⟩:=x
 have HW:=zh (z4e k ⟨so,ch,ra,ba,ro,co⟩)
 unfold spV;obtain ⟨⟨q0,q1,q2,q3,q4,q5⟩,hq⟩:∃ q,whV k ⟨so,ch,ra,ba,ro,co⟩=q:=⟨_,rfl⟩
 rw [hq] at HW ⊢
 unfold Sn.vs at *
 unfold Pl.vs at HW;obtain ⟨a0,a1,a2,a3,a4,a5,a6,a7⟩:=zc8 (H0.row 0 rfl);go_enter Tryz.func61,Tryz.ntmps61
 go_wp2_with fail;refine (HW.out _).mono ?_
 rintro e w1 ⟨rfl,hb⟩;have H1:=(H0.go hb).arr #[.int .i64 q0,.int .i64 q1,.int .i64 q2,.int .i64 q3,.int .i64 q4,.int .i64 q5] 6 rfl (by omega) 38
 simp only [zqc,zqb] at H1;clear HW hb H0 a0 a1 a2 a3 a4 a5 a6 a7;have b6:=(H1.row 0 rfl).cellAt 6 (by decide)
 have y0:=(H1.row 1 rfl).cellAt 0 (by decide)
 have y1:=(H1.row 1 rfl).cellAt 1 (by decide)
 have y2:=(H1.row 1 rfl).cellAt 2 (by decide)
 have y3:=(H1.row 1 rfl).cellAt 3 (by decide)
 have y4:=(H1.row 1 rfl).cellAt 4 (by decide)
 have y5:=(H1.row 1 rfl).cellAt 5 (by decide)
 have y6:=(H1.row 1 rfl).cellAt 6 (by decide)
 have yf0:=(H1.row 1 rfl).frozenAt 0
 have yf1:=(H1.row 1 rfl).frozenAt 1
 have yf2:=(H1.row 1 rfl).frozenAt 2
 have yf3:=(H1.row 1 rfl).frozenAt 3
 have yf4:=(H1.row 1 rfl).frozenAt 4
 have yf5:=(H1.row 1 rfl).frozenAt 5
 have yf6:=(H1.row 1 rfl).frozenAt 6
 have Z0:=H1.put 1 rfl 0 (.int .i64 q0)
 simp only [zqe,zqd] at Z0;have Z1:=Z0.put 1 rfl 1 (.int .i64 q1)
 simp only [zqe,zqd] at Z1;have Z2:=Z1.put 1 rfl 2 (.int .i64 q2)
 simp only [zqe,zqd] at Z2;have Z3:=Z2.put 1 rfl 3 (.int .i64 q3)
 simp only [zqe,zqd] at Z3;have Z4:=Z3.put 1 rfl 4 (.int .i64 q4)
 simp only [zqe,zqd] at Z4;have Z5:=Z4.put 1 rfl 5 (.int .i64 q5)
 simp only [zqe,zqd] at Z5;have Z6:=Z5.put 1 rfl 6 (.int .i64 cp)
 simp only [zqe,zqd] at Z6;have s0:=(Z6.row 1 rfl).cellAt 0 (by decide)
 have s1:=(Z6.row 1 rfl).cellAt 1 (by decide)
 have s2:=(Z6.row 1 rfl).cellAt 2 (by decide)
 have s3:=(Z6.row 1 rfl).cellAt 3 (by decide)
 have s4:=(Z6.row 1 rfl).cellAt 4 (by decide)
 have s5:=(Z6.row 1 rfl).cellAt 5 (by decide)
 have s6:=(Z6.row 1 rfl).cellAt 6 (by decide)
 go_wp2_with fail;refine bodyPost_ret (v:=.agg #[.int .i64 q0,.int .i64 q1,.int .i64 q2,.int .i64 q3,.int .i64 q4,.int .i64 q5,.int .i64 cp]) (by simp [results,Tryz.results61,go_sem,s0,s1,s2,s3,s4,s5,s6]) rfl ?_
 exact ⟨rfl,Z6.below⟩
theorem z3ad (a0 a1 a2 a3 a4 a5 a6 b0 b1 b2 b3 b4 b5 b6:Int)(w:World):(binOp .eql 99 (.agg #[.int .i64 a0,.int .i64 a1,.int .i64 a2,.int .i64 a3,.int .i64 a4,.int .i64 a5,.int .i64 a6]) (.agg #[.int .i64 b0,.int .i64 b1,.int .i64 b2,.int .i64 b3,.int .i64 b4,.int .i64 b5,.int .i64 b6])).run Tryz.prog w=.ok (.bool (decide (((Pl.mk a0 a1 a2 a3 a4 a5,a6):Pl×Int)=(Pl.mk b0 b1 b2 b3 b4 b5,b6)))) w:=by
 by_cases h0:a0=b0
 case neg=>simp [go_sem,run_eql_struct,Tryz.underlying99,Tryz.underlying38,Tryz.underlying3,h0]
 by_cases h1:a1=b1
 case neg=>simp [go_sem,run_eql_struct,Tryz.underlying99,Tryz.underlying38,Tryz.underlying3,h1,h0]
 by_cases h2:a2=b2
 case neg=>simp [go_sem,run_eql_struct,Tryz.underlying99,Tryz.underlying38,Tryz.underlying3,h2,h0,h1]
 by_cases h3:a3=b3
 case neg=>simp [go_sem,run_eql_struct,Tryz.underlying99,Tryz.underlying38,Tryz.underlying3,h3,h0,h1,h2]
 by_cases h4:a4=b4
 case neg=>simp [go_sem,run_eql_struct,Tryz.underlying99,Tryz.underlying38,Tryz.underlying3,h4,h0,h1,h2,h3]
 by_cases h5:a5=b5
 case neg=>simp [go_sem,run_eql_struct,Tryz.underlying99,Tryz.underlying38,Tryz.underlying3,h5,h0,h1,h2,h3,h4]
 by_cases h6:a6=b6
 case neg=>simp [go_sem,run_eql_struct,Tryz.underlying99,Tryz.underlying38,Tryz.underlying3,h6,h0,h1,h2,h3,h4,h5]
 subst h0 h1 h2 h3 h4 h5 h6
 simp [go_sem,run_eql_struct,Tryz.underlying99,Tryz.underlying38,Tryz.underlying3]
theorem z7al (a0 a1 a2 a3 a4 a5 b0 b1 b2 b3 b4 b5:Int)(w:World):(binOp .eql 38 (.agg #[.int .i64 a0,.int .i64 a1,.int .i64 a2,.int .i64 a3,.int .i64 a4,.int .i64 a5]) (.agg #[.int .i64 b0,.int .i64 b1,.int .i64 b2,.int .i64 b3,.int .i64 b4,.int .i64 b5])).run Tryz.prog w=.ok (.bool (decide (Pl.mk a0 a1 a2 a3 a4 a5=Pl.mk b0 b1 b2 b3 b4 b5))) w:=by
 by_cases h0:a0=b0
 case neg=>simp [go_sem,run_eql_struct,Tryz.underlying38,Tryz.underlying3,h0]
 by_cases h1:a1=b1
 case neg=>simp [go_sem,run_eql_struct,Tryz.underlying38,Tryz.underlying3,h1,h0]
 by_cases h2:a2=b2
 case neg=>simp [go_sem,run_eql_struct,Tryz.underlying38,Tryz.underlying3,h2,h0,h1]
 by_cases h3:a3=b3
 case neg=>simp [go_sem,run_eql_struct,Tryz.underlying38,Tryz.underlying3,h3,h0,h1,h2]
 by_cases h4:a4=b4
 case neg=>simp [go_sem,run_eql_struct,Tryz.underlying38,Tryz.underlying3,h4,h0,h1,h2,h3]
 by_cases h5:a5=b5
 case neg=>simp [go_sem,run_eql_struct,Tryz.underlying38,Tryz.underlying3,h5,h0,h1,h2,h3,h4]
 subst h0 h1 h2 h3 h4 h5
 simp [go_sem,run_eql_struct,Tryz.underlying38,Tryz.underlying3]
theorem z0bq:Tryz.prog.eqGuardType Tryz.prog.depth 99=false:=by kernel_rfl
theorem z7ah:Tryz.prog.eqGuardType Tryz.prog.depth 38=false:=by kernel_rfl
structure PsK (wb:World)(b0 b1:Nat)(k x0 x1 x2 x3 x4 x5 x6 x7 y0 y1 y2 y3 y4 y5 y6 y7 p0 p1 p2 p3 p4 p5 q0 q1 q2 q3 q4 q5:Int)(r:Bool)(Ld:Nat→Bool)(u0 u1 u2 u3 u4 u5 u6 u7 u8 u9 u10:Value)(W:World):Prop where
 bl:Below wb.heap.size wb W
 h0:Ld 0=true→u0=.bool true
 h1:Ld 1=true→u1=.bool true
 h2:Ld 2=true→u2=.int .i64 k
 h3:Ld 3=true→u3=.agg #[.int .i64 x0,.int .i64 x1,.int .i64 x2,.int .i64 x3,.int .i64 x4,.int .i64 x5,.int .i64 x6,.int .i64 x7]
 h4:Ld 4=true→u4=.agg #[.int .i64 p0,.int .i64 p1,.int .i64 p2,.int .i64 p3,.int .i64 p4,.int .i64 p5,.int .i64 x6]
 h5:Ld 5=true→u5=.int .i64 k
 h6:Ld 6=true→u6=.agg #[.int .i64 y0,.int .i64 y1,.int .i64 y2,.int .i64 y3,.int .i64 y4,.int .i64 y5,.int .i64 y6,.int .i64 y7]
 h7:Ld 7=true→u7=.agg #[.int .i64 q0,.int .i64 q1,.int .i64 q2,.int .i64 q3,.int .i64 q4,.int .i64 q5,.int .i64 y6]
 h8:Ld 8=true→u8=.bool r
 h9:Ld 9=true→u9=.bool r
 h10:Ld 10=true→u10=.bool r
def PsI (wb:World)(b0 b1:Nat)(k x0 x1 x2 x3 x4 x5 x6 x7 y0 y1 y2 y3 y4 y5 y6 y7 p0 p1 p2 p3 p4 p5 q0 q1 q2 q3 q4 q5:Int)(r:Bool)(A0:Act)(Ld:Nat→Bool)(a:Act)(W:World):Prop:=
 ∃ (u0 u1 u2 u3 u4 u5 u6 u7 u8 u9 u10:Value),a=(((((((((((A0.put (some 16) u0).put (some 17) u1).put (some 18) u2).put (some 19) u3).put (some 20) u4).put (some 21) u5).put (some 22) u6).put (some 23) u7).put (some 24) u8).put (some 25) u9).put (some 6) u10)∧PsK wb b0 b1 k x0 x1 x2 x3 x4 x5 x6 x7 y0 y1 y2 y3 y4 y5 y6 y7 p0 p1 p2 p3 p4 p5 q0 q1 q2 q3 q4 q5 r Ld u0 u1 u2 u3 u4 u5 u6 u7 u8 u9 u10 W
theorem z3by (k:Int)(hk:kd k)(x y:Sn)(w:World):
  Calls Tryz.prog 53 #[.int .i64 k,.agg x.vs,.agg y.vs] w fun e w'=>e=.returned (.bool (decide ((whV k x.p,x.cp)=(whV k y.p,y.cp))))∧Below w.heap.size w w':=by
 have HA0:=fun W=>z7ay k x W
 have HB0:=fun W=>z7ay k y W
 have HW:=zh (z4e k x.p)
 rw [zt hk] at HW;obtain ⟨⟨x0,x1,x2,x3,x4,x5⟩,x6,x7⟩:=x
 obtain ⟨⟨y0,y1,y2,y3,y4,y5⟩,y6,y7⟩:=y
 unfold spV at HA0 HB0;simp only at HA0 HB0 HW ⊢
 obtain ⟨⟨p0,p1,p2,p3,p4,p5⟩,hp⟩:∃ q,whV k ⟨x0,x1,x2,x3,x4,x5⟩=q:=⟨_,rfl⟩
 obtain ⟨⟨q0,q1,q2,q3,q4,q5⟩,hq⟩:∃ q,whV k ⟨y0,y1,y2,y3,y4,y5⟩=q:=⟨_,rfl⟩
 rw [hp] at HA0 HW ⊢
 rw [hq] at HB0 ⊢
 unfold Sn.vs at *
 unfold Pl.vs at HW;have HA:=zh HA0;have HB:=zh HB0;have H0:=((Ow.of (St.refl w)).arr #[.int .i64 x0,.int .i64 x1,.int .i64 x2,.int .i64 x3,.int .i64 x4,.int .i64 x5,.int .i64 x6,.int .i64 x7] 8 rfl (by omega) 40).arr #[.int .i64 y0,.int .i64 y1,.int .i64 y2,.int .i64 y3,.int .i64 y4,.int .i64 y5,.int .i64 y6,.int .i64 y7] 8 rfl (by omega) 40
 simp only [zqc,zqb,World.size_alloc] at H0;obtain ⟨a0,a1,a2,a3,a4,a5,a6,a7⟩:=zc8 (H0.row 0 rfl);clear hk HA0 HB0 hp hq;obtain ⟨r,hr⟩:∃ r,decide ((Pl.mk p0 p1 p2 p3 p4 p5,x6)=(Pl.mk q0 q1 q2 q3 q4 q5,y6))=r:=⟨_,rfl⟩
 have HR:Hid (∀ W:World,(binOp .eql 99 (.agg #[.int .i64 p0,.int .i64 p1,.int .i64 p2,.int .i64 p3,.int .i64 p4,.int .i64 p5,.int .i64 x6]) (.agg #[.int .i64 q0,.int .i64 q1,.int .i64 q2,.int .i64 q3,.int .i64 q4,.int .i64 q5,.int .i64 y6])).run Tryz.prog W=.ok (.bool r) W):=fun W=>by rw [← hr];exact z3ad ..
 rw [hr];clear hr;go_enter Tryz.func53,Tryz.ntmps53
 go_wp2_with fail;refine (HW.out _).mono ?_
 rintro e w1 ⟨rfl,hb⟩;have H1:=(H0.go hb).arr #[.int .i64 p0,.int .i64 p1,.int .i64 p2,.int .i64 p3,.int .i64 p4,.int .i64 p5] 6 rfl (by omega) 38
 simp only [zqc,zqb] at H1;clear HW hb H0 a0 a1 a2 a3 a4 a5 a6 a7;go_wp2_with fail;obtain ⟨wb,hwb⟩:∃ wb,w1.alloc (.cells #[.int .i64 p0,.int .i64 p1,.int .i64 p2,.int .i64 p3,.int .i64 p4,.int .i64 p5] 38)=wb:=⟨_,rfl⟩
 rw [hwb] at H1 ⊢
 have HX:Hid (∀ W,Below wb.heap.size wb W→W.cell? ⟨w.heap.size,0,none⟩=some (.int .i64 x0)∧W.cell? ⟨w.heap.size,1,none⟩=some (.int .i64 x1)∧W.cell? ⟨w.heap.size,2,none⟩=some (.int .i64 x2)∧W.cell? ⟨w.heap.size,3,none⟩=some (.int .i64 x3)∧W.cell? ⟨w.heap.size,4,none⟩=some (.int .i64 x4)∧W.cell? ⟨w.heap.size,5,none⟩=some (.int .i64 x5)∧W.cell? ⟨w.heap.size,6,none⟩=some (.int .i64 x6)∧W.cell? ⟨w.heap.size,7,none⟩=some (.int .i64 x7)):=fun W hb=>by
  have H2:=H1.go hb
  exact ⟨(H2.row 0 rfl).cellAt 0 (by decide),(H2.row 0 rfl).cellAt 1 (by decide),(H2.row 0 rfl).cellAt 2 (by decide),(H2.row 0 rfl).cellAt 3 (by decide),(H2.row 0 rfl).cellAt 4 (by decide),(H2.row 0 rfl).cellAt 5 (by decide),(H2.row 0 rfl).cellAt 6 (by decide),(H2.row 0 rfl).cellAt 7 (by decide)⟩
 have HY:Hid (∀ W,Below wb.heap.size wb W→W.cell? ⟨w.heap.size+1,0,none⟩=some (.int .i64 y0)∧W.cell? ⟨w.heap.size+1,1,none⟩=some (.int .i64 y1)∧W.cell? ⟨w.heap.size+1,2,none⟩=some (.int .i64 y2)∧W.cell? ⟨w.heap.size+1,3,none⟩=some (.int .i64 y3)∧W.cell? ⟨w.heap.size+1,4,none⟩=some (.int .i64 y4)∧W.cell? ⟨w.heap.size+1,5,none⟩=some (.int .i64 y5)∧W.cell? ⟨w.heap.size+1,6,none⟩=some (.int .i64 y6)∧W.cell? ⟨w.heap.size+1,7,none⟩=some (.int .i64 y7)):=fun W hb=>by
  have H2:=H1.go hb
  exact ⟨(H2.row 1 rfl).cellAt 0 (by decide),(H2.row 1 rfl).cellAt 1 (by decide),(H2.row 1 rfl).cellAt 2 (by decide),(H2.row 1 rfl).cellAt 3 (by decide),(H2.row 1 rfl).cellAt 4 (by decide),(H2.row 1 rfl).cellAt 5 (by decide),(H2.row 1 rfl).cellAt 6 (by decide),(H2.row 1 rfl).cellAt 7 (by decide)⟩
 have HL:=zh H1.below;clear H1 hwb;refine z1a (PsI wb w.heap.size (w.heap.size+1) k x0 x1 x2 x3 x4 x5 x6 x7 y0 y1 y2 y3 y4 y5 y6 y7 p0 p1 p2 p3 p4 p5 q0 q1 q2 q3 q4 q5 r) (by kernel_rfl) (by kernel_rfl) ?_ ?_ ?_
 ·refine ⟨undef,undef,undef,undef,undef,undef,undef,undef,undef,undef,(.bool false),?_,⟨z0p (Below.refl _ _) 1,?_,?_,?_,?_,?_,?_,?_,?_,?_,?_,?_⟩⟩
  ·simp only [Act.put,zT,zZ,zS]
  all_goals (intro h;cases h)
 ·rintro jj Ld b W hj hf hcl hd ⟨u0,u1,u2,u3,u4,u5,u6,u7,u8,u9,u10,rfl,hC⟩;have hj':jj<11:=hj
  have hcase:jj=0∨jj=1∨jj=2∨jj=3∨jj=4∨jj=5∨jj=6∨jj=7∨jj=8∨jj=9∨jj=10:=by omega
  clear hj hj';simp only [Act.put,zT,zZ,zS];rcases hcase with rfl | rfl | rfl | rfl | rfl | rfl | rfl | rfl | rfl | rfl | rfl
  ·clear hd hcl;refine zw rfl fun K hK=>?_
   go_simp;refine hK _ _ ⟨_,_,_,_,_,_,_,_,_,_,_,?_,{hC with h0:=fun _=>rfl}⟩;simp only [Act.put,zT,zZ,zS]
  ·obtain rfl:=hC.h0 (hd 0 (by kernel_rfl));clear hd hcl;refine zw rfl fun K hK=>?_
   go_simp;refine hK _ _ ⟨_,_,_,_,_,_,_,_,_,_,_,?_,{hC with h1:=fun _=>rfl}⟩;simp only [Act.put,zT,zZ,zS]
  ·obtain rfl:=hC.h1 (hd 1 (by kernel_rfl));clear hd hcl;refine zw rfl fun K hK=>?_
   go_simp;refine hK _ _ ⟨_,_,_,_,_,_,_,_,_,_,_,?_,{hC with h2:=fun _=>rfl}⟩;simp only [Act.put,zT,zZ,zS]
  ·obtain rfl:=hC.h1 (hd 1 (by kernel_rfl));obtain ⟨a0,a1,a2,a3,a4,a5,a6,a7⟩:=HX.out W hC.bl
   clear hd hcl;refine zw rfl fun K hK=>?_
   go_simp;refine hK _ _ ⟨_,_,_,_,_,_,_,_,_,_,_,?_,{hC with h3:=fun _=>rfl}⟩;simp only [Act.put,zT,zZ,zS]
  ·obtain rfl:=hC.h1 (hd 1 (by kernel_rfl));obtain rfl:=hC.h2 (hd 2 (by kernel_rfl));obtain rfl:=hC.h3 (hd 3 (by kernel_rfl));have HAt:=HA.out W
   clear hd hcl;refine zw rfl fun K hK=>?_
   go_simp;refine (HAt).mono ?_
   rintro e W' ⟨rfl,hb⟩;refine hK _ _ ⟨_,_,_,_,_,_,_,_,_,_,_,?_,{hC with bl:=hC.bl.trans (hb.mono hC.bl.size),h4:=fun _=>rfl}⟩;simp only [Act.put,zT,zZ,zS]
  ·obtain rfl:=hC.h1 (hd 1 (by kernel_rfl));clear hd hcl;refine zw rfl fun K hK=>?_
   go_simp;refine hK _ _ ⟨_,_,_,_,_,_,_,_,_,_,_,?_,{hC with h5:=fun _=>rfl}⟩;simp only [Act.put,zT,zZ,zS]
  ·obtain rfl:=hC.h1 (hd 1 (by kernel_rfl));obtain ⟨a0,a1,a2,a3,a4,a5,a6,a7⟩:=HY.out W hC.bl
   clear hd hcl;refine zw rfl fun K hK=>?_
   go_simp;refine hK _ _ ⟨_,_,_,_,_,_,_,_,_,_,_,?_,{hC with h6:=fun _=>rfl}⟩;simp only [Act.put,zT,zZ,zS]
  ·obtain rfl:=hC.h1 (hd 1 (by kernel_rfl));obtain rfl:=hC.h5 (hd 5 (by kernel_rfl));obtain rfl:=hC.h6 (hd 6 (by kernel_rfl));have HAt:=HB.out W
   clear hd hcl;refine zw rfl fun K hK=>?_
   go_simp;refine (HAt).mono ?_
   rintro e W' ⟨rfl,hb⟩;refine hK _ _ ⟨_,_,_,_,_,_,_,_,_,_,_,?_,{hC with bl:=hC.bl.trans (hb.mono hC.bl.size),h7:=fun _=>rfl}⟩;simp only [Act.put,zT,zZ,zS]
  ·obtain rfl:=hC.h1 (hd 1 (by kernel_rfl));obtain rfl:=hC.h4 (hd 4 (by kernel_rfl));obtain rfl:=hC.h7 (hd 7 (by kernel_rfl));have hr:=HR.out;have hg:=z0bq;clear hd hcl;refine zw rfl fun K hK=>?_
   go_simp;refine hK _ _ ⟨_,_,_,_,_,_,_,_,_,_,_,?_,{hC with h8:=fun _=>rfl}⟩;simp only [Act.put,zT,zZ,zS]
  ·obtain rfl:=hC.h1 (hd 1 (by kernel_rfl));obtain rfl:=hC.h8 (hd 8 (by kernel_rfl));clear hd hcl;refine zw rfl fun K hK=>?_
   go_simp;refine hK _ _ ⟨_,_,_,_,_,_,_,_,_,_,_,?_,{hC with h9:=fun _=>rfl}⟩;simp only [Act.put,zT,zZ,zS]
  ·obtain rfl:=hC.h9 (hd 9 (by kernel_rfl));clear hd hcl;refine zw rfl fun K hK=>?_
   go_simp;refine hK _ _ ⟨_,_,_,_,_,_,_,_,_,_,_,?_,{hC with h10:=fun _=>rfl}⟩;simp only [Act.put,zT,zZ,zS]
 ·rintro Ld b W hL ⟨u0,u1,u2,u3,u4,u5,u6,u7,u8,u9,u10,rfl,hC⟩;obtain rfl:=hC.h10 (hL 10 (by show 10<11;decide))
  have HG:=zh (HL.out.trans (hC.bl.mono HL.out.size))
  clear hC;simp only [Act.put,zT,zZ,zS];go_wp2_with fail;go_ret;exact ⟨rfl,HG.out⟩
structure RsK (wb:World)(b0 b1:Nat)(k x0 x1 x2 x3 x4 x5 x6 x7 y0 y1 y2 y3 y4 y5 y6 y7 p0 p1 p2 p3 p4 p5 q0 q1 q2 q3 q4 q5:Int)(r:Bool)(Ld:Nat→Bool)(u0 u1 u2 u3 u4 u5 u6 u7 u8 u9 u10 u11 u12 u13 u14 u15 u16 u17 u18 u19 u20 u21 u22 u23 u24:Value)(W:World):Prop where
 bl:Below wb.heap.size wb W
 h0:Ld 0=true→u0=.int .i64 k
 h1:Ld 1=true→u1=.bool true
 h2:Ld 2=true→u2=.bool true
 h3:Ld 3=true→u3=.int .i64 k
 h4:Ld 4=true→u4=.bool true
 h5:Ld 5=true→u5=.bool true
 h6:Ld 6=true→u6=.bool true
 h7:Ld 7=true→u7=.pointer (some ⟨b0,6,none⟩)
 h8:Ld 8=true→u8=.int .i64 x6
 h9:Ld 9=true→u9=.pointer (some ⟨b1,6,none⟩)
 h10:Ld 10=true→u10=.int .i64 y6
 h11:Ld 11=true→u11=.bool true
 h12:Ld 12=true→u12=.bool true
 h13:Ld 13=true→u13=.bool true
 h14:Ld 14=true→u14=.int .i64 k
 h15:Ld 15=true→u15=.pointer (some ⟨b0,0,none⟩)
 h16:Ld 16=true→u16=.agg #[.int .i64 x0,.int .i64 x1,.int .i64 x2,.int .i64 x3,.int .i64 x4,.int .i64 x5]
 h17:Ld 17=true→u17=.agg #[.int .i64 p0,.int .i64 p1,.int .i64 p2,.int .i64 p3,.int .i64 p4,.int .i64 p5]
 h18:Ld 18=true→u18=.int .i64 k
 h19:Ld 19=true→u19=.pointer (some ⟨b1,0,none⟩)
 h20:Ld 20=true→u20=.agg #[.int .i64 y0,.int .i64 y1,.int .i64 y2,.int .i64 y3,.int .i64 y4,.int .i64 y5]
 h21:Ld 21=true→u21=.agg #[.int .i64 q0,.int .i64 q1,.int .i64 q2,.int .i64 q3,.int .i64 q4,.int .i64 q5]
 h22:Ld 22=true→u22=.bool r
 h23:Ld 23=true→u23=.bool r
 h24:Ld 24=true→u24=.bool r
def RsI (wb:World)(b0 b1:Nat)(k x0 x1 x2 x3 x4 x5 x6 x7 y0 y1 y2 y3 y4 y5 y6 y7 p0 p1 p2 p3 p4 p5 q0 q1 q2 q3 q4 q5:Int)(r:Bool)(A0:Act)(Ld:Nat→Bool)(a:Act)(W:World):Prop:=
 ∃ (u0 u1 u2 u3 u4 u5 u6 u7 u8 u9 u10 u11 u12 u13 u14 u15 u16 u17 u18 u19 u20 u21 u22 u23 u24:Value),a=(((((((((((((((((((((((((A0.put (some 7) u0).put (some 8) u1).put (some 9) u2).put (some 10) u3).put (some 11) u4).put (some 12) u5).put (some 13) u6).put (some 14) u7).put (some 15) u8).put (some 16) u9).put (some 17) u10).put (some 18) u11).put (some 19) u12).put (some 20) u13).put (some 21) u14).put (some 22) u15).put (some 23) u16).put (some 24) u17).put (some 25) u18).put (some 26) u19).put (some 27) u20).put (some 28) u21).put (some 29) u22).put (some 30) u23).put (some 6) u24)∧RsK wb b0 b1 k x0 x1 x2 x3 x4 x5 x6 x7 y0 y1 y2 y3 y4 y5 y6 y7 p0 p1 p2 p3 p4 p5 q0 q1 q2 q3 q4 q5 r Ld u0 u1 u2 u3 u4 u5 u6 u7 u8 u9 u10 u11 u12 u13 u14 u15 u16 u17 u18 u19 u20 u21 u22 u23 u24 W
theorem z3bh (k:Int)(hk:kd k)(x y:Sn)(hc:x.cp=y.cp)(w:World):
  Calls Tryz.prog 23 #[.int .i64 k,.agg x.vs,.agg y.vs] w fun e w'=>e=.returned (.bool (decide (wh k x.p=wh k y.p)))∧Below w.heap.size w w':=by
 have HA0:=fun W=>z6d k hk x.p W
 have HB0:=fun W=>z6d k hk y.p W
 obtain ⟨⟨x0,x1,x2,x3,x4,x5⟩,x6,x7⟩:=x
 obtain ⟨⟨y0,y1,y2,y3,y4,y5⟩,y6,y7⟩:=y
 simp only at HA0 HB0 hc ⊢
 obtain ⟨⟨p0,p1,p2,p3,p4,p5⟩,hp⟩:∃ q,wh k ⟨x0,x1,x2,x3,x4,x5⟩=q:=⟨_,rfl⟩
 obtain ⟨⟨q0,q1,q2,q3,q4,q5⟩,hq⟩:∃ q,wh k ⟨y0,y1,y2,y3,y4,y5⟩=q:=⟨_,rfl⟩
 rw [hp] at HA0 ⊢
 rw [hq] at HB0 ⊢
 unfold Sn.vs at *
 unfold Pl.vs at HA0 HB0;have HA:=zh HA0;have HB:=zh HB0;have H0:=((Ow.of (St.refl w)).arr #[.int .i64 x0,.int .i64 x1,.int .i64 x2,.int .i64 x3,.int .i64 x4,.int .i64 x5,.int .i64 x6,.int .i64 x7] 8 rfl (by omega) 40).arr #[.int .i64 y0,.int .i64 y1,.int .i64 y2,.int .i64 y3,.int .i64 y4,.int .i64 y5,.int .i64 y6,.int .i64 y7] 8 rfl (by omega) 40
 simp only [zqc,zqb,World.size_alloc] at H0;have HK:Hid (decide ((1:Int)≤k)=true∧decide (k≤(6:Int))=true):=⟨zt hk.1,zt hk.2⟩
 have HCc:Hid ((x6 == y6)=true):=by unfold Hid;rw [hc];exact beq_self_eq_true _
 clear hk HA0 HB0 hp hq hc;obtain ⟨r,hr⟩:∃ r,decide (Pl.mk p0 p1 p2 p3 p4 p5=Pl.mk q0 q1 q2 q3 q4 q5)=r:=⟨_,rfl⟩
 have HR:Hid (∀ W:World,(binOp .eql 38 (.agg #[.int .i64 p0,.int .i64 p1,.int .i64 p2,.int .i64 p3,.int .i64 p4,.int .i64 p5]) (.agg #[.int .i64 q0,.int .i64 q1,.int .i64 q2,.int .i64 q3,.int .i64 q4,.int .i64 q5])).run Tryz.prog W=.ok (.bool r) W):=fun W=>by rw [← hr];exact z7al ..
 rw [hr];clear hr;go_enter Tryz.func23,Tryz.ntmps23
 go_wp2_with fail;obtain ⟨wb,hwb⟩:∃ wb,(w.alloc (.cells #[.int .i64 x0,.int .i64 x1,.int .i64 x2,.int .i64 x3,.int .i64 x4,.int .i64 x5,.int .i64 x6,.int .i64 x7] 40)).alloc (.cells #[.int .i64 y0,.int .i64 y1,.int .i64 y2,.int .i64 y3,.int .i64 y4,.int .i64 y5,.int .i64 y6,.int .i64 y7] 40)=wb:=⟨_,rfl⟩
 rw [hwb] at H0 ⊢
 have HX:Hid (∀ W,Below wb.heap.size wb W→W.cell? ⟨w.heap.size,0,none⟩=some (.int .i64 x0)∧W.cell? ⟨w.heap.size,1,none⟩=some (.int .i64 x1)∧W.cell? ⟨w.heap.size,2,none⟩=some (.int .i64 x2)∧W.cell? ⟨w.heap.size,3,none⟩=some (.int .i64 x3)∧W.cell? ⟨w.heap.size,4,none⟩=some (.int .i64 x4)∧W.cell? ⟨w.heap.size,5,none⟩=some (.int .i64 x5)∧W.cell? ⟨w.heap.size,6,none⟩=some (.int .i64 x6)∧W.cell? ⟨w.heap.size,7,none⟩=some (.int .i64 x7)):=fun W hb=>by
  have H2:=H0.go hb
  exact ⟨(H2.row 0 rfl).cellAt 0 (by decide),(H2.row 0 rfl).cellAt 1 (by decide),(H2.row 0 rfl).cellAt 2 (by decide),(H2.row 0 rfl).cellAt 3 (by decide),(H2.row 0 rfl).cellAt 4 (by decide),(H2.row 0 rfl).cellAt 5 (by decide),(H2.row 0 rfl).cellAt 6 (by decide),(H2.row 0 rfl).cellAt 7 (by decide)⟩
 have HY:Hid (∀ W,Below wb.heap.size wb W→W.cell? ⟨w.heap.size+1,0,none⟩=some (.int .i64 y0)∧W.cell? ⟨w.heap.size+1,1,none⟩=some (.int .i64 y1)∧W.cell? ⟨w.heap.size+1,2,none⟩=some (.int .i64 y2)∧W.cell? ⟨w.heap.size+1,3,none⟩=some (.int .i64 y3)∧W.cell? ⟨w.heap.size+1,4,none⟩=some (.int .i64 y4)∧W.cell? ⟨w.heap.size+1,5,none⟩=some (.int .i64 y5)∧W.cell? ⟨w.heap.size+1,6,none⟩=some (.int .i64 y6)∧W.cell? ⟨w.heap.size+1,7,none⟩=some (.int .i64 y7)):=fun W hb=>by
  have H2:=H0.go hb
  exact ⟨(H2.row 1 rfl).cellAt 0 (by decide),(H2.row 1 rfl).cellAt 1 (by decide),(H2.row 1 rfl).cellAt 2 (by decide),(H2.row 1 rfl).cellAt 3 (by decide),(H2.row 1 rfl).cellAt 4 (by decide),(H2.row 1 rfl).cellAt 5 (by decide),(H2.row 1 rfl).cellAt 6 (by decide),(H2.row 1 rfl).cellAt 7 (by decide)⟩
 have HL:=zh H0.below;clear H0 hwb;refine z1a (RsI wb w.heap.size (w.heap.size+1) k x0 x1 x2 x3 x4 x5 x6 x7 y0 y1 y2 y3 y4 y5 y6 y7 p0 p1 p2 p3 p4 p5 q0 q1 q2 q3 q4 q5 r) (by kernel_rfl) (by kernel_rfl) ?_ ?_ ?_
 ·refine ⟨undef,undef,undef,undef,undef,undef,undef,undef,undef,undef,undef,undef,undef,undef,undef,undef,undef,undef,undef,undef,undef,undef,undef,undef,(.bool false),?_,⟨z0p (Below.refl _ _) 1,?_,?_,?_,?_,?_,?_,?_,?_,?_,?_,?_,?_,?_,?_,?_,?_,?_,?_,?_,?_,?_,?_,?_,?_,?_⟩⟩
  ·simp only [Act.put,zT,zZ,zS]
  all_goals (intro h;cases h)
 ·rintro jj Ld b W hj hf hcl hd ⟨u0,u1,u2,u3,u4,u5,u6,u7,u8,u9,u10,u11,u12,u13,u14,u15,u16,u17,u18,u19,u20,u21,u22,u23,u24,rfl,hC⟩;have hj':jj<25:=hj
  have hcase:jj=0∨jj=1∨jj=2∨jj=3∨jj=4∨jj=5∨jj=6∨jj=7∨jj=8∨jj=9∨jj=10∨jj=11∨jj=12∨jj=13∨jj=14∨jj=15∨jj=16∨jj=17∨jj=18∨jj=19∨jj=20∨jj=21∨jj=22∨jj=23∨jj=24:=by omega
  clear hj hj';simp only [Act.put,zT,zZ,zS];rcases hcase with rfl | rfl | rfl | rfl | rfl | rfl | rfl | rfl | rfl | rfl | rfl | rfl | rfl | rfl | rfl | rfl | rfl | rfl | rfl | rfl | rfl | rfl | rfl | rfl | rfl
  ·clear hd hcl;refine zw rfl fun K hK=>?_
   go_simp;refine hK _ _ ⟨_,u1,u2,u3,u4,u5,u6,u7,u8,u9,u10,u11,u12,u13,u14,u15,u16,u17,u18,u19,u20,u21,u22,u23,u24,?_,{hC with h0:=fun _=>rfl}⟩;simp only [Act.put,zT,zZ,zS]
  ·obtain rfl:=hC.h0 (hd 0 (by kernel_rfl));obtain ⟨g1,g2⟩:=HK.out;clear hd hcl;refine zw rfl fun K hK=>?_
   go_simp;refine hK _ _ ⟨_,_,u2,u3,u4,u5,u6,u7,u8,u9,u10,u11,u12,u13,u14,u15,u16,u17,u18,u19,u20,u21,u22,u23,u24,?_,{hC with h1:=fun _=>rfl}⟩;simp only [Act.put,zT,zZ,zS]
  ·obtain rfl:=hC.h1 (hd 1 (by kernel_rfl));clear hd hcl;refine zw rfl fun K hK=>?_
   go_simp;refine hK _ _ ⟨u0,_,_,u3,u4,u5,u6,u7,u8,u9,u10,u11,u12,u13,u14,u15,u16,u17,u18,u19,u20,u21,u22,u23,u24,?_,{hC with h2:=fun _=>rfl}⟩;simp only [Act.put,zT,zZ,zS]
  ·obtain rfl:=hC.h2 (hd 2 (by kernel_rfl));clear hd hcl;refine zw rfl fun K hK=>?_
   go_simp;refine hK _ _ ⟨u0,u1,_,_,u4,u5,u6,u7,u8,u9,u10,u11,u12,u13,u14,u15,u16,u17,u18,u19,u20,u21,u22,u23,u24,?_,{hC with h3:=fun _=>rfl}⟩;simp only [Act.put,zT,zZ,zS]
  ·obtain rfl:=hC.h2 (hd 2 (by kernel_rfl));obtain rfl:=hC.h3 (hd 3 (by kernel_rfl));obtain ⟨g1,g2⟩:=HK.out;clear hd hcl;refine zw rfl fun K hK=>?_
   go_simp;refine hK _ _ ⟨u0,u1,_,_,_,u5,u6,u7,u8,u9,u10,u11,u12,u13,u14,u15,u16,u17,u18,u19,u20,u21,u22,u23,u24,?_,{hC with h4:=fun _=>rfl}⟩;simp only [Act.put,zT,zZ,zS]
  ·obtain rfl:=hC.h2 (hd 2 (by kernel_rfl));obtain rfl:=hC.h4 (hd 4 (by kernel_rfl));clear hd hcl;refine zw rfl fun K hK=>?_
   go_simp;refine hK _ _ ⟨u0,u1,_,u3,_,_,u6,u7,u8,u9,u10,u11,u12,u13,u14,u15,u16,u17,u18,u19,u20,u21,u22,u23,u24,?_,{hC with h5:=fun _=>rfl}⟩;simp only [Act.put,zT,zZ,zS]
  ·obtain rfl:=hC.h5 (hd 5 (by kernel_rfl));clear hd hcl;refine zw rfl fun K hK=>?_
   go_simp;refine hK _ _ ⟨u0,u1,u2,u3,u4,_,_,u7,u8,u9,u10,u11,u12,u13,u14,u15,u16,u17,u18,u19,u20,u21,u22,u23,u24,?_,{hC with h6:=fun _=>rfl}⟩;simp only [Act.put,zT,zZ,zS]
  ·obtain rfl:=hC.h6 (hd 6 (by kernel_rfl));clear hd hcl;refine zw rfl fun K hK=>?_
   go_simp;refine hK _ _ ⟨u0,u1,u2,u3,u4,u5,_,_,u8,u9,u10,u11,u12,u13,u14,u15,u16,u17,u18,u19,u20,u21,u22,u23,u24,?_,{hC with h7:=fun _=>rfl}⟩;simp only [Act.put,zT,zZ,zS]
  ·obtain rfl:=hC.h6 (hd 6 (by kernel_rfl));obtain rfl:=hC.h7 (hd 7 (by kernel_rfl));obtain ⟨a0,a1,a2,a3,a4,a5,a6,a7⟩:=HX.out W hC.bl
   clear hd hcl;refine zw rfl fun K hK=>?_
   go_simp;refine hK _ _ ⟨u0,u1,u2,u3,u4,u5,_,_,_,u9,u10,u11,u12,u13,u14,u15,u16,u17,u18,u19,u20,u21,u22,u23,u24,?_,{hC with h8:=fun _=>rfl}⟩;simp only [Act.put,zT,zZ,zS]
  ·obtain rfl:=hC.h6 (hd 6 (by kernel_rfl));clear hd hcl;refine zw rfl fun K hK=>?_
   go_simp;refine hK _ _ ⟨u0,u1,u2,u3,u4,u5,_,u7,u8,_,u10,u11,u12,u13,u14,u15,u16,u17,u18,u19,u20,u21,u22,u23,u24,?_,{hC with h9:=fun _=>rfl}⟩;simp only [Act.put,zT,zZ,zS]
  ·obtain rfl:=hC.h6 (hd 6 (by kernel_rfl));obtain rfl:=hC.h9 (hd 9 (by kernel_rfl));obtain ⟨a0,a1,a2,a3,a4,a5,a6,a7⟩:=HY.out W hC.bl
   clear hd hcl;refine zw rfl fun K hK=>?_
   go_simp;refine hK _ _ ⟨u0,u1,u2,u3,u4,u5,_,u7,u8,_,_,u11,u12,u13,u14,u15,u16,u17,u18,u19,u20,u21,u22,u23,u24,?_,{hC with h10:=fun _=>rfl}⟩;simp only [Act.put,zT,zZ,zS]
  ·obtain rfl:=hC.h6 (hd 6 (by kernel_rfl));obtain rfl:=hC.h8 (hd 8 (by kernel_rfl));obtain rfl:=hC.h10 (hd 10 (by kernel_rfl));have hc:=HCc.out;clear hd hcl;refine zw rfl fun K hK=>?_
   go_simp;refine hK _ _ ⟨u0,u1,u2,u3,u4,u5,_,u7,_,u9,_,_,u12,u13,u14,u15,u16,u17,u18,u19,u20,u21,u22,u23,u24,?_,{hC with h11:=fun _=>rfl}⟩;simp only [Act.put,zT,zZ,zS]
  ·obtain rfl:=hC.h6 (hd 6 (by kernel_rfl));obtain rfl:=hC.h11 (hd 11 (by kernel_rfl));clear hd hcl;refine zw rfl fun K hK=>?_
   go_simp;refine hK _ _ ⟨u0,u1,u2,u3,u4,u5,_,u7,u8,u9,u10,_,_,u13,u14,u15,u16,u17,u18,u19,u20,u21,u22,u23,u24,?_,{hC with h12:=fun _=>rfl}⟩;simp only [Act.put,zT,zZ,zS]
  ·obtain rfl:=hC.h12 (hd 12 (by kernel_rfl));clear hd hcl;refine zw rfl fun K hK=>?_
   go_simp;refine hK _ _ ⟨u0,u1,u2,u3,u4,u5,u6,u7,u8,u9,u10,u11,_,_,u14,u15,u16,u17,u18,u19,u20,u21,u22,u23,u24,?_,{hC with h13:=fun _=>rfl}⟩;simp only [Act.put,zT,zZ,zS]
  ·obtain rfl:=hC.h13 (hd 13 (by kernel_rfl));clear hd hcl;refine zw rfl fun K hK=>?_
   go_simp;refine hK _ _ ⟨u0,u1,u2,u3,u4,u5,u6,u7,u8,u9,u10,u11,u12,_,_,u15,u16,u17,u18,u19,u20,u21,u22,u23,u24,?_,{hC with h14:=fun _=>rfl}⟩;simp only [Act.put,zT,zZ,zS]
  ·obtain rfl:=hC.h13 (hd 13 (by kernel_rfl));clear hd hcl;refine zw rfl fun K hK=>?_
   go_simp;refine hK _ _ ⟨u0,u1,u2,u3,u4,u5,u6,u7,u8,u9,u10,u11,u12,_,u14,_,u16,u17,u18,u19,u20,u21,u22,u23,u24,?_,{hC with h15:=fun _=>rfl}⟩;simp only [Act.put,zT,zZ,zS]
  ·obtain rfl:=hC.h13 (hd 13 (by kernel_rfl));obtain rfl:=hC.h15 (hd 15 (by kernel_rfl));obtain ⟨a0,a1,a2,a3,a4,a5,a6,a7⟩:=HX.out W hC.bl
   clear hd hcl;refine zw rfl fun K hK=>?_
   go_simp;refine hK _ _ ⟨u0,u1,u2,u3,u4,u5,u6,u7,u8,u9,u10,u11,u12,_,u14,_,_,u17,u18,u19,u20,u21,u22,u23,u24,?_,{hC with h16:=fun _=>rfl}⟩;simp only [Act.put,zT,zZ,zS]
  ·obtain rfl:=hC.h13 (hd 13 (by kernel_rfl));obtain rfl:=hC.h14 (hd 14 (by kernel_rfl));obtain rfl:=hC.h16 (hd 16 (by kernel_rfl));have HAt:=HA.out W
   clear hd hcl;refine zw rfl fun K hK=>?_
   go_simp;refine (HAt).mono ?_
   rintro e W' ⟨rfl,hb⟩;refine hK _ _ ⟨u0,u1,u2,u3,u4,u5,u6,u7,u8,u9,u10,u11,u12,_,_,u15,_,_,u18,u19,u20,u21,u22,u23,u24,?_,{hC with bl:=hC.bl.trans (hb.mono hC.bl.size),h17:=fun _=>rfl}⟩;simp only [Act.put,zT,zZ,zS]
  ·obtain rfl:=hC.h13 (hd 13 (by kernel_rfl));clear hd hcl;refine zw rfl fun K hK=>?_
   go_simp;refine hK _ _ ⟨u0,u1,u2,u3,u4,u5,u6,u7,u8,u9,u10,u11,u12,_,u14,u15,u16,u17,_,u19,u20,u21,u22,u23,u24,?_,{hC with h18:=fun _=>rfl}⟩;simp only [Act.put,zT,zZ,zS]
  ·obtain rfl:=hC.h13 (hd 13 (by kernel_rfl));clear hd hcl;refine zw rfl fun K hK=>?_
   go_simp;refine hK _ _ ⟨u0,u1,u2,u3,u4,u5,u6,u7,u8,u9,u10,u11,u12,_,u14,u15,u16,u17,u18,_,u20,u21,u22,u23,u24,?_,{hC with h19:=fun _=>rfl}⟩;simp only [Act.put,zT,zZ,zS]
  ·obtain rfl:=hC.h13 (hd 13 (by kernel_rfl));obtain rfl:=hC.h19 (hd 19 (by kernel_rfl));obtain ⟨a0,a1,a2,a3,a4,a5,a6,a7⟩:=HY.out W hC.bl
   clear hd hcl;refine zw rfl fun K hK=>?_
   go_simp;refine hK _ _ ⟨u0,u1,u2,u3,u4,u5,u6,u7,u8,u9,u10,u11,u12,_,u14,u15,u16,u17,u18,_,_,u21,u22,u23,u24,?_,{hC with h20:=fun _=>rfl}⟩;simp only [Act.put,zT,zZ,zS]
  ·obtain rfl:=hC.h13 (hd 13 (by kernel_rfl));obtain rfl:=hC.h18 (hd 18 (by kernel_rfl));obtain rfl:=hC.h20 (hd 20 (by kernel_rfl));have HAt:=HB.out W
   clear hd hcl;refine zw rfl fun K hK=>?_
   go_simp;refine (HAt).mono ?_
   rintro e W' ⟨rfl,hb⟩;refine hK _ _ ⟨u0,u1,u2,u3,u4,u5,u6,u7,u8,u9,u10,u11,u12,_,u14,u15,u16,u17,_,u19,_,_,u22,u23,u24,?_,{hC with bl:=hC.bl.trans (hb.mono hC.bl.size),h21:=fun _=>rfl}⟩;simp only [Act.put,zT,zZ,zS]
  ·obtain rfl:=hC.h13 (hd 13 (by kernel_rfl));obtain rfl:=hC.h17 (hd 17 (by kernel_rfl));obtain rfl:=hC.h21 (hd 21 (by kernel_rfl));have hr:=HR.out;have hg:=z7ah;clear hd hcl;refine zw rfl fun K hK=>?_
   go_simp;refine hK _ _ ⟨u0,u1,u2,u3,u4,u5,u6,u7,u8,u9,u10,u11,u12,_,u14,u15,u16,_,u18,u19,u20,_,_,u23,u24,?_,{hC with h22:=fun _=>rfl}⟩;simp only [Act.put,zT,zZ,zS]
  ·obtain rfl:=hC.h13 (hd 13 (by kernel_rfl));obtain rfl:=hC.h22 (hd 22 (by kernel_rfl));clear hd hcl;refine zw rfl fun K hK=>?_
   go_simp;refine hK _ _ ⟨u0,u1,u2,u3,u4,u5,u6,u7,u8,u9,u10,u11,u12,_,u14,u15,u16,u17,u18,u19,u20,u21,_,_,u24,?_,{hC with h23:=fun _=>rfl}⟩;simp only [Act.put,zT,zZ,zS]
  ·obtain rfl:=hC.h23 (hd 23 (by kernel_rfl));clear hd hcl;refine zw rfl fun K hK=>?_
   go_simp;refine hK _ _ ⟨u0,u1,u2,u3,u4,u5,u6,u7,u8,u9,u10,u11,u12,u13,u14,u15,u16,u17,u18,u19,u20,u21,u22,_,_,?_,{hC with h24:=fun _=>rfl}⟩;simp only [Act.put,zT,zZ,zS]
 ·rintro Ld b W hL ⟨u0,u1,u2,u3,u4,u5,u6,u7,u8,u9,u10,u11,u12,u13,u14,u15,u16,u17,u18,u19,u20,u21,u22,u23,u24,rfl,hC⟩;obtain rfl:=hC.h24 (hL 24 (by show 24<25;decide))
  have HG:=zh (HL.out.trans (hC.bl.mono HL.out.size))
  clear hC;simp only [Act.put,zT,zZ,zS];go_wp2_with fail;go_ret;exact ⟨rfl,HG.out⟩
structure RtK (wb:World)(b0 b1:Nat)(k x0 x1 x2 x3 x4 x5 x6 x7 y0 y1 y2 y3 y4 y5 y6 y7 p0 p1 p2 p3 p4 p5 q0 q1 q2 q3 q4 q5:Int)(r:Bool)(Ld:Nat→Bool)(u0 u1 u2 u3 u4 u5 u6 u7 u8 u9 u10 u11 u12 u13 u14 u15 u16 u17 u18 u19 u20 u21 u22 u23 u24:Value)(W:World):Prop where
 bl:Below wb.heap.size wb W
 h0:Ld 0=true→u0=.int .i64 k
 h1:Ld 1=true→u1=.bool true
 h2:Ld 2=true→u2=.bool true
 h3:Ld 3=true→u3=.int .i64 k
 h4:Ld 4=true→u4=.bool true
 h5:Ld 5=true→u5=.bool true
 h6:Ld 6=true→u6=.bool true
 h7:Ld 7=true→u7=.pointer (some ⟨b0,6,none⟩)
 h8:Ld 8=true→u8=.int .i64 x6
 h9:Ld 9=true→u9=.pointer (some ⟨b1,6,none⟩)
 h10:Ld 10=true→u10=.int .i64 y6
 h11:Ld 11=true→u11=.bool false
 h12:Ld 12=true→u12=.bool false
 h13:Ld 13=true→u13=.bool false
 h14:Ld 14=true→True
 h15:Ld 15=true→True
 h16:Ld 16=true→True
 h17:Ld 17=true→True
 h18:Ld 18=true→True
 h19:Ld 19=true→True
 h20:Ld 20=true→True
 h21:Ld 21=true→True
 h22:Ld 22=true→True
 h23:Ld 23=true→u23=.bool false
 h24:Ld 24=true→u24=.bool false
def RtI (wb:World)(b0 b1:Nat)(k x0 x1 x2 x3 x4 x5 x6 x7 y0 y1 y2 y3 y4 y5 y6 y7 p0 p1 p2 p3 p4 p5 q0 q1 q2 q3 q4 q5:Int)(r:Bool)(A0:Act)(Ld:Nat→Bool)(a:Act)(W:World):Prop:=
 ∃ (u0 u1 u2 u3 u4 u5 u6 u7 u8 u9 u10 u11 u12 u13 u14 u15 u16 u17 u18 u19 u20 u21 u22 u23 u24:Value),a=(((((((((((((((((((((((((A0.put (some 7) u0).put (some 8) u1).put (some 9) u2).put (some 10) u3).put (some 11) u4).put (some 12) u5).put (some 13) u6).put (some 14) u7).put (some 15) u8).put (some 16) u9).put (some 17) u10).put (some 18) u11).put (some 19) u12).put (some 20) u13).put (some 21) u14).put (some 22) u15).put (some 23) u16).put (some 24) u17).put (some 25) u18).put (some 26) u19).put (some 27) u20).put (some 28) u21).put (some 29) u22).put (some 30) u23).put (some 6) u24)∧RtK wb b0 b1 k x0 x1 x2 x3 x4 x5 x6 x7 y0 y1 y2 y3 y4 y5 y6 y7 p0 p1 p2 p3 p4 p5 q0 q1 q2 q3 q4 q5 r Ld u0 u1 u2 u3 u4 u5 u6 u7 u8 u9 u10 u11 u12 u13 u14 u15 u16 u17 u18 u19 u20 u21 u22 u23 u24 W
theorem z3bi (k:Int)(hk:kd k)(x y:Sn)(hc:x.cp≠y.cp)(w:World):
  Calls Tryz.prog 23 #[.int .i64 k,.agg x.vs,.agg y.vs] w fun e w'=>e=.returned (.bool false)∧Below w.heap.size w w':=by
 have HA0:=fun W=>z6d k hk x.p W
 have HB0:=fun W=>z6d k hk y.p W
 obtain ⟨⟨x0,x1,x2,x3,x4,x5⟩,x6,x7⟩:=x
 obtain ⟨⟨y0,y1,y2,y3,y4,y5⟩,y6,y7⟩:=y
 simp only at HA0 HB0 hc ⊢
 obtain ⟨⟨p0,p1,p2,p3,p4,p5⟩,hp⟩:∃ q,wh k ⟨x0,x1,x2,x3,x4,x5⟩=q:=⟨_,rfl⟩
 obtain ⟨⟨q0,q1,q2,q3,q4,q5⟩,hq⟩:∃ q,wh k ⟨y0,y1,y2,y3,y4,y5⟩=q:=⟨_,rfl⟩
 rw [hp] at HA0;rw [hq] at HB0;unfold Sn.vs at *
 unfold Pl.vs at HA0 HB0;have HA:=zh HA0;have HB:=zh HB0;have H0:=((Ow.of (St.refl w)).arr #[.int .i64 x0,.int .i64 x1,.int .i64 x2,.int .i64 x3,.int .i64 x4,.int .i64 x5,.int .i64 x6,.int .i64 x7] 8 rfl (by omega) 40).arr #[.int .i64 y0,.int .i64 y1,.int .i64 y2,.int .i64 y3,.int .i64 y4,.int .i64 y5,.int .i64 y6,.int .i64 y7] 8 rfl (by omega) 40
 simp only [zqc,zqb,World.size_alloc] at H0;have HK:Hid (decide ((1:Int)≤k)=true∧decide (k≤(6:Int))=true):=⟨zt hk.1,zt hk.2⟩
 have HCc:Hid ((x6 == y6)=false):=z1m hc
 clear hk HA0 HB0 hp hq hc;go_enter Tryz.func23,Tryz.ntmps23
 go_wp2_with fail;obtain ⟨wb,hwb⟩:∃ wb,(w.alloc (.cells #[.int .i64 x0,.int .i64 x1,.int .i64 x2,.int .i64 x3,.int .i64 x4,.int .i64 x5,.int .i64 x6,.int .i64 x7] 40)).alloc (.cells #[.int .i64 y0,.int .i64 y1,.int .i64 y2,.int .i64 y3,.int .i64 y4,.int .i64 y5,.int .i64 y6,.int .i64 y7] 40)=wb:=⟨_,rfl⟩
 rw [hwb] at H0 ⊢
 have HX:Hid (∀ W,Below wb.heap.size wb W→W.cell? ⟨w.heap.size,0,none⟩=some (.int .i64 x0)∧W.cell? ⟨w.heap.size,1,none⟩=some (.int .i64 x1)∧W.cell? ⟨w.heap.size,2,none⟩=some (.int .i64 x2)∧W.cell? ⟨w.heap.size,3,none⟩=some (.int .i64 x3)∧W.cell? ⟨w.heap.size,4,none⟩=some (.int .i64 x4)∧W.cell? ⟨w.heap.size,5,none⟩=some (.int .i64 x5)∧W.cell? ⟨w.heap.size,6,none⟩=some (.int .i64 x6)∧W.cell? ⟨w.heap.size,7,none⟩=some (.int .i64 x7)):=fun W hb=>by
  have H2:=H0.go hb
  exact ⟨(H2.row 0 rfl).cellAt 0 (by decide),(H2.row 0 rfl).cellAt 1 (by decide),(H2.row 0 rfl).cellAt 2 (by decide),(H2.row 0 rfl).cellAt 3 (by decide),(H2.row 0 rfl).cellAt 4 (by decide),(H2.row 0 rfl).cellAt 5 (by decide),(H2.row 0 rfl).cellAt 6 (by decide),(H2.row 0 rfl).cellAt 7 (by decide)⟩
 have HY:Hid (∀ W,Below wb.heap.size wb W→W.cell? ⟨w.heap.size+1,0,none⟩=some (.int .i64 y0)∧W.cell? ⟨w.heap.size+1,1,none⟩=some (.int .i64 y1)∧W.cell? ⟨w.heap.size+1,2,none⟩=some (.int .i64 y2)∧W.cell? ⟨w.heap.size+1,3,none⟩=some (.int .i64 y3)∧W.cell? ⟨w.heap.size+1,4,none⟩=some (.int .i64 y4)∧W.cell? ⟨w.heap.size+1,5,none⟩=some (.int .i64 y5)∧W.cell? ⟨w.heap.size+1,6,none⟩=some (.int .i64 y6)∧W.cell? ⟨w.heap.size+1,7,none⟩=some (.int .i64 y7)):=fun W hb=>by
  have H2:=H0.go hb
  exact ⟨(H2.row 1 rfl).cellAt 0 (by decide),(H2.row 1 rfl).cellAt 1 (by decide),(H2.row 1 rfl).cellAt 2 (by decide),(H2.row 1 rfl).cellAt 3 (by decide),(H2.row 1 rfl).cellAt 4 (by decide),(H2.row 1 rfl).cellAt 5 (by decide),(H2.row 1 rfl).cellAt 6 (by decide),(H2.row 1 rfl).cellAt 7 (by decide)⟩
 have HL:=zh H0.below;clear H0 hwb;refine z1a (RtI wb w.heap.size (w.heap.size+1) k x0 x1 x2 x3 x4 x5 x6 x7 y0 y1 y2 y3 y4 y5 y6 y7 p0 p1 p2 p3 p4 p5 q0 q1 q2 q3 q4 q5 true) (by kernel_rfl) (by kernel_rfl) ?_ ?_ ?_
 ·refine ⟨undef,undef,undef,undef,undef,undef,undef,undef,undef,undef,undef,undef,undef,undef,undef,undef,undef,undef,undef,undef,undef,undef,undef,undef,(.bool false),?_,⟨z0p (Below.refl _ _) 1,?_,?_,?_,?_,?_,?_,?_,?_,?_,?_,?_,?_,?_,?_,?_,?_,?_,?_,?_,?_,?_,?_,?_,?_,?_⟩⟩
  ·simp only [Act.put,zT,zZ,zS]
  all_goals (intro h;cases h)
 ·rintro jj Ld b W hj hf hcl hd ⟨u0,u1,u2,u3,u4,u5,u6,u7,u8,u9,u10,u11,u12,u13,u14,u15,u16,u17,u18,u19,u20,u21,u22,u23,u24,rfl,hC⟩;have hj':jj<25:=hj
  have hcase:jj=0∨jj=1∨jj=2∨jj=3∨jj=4∨jj=5∨jj=6∨jj=7∨jj=8∨jj=9∨jj=10∨jj=11∨jj=12∨jj=13∨jj=14∨jj=15∨jj=16∨jj=17∨jj=18∨jj=19∨jj=20∨jj=21∨jj=22∨jj=23∨jj=24:=by omega
  clear hj hj';simp only [Act.put,zT,zZ,zS];rcases hcase with rfl | rfl | rfl | rfl | rfl | rfl | rfl | rfl | rfl | rfl | rfl | rfl | rfl | rfl | rfl | rfl | rfl | rfl | rfl | rfl | rfl | rfl | rfl | rfl | rfl
  ·clear hd hcl;refine zw rfl fun K hK=>?_
   go_simp;refine hK _ _ ⟨_,u1,u2,u3,u4,u5,u6,u7,u8,u9,u10,u11,u12,u13,u14,u15,u16,u17,u18,u19,u20,u21,u22,u23,u24,?_,{hC with h0:=fun _=>rfl}⟩;simp only [Act.put,zT,zZ,zS]
  ·obtain rfl:=hC.h0 (hd 0 (by kernel_rfl));obtain ⟨g1,g2⟩:=HK.out;clear hd hcl;refine zw rfl fun K hK=>?_
   go_simp;refine hK _ _ ⟨_,_,u2,u3,u4,u5,u6,u7,u8,u9,u10,u11,u12,u13,u14,u15,u16,u17,u18,u19,u20,u21,u22,u23,u24,?_,{hC with h1:=fun _=>rfl}⟩;simp only [Act.put,zT,zZ,zS]
  ·obtain rfl:=hC.h1 (hd 1 (by kernel_rfl));clear hd hcl;refine zw rfl fun K hK=>?_
   go_simp;refine hK _ _ ⟨u0,_,_,u3,u4,u5,u6,u7,u8,u9,u10,u11,u12,u13,u14,u15,u16,u17,u18,u19,u20,u21,u22,u23,u24,?_,{hC with h2:=fun _=>rfl}⟩;simp only [Act.put,zT,zZ,zS]
  ·obtain rfl:=hC.h2 (hd 2 (by kernel_rfl));clear hd hcl;refine zw rfl fun K hK=>?_
   go_simp;refine hK _ _ ⟨u0,u1,_,_,u4,u5,u6,u7,u8,u9,u10,u11,u12,u13,u14,u15,u16,u17,u18,u19,u20,u21,u22,u23,u24,?_,{hC with h3:=fun _=>rfl}⟩;simp only [Act.put,zT,zZ,zS]
  ·obtain rfl:=hC.h2 (hd 2 (by kernel_rfl));obtain rfl:=hC.h3 (hd 3 (by kernel_rfl));obtain ⟨g1,g2⟩:=HK.out;clear hd hcl;refine zw rfl fun K hK=>?_
   go_simp;refine hK _ _ ⟨u0,u1,_,_,_,u5,u6,u7,u8,u9,u10,u11,u12,u13,u14,u15,u16,u17,u18,u19,u20,u21,u22,u23,u24,?_,{hC with h4:=fun _=>rfl}⟩;simp only [Act.put,zT,zZ,zS]
  ·obtain rfl:=hC.h2 (hd 2 (by kernel_rfl));obtain rfl:=hC.h4 (hd 4 (by kernel_rfl));clear hd hcl;refine zw rfl fun K hK=>?_
   go_simp;refine hK _ _ ⟨u0,u1,_,u3,_,_,u6,u7,u8,u9,u10,u11,u12,u13,u14,u15,u16,u17,u18,u19,u20,u21,u22,u23,u24,?_,{hC with h5:=fun _=>rfl}⟩;simp only [Act.put,zT,zZ,zS]
  ·obtain rfl:=hC.h5 (hd 5 (by kernel_rfl));clear hd hcl;refine zw rfl fun K hK=>?_
   go_simp;refine hK _ _ ⟨u0,u1,u2,u3,u4,_,_,u7,u8,u9,u10,u11,u12,u13,u14,u15,u16,u17,u18,u19,u20,u21,u22,u23,u24,?_,{hC with h6:=fun _=>rfl}⟩;simp only [Act.put,zT,zZ,zS]
  ·obtain rfl:=hC.h6 (hd 6 (by kernel_rfl));clear hd hcl;refine zw rfl fun K hK=>?_
   go_simp;refine hK _ _ ⟨u0,u1,u2,u3,u4,u5,_,_,u8,u9,u10,u11,u12,u13,u14,u15,u16,u17,u18,u19,u20,u21,u22,u23,u24,?_,{hC with h7:=fun _=>rfl}⟩;simp only [Act.put,zT,zZ,zS]
  ·obtain rfl:=hC.h6 (hd 6 (by kernel_rfl));obtain rfl:=hC.h7 (hd 7 (by kernel_rfl));obtain ⟨a0,a1,a2,a3,a4,a5,a6,a7⟩:=HX.out W hC.bl
   clear hd hcl;refine zw rfl fun K hK=>?_
   go_simp;refine hK _ _ ⟨u0,u1,u2,u3,u4,u5,_,_,_,u9,u10,u11,u12,u13,u14,u15,u16,u17,u18,u19,u20,u21,u22,u23,u24,?_,{hC with h8:=fun _=>rfl}⟩;simp only [Act.put,zT,zZ,zS]
  ·obtain rfl:=hC.h6 (hd 6 (by kernel_rfl));clear hd hcl;refine zw rfl fun K hK=>?_
   go_simp;refine hK _ _ ⟨u0,u1,u2,u3,u4,u5,_,u7,u8,_,u10,u11,u12,u13,u14,u15,u16,u17,u18,u19,u20,u21,u22,u23,u24,?_,{hC with h9:=fun _=>rfl}⟩;simp only [Act.put,zT,zZ,zS]
  ·obtain rfl:=hC.h6 (hd 6 (by kernel_rfl));obtain rfl:=hC.h9 (hd 9 (by kernel_rfl));obtain ⟨a0,a1,a2,a3,a4,a5,a6,a7⟩:=HY.out W hC.bl
   clear hd hcl;refine zw rfl fun K hK=>?_
   go_simp;refine hK _ _ ⟨u0,u1,u2,u3,u4,u5,_,u7,u8,_,_,u11,u12,u13,u14,u15,u16,u17,u18,u19,u20,u21,u22,u23,u24,?_,{hC with h10:=fun _=>rfl}⟩;simp only [Act.put,zT,zZ,zS]
  ·obtain rfl:=hC.h6 (hd 6 (by kernel_rfl));obtain rfl:=hC.h8 (hd 8 (by kernel_rfl));obtain rfl:=hC.h10 (hd 10 (by kernel_rfl));have hc:=HCc.out;clear hd hcl;refine zw rfl fun K hK=>?_
   go_simp;refine hK _ _ ⟨u0,u1,u2,u3,u4,u5,_,u7,_,u9,_,_,u12,u13,u14,u15,u16,u17,u18,u19,u20,u21,u22,u23,u24,?_,{hC with h11:=fun _=>rfl}⟩;simp only [Act.put,zT,zZ,zS]
  ·obtain rfl:=hC.h6 (hd 6 (by kernel_rfl));obtain rfl:=hC.h11 (hd 11 (by kernel_rfl));clear hd hcl;refine zw rfl fun K hK=>?_
   go_simp;refine hK _ _ ⟨u0,u1,u2,u3,u4,u5,_,u7,u8,u9,u10,_,_,u13,u14,u15,u16,u17,u18,u19,u20,u21,u22,u23,u24,?_,{hC with h12:=fun _=>rfl}⟩;simp only [Act.put,zT,zZ,zS]
  ·obtain rfl:=hC.h12 (hd 12 (by kernel_rfl));clear hd hcl;refine zw rfl fun K hK=>?_
   go_simp;refine hK _ _ ⟨u0,u1,u2,u3,u4,u5,u6,u7,u8,u9,u10,u11,_,_,u14,u15,u16,u17,u18,u19,u20,u21,u22,u23,u24,?_,{hC with h13:=fun _=>rfl}⟩;simp only [Act.put,zT,zZ,zS]
  ·obtain rfl:=hC.h13 (hd 13 (by kernel_rfl));clear hd hcl;refine zw rfl fun K hK=>?_
   go_simp;refine hK _ _ ⟨u0,u1,u2,u3,u4,u5,u6,u7,u8,u9,u10,u11,u12,_,undef,u15,u16,u17,u18,u19,u20,u21,u22,u23,u24,?_,⟨hC.bl,hC.h0,hC.h1,hC.h2,hC.h3,hC.h4,hC.h5,hC.h6,hC.h7,hC.h8,hC.h9,hC.h10,hC.h11,hC.h12,hC.h13,fun _=>trivial,hC.h15,hC.h16,hC.h17,hC.h18,hC.h19,hC.h20,hC.h21,hC.h22,hC.h23,hC.h24⟩⟩;simp only [Act.put,zT,zZ,zS]
  ·obtain rfl:=hC.h13 (hd 13 (by kernel_rfl));clear hd hcl;refine zw rfl fun K hK=>?_
   go_simp;refine hK _ _ ⟨u0,u1,u2,u3,u4,u5,u6,u7,u8,u9,u10,u11,u12,_,u14,undef,u16,u17,u18,u19,u20,u21,u22,u23,u24,?_,⟨hC.bl,hC.h0,hC.h1,hC.h2,hC.h3,hC.h4,hC.h5,hC.h6,hC.h7,hC.h8,hC.h9,hC.h10,hC.h11,hC.h12,hC.h13,hC.h14,fun _=>trivial,hC.h16,hC.h17,hC.h18,hC.h19,hC.h20,hC.h21,hC.h22,hC.h23,hC.h24⟩⟩;simp only [Act.put,zT,zZ,zS]
  ·obtain rfl:=hC.h13 (hd 13 (by kernel_rfl));clear hd hcl;refine zw rfl fun K hK=>?_
   go_simp;refine hK _ _ ⟨u0,u1,u2,u3,u4,u5,u6,u7,u8,u9,u10,u11,u12,_,u14,u15,undef,u17,u18,u19,u20,u21,u22,u23,u24,?_,⟨hC.bl,hC.h0,hC.h1,hC.h2,hC.h3,hC.h4,hC.h5,hC.h6,hC.h7,hC.h8,hC.h9,hC.h10,hC.h11,hC.h12,hC.h13,hC.h14,hC.h15,fun _=>trivial,hC.h17,hC.h18,hC.h19,hC.h20,hC.h21,hC.h22,hC.h23,hC.h24⟩⟩;simp only [Act.put,zT,zZ,zS]
  ·obtain rfl:=hC.h13 (hd 13 (by kernel_rfl));clear hd hcl;refine zw rfl fun K hK=>?_
   go_simp;refine hK _ _ ⟨u0,u1,u2,u3,u4,u5,u6,u7,u8,u9,u10,u11,u12,_,u14,u15,u16,undef,u18,u19,u20,u21,u22,u23,u24,?_,⟨hC.bl,hC.h0,hC.h1,hC.h2,hC.h3,hC.h4,hC.h5,hC.h6,hC.h7,hC.h8,hC.h9,hC.h10,hC.h11,hC.h12,hC.h13,hC.h14,hC.h15,hC.h16,fun _=>trivial,hC.h18,hC.h19,hC.h20,hC.h21,hC.h22,hC.h23,hC.h24⟩⟩;simp only [Act.put,zT,zZ,zS]
  ·obtain rfl:=hC.h13 (hd 13 (by kernel_rfl));clear hd hcl;refine zw rfl fun K hK=>?_
   go_simp;refine hK _ _ ⟨u0,u1,u2,u3,u4,u5,u6,u7,u8,u9,u10,u11,u12,_,u14,u15,u16,u17,undef,u19,u20,u21,u22,u23,u24,?_,⟨hC.bl,hC.h0,hC.h1,hC.h2,hC.h3,hC.h4,hC.h5,hC.h6,hC.h7,hC.h8,hC.h9,hC.h10,hC.h11,hC.h12,hC.h13,hC.h14,hC.h15,hC.h16,hC.h17,fun _=>trivial,hC.h19,hC.h20,hC.h21,hC.h22,hC.h23,hC.h24⟩⟩;simp only [Act.put,zT,zZ,zS]
  ·obtain rfl:=hC.h13 (hd 13 (by kernel_rfl));clear hd hcl;refine zw rfl fun K hK=>?_
   go_simp;refine hK _ _ ⟨u0,u1,u2,u3,u4,u5,u6,u7,u8,u9,u10,u11,u12,_,u14,u15,u16,u17,u18,undef,u20,u21,u22,u23,u24,?_,⟨hC.bl,hC.h0,hC.h1,hC.h2,hC.h3,hC.h4,hC.h5,hC.h6,hC.h7,hC.h8,hC.h9,hC.h10,hC.h11,hC.h12,hC.h13,hC.h14,hC.h15,hC.h16,hC.h17,hC.h18,fun _=>trivial,hC.h20,hC.h21,hC.h22,hC.h23,hC.h24⟩⟩;simp only [Act.put,zT,zZ,zS]
  ·obtain rfl:=hC.h13 (hd 13 (by kernel_rfl));clear hd hcl;refine zw rfl fun K hK=>?_
   go_simp;refine hK _ _ ⟨u0,u1,u2,u3,u4,u5,u6,u7,u8,u9,u10,u11,u12,_,u14,u15,u16,u17,u18,u19,undef,u21,u22,u23,u24,?_,⟨hC.bl,hC.h0,hC.h1,hC.h2,hC.h3,hC.h4,hC.h5,hC.h6,hC.h7,hC.h8,hC.h9,hC.h10,hC.h11,hC.h12,hC.h13,hC.h14,hC.h15,hC.h16,hC.h17,hC.h18,hC.h19,fun _=>trivial,hC.h21,hC.h22,hC.h23,hC.h24⟩⟩;simp only [Act.put,zT,zZ,zS]
  ·obtain rfl:=hC.h13 (hd 13 (by kernel_rfl));clear hd hcl;refine zw rfl fun K hK=>?_
   go_simp;refine hK _ _ ⟨u0,u1,u2,u3,u4,u5,u6,u7,u8,u9,u10,u11,u12,_,u14,u15,u16,u17,u18,u19,u20,undef,u22,u23,u24,?_,⟨hC.bl,hC.h0,hC.h1,hC.h2,hC.h3,hC.h4,hC.h5,hC.h6,hC.h7,hC.h8,hC.h9,hC.h10,hC.h11,hC.h12,hC.h13,hC.h14,hC.h15,hC.h16,hC.h17,hC.h18,hC.h19,hC.h20,fun _=>trivial,hC.h22,hC.h23,hC.h24⟩⟩;simp only [Act.put,zT,zZ,zS]
  ·obtain rfl:=hC.h13 (hd 13 (by kernel_rfl));clear hd hcl;refine zw rfl fun K hK=>?_
   go_simp;refine hK _ _ ⟨u0,u1,u2,u3,u4,u5,u6,u7,u8,u9,u10,u11,u12,_,u14,u15,u16,u17,u18,u19,u20,u21,undef,u23,u24,?_,⟨hC.bl,hC.h0,hC.h1,hC.h2,hC.h3,hC.h4,hC.h5,hC.h6,hC.h7,hC.h8,hC.h9,hC.h10,hC.h11,hC.h12,hC.h13,hC.h14,hC.h15,hC.h16,hC.h17,hC.h18,hC.h19,hC.h20,hC.h21,fun _=>trivial,hC.h23,hC.h24⟩⟩;simp only [Act.put,zT,zZ,zS]
  ·obtain rfl:=hC.h13 (hd 13 (by kernel_rfl));clear hd hcl;refine zw rfl fun K hK=>?_
   go_simp;refine hK _ _ ⟨u0,u1,u2,u3,u4,u5,u6,u7,u8,u9,u10,u11,u12,_,u14,u15,u16,u17,u18,u19,u20,u21,u22,_,u24,?_,{hC with h23:=fun _=>rfl}⟩;simp only [Act.put,zT,zZ,zS]
  ·obtain rfl:=hC.h23 (hd 23 (by kernel_rfl));clear hd hcl;refine zw rfl fun K hK=>?_
   go_simp;refine hK _ _ ⟨u0,u1,u2,u3,u4,u5,u6,u7,u8,u9,u10,u11,u12,u13,u14,u15,u16,u17,u18,u19,u20,u21,u22,_,_,?_,{hC with h24:=fun _=>rfl}⟩;simp only [Act.put,zT,zZ,zS]
 ·rintro Ld b W hL ⟨u0,u1,u2,u3,u4,u5,u6,u7,u8,u9,u10,u11,u12,u13,u14,u15,u16,u17,u18,u19,u20,u21,u22,u23,u24,rfl,hC⟩;obtain rfl:=hC.h24 (hL 24 (by show 24<25;decide))
  have HG:=zh (HL.out.trans (hC.bl.mono HL.out.size))
  clear hC;simp only [Act.put,zT,zZ,zS];go_wp2_with fail;go_ret;exact ⟨rfl,HG.out⟩
theorem z5aa (k:Int)(hk:kd k)(x y:Sn)(w:World):
  Calls Tryz.prog 23 #[.int .i64 k,.agg x.vs,.agg y.vs] w fun e w'=>e=.returned (.bool (decide (z3b k x=z3b k y)))∧Below w.heap.size w w':=by
 unfold z3b;by_cases hc:x.cp=y.cp
 ·have:=z3bh k hk x y hc w
  rwa [show decide ((wh k x.p,x.cp)=(wh k y.p,y.cp))=decide (wh k x.p=wh k y.p) by rw [hc];simp]
 ·have:=z3bi k hk x y hc w
  rwa [show decide ((wh k x.p,x.cp)=(wh k y.p,y.cp))=false from zn fun e=>hc (Prod.mk.inj e).2]
theorem z8q {k:Int}(hk:kd k)(p:Pl):whV k p=wh k p:=if_pos hk
theorem z5ap (k:Int)(hk:kd k)(x y:Sn)(w:World):
  Calls Tryz.prog 53 #[.int .i64 k,.agg x.vs,.agg y.vs] w fun e w'=>e=.returned (.bool (decide (z3b k x=z3b k y)))∧Below w.heap.size w w':=by
 have:=z3by k hk x y w
 rwa [z8q hk,z8q hk] at this
open Go.ChangeMaps (setBlock heap_setBlock_same heap_setBlock_other)
namespace Cl
set_option maxHeartbeats 2000000
abbrev Sp:Type:=Pl×Int
def spA (q:Sp):Array Value:=#[.int .i64 q.1.so,.int .i64 q.1.ch,.int .i64 q.1.ra,.int .i64 q.1.ba,.int .i64 q.1.ro,.int .i64 q.1.co,.int .i64 q.2]
end Cl
theorem z6bk {k:Int}(hk:kd k)(x:Sn):spV k x=spA (z3b k x):=by unfold spV spA z3b;rw [z8q hk]
theorem z4am (q p:Sp)(w:World):(Op.equal 99 (.agg (spA q)) (.agg (spA p))).run Tryz.prog w=.ok (decide (q=p)) w:=by
 obtain ⟨⟨a0,a1,a2,a3,a4,a5⟩,a6⟩:=q
 obtain ⟨⟨b0,b1,b2,b3,b4,b5⟩,b6⟩:=p
 have h:=z3ad a0 a1 a2 a3 a4 a5 a6 b0 b1 b2 b3 b4 b5 b6 w
 rw [run_eql_struct] at h;unfold Op.equal Op.maxDepth spA;cases hr:(Op.equalIn 10000 99 (.agg #[.int .i64 a0,.int .i64 a1,.int .i64 a2,.int .i64 a3,.int .i64 a4,.int .i64 a5,.int .i64 a6]) (.agg #[.int .i64 b0,.int .i64 b1,.int .i64 b2,.int .i64 b3,.int .i64 b4,.int .i64 b5,.int .i64 b6])).run Tryz.prog w with
 | ok r w'=>
  rw [hr] at h;simp only [Result.andThen_ok,Result.ok.injEq,Value.bool.injEq] at h;obtain ⟨rfl,rfl⟩:=h;rfl
 | halt x w'=>
  rw [hr] at h;simp [Result.andThen] at h
theorem z2bi (em:Bool)(n:Nat)(x:Int)(w:World):(Instr.checkKey em (n+1) 3 (.int .i64 x)).run Tryz.prog w=.ok () w:=by
 rw [Instr.checkKey];simp [run_underlying Tryz.underlying3]
theorem z0bx (em:Bool)(n:Nat)(p:Pl)(w:World):(Instr.checkKey em (n+1+1) 38 (.agg p.vs)).run Tryz.prog w=.ok () w:=by
 rw [Instr.checkKey];unfold Pl.vs;simp [run_underlying Tryz.underlying38,z2bi,go_sem]
theorem z5bl (em:Bool)(n:Nat)(q:Sp)(w:World):(Instr.checkKey em (n+1+1+1) 99 (.agg (spA q))).run Tryz.prog w=.ok () w:=by
 have hp:=z0bx em n q.1 w
 rw [Instr.checkKey];unfold spA;unfold Pl.vs at hp;simp [run_underlying Tryz.underlying99,z2bi,hp,go_sem]
theorem z5v (em:Bool)(q:Sp)(w:World):(Instr.checkKey em 10000 99 (.agg (spA q))).run Tryz.prog w=.ok () w:=z5bl em 9997 q w
theorem z3ab (q:Sp)(w:World):∀ (es:List MapEntry) (ks:List Sp) (i:Nat),es.map (·.key)=ks.map (fun p=>Value.agg (spA p))→
  ((∀ p∈ks,p≠q)∧(Instr.findAsking 99 (.agg (spA q)) es i).run Tryz.prog w=.ok none w)∨
  ∃ j e,ks[j]?=some q∧es[j]?=some e∧(Instr.findAsking 99 (.agg (spA q)) es i).run Tryz.prog w=.ok (some (i+j,e.val)) w
 | [],[],i,_=>.inl ⟨(by intro p hp;cases hp),by simp [Instr.findAsking]⟩
 | [],_ :: _,i,h=>by cases h
 | _ :: _,[],i,h=>by cases h
 | e :: es,p :: ks,i,h=>by
  simp only [List.map_cons,List.cons.injEq] at h;obtain ⟨h1,h2⟩:=h;have heq:(Op.equal 99 (.agg (spA q)) e.key).run Tryz.prog w=.ok (decide (q=p)) w:=by rw [h1];exact z4am q p w
  by_cases hq:q=p
  ·refine .inr ⟨0,e,by rw [hq];rfl,rfl,?_⟩
   rw [zt hq] at heq;simp [Instr.findAsking,heq]
  ·rw [zn hq] at heq;rcases z3ab q w es ks (i+1) h2 with ⟨a1,a2⟩ | ⟨j,e',a1,a2,a3⟩
   ·refine .inl ⟨fun p' hp'=>?_,by simp [Instr.findAsking,heq,a2]⟩
    rcases List.mem_cons.1 hp' with rfl | hp'
    ·exact fun e=>hq e.symm
    ·exact a1 p' hp'
   ·exact .inr ⟨j+1,e',a1,a2,by simp [Instr.findAsking,heq,a3];omega⟩
theorem z3aa (q:Sp)(w:World)(es:List MapEntry)(ks:List Sp)(h:es.map (·.key)=ks.map (fun p=>Value.agg (spA p))):
  ((∀ p∈ks,p≠q)∧(Instr.findKey 99 (.agg (spA q)) es).run Tryz.prog w=.ok none w)∨
  ∃ j e,ks[j]?=some q∧es[j]?=some e∧(Instr.findKey 99 (.agg (spA q)) es).run Tryz.prog w=.ok (some (j,e.val)) w:=by
 cases es with
 | nil=>
  have hk:ks=[]:=by cases ks with | nil=>rfl | cons=>cases h
  subst hk
  exact .inl ⟨(by intro p hp;cases hp),by simp [Instr.findKey,run_underlying Tryz.underlying99,Instr.findNow]⟩
 | cons e es=>
  have hn:(Instr.findKey 99 (.agg (spA q)) (e :: es)).run Tryz.prog w=(Instr.findAsking 99 (.agg (spA q)) (e :: es)).run Tryz.prog w:=by
   simp [Instr.findKey,run_underlying Tryz.underlying99,Instr.findNow,Instr.sameNow]
  rw [hn];rcases z3ab q w (e :: es) ks 0 h with ⟨a1,a2⟩ | ⟨j,e',a1,a2,a3⟩
  ·exact .inl ⟨a1,a2⟩
  ·exact .inr ⟨j,e',a1,a2,by rw [a3,Nat.zero_add]⟩
def EsOk (es:Array MapEntry)(ks:List Sp):Prop:=es.toList.map (·.key)=ks.map (fun p=>Value.agg (spA p))∧∀ (j:Nat) (e:MapEntry),es[j]?=some e→e.val=Value.int .i64 (j:Int)
theorem EsOk.nil:EsOk #[] []:=⟨rfl,fun j e h=>by simp at h⟩
theorem EsOk.push {es:Array MapEntry}{ks:List Sp}(h:EsOk es ks)(q:Sp)(b:Nat):EsOk (es.push ⟨.agg (spA q),.int .i64 ((ks.length:Nat):Int),b⟩) (ks++[q]):=by
 have hl:es.size=ks.length:=by have:=congrArg List.length h.1;simpa using this
 refine ⟨by simp [h.1],fun j e hj=>?_⟩
 rcases zqi j es.size with h1 | h1
 ·rw [Array.getElem?_push_lt h1] at hj;exact h.2 j e (by rw [← hj,Array.getElem?_eq_getElem h1])
 ·have:=(Array.getElem?_eq_some_iff.1 hj).1
  rw [Array.size_push] at this;obtain rfl:j=es.size:=by omega
  rw [Array.getElem?_push_size] at hj;obtain rfl:=(zqk hj).symm
  rw [hl]
section
variable {w:World}{mb ck:Nat}{es:Array MapEntry}{ks:List Sp}
theorem z6at (hm:w.heap[mb]?=some (.map es ck))(h:EsOk es ks)(q:Sp):
  ((∀ p∈ks,p≠q)∧(Instr.lookup 97 (.map (some mb)) (.agg (spA q)) true).run Tryz.prog w=.ok (.tuple #[.int .i64 0,.bool false]) w)∨
  ∃ j:Nat,ks[j]?=some q∧(Instr.lookup 97 (.map (some mb)) (.agg (spA q)) true).run Tryz.prog w=.ok (.tuple #[.int .i64 (j:Int),.bool true]) w:=by
 have hz:(zeroValue 3).run Tryz.prog w=.ok (.int .i64 0) w:=by simp [go_sem]
 rcases z3aa q w es.toList ks h.1 with ⟨a1,a2⟩ | ⟨j,e,a1,a2,a3⟩
 ·exact .inl ⟨a1,by simp [Instr.lookup,run_underlying Tryz.underlying97,MapKept.run_getObj_map hm,z5v,a2,hz,Result.andThen]⟩
 ·refine .inr ⟨j,a1,?_⟩
  have hv:=h.2 j e (by simpa using a2)
  simp [Instr.lookup,run_underlying Tryz.underlying97,MapKept.run_getObj_map hm,z5v,a3,hv,Result.andThen]
theorem z3aq (hm:w.heap[mb]?=some (.map es ck))(h:EsOk es ks)(q:Sp)(hq:∀ p∈ks,p≠q)(v:Value):
  (Instr.mapUpdate 97 (.map (some mb)) (.agg (spA q)) v).run Tryz.prog w=.ok () (setBlock w mb (.map (es.push ⟨.agg (spA q),v,ck⟩) (ck+1))):=by
 rcases z3aa q w es.toList ks h.1 with ⟨a1,a2⟩ | ⟨j,e,a1,a2,a3⟩
 ·simp [Instr.mapUpdate,run_underlying Tryz.underlying97,MapKept.run_getObj_map hm,z5v,a2,MapKept.run_setObj_map _ hm,Result.andThen,setBlock]
 ·exact absurd rfl (hq q (List.mem_of_getElem? a1))
end
def fl (l:List Sn):List Value:=l.flatMap fun x=>x.vs.toList
theorem z4b (l:List Sn):(fl l).length=l.length*8:=by
 induction l with
 | nil=>rfl
 | cons x l ih=>
  show (x.vs.toList++fl l).length=_
  rw [zqm,ih,List.length_cons]
  show 8+_=_
  omega
theorem z7ak:∀ (l:List Sn)(i j:Nat)(x:Sn),l[i]?=some x→j<8→(fl l)[i*8+j]?=x.vs.toList[j]?
 | [],i,j,x,h,_=>by simp at h
 | y :: l,0,j,x,h,hj=>by
  obtain rfl:y=x:=by simpa using h
  show (y.vs.toList++fl l)[0*8+j]?=_
  rw [Nat.zero_mul,Nat.zero_add,zqn hj]
 | y :: l,i+1,j,x,h,hj=>by
  show (y.vs.toList++fl l)[(i+1)*8+j]?=_
  rw [zqo (show 8≤_ by omega)]
  have:=z7ak l i j x (by simpa using h) hj
  rw [show (i+1)*8+j - y.vs.toList.length=i*8+j by show (i+1)*8+j - 8=_;omega]
  exact this
def CellsSn (w:World)(ad:Addr)(x:Sn):Prop:=
 w.cell? ad=some (.int .i64 x.p.so)∧w.cell? ⟨ad.block,ad.off+1,none⟩=some (.int .i64 x.p.ch)∧w.cell? ⟨ad.block,ad.off+2,none⟩=some (.int .i64 x.p.ra)∧w.cell? ⟨ad.block,ad.off+3,none⟩=some (.int .i64 x.p.ba)∧w.cell? ⟨ad.block,ad.off+4,none⟩=some (.int .i64 x.p.ro)∧w.cell? ⟨ad.block,ad.off+5,none⟩=some (.int .i64 x.p.co)∧w.cell? ⟨ad.block,ad.off+6,none⟩=some (.int .i64 x.cp)∧w.cell? ⟨ad.block,ad.off+7,none⟩=some (.int .i64 x.ti)
theorem z2v {w:World}{B:Nat}{A:Option Addr}{l:List Sn}(h:Sl w B A (fl l)){i:Nat}{x:Sn}(hx:l[i]?=some x):
  ∃ ad,A=some ad∧CellsSn w (ad.add (i*8)) x:=by
 have hi:=z0e hx
 obtain ⟨ad,e,hb,hc⟩:=h (by rw [z4b];omega)
 have key:∀ j u,j<8→x.vs.toList[j]?=some u→w.cell? ((ad.add (i*8)).add j)=some u:=fun j u hj hu=>by
  rw [z8af];exact hc _ u (by rw [z7ak l i j x hx hj];exact hu)
 exact ⟨ad,e,key 0 _ (by omega) rfl,key 1 _ (by omega) rfl,key 2 _ (by omega) rfl,key 3 _ (by omega) rfl,key 4 _ (by omega) rfl,key 5 _ (by omega) rfl,key 6 _ (by omega) rfl,key 7 _ (by omega) rfl⟩
namespace Cl
set_option maxHeartbeats 2000000
def ad (ks:List (Sp×List Nat))(q:Sp)(i:Nat):List (Sp×List Nat):=
 match ks with
 | []=>[(q,[i])]
 | p :: r=>if p.1=q then (q,p.2++[i]) :: r else p :: ad r q i
theorem z8ah:∀ (ks:List (Sp×List Nat))(q:Sp)(i:Nat),(∀ p∈ks,p.1≠q)→ad ks q i=ks++[(q,[i])]
 | [],_,_,_=>rfl
 | p :: r,q,i,h=>by
  show (if p.1=q then _ else _)=_
  rw [if_neg (h p List.mem_cons_self),z8ah r q i fun p' hp=>h p' (List.mem_cons_of_mem _ hp)]
  rfl
theorem z3aj:∀ (ks:List (Sp×List Nat))(q:Sp)(i j:Nat)(g:List Nat),(ks.map (·.1)).Nodup→ks[j]?=some (q,g)→ad ks q i=ks.set j (q,g++[i])
 | [],_,_,_,_,_,h=>by simp at h
 | p :: r,q,i,0,g,_,h=>by
  obtain rfl:p=(q,g):=by simpa using h
  show (if q=q then _ else _)=_
  rw [if_pos rfl];rfl
 | p :: r,q,i,j+1,g,hn,h=>by
  have h':r[j]?=some (q,g):=by simpa using h
  rw [List.map_cons,List.nodup_cons] at hn
  show (if p.1=q then _ else _)=_
  rw [if_neg (fun e=>hn.1 (by rw [e];exact List.mem_map.2 ⟨_,List.mem_of_getElem? h',rfl⟩)),z3aj r q i j g hn.2 h']
  rfl
def z2c (k:Int)(l:List Sn):Nat→List (Sp×List Nat)
 | 0=>[]
 | i+1=>match l[i]? with
  | some x=>ad (z2c k l i) (z3b k x) i
  | none=>z2c k l i
theorem z3h {k:Int}{l:List Sn}{i:Nat}{x:Sn}(h:l[i]?=some x):z2c k l (i+1)=ad (z2c k l i) (z3b k x) i:=by
 show (match l[i]? with | some x=>_ | none=>_)=_
 rw [h]
theorem z8p:∀ (ks:List (Sp×List Nat))(q:Sp)(i:Nat),(∀ x,x∈(ad ks q i).map (·.1)↔x∈ks.map (·.1)∨x=q)∧((ks.map (·.1)).Nodup→((ad ks q i).map (·.1)).Nodup)
 | [],q,i=>⟨fun x=>by simp [ad],fun _=>by simp [ad]⟩
 | p :: r,q,i=>by
  obtain ⟨h1,h2⟩:=z8p r q i
  by_cases e:p.1=q
  ·have h:ad (p :: r) q i=(q,p.2++[i]) :: r:=by show (if p.1=q then _ else _)=_;rw [if_pos e]
   rw [h];refine ⟨fun x=>?_,fun hn=>?_⟩
   ·simp only [List.map_cons,List.mem_cons];rw [e];constructor
    ·rintro (h | h)
     ·exact .inr h
     ·exact .inl (.inr h)
    ·rintro ((h | h) | h)
     ·exact .inl h
     ·exact .inr h
     ·exact .inl h
   ·rw [List.map_cons] at hn ⊢
    rw [← e];exact hn
  ·have h:ad (p :: r) q i=p :: ad r q i:=by show (if p.1=q then _ else _)=_;rw [if_neg e]
   rw [h];refine ⟨fun x=>?_,fun hn=>?_⟩
   ·simp only [List.map_cons,List.mem_cons,h1];constructor
    ·rintro (h | h | h)
     ·exact .inl (.inl h)
     ·exact .inl (.inr h)
     ·exact .inr h
    ·rintro ((h | h) | h)
     ·exact .inl h
     ·exact .inr (.inl h)
     ·exact .inr (.inr h)
   ·rw [List.map_cons,List.nodup_cons] at hn ⊢
    refine ⟨fun hm=>?_,h2 hn.2⟩
    rcases (h1 _).1 hm with h | h
    ·exact hn.1 h
    ·exact e h
theorem z2g (k:Int)(l:List Sn):∀ i,((z2c k l i).map (·.1)).Nodup
 | 0=>List.nodup_nil
 | i+1=>by
  show (((match l[i]? with | some x=>_ | none=>_):List (Sp×List Nat)).map (·.1)).Nodup
  split
  ·exact (z8p _ _ _).2 (z2g k l i)
  ·exact z2g k l i
theorem z2bo:∀ (ks:List (Sp×List Nat))(q:Sp)(i m:Nat),(∀ p∈ks,p.2.length≤m)→(∀ p∈ad ks q i,p.2.length≤m+1)∧(ad ks q i).length≤ks.length+1
 | [],q,i,m,_=>⟨fun p hp=>by
   have:p=(q,[i]):=by simpa [ad] using hp
   rw [this]
   show 1≤m+1
   omega,zqj _⟩
 | p :: r,q,i,m,h=>by
  obtain ⟨h1,h2⟩:=z2bo r q i m fun p hp=>h p (List.mem_cons_of_mem _ hp)
  show (∀ x∈(if p.1=q then (q,p.2++[i]) :: r else p :: ad r q i),x.2.length≤m+1)∧(if p.1=q then (q,p.2++[i]) :: r else p :: ad r q i).length≤_
  have h0:=h p List.mem_cons_self
  split
  ·refine ⟨fun x hx=>?_,by simp⟩
   rcases List.mem_cons.1 hx with rfl | hx
   ·show (p.2++[i]).length≤m+1
    rw [zqm];exact Nat.succ_le_succ h0
   ·have:=h x (List.mem_cons_of_mem _ hx);omega
  ·refine ⟨fun x hx=>?_,by simp only [List.length_cons];omega⟩
   rcases List.mem_cons.1 hx with rfl | hx
   ·omega
   ·exact h1 x hx
theorem z2z (k:Int)(l:List Sn):∀ i,(∀ p∈z2c k l i,p.2.length≤i)∧(z2c k l i).length≤i
 | 0=>⟨fun p hp=>(by cases hp),zqj _⟩
 | i+1=>by
  obtain ⟨h1,h2⟩:=z2z k l i
  show (∀ p∈((match l[i]? with | some x=>ad (z2c k l i) (z3b k x) i | none=>z2c k l i):List (Sp×List Nat)),p.2.length≤i+1)∧((match l[i]? with | some x=>ad (z2c k l i) (z3b k x) i | none=>z2c k l i):List (Sp×List Nat)).length≤i+1
  split
  ·obtain ⟨a,b⟩:=z2bo (z2c k l i) (z3b k ‹Sn›) i i h1
   exact ⟨a,by omega⟩
  ·exact ⟨fun p hp=>by have:=h1 p hp;omega,by omega⟩
end Cl
def Rw.sl (r:Rw):Value:=.slice r.A r.n r.c
def z2i (Ao:Option Addr)(co:Nat)(inn:List Rw):Rw:=⟨Ao,inn.length,co,22,inn.map Rw.sl⟩
structure Gm (w0 w:World)(L:List Ob)(mb:Nat)(es:Array MapEntry)(ck:Nat)(O:List Rw):Prop where
 ow:Ow w0 w none [] L O
 mp:w.heap[mb]?=some (.map es ck)
 lo:w0.heap.size≤mb
 nl:∀ o∈L,∀ a,o.A=some a→0<o.n→mb≠a.block
 no:∀ (j:Nat) (q:Rw),O[j]?=some q→q.blk≠some mb
section
variable {w0 w w':World}{L:List Ob}{mb ck:Nat}{es:Array MapEntry}{O:List Rw}
theorem Gm.lt (h:Gm w0 w L mb es ck O):mb<w.heap.size:=(Array.getElem?_eq_some_iff.1 h.mp).1
theorem Gm.go (h:Gm w0 w L mb es ck O)(hb:Below w.heap.size w w'):Gm w0 w' L mb es ck O:=⟨h.ow.go hb,(hb.block mb h.lt).trans h.mp,h.lo,h.nl,h.no⟩
theorem Gm.app (h:Gm w0 w L mb es ck O){r:Rw}(ho:Ow w0 w' none [] L (O++[r]))(hb:Below w.heap.size w w')(hr:∀ b,r.blk=some b→w.heap.size≤b):Gm w0 w' L mb es ck (O++[r]):=
 ⟨ho,(hb.block mb h.lt).trans h.mp,h.lo,h.nl,fun j q hj e=>by
  rcases zqi j O.length with h1 | h1
  ·rw [zqn h1] at hj;exact h.no j q hj e
  ·rw [zqo h1] at hj;have h2:j - O.length=0:=by have:=z0e hj;simp at this;omega
   rw [h2] at hj;obtain rfl:r=q:=by simpa using hj
   have:=hr mb e
   have:=h.lt
   omega⟩
theorem Gm.nil (h:Gm w0 w L mb es ck O)(e:TypeId):Gm w0 w L mb es ck (O++[⟨none,0,0,e,[]⟩]):=h.app (h.ow.nil e) (Below.refl _ _) fun b e=>by cases e
theorem Gm.turn (h:Gm w0 w L mb es ck O)(i:Nat){r r':Rw}(hi:O[i]?=some r)(hg:w.grownBy w' r.blk)(ho:w'.ownsRow w0.heap.size r'.e 1 (.slice r'.A r'.n r'.c) r'.n r'.vs)(hb:r'.blk=r.blk∨r'.blk=some w.heap.size):Gm w0 w' L mb es ck (O.set i r'):=
 ⟨h.ow.turn i hi hg ho hb,(hg.block mb h.lt (fun e=>h.no i r hi e.symm)).trans h.mp,h.lo,h.nl,fun j q hj e=>by
  by_cases hji:j=i
  ·subst hji
   rw [List.getElem?_set_self (z0e hi)] at hj
   obtain rfl:r'=q:=by simpa using hj
   rcases hb with e1 | e1
   ·exact h.no j r hi (by rw [← e1];exact e)
   ·rw [e] at e1;have:=zqk e1
    have:=h.lt
    omega
  ·rw [zqf (fun e'=>hji e'.symm)] at hj
   exact h.no j q hj e⟩
theorem Gm.put (h:Gm w0 w L mb es ck O)(i:Nat){gb n c:Nat}{e:TypeId}{vs:List Value}(hi:O[i]?=some ⟨some ⟨gb,0,none⟩,n,c,e,vs⟩)(k:Nat)(v:Value):Gm w0 (w.setCell ⟨gb,k,none⟩ v) L mb es ck (O.set i ⟨some ⟨gb,0,none⟩,n,c,e,vs.set k v⟩):=
 h.turn i hi (r':=⟨some ⟨gb,0,none⟩,n,c,e,vs.set k v⟩) (z0d _ _ _) (z1o (h.ow.own i _ hi) k v) (.inl rfl)
theorem Gm.few {l:List Rw}(h:Gm w0 w L mb es ck (O++l)):Gm w0 w L mb es ck O:=⟨h.ow.fewO,h.mp,h.lo,h.nl,fun j q hj=>h.no j q (by rw [zqn (z0e hj)];exact hj)⟩
theorem Gm.store (h:Gm w0 w L mb es ck O)(es':Array MapEntry)(ck':Nat):Gm w0 (setBlock w mb (.map es' ck')) L mb es' ck' O:=by
 have hg:w.grownBy (setBlock w mb (.map es' ck')) (some mb):=⟨rfl,rfl,rfl,by simp [setBlock],fun k _ hne=>heap_setBlock_other h.mp _ (fun e=>hne (by rw [e]))⟩
 exact ⟨h.ow.off hg fun b e=>by
  obtain rfl:=zqk e
  exact ⟨h.lo,by simp,fun j k v hj=>by simp at hj,h.nl,h.no⟩,heap_setBlock_same h.mp _,h.lo,h.nl,h.no⟩
theorem z5u {P:Program}{t e:TypeId}{z:Value}{bytes:Nat}{ops:Array Oper}{rest:List Oper}{o:Oper}{a:Act}{Q:Exit→Act→World→Prop}(hE:Elem P t e z bytes)(h:Gm w0 w L mb es ck O)(i:Nat)(s x:Operand)(v:Value)(tt:TypeId){A:Option Addr}{n c:Nat}{xs:List Value}(hi:O[i]?=some ⟨A,n,c,e,xs⟩)
  (h1:v.oneCell'=true) (h63:n+1≤maxLen) (hbytes:(n+1)*bytes≤140737488355328)
  (hgd:o.guard=none) (ho:o.op=.call { callee:=.builtin .append,args:=#[s,x],argTypes:=#[t,t] }) (hs:a.eval s=.slice A n c) (hx:a.eval x=.slice (some ⟨w.heap.size,0,none⟩) 1 1)
  (hk:∀ A' c' w',Gm w0 w' L mb es ck (O.set i ⟨A',n+1,c',e,xs++[v]⟩)→wpList P ops Q rest (a.put o.dst (.slice A' (n+1) c')) w'):wpList P ops Q (o :: rest) a (w.alloc (.cells #[v] tt)):=by
 obtain ⟨ht,hzc,inf,hi0,hz,hsz,hby⟩:=hE;have h':=h.go (z0h w (.cells #[v] tt))
 exact z0i _ hgd s x t ho w0.heap.size e inf z bytes ht hi0 hz hsz hby (by rw [hzc];rfl) A n c xs hs (h'.ow.own i _ hi) (w.heap.size+1) (some ⟨w.heap.size,0,none⟩) 1 1 [v] hx rfl (z2h w tt v) (fun u hu=>by rw [List.mem_singleton] at hu;subst hu;exact h1) h63 hbytes h'.ow.size fun A' c' w' h2 h3 h4=>
  hk A' c' w' (h'.turn i hi (r':=⟨A',n+1,c',e,xs++[v]⟩) h3 h2 h4)
end
theorem z8bk:(Tryz.prog.info? 22).map (fun i=>(i.zero,i.size,i.bytes))=some (some (.slice none 0 0),1,24):=by kernel_rfl
theorem z7bi:Elem Tryz.prog 62 22 (.slice none 0 0) 24:=by
 obtain ⟨i0,hi,hz0,hz1,hz2⟩:=info_parts z8bk
 exact ⟨Tryz.underlying62,rfl,i0,hi,hz0,hz1,hz2⟩
def GrR (w:World)(gs:List (Sp×List Nat))(en:Ending)(w':World):Prop:=
 ∃ (Ao:Option Addr) (co:Nat) (inn:List Rw),en=.returned (.slice Ao inn.length co)∧inn.map (·.vs)=gs.map (fun p=>z0c p.2)∧(∀ r∈inn,r.e=3)∧Ow w w' none [] [] (z2i Ao co inn :: inn)
end Go.Proofs.YtpmofjomadibmaaGreatDoor
