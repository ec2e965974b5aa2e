/- Xd Xe Xf Xj Xk Xl -/
import Derived.Test.YtpmofjomadibmaaGreatDoorV04
import Derived.Laws.StructEq
import Derived.MapKept
import Derived.ChangeMaps5
namespace Go.Proofs.YtpmofjomadibmaaGreatDoor
set_option maxHeartbeats 8000000
open Go.RowKit Go.Sort
set_option linter.unusedVariables false
set_option maxRecDepth 100000
open Cl
theorem z2as (a0 a1 a2 a3 a4 a5 a6 b0 b1 b2 b3 b4 b5 b6:Int)(w:World):(binOp .eql 99 (.agg #[.int .i64 a0,.int .i64 a1,.int .i64 a2,.int .i64 a3,.int .i64 a4,.int .i64 a5,.int .i64 a6]) (.agg #[.int .i64 b0,.int .i64 b1,.int .i64 b2,.int .i64 b3,.int .i64 b4,.int .i64 b5,.int .i64 b6])).run Tryz.prog w=.ok (.bool (decide (((Pl.mk a0 a1 a2 a3 a4 a5,a6):Pl×Int)=(Pl.mk b0 b1 b2 b3 b4 b5,b6)))) w:=by
 by_cases h0:a0=b0
 case neg=>simp [go_sem,run_eql_struct,Tryz.underlying99,Tryz.underlying38,Tryz.underlying3,h0]
 by_cases h1:a1=b1
 case neg=>simp [go_sem,run_eql_struct,Tryz.underlying99,Tryz.underlying38,Tryz.underlying3,h1,h0]
 by_cases h2:a2=b2
 case neg=>simp [go_sem,run_eql_struct,Tryz.underlying99,Tryz.underlying38,Tryz.underlying3,h2,h0,h1]
 by_cases h3:a3=b3
 case neg=>simp [go_sem,run_eql_struct,Tryz.underlying99,Tryz.underlying38,Tryz.underlying3,h3,h0,h1,h2]
 by_cases h4:a4=b4
 case neg=>simp [go_sem,run_eql_struct,Tryz.underlying99,Tryz.underlying38,Tryz.underlying3,h4,h0,h1,h2,h3]
 by_cases h5:a5=b5
 case neg=>simp [go_sem,run_eql_struct,Tryz.underlying99,Tryz.underlying38,Tryz.underlying3,h5,h0,h1,h2,h3,h4]
 by_cases h6:a6=b6
 case neg=>simp [go_sem,run_eql_struct,Tryz.underlying99,Tryz.underlying38,Tryz.underlying3,h6,h0,h1,h2,h3,h4,h5]
 subst h0 h1 h2 h3 h4 h5 h6
 simp [go_sem,run_eql_struct,Tryz.underlying99,Tryz.underlying38,Tryz.underlying3]
theorem z0bm:Tryz.prog.eqGuardType Tryz.prog.depth 99=false:=by kernel_rfl
structure PsK (wb:World)(b0 b1:Nat)(k x0 x1 x2 x3 x4 x5 x6 x7 y0 y1 y2 y3 y4 y5 y6 y7 p0 p1 p2 p3 p4 p5 q0 q1 q2 q3 q4 q5:Int)(r:Bool)(Ld:Nat→Bool)(u0 u1 u2 u3 u4 u5 u6 u7 u8 u9 u10:Value)(W:World):Prop where
 bl:Below wb.heap.size wb W
 h0:Ld 0=true→u0=.bool true
 h1:Ld 1=true→u1=.bool true
 h2:Ld 2=true→u2=.int .i64 k
 h3:Ld 3=true→u3=.agg #[.int .i64 x0,.int .i64 x1,.int .i64 x2,.int .i64 x3,.int .i64 x4,.int .i64 x5,.int .i64 x6,.int .i64 x7]
 h4:Ld 4=true→u4=.agg #[.int .i64 p0,.int .i64 p1,.int .i64 p2,.int .i64 p3,.int .i64 p4,.int .i64 p5,.int .i64 x6]
 h5:Ld 5=true→u5=.int .i64 k
 h6:Ld 6=true→u6=.agg #[.int .i64 y0,.int .i64 y1,.int .i64 y2,.int .i64 y3,.int .i64 y4,.int .i64 y5,.int .i64 y6,.int .i64 y7]
 h7:Ld 7=true→u7=.agg #[.int .i64 q0,.int .i64 q1,.int .i64 q2,.int .i64 q3,.int .i64 q4,.int .i64 q5,.int .i64 y6]
 h8:Ld 8=true→u8=.bool r
 h9:Ld 9=true→u9=.bool r
 h10:Ld 10=true→u10=.bool r
def PsI (wb:World)(b0 b1:Nat)(k x0 x1 x2 x3 x4 x5 x6 x7 y0 y1 y2 y3 y4 y5 y6 y7 p0 p1 p2 p3 p4 p5 q0 q1 q2 q3 q4 q5:Int)(r:Bool)(A0:Act)(Ld:Nat→Bool)(a:Act)(W:World):Prop:=
 ∃ (u0 u1 u2 u3 u4 u5 u6 u7 u8 u9 u10:Value),a=(((((((((((A0.put (some 16) u0).put (some 17) u1).put (some 18) u2).put (some 19) u3).put (some 20) u4).put (some 21) u5).put (some 22) u6).put (some 23) u7).put (some 24) u8).put (some 25) u9).put (some 6) u10)∧PsK wb b0 b1 k x0 x1 x2 x3 x4 x5 x6 x7 y0 y1 y2 y3 y4 y5 y6 y7 p0 p1 p2 p3 p4 p5 q0 q1 q2 q3 q4 q5 r Ld u0 u1 u2 u3 u4 u5 u6 u7 u8 u9 u10 W
theorem z3bw (k:Int)(hk:kd k)(x y:Sn)(w:World):
  Calls Tryz.prog 53 #[.int .i64 k,.agg x.vs,.agg y.vs] w fun e w'=>e=.returned (.bool (decide ((whV k x.p,x.cp)=(whV k y.p,y.cp))))∧Below w.heap.size w w':=by
 have HA0:=fun W=>z7ap k x W
 have HB0:=fun W=>z7ap k y W
 have HW:=zh (z3s k x.p)
 rw [zt hk] at HW;obtain ⟨⟨x0,x1,x2,x3,x4,x5⟩,x6,x7⟩:=x
 obtain ⟨⟨y0,y1,y2,y3,y4,y5⟩,y6,y7⟩:=y
 unfold spV at HA0 HB0;simp only at HA0 HB0 HW ⊢
 obtain ⟨⟨p0,p1,p2,p3,p4,p5⟩,hp⟩:∃ q,whV k ⟨x0,x1,x2,x3,x4,x5⟩=q:=⟨_,rfl⟩
 obtain ⟨⟨q0,q1,q2,q3,q4,q5⟩,hq⟩:∃ q,whV k ⟨y0,y1,y2,y3,y4,y5⟩=q:=⟨_,rfl⟩
 rw [hp] at HA0 HW ⊢
 rw [hq] at HB0 ⊢
 unfold Sn.vs at *
 unfold Pl.vs at HW;have HA:=zh HA0;have HB:=zh HB0;have H0:=((Ow.of (St.refl w)).arr #[.int .i64 x0,.int .i64 x1,.int .i64 x2,.int .i64 x3,.int .i64 x4,.int .i64 x5,.int .i64 x6,.int .i64 x7] 8 rfl (by omega) 40).arr #[.int .i64 y0,.int .i64 y1,.int .i64 y2,.int .i64 y3,.int .i64 y4,.int .i64 y5,.int .i64 y6,.int .i64 y7] 8 rfl (by omega) 40
 simp only [zqc,zqb,World.size_alloc] at H0;obtain ⟨a0,a1,a2,a3,a4,a5,a6,a7⟩:=zc8 (H0.row 0 rfl);clear hk HA0 HB0 hp hq;obtain ⟨r,hr⟩:∃ r,decide ((Pl.mk p0 p1 p2 p3 p4 p5,x6)=(Pl.mk q0 q1 q2 q3 q4 q5,y6))=r:=⟨_,rfl⟩
 have HR:Hid (∀ W:World,(binOp .eql 99 (.agg #[.int .i64 p0,.int .i64 p1,.int .i64 p2,.int .i64 p3,.int .i64 p4,.int .i64 p5,.int .i64 x6]) (.agg #[.int .i64 q0,.int .i64 q1,.int .i64 q2,.int .i64 q3,.int .i64 q4,.int .i64 q5,.int .i64 y6])).run Tryz.prog W=.ok (.bool r) W):=fun W=>by rw [← hr];exact z2as ..
 rw [hr];clear hr;go_enter Tryz.func53,Tryz.ntmps53
 go_wp2_with fail;refine (HW.out _).mono ?_
 rintro e w1 ⟨rfl,hb⟩;have H1:=(H0.go hb).arr #[.int .i64 p0,.int .i64 p1,.int .i64 p2,.int .i64 p3,.int .i64 p4,.int .i64 p5] 6 rfl (by omega) 38
 simp only [zqc,zqb] at H1;clear HW hb H0 a0 a1 a2 a3 a4 a5 a6 a7;go_wp2_with fail;obtain ⟨wb,hwb⟩:∃ wb,w1.alloc (.cells #[.int .i64 p0,.int .i64 p1,.int .i64 p2,.int .i64 p3,.int .i64 p4,.int .i64 p5] 38)=wb:=⟨_,rfl⟩
 rw [hwb] at H1 ⊢
 have HX:Hid (∀ W,Below wb.heap.size wb W→W.cell? ⟨w.heap.size,0,none⟩=some (.int .i64 x0)∧W.cell? ⟨w.heap.size,1,none⟩=some (.int .i64 x1)∧W.cell? ⟨w.heap.size,2,none⟩=some (.int .i64 x2)∧W.cell? ⟨w.heap.size,3,none⟩=some (.int .i64 x3)∧W.cell? ⟨w.heap.size,4,none⟩=some (.int .i64 x4)∧W.cell? ⟨w.heap.size,5,none⟩=some (.int .i64 x5)∧W.cell? ⟨w.heap.size,6,none⟩=some (.int .i64 x6)∧W.cell? ⟨w.heap.size,7,none⟩=some (.int .i64 x7)):=fun W hb=>by
  have H2:=H1.go hb
  exact ⟨(H2.row 0 rfl).cellAt 0 (by decide),(H2.row 0 rfl).cellAt 1 (by decide),(H2.row 0 rfl).cellAt 2 (by decide),(H2.row 0 rfl).cellAt 3 (by decide),(H2.row 0 rfl).cellAt 4 (by decide),(H2.row 0 rfl).cellAt 5 (by decide),(H2.row 0 rfl).cellAt 6 (by decide),(H2.row 0 rfl).cellAt 7 (by decide)⟩
 have HY:Hid (∀ W,Below wb.heap.size wb W→W.cell? ⟨w.heap.size+1,0,none⟩=some (.int .i64 y0)∧W.cell? ⟨w.heap.size+1,1,none⟩=some (.int .i64 y1)∧W.cell? ⟨w.heap.size+1,2,none⟩=some (.int .i64 y2)∧W.cell? ⟨w.heap.size+1,3,none⟩=some (.int .i64 y3)∧W.cell? ⟨w.heap.size+1,4,none⟩=some (.int .i64 y4)∧W.cell? ⟨w.heap.size+1,5,none⟩=some (.int .i64 y5)∧W.cell? ⟨w.heap.size+1,6,none⟩=some (.int .i64 y6)∧W.cell? ⟨w.heap.size+1,7,none⟩=some (.int .i64 y7)):=fun W hb=>by
  have H2:=H1.go hb
  exact ⟨(H2.row 1 rfl).cellAt 0 (by decide),(H2.row 1 rfl).cellAt 1 (by decide),(H2.row 1 rfl).cellAt 2 (by decide),(H2.row 1 rfl).cellAt 3 (by decide),(H2.row 1 rfl).cellAt 4 (by decide),(H2.row 1 rfl).cellAt 5 (by decide),(H2.row 1 rfl).cellAt 6 (by decide),(H2.row 1 rfl).cellAt 7 (by decide)⟩
 have HL:=zh H1.below;clear H1 hwb;refine z1d (PsI wb w.heap.size (w.heap.size+1) k x0 x1 x2 x3 x4 x5 x6 x7 y0 y1 y2 y3 y4 y5 y6 y7 p0 p1 p2 p3 p4 p5 q0 q1 q2 q3 q4 q5 r) (by kernel_rfl) (by kernel_rfl) ?_ ?_ ?_
 ·refine ⟨undef,undef,undef,undef,undef,undef,undef,undef,undef,undef,(.bool false),?_,⟨z0p (Below.refl _ _) 1,?_,?_,?_,?_,?_,?_,?_,?_,?_,?_,?_⟩⟩
  ·simp only [Act.put,zT,zZ,zS]
  all_goals (intro h;cases h)
 ·rintro jj Ld b W hj hf hcl hd ⟨u0,u1,u2,u3,u4,u5,u6,u7,u8,u9,u10,rfl,hC⟩;have hj':jj<11:=hj
  have hcase:jj=0∨jj=1∨jj=2∨jj=3∨jj=4∨jj=5∨jj=6∨jj=7∨jj=8∨jj=9∨jj=10:=by omega
  clear hj hj';simp only [Act.put,zT,zZ,zS];rcases hcase with rfl | rfl | rfl | rfl | rfl | rfl | rfl | rfl | rfl | rfl | rfl
  ·clear hd hcl;refine zw rfl fun K hK=>?_
   go_simp;refine hK _ _ ⟨_,_,_,_,_,_,_,_,_,_,_,?_,{hC with h0:=fun _=>rfl}⟩;simp only [Act.put,zT,zZ,zS]
  ·obtain rfl:=hC.h0 (hd 0 (by kernel_rfl));clear hd hcl;refine zw rfl fun K hK=>?_
   go_simp;refine hK _ _ ⟨_,_,_,_,_,_,_,_,_,_,_,?_,{hC with h1:=fun _=>rfl}⟩;simp only [Act.put,zT,zZ,zS]
  ·obtain rfl:=hC.h1 (hd 1 (by kernel_rfl));clear hd hcl;refine zw rfl fun K hK=>?_
   go_simp;refine hK _ _ ⟨_,_,_,_,_,_,_,_,_,_,_,?_,{hC with h2:=fun _=>rfl}⟩;simp only [Act.put,zT,zZ,zS]
  ·obtain rfl:=hC.h1 (hd 1 (by kernel_rfl));obtain ⟨a0,a1,a2,a3,a4,a5,a6,a7⟩:=HX.out W hC.bl
   clear hd hcl;refine zw rfl fun K hK=>?_
   go_simp;refine hK _ _ ⟨_,_,_,_,_,_,_,_,_,_,_,?_,{hC with h3:=fun _=>rfl}⟩;simp only [Act.put,zT,zZ,zS]
  ·obtain rfl:=hC.h1 (hd 1 (by kernel_rfl));obtain rfl:=hC.h2 (hd 2 (by kernel_rfl));obtain rfl:=hC.h3 (hd 3 (by kernel_rfl));have HAt:=HA.out W
   clear hd hcl;refine zw rfl fun K hK=>?_
   go_simp;refine (HAt).mono ?_
   rintro e W' ⟨rfl,hb⟩;refine hK _ _ ⟨_,_,_,_,_,_,_,_,_,_,_,?_,{hC with bl:=hC.bl.trans (hb.mono hC.bl.size),h4:=fun _=>rfl}⟩;simp only [Act.put,zT,zZ,zS]
  ·obtain rfl:=hC.h1 (hd 1 (by kernel_rfl));clear hd hcl;refine zw rfl fun K hK=>?_
   go_simp;refine hK _ _ ⟨_,_,_,_,_,_,_,_,_,_,_,?_,{hC with h5:=fun _=>rfl}⟩;simp only [Act.put,zT,zZ,zS]
  ·obtain rfl:=hC.h1 (hd 1 (by kernel_rfl));obtain ⟨a0,a1,a2,a3,a4,a5,a6,a7⟩:=HY.out W hC.bl
   clear hd hcl;refine zw rfl fun K hK=>?_
   go_simp;refine hK _ _ ⟨_,_,_,_,_,_,_,_,_,_,_,?_,{hC with h6:=fun _=>rfl}⟩;simp only [Act.put,zT,zZ,zS]
  ·obtain rfl:=hC.h1 (hd 1 (by kernel_rfl));obtain rfl:=hC.h5 (hd 5 (by kernel_rfl));obtain rfl:=hC.h6 (hd 6 (by kernel_rfl));have HAt:=HB.out W
   clear hd hcl;refine zw rfl fun K hK=>?_
   go_simp;refine (HAt).mono ?_
   rintro e W' ⟨rfl,hb⟩;refine hK _ _ ⟨_,_,_,_,_,_,_,_,_,_,_,?_,{hC with bl:=hC.bl.trans (hb.mono hC.bl.size),h7:=fun _=>rfl}⟩;simp only [Act.put,zT,zZ,zS]
  ·obtain rfl:=hC.h1 (hd 1 (by kernel_rfl));obtain rfl:=hC.h4 (hd 4 (by kernel_rfl));obtain rfl:=hC.h7 (hd 7 (by kernel_rfl));have hr:=HR.out;have hg:=z0bm;clear hd hcl;refine zw rfl fun K hK=>?_
   go_simp;refine hK _ _ ⟨_,_,_,_,_,_,_,_,_,_,_,?_,{hC with h8:=fun _=>rfl}⟩;simp only [Act.put,zT,zZ,zS]
  ·obtain rfl:=hC.h1 (hd 1 (by kernel_rfl));obtain rfl:=hC.h8 (hd 8 (by kernel_rfl));clear hd hcl;refine zw rfl fun K hK=>?_
   go_simp;refine hK _ _ ⟨_,_,_,_,_,_,_,_,_,_,_,?_,{hC with h9:=fun _=>rfl}⟩;simp only [Act.put,zT,zZ,zS]
  ·obtain rfl:=hC.h9 (hd 9 (by kernel_rfl));clear hd hcl;refine zw rfl fun K hK=>?_
   go_simp;refine hK _ _ ⟨_,_,_,_,_,_,_,_,_,_,_,?_,{hC with h10:=fun _=>rfl}⟩;simp only [Act.put,zT,zZ,zS]
 ·rintro Ld b W hL ⟨u0,u1,u2,u3,u4,u5,u6,u7,u8,u9,u10,rfl,hC⟩;obtain rfl:=hC.h10 (hL 10 (by show 10<11;decide))
  have HG:=zh (HL.out.trans (hC.bl.mono HL.out.size))
  clear hC;simp only [Act.put,zT,zZ,zS];go_wp2_with fail;go_ret;exact ⟨rfl,HG.out⟩
theorem z8n {k:Int}(hk:kd k)(p:Pl):whV k p=wh k p:=if_pos hk
theorem z5ac (k:Int)(hk:kd k)(x y:Sn)(w:World):
  Calls Tryz.prog 53 #[.int .i64 k,.agg x.vs,.agg y.vs] w fun e w'=>e=.returned (.bool (decide (z2g k x=z2g k y)))∧Below w.heap.size w w':=by
 have:=z3bw k hk x y w
 rwa [z8n hk,z8n hk] at this
open Go.ChangeMaps (setBlock heap_setBlock_same heap_setBlock_other)
namespace Cl
set_option maxHeartbeats 8000000
abbrev Sp:Type:=Pl×Int
def spA (q:Sp):Array Value:=#[.int .i64 q.1.so,.int .i64 q.1.ch,.int .i64 q.1.ra,.int .i64 q.1.ba,.int .i64 q.1.ro,.int .i64 q.1.co,.int .i64 q.2]
end Cl
theorem z6bi {k:Int}(hk:kd k)(x:Sn):spV k x=spA (z2g k x):=by unfold spV spA z2g;rw [z8n hk]
theorem z4aa (q p:Sp)(w:World):(Op.equal 99 (.agg (spA q)) (.agg (spA p))).run Tryz.prog w=.ok (decide (q=p)) w:=by
 obtain ⟨⟨a0,a1,a2,a3,a4,a5⟩,a6⟩:=q
 obtain ⟨⟨b0,b1,b2,b3,b4,b5⟩,b6⟩:=p
 have h:=z2as a0 a1 a2 a3 a4 a5 a6 b0 b1 b2 b3 b4 b5 b6 w
 rw [run_eql_struct] at h;unfold Op.equal Op.maxDepth spA;cases hr:(Op.equalIn 10000 99 (.agg #[.int .i64 a0,.int .i64 a1,.int .i64 a2,.int .i64 a3,.int .i64 a4,.int .i64 a5,.int .i64 a6]) (.agg #[.int .i64 b0,.int .i64 b1,.int .i64 b2,.int .i64 b3,.int .i64 b4,.int .i64 b5,.int .i64 b6])).run Tryz.prog w with
 | ok r w'=>
  rw [hr] at h;simp only [Result.andThen_ok,Result.ok.injEq,Value.bool.injEq] at h;obtain ⟨rfl,rfl⟩:=h;rfl
 | halt x w'=>
  rw [hr] at h;simp [Result.andThen] at h
theorem z2bd (em:Bool)(n:Nat)(x:Int)(w:World):(Instr.checkKey em (n+1) 3 (.int .i64 x)).run Tryz.prog w=.ok () w:=by
 rw [Instr.checkKey];simp [run_underlying Tryz.underlying3]
theorem z0bu (em:Bool)(n:Nat)(p:Pl)(w:World):(Instr.checkKey em (n+1+1) 38 (.agg p.vs)).run Tryz.prog w=.ok () w:=by
 rw [Instr.checkKey];unfold Pl.vs;simp [run_underlying Tryz.underlying38,z2bd,go_sem]
theorem z5bl (em:Bool)(n:Nat)(q:Sp)(w:World):(Instr.checkKey em (n+1+1+1) 99 (.agg (spA q))).run Tryz.prog w=.ok () w:=by
 have hp:=z0bu em n q.1 w
 rw [Instr.checkKey];unfold spA;unfold Pl.vs at hp;simp [run_underlying Tryz.underlying99,z2bd,hp,go_sem]
theorem z5q (em:Bool)(q:Sp)(w:World):(Instr.checkKey em 10000 99 (.agg (spA q))).run Tryz.prog w=.ok () w:=z5bl em 9997 q w
theorem z2aq (q:Sp)(w:World):∀ (es:List MapEntry) (ks:List Sp) (i:Nat),es.map (·.key)=ks.map (fun p=>Value.agg (spA p))→
  ((∀ p∈ks,p≠q)∧(Instr.findAsking 99 (.agg (spA q)) es i).run Tryz.prog w=.ok none w)∨
  ∃ j e,ks[j]?=some q∧es[j]?=some e∧(Instr.findAsking 99 (.agg (spA q)) es i).run Tryz.prog w=.ok (some (i+j,e.val)) w
 | [],[],i,_=>.inl ⟨(by intro p hp;cases hp),by simp [Instr.findAsking]⟩
 | [],_ :: _,i,h=>by cases h
 | _ :: _,[],i,h=>by cases h
 | e :: es,p :: ks,i,h=>by
  simp only [List.map_cons,List.cons.injEq] at h;obtain ⟨h1,h2⟩:=h;have heq:(Op.equal 99 (.agg (spA q)) e.key).run Tryz.prog w=.ok (decide (q=p)) w:=by rw [h1];exact z4aa q p w
  by_cases hq:q=p
  ·refine .inr ⟨0,e,by rw [hq];rfl,rfl,?_⟩
   rw [zt hq] at heq;simp [Instr.findAsking,heq]
  ·rw [zn hq] at heq;rcases z2aq q w es ks (i+1) h2 with ⟨a1,a2⟩ | ⟨j,e',a1,a2,a3⟩
   ·refine .inl ⟨fun p' hp'=>?_,by simp [Instr.findAsking,heq,a2]⟩
    rcases List.mem_cons.1 hp' with rfl | hp'
    ·exact fun e=>hq e.symm
    ·exact a1 p' hp'
   ·exact .inr ⟨j+1,e',a1,a2,by simp [Instr.findAsking,heq,a3];omega⟩
theorem z2ap (q:Sp)(w:World)(es:List MapEntry)(ks:List Sp)(h:es.map (·.key)=ks.map (fun p=>Value.agg (spA p))):
  ((∀ p∈ks,p≠q)∧(Instr.findKey 99 (.agg (spA q)) es).run Tryz.prog w=.ok none w)∨
  ∃ j e,ks[j]?=some q∧es[j]?=some e∧(Instr.findKey 99 (.agg (spA q)) es).run Tryz.prog w=.ok (some (j,e.val)) w:=by
 cases es with
 | nil=>
  have hk:ks=[]:=by cases ks with | nil=>rfl | cons=>cases h
  subst hk
  exact .inl ⟨(by intro p hp;cases hp),by simp [Instr.findKey,run_underlying Tryz.underlying99,Instr.findNow]⟩
 | cons e es=>
  have hn:(Instr.findKey 99 (.agg (spA q)) (e :: es)).run Tryz.prog w=(Instr.findAsking 99 (.agg (spA q)) (e :: es)).run Tryz.prog w:=by
   simp [Instr.findKey,run_underlying Tryz.underlying99,Instr.findNow,Instr.sameNow]
  rw [hn];rcases z2aq q w (e :: es) ks 0 h with ⟨a1,a2⟩ | ⟨j,e',a1,a2,a3⟩
  ·exact .inl ⟨a1,a2⟩
  ·exact .inr ⟨j,e',a1,a2,by rw [a3,Nat.zero_add]⟩
def EsOk (es:Array MapEntry)(ks:List Sp):Prop:=es.toList.map (·.key)=ks.map (fun p=>Value.agg (spA p))∧∀ (j:Nat) (e:MapEntry),es[j]?=some e→e.val=Value.int .i64 (j:Int)
theorem EsOk.nil:EsOk #[] []:=⟨rfl,fun j e h=>by simp at h⟩
theorem EsOk.push {es:Array MapEntry}{ks:List Sp}(h:EsOk es ks)(q:Sp)(b:Nat):EsOk (es.push ⟨.agg (spA q),.int .i64 ((ks.length:Nat):Int),b⟩) (ks++[q]):=by
 have hl:es.size=ks.length:=by have:=congrArg List.length h.1;simpa using this
 refine ⟨by simp [h.1],fun j e hj=>?_⟩
 rcases zqi j es.size with h1 | h1
 ·rw [Array.getElem?_push_lt h1] at hj;exact h.2 j e (by rw [← hj,Array.getElem?_eq_getElem h1])
 ·have:=(Array.getElem?_eq_some_iff.1 hj).1
  rw [Array.size_push] at this;obtain rfl:j=es.size:=by omega
  rw [Array.getElem?_push_size] at hj;obtain rfl:=(zqk hj).symm
  rw [hl]
section
variable {w:World}{mb ck:Nat}{es:Array MapEntry}{ks:List Sp}
theorem z6ak (hm:w.heap[mb]?=some (.map es ck))(h:EsOk es ks)(q:Sp):
  ((∀ p∈ks,p≠q)∧(Instr.lookup 97 (.map (some mb)) (.agg (spA q)) true).run Tryz.prog w=.ok (.tuple #[.int .i64 0,.bool false]) w)∨
  ∃ j:Nat,ks[j]?=some q∧(Instr.lookup 97 (.map (some mb)) (.agg (spA q)) true).run Tryz.prog w=.ok (.tuple #[.int .i64 (j:Int),.bool true]) w:=by
 have hz:(zeroValue 3).run Tryz.prog w=.ok (.int .i64 0) w:=by simp [go_sem]
 rcases z2ap q w es.toList ks h.1 with ⟨a1,a2⟩ | ⟨j,e,a1,a2,a3⟩
 ·exact .inl ⟨a1,by simp [Instr.lookup,run_underlying Tryz.underlying97,MapKept.run_getObj_map hm,z5q,a2,hz,Result.andThen]⟩
 ·refine .inr ⟨j,a1,?_⟩
  have hv:=h.2 j e (by simpa using a2)
  simp [Instr.lookup,run_underlying Tryz.underlying97,MapKept.run_getObj_map hm,z5q,a3,hv,Result.andThen]
theorem z3ah (hm:w.heap[mb]?=some (.map es ck))(h:EsOk es ks)(q:Sp)(hq:∀ p∈ks,p≠q)(v:Value):
  (Instr.mapUpdate 97 (.map (some mb)) (.agg (spA q)) v).run Tryz.prog w=.ok () (setBlock w mb (.map (es.push ⟨.agg (spA q),v,ck⟩) (ck+1))):=by
 rcases z2ap q w es.toList ks h.1 with ⟨a1,a2⟩ | ⟨j,e,a1,a2,a3⟩
 ·simp [Instr.mapUpdate,run_underlying Tryz.underlying97,MapKept.run_getObj_map hm,z5q,a2,MapKept.run_setObj_map _ hm,Result.andThen,setBlock]
 ·exact absurd rfl (hq q (List.mem_of_getElem? a1))
end
def fl (l:List Sn):List Value:=l.flatMap fun x=>x.vs.toList
theorem z3f (l:List Sn):(fl l).length=l.length*8:=by
 induction l with
 | nil=>rfl
 | cons x l ih=>
  show (x.vs.toList++fl l).length=_
  rw [zqm,ih,List.length_cons]
  show 8+_=_
  omega
theorem z7ab:∀ (l:List Sn)(i j:Nat)(x:Sn),l[i]?=some x→j<8→(fl l)[i*8+j]?=x.vs.toList[j]?
 | [],i,j,x,h,_=>by simp at h
 | y :: l,0,j,x,h,hj=>by
  obtain rfl:y=x:=by simpa using h
  show (y.vs.toList++fl l)[0*8+j]?=_
  rw [Nat.zero_mul,Nat.zero_add,zqn hj]
 | y :: l,i+1,j,x,h,hj=>by
  show (y.vs.toList++fl l)[(i+1)*8+j]?=_
  rw [zqo (show 8≤_ by omega)]
  have:=z7ab l i j x (by simpa using h) hj
  rw [show (i+1)*8+j - y.vs.toList.length=i*8+j by show (i+1)*8+j - 8=_;omega]
  exact this
def CellsSn (w:World)(ad:Addr)(x:Sn):Prop:=
 w.cell? ad=some (.int .i64 x.p.so)∧w.cell? ⟨ad.block,ad.off+1,none⟩=some (.int .i64 x.p.ch)∧w.cell? ⟨ad.block,ad.off+2,none⟩=some (.int .i64 x.p.ra)∧w.cell? ⟨ad.block,ad.off+3,none⟩=some (.int .i64 x.p.ba)∧w.cell? ⟨ad.block,ad.off+4,none⟩=some (.int .i64 x.p.ro)∧w.cell? ⟨ad.block,ad.off+5,none⟩=some (.int .i64 x.p.co)∧w.cell? ⟨ad.block,ad.off+6,none⟩=some (.int .i64 x.cp)∧w.cell? ⟨ad.block,ad.off+7,none⟩=some (.int .i64 x.ti)
theorem z3m {w:World}{B:Nat}{A:Option Addr}{l:List Sn}(h:Sl w B A (fl l)){i:Nat}{x:Sn}(hx:l[i]?=some x):
  ∃ ad,A=some ad∧CellsSn w (ad.add (i*8)) x:=by
 have hi:=z0e hx
 obtain ⟨ad,e,hb,hc⟩:=h (by rw [z3f];omega)
 have key:∀ j u,j<8→x.vs.toList[j]?=some u→w.cell? ((ad.add (i*8)).add j)=some u:=fun j u hj hu=>by
  rw [z1ah];exact hc _ u (by rw [z7ab l i j x hx hj];exact hu)
 exact ⟨ad,e,key 0 _ (by omega) rfl,key 1 _ (by omega) rfl,key 2 _ (by omega) rfl,key 3 _ (by omega) rfl,key 4 _ (by omega) rfl,key 5 _ (by omega) rfl,key 6 _ (by omega) rfl,key 7 _ (by omega) rfl⟩
namespace Cl
set_option maxHeartbeats 8000000
def ad (ks:List (Sp×List Nat))(q:Sp)(i:Nat):List (Sp×List Nat):=
 match ks with
 | []=>[(q,[i])]
 | p :: r=>if p.1=q then (q,p.2++[i]) :: r else p :: ad r q i
theorem z2bj:∀ (ks:List (Sp×List Nat))(q:Sp)(i:Nat),(∀ p∈ks,p.1≠q)→ad ks q i=ks++[(q,[i])]
 | [],_,_,_=>rfl
 | p :: r,q,i,h=>by
  show (if p.1=q then _ else _)=_
  rw [if_neg (h p List.mem_cons_self),z2bj r q i fun p' hp=>h p' (List.mem_cons_of_mem _ hp)]
  rfl
theorem z7ay:∀ (ks:List (Sp×List Nat))(q:Sp)(i j:Nat)(g:List Nat),(ks.map (·.1)).Nodup→ks[j]?=some (q,g)→ad ks q i=ks.set j (q,g++[i])
 | [],_,_,_,_,_,h=>by simp at h
 | p :: r,q,i,0,g,_,h=>by
  obtain rfl:p=(q,g):=by simpa using h
  show (if q=q then _ else _)=_
  rw [if_pos rfl];rfl
 | p :: r,q,i,j+1,g,hn,h=>by
  have h':r[j]?=some (q,g):=by simpa using h
  rw [List.map_cons,List.nodup_cons] at hn
  show (if p.1=q then _ else _)=_
  rw [if_neg (fun e=>hn.1 (by rw [e];exact List.mem_map.2 ⟨_,List.mem_of_getElem? h',rfl⟩)),z7ay r q i j g hn.2 h']
  rfl
def z1t (k:Int)(l:List Sn):Nat→List (Sp×List Nat)
 | 0=>[]
 | i+1=>match l[i]? with
  | some x=>ad (z1t k l i) (z2g k x) i
  | none=>z1t k l i
theorem z1i {k:Int}{l:List Sn}{i:Nat}{x:Sn}(h:l[i]?=some x):z1t k l (i+1)=ad (z1t k l i) (z2g k x) i:=by
 show (match l[i]? with | some x=>_ | none=>_)=_
 rw [h]
theorem z8m:∀ (ks:List (Sp×List Nat))(q:Sp)(i:Nat),(∀ x,x∈(ad ks q i).map (·.1)↔x∈ks.map (·.1)∨x=q)∧((ks.map (·.1)).Nodup→((ad ks q i).map (·.1)).Nodup)
 | [],q,i=>⟨fun x=>by simp [ad],fun _=>by simp [ad]⟩
 | p :: r,q,i=>by
  obtain ⟨h1,h2⟩:=z8m r q i
  by_cases e:p.1=q
  ·have h:ad (p :: r) q i=(q,p.2++[i]) :: r:=by show (if p.1=q then _ else _)=_;rw [if_pos e]
   rw [h];refine ⟨fun x=>?_,fun hn=>?_⟩
   ·simp only [List.map_cons,List.mem_cons];rw [e];constructor
    ·rintro (h | h)
     ·exact .inr h
     ·exact .inl (.inr h)
    ·rintro ((h | h) | h)
     ·exact .inl h
     ·exact .inr h
     ·exact .inl h
   ·rw [List.map_cons] at hn ⊢
    rw [← e];exact hn
  ·have h:ad (p :: r) q i=p :: ad r q i:=by show (if p.1=q then _ else _)=_;rw [if_neg e]
   rw [h];refine ⟨fun x=>?_,fun hn=>?_⟩
   ·simp only [List.map_cons,List.mem_cons,h1];constructor
    ·rintro (h | h | h)
     ·exact .inl (.inl h)
     ·exact .inl (.inr h)
     ·exact .inr h
    ·rintro ((h | h) | h)
     ·exact .inl h
     ·exact .inr (.inl h)
     ·exact .inr (.inr h)
   ·rw [List.map_cons,List.nodup_cons] at hn ⊢
    refine ⟨fun hm=>?_,h2 hn.2⟩
    rcases (h1 _).1 hm with h | h
    ·exact hn.1 h
    ·exact e h
theorem z2d (k:Int)(l:List Sn):∀ i,((z1t k l i).map (·.1)).Nodup
 | 0=>List.nodup_nil
 | i+1=>by
  show (((match l[i]? with | some x=>_ | none=>_):List (Sp×List Nat)).map (·.1)).Nodup
  split
  ·exact (z8m _ _ _).2 (z2d k l i)
  ·exact z2d k l i
theorem z2bl:∀ (ks:List (Sp×List Nat))(q:Sp)(i m:Nat),(∀ p∈ks,p.2.length≤m)→(∀ p∈ad ks q i,p.2.length≤m+1)∧(ad ks q i).length≤ks.length+1
 | [],q,i,m,_=>⟨fun p hp=>by
   have:p=(q,[i]):=by simpa [ad] using hp
   rw [this]
   show 1≤m+1
   omega,zqj _⟩
 | p :: r,q,i,m,h=>by
  obtain ⟨h1,h2⟩:=z2bl r q i m fun p hp=>h p (List.mem_cons_of_mem _ hp)
  show (∀ x∈(if p.1=q then (q,p.2++[i]) :: r else p :: ad r q i),x.2.length≤m+1)∧(if p.1=q then (q,p.2++[i]) :: r else p :: ad r q i).length≤_
  have h0:=h p List.mem_cons_self
  split
  ·refine ⟨fun x hx=>?_,by simp⟩
   rcases List.mem_cons.1 hx with rfl | hx
   ·show (p.2++[i]).length≤m+1
    rw [zqm];exact Nat.succ_le_succ h0
   ·have:=h x (List.mem_cons_of_mem _ hx);omega
  ·refine ⟨fun x hx=>?_,by simp only [List.length_cons];omega⟩
   rcases List.mem_cons.1 hx with rfl | hx
   ·omega
   ·exact h1 x hx
theorem z4i (k:Int)(l:List Sn):∀ i,(∀ p∈z1t k l i,p.2.length≤i)∧(z1t k l i).length≤i
 | 0=>⟨fun p hp=>(by cases hp),zqj _⟩
 | i+1=>by
  obtain ⟨h1,h2⟩:=z4i k l i
  show (∀ p∈((match l[i]? with | some x=>ad (z1t k l i) (z2g k x) i | none=>z1t k l i):List (Sp×List Nat)),p.2.length≤i+1)∧((match l[i]? with | some x=>ad (z1t k l i) (z2g k x) i | none=>z1t k l i):List (Sp×List Nat)).length≤i+1
  split
  ·obtain ⟨a,b⟩:=z2bl (z1t k l i) (z2g k ‹Sn›) i i h1
   exact ⟨a,by omega⟩
  ·exact ⟨fun p hp=>by have:=h1 p hp;omega,by omega⟩
end Cl
def Rw.sl (r:Rw):Value:=.slice r.A r.n r.c
def z3w (Ao:Option Addr)(co:Nat)(inn:List Rw):Rw:=⟨Ao,inn.length,co,22,inn.map Rw.sl⟩
structure Gm (w0 w:World)(L:List Ob)(mb:Nat)(es:Array MapEntry)(ck:Nat)(O:List Rw):Prop where
 ow:Ow w0 w none [] L O
 mp:w.heap[mb]?=some (.map es ck)
 lo:w0.heap.size≤mb
 nl:∀ o∈L,∀ a,o.A=some a→0<o.n→mb≠a.block
 no:∀ (j:Nat) (q:Rw),O[j]?=some q→q.blk≠some mb
section
variable {w0 w w':World}{L:List Ob}{mb ck:Nat}{es:Array MapEntry}{O:List Rw}
theorem Gm.lt (h:Gm w0 w L mb es ck O):mb<w.heap.size:=(Array.getElem?_eq_some_iff.1 h.mp).1
theorem Gm.go (h:Gm w0 w L mb es ck O)(hb:Below w.heap.size w w'):Gm w0 w' L mb es ck O:=⟨h.ow.go hb,(hb.block mb h.lt).trans h.mp,h.lo,h.nl,h.no⟩
theorem Gm.app (h:Gm w0 w L mb es ck O){r:Rw}(ho:Ow w0 w' none [] L (O++[r]))(hb:Below w.heap.size w w')(hr:∀ b,r.blk=some b→w.heap.size≤b):Gm w0 w' L mb es ck (O++[r]):=
 ⟨ho,(hb.block mb h.lt).trans h.mp,h.lo,h.nl,fun j q hj e=>by
  rcases zqi j O.length with h1 | h1
  ·rw [zqn h1] at hj;exact h.no j q hj e
  ·rw [zqo h1] at hj;have h2:j - O.length=0:=by have:=z0e hj;simp at this;omega
   rw [h2] at hj;obtain rfl:r=q:=by simpa using hj
   have:=hr mb e
   have:=h.lt
   omega⟩
theorem Gm.nil (h:Gm w0 w L mb es ck O)(e:TypeId):Gm w0 w L mb es ck (O++[⟨none,0,0,e,[]⟩]):=h.app (h.ow.nil e) (Below.refl _ _) fun b e=>by cases e
theorem Gm.turn (h:Gm w0 w L mb es ck O)(i:Nat){r r':Rw}(hi:O[i]?=some r)(hg:w.grownBy w' r.blk)(ho:w'.ownsRow w0.heap.size r'.e 1 (.slice r'.A r'.n r'.c) r'.n r'.vs)(hb:r'.blk=r.blk∨r'.blk=some w.heap.size):Gm w0 w' L mb es ck (O.set i r'):=
 ⟨h.ow.turn i hi hg ho hb,(hg.block mb h.lt (fun e=>h.no i r hi e.symm)).trans h.mp,h.lo,h.nl,fun j q hj e=>by
  by_cases hji:j=i
  ·subst hji
   rw [List.getElem?_set_self (z0e hi)] at hj
   obtain rfl:r'=q:=by simpa using hj
   rcases hb with e1 | e1
   ·exact h.no j r hi (by rw [← e1];exact e)
   ·rw [e] at e1;have:=zqk e1
    have:=h.lt
    omega
  ·rw [zqf (fun e'=>hji e'.symm)] at hj
   exact h.no j q hj e⟩
theorem Gm.put (h:Gm w0 w L mb es ck O)(i:Nat){gb n c:Nat}{e:TypeId}{vs:List Value}(hi:O[i]?=some ⟨some ⟨gb,0,none⟩,n,c,e,vs⟩)(k:Nat)(v:Value):Gm w0 (w.setCell ⟨gb,k,none⟩ v) L mb es ck (O.set i ⟨some ⟨gb,0,none⟩,n,c,e,vs.set k v⟩):=
 h.turn i hi (r':=⟨some ⟨gb,0,none⟩,n,c,e,vs.set k v⟩) (z0d _ _ _) (z1v (h.ow.own i _ hi) k v) (.inl rfl)
theorem Gm.few {l:List Rw}(h:Gm w0 w L mb es ck (O++l)):Gm w0 w L mb es ck O:=⟨h.ow.fewO,h.mp,h.lo,h.nl,fun j q hj=>h.no j q (by rw [zqn (z0e hj)];exact hj)⟩
theorem Gm.store (h:Gm w0 w L mb es ck O)(es':Array MapEntry)(ck':Nat):Gm w0 (setBlock w mb (.map es' ck')) L mb es' ck' O:=by
 have hg:w.grownBy (setBlock w mb (.map es' ck')) (some mb):=⟨rfl,rfl,rfl,by simp [setBlock],fun k _ hne=>heap_setBlock_other h.mp _ (fun e=>hne (by rw [e]))⟩
 exact ⟨h.ow.off hg fun b e=>by
  obtain rfl:=zqk e
  exact ⟨h.lo,by simp,fun j k v hj=>by simp at hj,h.nl,h.no⟩,heap_setBlock_same h.mp _,h.lo,h.nl,h.no⟩
theorem z5o {P:Program}{t e:TypeId}{z:Value}{bytes:Nat}{ops:Array Oper}{rest:List Oper}{o:Oper}{a:Act}{Q:Exit→Act→World→Prop}(hE:Elem P t e z bytes)(h:Gm w0 w L mb es ck O)(i:Nat)(s x:Operand)(v:Value)(tt:TypeId){A:Option Addr}{n c:Nat}{xs:List Value}(hi:O[i]?=some ⟨A,n,c,e,xs⟩)
  (h1:v.oneCell'=true) (h63:n+1≤maxLen) (hbytes:(n+1)*bytes≤140737488355328)
  (hgd:o.guard=none) (ho:o.op=.call { callee:=.builtin .append,args:=#[s,x],argTypes:=#[t,t] }) (hs:a.eval s=.slice A n c) (hx:a.eval x=.slice (some ⟨w.heap.size,0,none⟩) 1 1)
  (hk:∀ A' c' w',Gm w0 w' L mb es ck (O.set i ⟨A',n+1,c',e,xs++[v]⟩)→wpList P ops Q rest (a.put o.dst (.slice A' (n+1) c')) w'):wpList P ops Q (o :: rest) a (w.alloc (.cells #[v] tt)):=by
 obtain ⟨ht,hzc,inf,hi0,hz,hsz,hby⟩:=hE;have h':=h.go (z0i w (.cells #[v] tt))
 exact z0h _ hgd s x t ho w0.heap.size e inf z bytes ht hi0 hz hsz hby (by rw [hzc];rfl) A n c xs hs (h'.ow.own i _ hi) (w.heap.size+1) (some ⟨w.heap.size,0,none⟩) 1 1 [v] hx rfl (z2h w tt v) (fun u hu=>by rw [List.mem_singleton] at hu;subst hu;exact h1) h63 hbytes h'.ow.size fun A' c' w' h2 h3 h4=>
  hk A' c' w' (h'.turn i hi (r':=⟨A',n+1,c',e,xs++[v]⟩) h3 h2 h4)
end
theorem z8bb:(Tryz.prog.info? 22).map (fun i=>(i.zero,i.size,i.bytes))=some (some (.slice none 0 0),1,24):=by kernel_rfl
theorem z8be:Elem Tryz.prog 62 22 (.slice none 0 0) 24:=by
 obtain ⟨i0,hi,hz0,hz1,hz2⟩:=info_parts z8bb
 exact ⟨Tryz.underlying62,rfl,i0,hi,hz0,hz1,hz2⟩
def GrR (w:World)(gs:List (Sp×List Nat))(en:Ending)(w':World):Prop:=
 ∃ (Ao:Option Addr) (co:Nat) (inn:List Rw),en=.returned (.slice Ao inn.length co)∧inn.map (·.vs)=gs.map (fun p=>z0c p.2)∧(∀ r∈inn,r.e=3)∧Ow w w' none [] [] (z3w Ao co inn :: inn)
def SumOk (l:List Int)(i:Nat)(s:Int):Prop:=s=(l.take i).sum∧∀ x∈l.take i,0≤x∧x≤12
theorem z4ak {l:List Int}{i:Nat}{x:Int}(hx:l[i]?=some x):l.take (i+1)=l.take i++[x]:=by rw [List.take_add_one,hx];rfl
theorem SumOk.step {l:List Int}{i:Nat}{s x:Int}(h:SumOk l i s)(hx:l[i]?=some x)(h0:0≤x)(h1:x≤12):SumOk l (i+1) (s+x):=by
 unfold SumOk;rw [z4ak hx];refine ⟨by rw [List.sum_append,← h.1];simp,fun y hy=>?_⟩
 rcases List.mem_append.1 hy with h2 | h2
 ·exact h.2 y h2
 ·rw [List.mem_singleton] at h2;rw [h2];exact ⟨h0,h1⟩
theorem z8r:∀ (l:List Int),(∀ x∈l,0≤x∧x≤12)→0≤l.sum∧l.sum≤12*(l.length:Int)
 | [],_=>by simp
 | x :: l,h=>by
  obtain ⟨h1,h2⟩:=z8r l fun y hy=>h y (List.mem_cons_of_mem _ hy)
  have h3:=h x List.mem_cons_self
  rw [List.sum_cons,List.length_cons];omega
theorem SumOk.range {l:List Int}{i:Nat}{s:Int}(h:SumOk l i s)(hi:i≤6):0≤s∧s≤72:=by
 have h1:=z8r _ h.2
 rw [← h.1] at h1;have h2:(l.take i).length≤i:=by rw [zqw];omega
 omega
namespace Cl
set_option maxHeartbeats 8000000
def shV (s:Pl):Prop:=(0≤s.so∧s.so≤12)∧(0≤s.ch∧s.ch≤12)∧(0≤s.ra∧s.ra≤12)∧(0≤s.ba∧s.ba≤12)∧(0≤s.ro∧s.ro≤12)∧(0≤s.co∧s.co≤12)∧s.so+s.ch+s.ra+s.ba+s.ro+s.co≤12
instance (s:Pl):Decidable (shV s):=inferInstanceAs (Decidable (_∧_))
theorem z2q {s:Pl}{i:Nat}{x:Int}(hx:s.l[i]?=some x)(h:x<0∨12<x):decide (shV s)=false:=by
 refine zn fun e=>?_
 have hm:=List.mem_of_getElem? hx
 obtain ⟨⟨a1,a2⟩,⟨b1,b2⟩,⟨c1,c2⟩,⟨d1,d2⟩,⟨e1,e2⟩,⟨f1,f2⟩,_⟩:=e
 unfold Pl.l at hm;simp only [List.mem_cons,List.mem_nil_iff,or_false] at hm;rcases hm with rfl | rfl | rfl | rfl | rfl | rfl <;> omega
theorem z3be {s:Pl}{z:Int}(h:SumOk s.l 6 z):decide (shV s)=decide (z≤12):=by
 obtain ⟨so,ch,ra,ba,ro,co⟩:=s;obtain ⟨h1,h2⟩:=h;have e:(Pl.l ⟨so,ch,ra,ba,ro,co⟩).take 6=[so,ch,ra,ba,ro,co]:=rfl
 rw [e] at h1 h2;simp only [List.sum_cons,List.sum_nil] at h1;have a1:=h2 so (by simp)
 have a2:=h2 ch (by simp)
 have a3:=h2 ra (by simp)
 have a4:=h2 ba (by simp)
 have a5:=h2 ro (by simp)
 have a6:=h2 co (by simp)
 by_cases hz:z≤12
 ·rw [zt hz];exact zt ⟨a1,a2,a3,a4,a5,a6,by show so+ch+ra+ba+ro+co≤12;omega⟩
 ·rw [zn hz];exact zn fun ⟨_,_,_,_,_,_,e⟩=>by
   have e':so+ch+ra+ba+ro+co≤12:=e
   omega
end Cl
theorem z7b (s:Pl)(w:World):
  Calls Tryz.prog 69 #[.agg s.vs] w fun e w'=>e=.returned (.agg s.vs)∧Below w.heap.size w w':=by
 obtain ⟨so,ch,ra,ba,ro,co⟩:=s;unfold Pl.vs;have H:=((Ow.of (St.refl w)).arr #[.int .i64 so,.int .i64 ch,.int .i64 ra,.int .i64 ba,.int .i64 ro,.int .i64 co] 6 rfl (by omega) 33).arr #[.int .i64 so,.int .i64 ch,.int .i64 ra,.int .i64 ba,.int .i64 ro,.int .i64 co] 6 rfl (by omega) 103
 simp only [zqc,zqb,World.size_alloc] at H;obtain ⟨c0,c1,c2,c3,c4,c5⟩:=zc6 (H.row 1 rfl);go_enter Tryz.func69,Tryz.ntmps69
 go_wp2_with fail;refine bodyPost_ret (v:=.agg #[.int .i64 so,.int .i64 ch,.int .i64 ra,.int .i64 ba,.int .i64 ro,.int .i64 co]) (by simp [results,Tryz.results69,go_sem,c0,c1,c2,c3,c4,c5]) rfl ?_
 exact ⟨rfl,H.below⟩
theorem z0ap (s:Pl)(w:World):
  Calls Tryz.prog 116 #[.agg s.vs] w fun e w'=>e=.returned (.agg s.vs)∧Below w.heap.size w w':=by
 obtain ⟨so,ch,ra,ba,ro,co⟩:=s;unfold Pl.vs;have H:=((Ow.of (St.refl w)).arr #[.int .i64 so,.int .i64 ch,.int .i64 ra,.int .i64 ba,.int .i64 ro,.int .i64 co] 6 rfl (by omega) 38).arr #[.int .i64 so,.int .i64 ch,.int .i64 ra,.int .i64 ba,.int .i64 ro,.int .i64 co] 6 rfl (by omega) 103
 simp only [zqc,zqb,World.size_alloc] at H;obtain ⟨c0,c1,c2,c3,c4,c5⟩:=zc6 (H.row 1 rfl);go_enter Tryz.func116,Tryz.ntmps116
 go_wp2_with fail;refine bodyPost_ret (v:=.agg #[.int .i64 so,.int .i64 ch,.int .i64 ra,.int .i64 ba,.int .i64 ro,.int .i64 co]) (by simp [results,Tryz.results116,go_sem,c0,c1,c2,c3,c4,c5]) rfl ?_
 exact ⟨rfl,H.below⟩
theorem z3p (xs:List Value)(k:Nat)(v:Value)(hk:k<6)(hv:xs[k]?=some v)(w:World):(Instr.index 103 (.agg xs.toArray) (.int .i64 (k:Int))).run Tryz.prog w=.ok v w:=by
 have h0:(0:Int)≤(k:Int)∧(k:Int)<6:=by omega
 simp [Instr.index,run_underlying Tryz.underlying103,asIntOf,h0,hv,go_sem]
 intro h;omega
def z5bp (p:Pl)(w1:World)(y x:Value)(wr:World):Prop:=
 ∃ (i:Nat) (s:Int),i≤6∧x=.int .i64 (i:Int)∧y=.int .i64 s∧w1=wr∧Hid (SumOk p.l i s)
theorem z4l (s:Pl)(w:World):
  Calls Tryz.prog 38 #[.agg s.vs] w fun e w'=>e=.returned (.bool (decide (shV s)))∧Below w.heap.size w w':=by
 have HW:=zh (z7b s)
 obtain ⟨res,hres⟩:∃ r,decide (shV s)=r:=⟨_,rfl⟩
 have HR:=zh hres;rw [hres];clear hres;obtain ⟨so,ch,ra,ba,ro,co⟩:=s;unfold Pl.vs at *
 go_enter Tryz.func38,Tryz.ntmps38
 go_wp2_with fail;refine (HW.out _).mono ?_
 rintro e w1 ⟨rfl,hb⟩;have H:=((Ow.of (St.refl w)).arr #[.int .i64 so,.int .i64 ch,.int .i64 ra,.int .i64 ba,.int .i64 ro,.int .i64 co] 6 rfl (by omega) 33).go hb
 have HB:=zh H.below;clear H hb HW;go_wp2_with fail;go_loopw [3,8] (fun y x wr=>z5bp ⟨so,ch,ra,ba,ro,co⟩ w1 y x wr) (fun _ x _=>6 - (intOf x).toNat)
 case atStart=>exact ⟨0,0,by omega,rfl,rfl,rfl,rfl,fun x hx=>by cases hx⟩
 case round=>
  obtain ⟨i,s,hi,rfl,rfl,rfl,hI⟩:=hrel;have hI0:=hI.out;have hcase:i=0∨i=1∨i=2∨i=3∨i=4∨i=5∨i=6:=by omega
  clear hI hi;rcases hcase with rfl | rfl | rfl | rfl | rfl | rfl | rfl
  ·have HI:=zh hI0;have hs:0≤s∧s≤72:=hI0.range (by omega)
   have hidx:∀ W:World,(Instr.index 103 (.agg #[.int .i64 so,.int .i64 ch,.int .i64 ra,.int .i64 ba,.int .i64 ro,.int .i64 co]) (.int .i64 0)).run Tryz.prog W=.ok (.int .i64 so) W:=fun W=>z3p [.int .i64 so,.int .i64 ch,.int .i64 ra,.int .i64 ba,.int .i64 ro,.int .i64 co] 0 _ (by omega) rfl W
   clear hI0;rcases Int.lt_or_le so 0 with h | h
   ·have t1:decide (so<0)=true:=zt h
    have hf:res=false:=by rw [← HR.out];exact z2q (i:=0) rfl (.inl h)
    have HF:=zh hf;clear h hf;go_wp2_with fail;go_ret;exact ⟨by rw [HF.out];rfl,HB.out⟩
   ·have t1:decide (so<0)=false:=zn (by omega)
    rcases Int.lt_or_le 12 so with h2 | h2
    ·have t2:decide (12<so)=true:=zt h2
     have hf:res=false:=by rw [← HR.out];exact z2q (i:=0) rfl (.inr h2)
     have HF:=zh hf;clear h h2 hf;go_wp2_with fail;go_ret;exact ⟨by rw [HF.out];rfl,HB.out⟩
    ·have t2:decide (12<so)=false:=zn (by omega)
     have HP:=zh (And.intro h h2)
     have tw:IntKind.i64.wrap (s+so)=s+so:=IntWalk.i64_in _ (by omega)
     clear h h2;go_wp2_with fail;go_roundw
     case rel=>exact ⟨1,s+so,by omega,rfl,rfl,rfl,HI.out.step rfl HP.out.1 HP.out.2⟩
     case measure=>simp [intOf]
  ·have HI:=zh hI0;have hs:0≤s∧s≤72:=hI0.range (by omega)
   have hidx:∀ W:World,(Instr.index 103 (.agg #[.int .i64 so,.int .i64 ch,.int .i64 ra,.int .i64 ba,.int .i64 ro,.int .i64 co]) (.int .i64 1)).run Tryz.prog W=.ok (.int .i64 ch) W:=fun W=>z3p [.int .i64 so,.int .i64 ch,.int .i64 ra,.int .i64 ba,.int .i64 ro,.int .i64 co] 1 _ (by omega) rfl W
   clear hI0;rcases Int.lt_or_le ch 0 with h | h
   ·have t1:decide (ch<0)=true:=zt h
    have hf:res=false:=by rw [← HR.out];exact z2q (i:=1) rfl (.inl h)
    have HF:=zh hf;clear h hf;go_wp2_with fail;go_ret;exact ⟨by rw [HF.out];rfl,HB.out⟩
   ·have t1:decide (ch<0)=false:=zn (by omega)
    rcases Int.lt_or_le 12 ch with h2 | h2
    ·have t2:decide (12<ch)=true:=zt h2
     have hf:res=false:=by rw [← HR.out];exact z2q (i:=1) rfl (.inr h2)
     have HF:=zh hf;clear h h2 hf;go_wp2_with fail;go_ret;exact ⟨by rw [HF.out];rfl,HB.out⟩
    ·have t2:decide (12<ch)=false:=zn (by omega)
     have HP:=zh (And.intro h h2)
     have tw:IntKind.i64.wrap (s+ch)=s+ch:=IntWalk.i64_in _ (by omega)
     clear h h2;go_wp2_with fail;go_roundw
     case rel=>exact ⟨2,s+ch,by omega,rfl,rfl,rfl,HI.out.step rfl HP.out.1 HP.out.2⟩
     case measure=>simp [intOf]
  ·have HI:=zh hI0;have hs:0≤s∧s≤72:=hI0.range (by omega)
   have hidx:∀ W:World,(Instr.index 103 (.agg #[.int .i64 so,.int .i64 ch,.int .i64 ra,.int .i64 ba,.int .i64 ro,.int .i64 co]) (.int .i64 2)).run Tryz.prog W=.ok (.int .i64 ra) W:=fun W=>z3p [.int .i64 so,.int .i64 ch,.int .i64 ra,.int .i64 ba,.int .i64 ro,.int .i64 co] 2 _ (by omega) rfl W
   clear hI0;rcases Int.lt_or_le ra 0 with h | h
   ·have t1:decide (ra<0)=true:=zt h
    have hf:res=false:=by rw [← HR.out];exact z2q (i:=2) rfl (.inl h)
    have HF:=zh hf;clear h hf;go_wp2_with fail;go_ret;exact ⟨by rw [HF.out];rfl,HB.out⟩
   ·have t1:decide (ra<0)=false:=zn (by omega)
    rcases Int.lt_or_le 12 ra with h2 | h2
    ·have t2:decide (12<ra)=true:=zt h2
     have hf:res=false:=by rw [← HR.out];exact z2q (i:=2) rfl (.inr h2)
     have HF:=zh hf;clear h h2 hf;go_wp2_with fail;go_ret;exact ⟨by rw [HF.out];rfl,HB.out⟩
    ·have t2:decide (12<ra)=false:=zn (by omega)
     have HP:=zh (And.intro h h2)
     have tw:IntKind.i64.wrap (s+ra)=s+ra:=IntWalk.i64_in _ (by omega)
     clear h h2;go_wp2_with fail;go_roundw
     case rel=>exact ⟨3,s+ra,by omega,rfl,rfl,rfl,HI.out.step rfl HP.out.1 HP.out.2⟩
     case measure=>simp [intOf]
  ·have HI:=zh hI0;have hs:0≤s∧s≤72:=hI0.range (by omega)
   have hidx:∀ W:World,(Instr.index 103 (.agg #[.int .i64 so,.int .i64 ch,.int .i64 ra,.int .i64 ba,.int .i64 ro,.int .i64 co]) (.int .i64 3)).run Tryz.prog W=.ok (.int .i64 ba) W:=fun W=>z3p [.int .i64 so,.int .i64 ch,.int .i64 ra,.int .i64 ba,.int .i64 ro,.int .i64 co] 3 _ (by omega) rfl W
   clear hI0;rcases Int.lt_or_le ba 0 with h | h
   ·have t1:decide (ba<0)=true:=zt h
    have hf:res=false:=by rw [← HR.out];exact z2q (i:=3) rfl (.inl h)
    have HF:=zh hf;clear h hf;go_wp2_with fail;go_ret;exact ⟨by rw [HF.out];rfl,HB.out⟩
   ·have t1:decide (ba<0)=false:=zn (by omega)
    rcases Int.lt_or_le 12 ba with h2 | h2
    ·have t2:decide (12<ba)=true:=zt h2
     have hf:res=false:=by rw [← HR.out];exact z2q (i:=3) rfl (.inr h2)
     have HF:=zh hf;clear h h2 hf;go_wp2_with fail;go_ret;exact ⟨by rw [HF.out];rfl,HB.out⟩
    ·have t2:decide (12<ba)=false:=zn (by omega)
     have HP:=zh (And.intro h h2)
     have tw:IntKind.i64.wrap (s+ba)=s+ba:=IntWalk.i64_in _ (by omega)
     clear h h2;go_wp2_with fail;go_roundw
     case rel=>exact ⟨4,s+ba,by omega,rfl,rfl,rfl,HI.out.step rfl HP.out.1 HP.out.2⟩
     case measure=>simp [intOf]
  ·have HI:=zh hI0;have hs:0≤s∧s≤72:=hI0.range (by omega)
   have hidx:∀ W:World,(Instr.index 103 (.agg #[.int .i64 so,.int .i64 ch,.int .i64 ra,.int .i64 ba,.int .i64 ro,.int .i64 co]) (.int .i64 4)).run Tryz.prog W=.ok (.int .i64 ro) W:=fun W=>z3p [.int .i64 so,.int .i64 ch,.int .i64 ra,.int .i64 ba,.int .i64 ro,.int .i64 co] 4 _ (by omega) rfl W
   clear hI0;rcases Int.lt_or_le ro 0 with h | h
   ·have t1:decide (ro<0)=true:=zt h
    have hf:res=false:=by rw [← HR.out];exact z2q (i:=4) rfl (.inl h)
    have HF:=zh hf;clear h hf;go_wp2_with fail;go_ret;exact ⟨by rw [HF.out];rfl,HB.out⟩
   ·have t1:decide (ro<0)=false:=zn (by omega)
    rcases Int.lt_or_le 12 ro with h2 | h2
    ·have t2:decide (12<ro)=true:=zt h2
     have hf:res=false:=by rw [← HR.out];exact z2q (i:=4) rfl (.inr h2)
     have HF:=zh hf;clear h h2 hf;go_wp2_with fail;go_ret;exact ⟨by rw [HF.out];rfl,HB.out⟩
    ·have t2:decide (12<ro)=false:=zn (by omega)
     have HP:=zh (And.intro h h2)
     have tw:IntKind.i64.wrap (s+ro)=s+ro:=IntWalk.i64_in _ (by omega)
     clear h h2;go_wp2_with fail;go_roundw
     case rel=>exact ⟨5,s+ro,by omega,rfl,rfl,rfl,HI.out.step rfl HP.out.1 HP.out.2⟩
     case measure=>simp [intOf]
  ·have HI:=zh hI0;have hs:0≤s∧s≤72:=hI0.range (by omega)
   have hidx:∀ W:World,(Instr.index 103 (.agg #[.int .i64 so,.int .i64 ch,.int .i64 ra,.int .i64 ba,.int .i64 ro,.int .i64 co]) (.int .i64 5)).run Tryz.prog W=.ok (.int .i64 co) W:=fun W=>z3p [.int .i64 so,.int .i64 ch,.int .i64 ra,.int .i64 ba,.int .i64 ro,.int .i64 co] 5 _ (by omega) rfl W
   clear hI0;rcases Int.lt_or_le co 0 with h | h
   ·have t1:decide (co<0)=true:=zt h
    have hf:res=false:=by rw [← HR.out];exact z2q (i:=5) rfl (.inl h)
    have HF:=zh hf;clear h hf;go_wp2_with fail;go_ret;exact ⟨by rw [HF.out];rfl,HB.out⟩
   ·have t1:decide (co<0)=false:=zn (by omega)
    rcases Int.lt_or_le 12 co with h2 | h2
    ·have t2:decide (12<co)=true:=zt h2
     have hf:res=false:=by rw [← HR.out];exact z2q (i:=5) rfl (.inr h2)
     have HF:=zh hf;clear h h2 hf;go_wp2_with fail;go_ret;exact ⟨by rw [HF.out];rfl,HB.out⟩
    ·have t2:decide (12<co)=false:=zn (by omega)
     have HP:=zh (And.intro h h2)
     have tw:IntKind.i64.wrap (s+co)=s+co:=IntWalk.i64_in _ (by omega)
     clear h h2;go_wp2_with fail;go_roundw
     case rel=>exact ⟨6,s+co,by omega,rfl,rfl,rfl,HI.out.step rfl HP.out.1 HP.out.2⟩
     case measure=>simp [intOf]
  ·have HI:=zh hI0;have he:res=decide (s≤12):=by rw [← HR.out];exact z3be hI0
   have HF:=zh he;clear hI0 he;go_wp2_with fail;go_ret;exact ⟨by rw [HF.out];rfl,HB.out⟩
theorem z4u {b:Nat}(h:b≤12):wrap64 (2 ^ b)=(2:Int) ^ b:=by
 have:b=0∨b=1∨b=2∨b=3∨b=4∨b=5∨b=6∨b=7∨b=8∨b=9∨b=10∨b=11∨b=12:=by omega
 rcases this with rfl | rfl | rfl | rfl | rfl | rfl | rfl | rfl | rfl | rfl | rfl | rfl | rfl <;> decide +kernel
namespace Cl
set_option maxHeartbeats 8000000
def bt (k:Int)(s:Pl):Int:=if k=1 then s.ra+s.ba+s.ro+s.co else if k=2 then s.ra+s.ba+s.ro else if k=3 then s.ra+s.ba+s.co else if k=4 then s.ra+s.ba else if k=5 then s.ra else 0
def prt (k:Int)(s:Pl):Int:=if kd k then 2 ^ (bt k s).toNat else 0
theorem z8z {k:Int}{s:Pl}{b:Nat}(hk:kd k)(h:bt k s=(b:Int)):prt k s=2 ^ b:=by
 unfold prt;rw [if_pos hk,h];rfl
end Cl
theorem z2x {so ch ra ba ro co:Nat}(h:so+ch+ra+ba+ro+co≤12):shV ⟨(so:Int),ch,ra,ba,ro,co⟩:=
 ⟨⟨Int.natCast_nonneg so,by show (so:Int)≤12;omega⟩,⟨Int.natCast_nonneg ch,by show (ch:Int)≤12;omega⟩,⟨Int.natCast_nonneg ra,by show (ra:Int)≤12;omega⟩,⟨Int.natCast_nonneg ba,by show (ba:Int)≤12;omega⟩,⟨Int.natCast_nonneg ro,by show (ro:Int)≤12;omega⟩,⟨Int.natCast_nonneg co,by show (co:Int)≤12;omega⟩,by show (so:Int)+ch+ra+ba+ro+co≤12;omega⟩
theorem z5ai {s:Pl}(h:shV s):∃ so ch ra ba ro co:Nat,s=⟨(so:Int),ch,ra,ba,ro,co⟩∧so+ch+ra+ba+ro+co≤12:=by
 obtain ⟨so,ch,ra,ba,ro,co⟩:=s;obtain ⟨⟨a1,_⟩,⟨b1,_⟩,⟨c1,_⟩,⟨d1,_⟩,⟨e1,_⟩,⟨f1,_⟩,hs⟩:=h
 simp only at a1 b1 c1 d1 e1 f1 hs
 obtain ⟨a,rfl⟩:=Int.eq_ofNat_of_zero_le a1
 obtain ⟨b,rfl⟩:=Int.eq_ofNat_of_zero_le b1
 obtain ⟨c,rfl⟩:=Int.eq_ofNat_of_zero_le c1
 obtain ⟨d,rfl⟩:=Int.eq_ofNat_of_zero_le d1
 obtain ⟨e,rfl⟩:=Int.eq_ofNat_of_zero_le e1
 obtain ⟨f,rfl⟩:=Int.eq_ofNat_of_zero_le f1
 exact ⟨a,b,c,d,e,f,rfl,by omega⟩
theorem z4bd (so ch ra ba ro co:Nat)(hs:so+ch+ra+ba+ro+co≤12)(b:Nat)(hb:ra+ba+ro+co=b)(w:World):
  Calls Tryz.prog 18 #[.agg #[.int .i64 (so:Int),.int .i64 (ch:Int),.int .i64 (ra:Int),.int .i64 (ba:Int),.int .i64 (ro:Int),.int .i64 (co:Int)],.int .i64 1] w fun e w'=>e=.returned (.int .i64 (2 ^ b))∧Below w.heap.size w w':=by
 have hb12:b≤12:=by omega
 have HW2:=zh (z4u hb12)
 have t2:IntKind.i64.wrap ((ra:Int)+(ba:Int))=(ra:Int)+(ba:Int):=IntWalk.i64_in _ (by omega)
 have t3:IntKind.i64.wrap ((ra:Int)+(ba:Int)+(ro:Int))=(ra:Int)+(ba:Int)+(ro:Int):=IntWalk.i64_in _ (by omega)
 have t4:IntKind.i64.wrap ((ra:Int)+(ba:Int)+(ro:Int)+(co:Int))=(b:Int):=by rw [IntWalk.i64_in _ (by omega)];omega
 have t9:IntKind.u64.wrap (b:Int)=(b:Int):=IntWalk.u64_in _ (by omega)
 have H:=(Ow.of (St.refl w)).arr #[.int .i64 (so:Int),.int .i64 (ch:Int),.int .i64 (ra:Int),.int .i64 (ba:Int),.int .i64 (ro:Int),.int .i64 (co:Int)] 6 rfl (by omega) 33
 simp only [zqc] at H;have HV:=zh (fun W=>z4l ⟨(so:Int),ch,ra,ba,ro,co⟩ W)
 rw [zt (z2x hs)] at HV
 unfold Pl.vs at HV;obtain ⟨a0,a1,a2,a3,a4,a5⟩:=zc6 (H.row 0 rfl);clear hb hs;go_enter Tryz.func18,Tryz.ntmps18
 go_wp2_with fail;refine (HV.out _).mono ?_
 rintro e w1 ⟨rfl,hb⟩;clear a0 a1 a2 a3 a4 a5;have H1:=H.go hb
 obtain ⟨a0,a1,a2,a3,a4,a5⟩:=zc6 (H1.row 0 rfl);go_wp2_with fail;go_ret;exact ⟨congrArg (fun z=>Ending.returned (.int .i64 z)) HW2.out,H1.below⟩
theorem z4bc (so ch ra ba ro co:Nat)(hs:so+ch+ra+ba+ro+co≤12)(b:Nat)(hb:ra+ba+ro=b)(w:World):
  Calls Tryz.prog 18 #[.agg #[.int .i64 (so:Int),.int .i64 (ch:Int),.int .i64 (ra:Int),.int .i64 (ba:Int),.int .i64 (ro:Int),.int .i64 (co:Int)],.int .i64 2] w fun e w'=>e=.returned (.int .i64 (2 ^ b))∧Below w.heap.size w w':=by
 have hb12:b≤12:=by omega
 have HW2:=zh (z4u hb12)
 have t2:IntKind.i64.wrap ((ra:Int)+(ba:Int))=(ra:Int)+(ba:Int):=IntWalk.i64_in _ (by omega)
 have t3:IntKind.i64.wrap ((ra:Int)+(ba:Int)+(ro:Int))=(b:Int):=by rw [IntWalk.i64_in _ (by omega)];omega
 have t9:IntKind.u64.wrap (b:Int)=(b:Int):=IntWalk.u64_in _ (by omega)
 have H:=(Ow.of (St.refl w)).arr #[.int .i64 (so:Int),.int .i64 (ch:Int),.int .i64 (ra:Int),.int .i64 (ba:Int),.int .i64 (ro:Int),.int .i64 (co:Int)] 6 rfl (by omega) 33
 simp only [zqc] at H;have HV:=zh (fun W=>z4l ⟨(so:Int),ch,ra,ba,ro,co⟩ W)
 rw [zt (z2x hs)] at HV
 unfold Pl.vs at HV;obtain ⟨a0,a1,a2,a3,a4,a5⟩:=zc6 (H.row 0 rfl);clear hb hs;go_enter Tryz.func18,Tryz.ntmps18
 go_wp2_with fail;refine (HV.out _).mono ?_
 rintro e w1 ⟨rfl,hb⟩;clear a0 a1 a2 a3 a4 a5;have H1:=H.go hb
 obtain ⟨a0,a1,a2,a3,a4,a5⟩:=zc6 (H1.row 0 rfl);go_wp2_with fail;go_ret;exact ⟨congrArg (fun z=>Ending.returned (.int .i64 z)) HW2.out,H1.below⟩
theorem z4bb (so ch ra ba ro co:Nat)(hs:so+ch+ra+ba+ro+co≤12)(b:Nat)(hb:ra+ba+co=b)(w:World):
  Calls Tryz.prog 18 #[.agg #[.int .i64 (so:Int),.int .i64 (ch:Int),.int .i64 (ra:Int),.int .i64 (ba:Int),.int .i64 (ro:Int),.int .i64 (co:Int)],.int .i64 3] w fun e w'=>e=.returned (.int .i64 (2 ^ b))∧Below w.heap.size w w':=by
 have hb12:b≤12:=by omega
 have HW2:=zh (z4u hb12)
 have t2:IntKind.i64.wrap ((ra:Int)+(ba:Int))=(ra:Int)+(ba:Int):=IntWalk.i64_in _ (by omega)
 have t3:IntKind.i64.wrap ((ra:Int)+(ba:Int)+(co:Int))=(b:Int):=by rw [IntWalk.i64_in _ (by omega)];omega
 have t9:IntKind.u64.wrap (b:Int)=(b:Int):=IntWalk.u64_in _ (by omega)
 have H:=(Ow.of (St.refl w)).arr #[.int .i64 (so:Int),.int .i64 (ch:Int),.int .i64 (ra:Int),.int .i64 (ba:Int),.int .i64 (ro:Int),.int .i64 (co:Int)] 6 rfl (by omega) 33
 simp only [zqc] at H;have HV:=zh (fun W=>z4l ⟨(so:Int),ch,ra,ba,ro,co⟩ W)
 rw [zt (z2x hs)] at HV
 unfold Pl.vs at HV;obtain ⟨a0,a1,a2,a3,a4,a5⟩:=zc6 (H.row 0 rfl);clear hb hs;go_enter Tryz.func18,Tryz.ntmps18
 go_wp2_with fail;refine (HV.out _).mono ?_
 rintro e w1 ⟨rfl,hb⟩;clear a0 a1 a2 a3 a4 a5;have H1:=H.go hb
 obtain ⟨a0,a1,a2,a3,a4,a5⟩:=zc6 (H1.row 0 rfl);go_wp2_with fail;go_ret;exact ⟨congrArg (fun z=>Ending.returned (.int .i64 z)) HW2.out,H1.below⟩
theorem z4ba (so ch ra ba ro co:Nat)(hs:so+ch+ra+ba+ro+co≤12)(b:Nat)(hb:ra+ba=b)(w:World):
  Calls Tryz.prog 18 #[.agg #[.int .i64 (so:Int),.int .i64 (ch:Int),.int .i64 (ra:Int),.int .i64 (ba:Int),.int .i64 (ro:Int),.int .i64 (co:Int)],.int .i64 4] w fun e w'=>e=.returned (.int .i64 (2 ^ b))∧Below w.heap.size w w':=by
 have hb12:b≤12:=by omega
 have HW2:=zh (z4u hb12)
 have t2:IntKind.i64.wrap ((ra:Int)+(ba:Int))=(b:Int):=by rw [IntWalk.i64_in _ (by omega)];omega
 have t9:IntKind.u64.wrap (b:Int)=(b:Int):=IntWalk.u64_in _ (by omega)
 have H:=(Ow.of (St.refl w)).arr #[.int .i64 (so:Int),.int .i64 (ch:Int),.int .i64 (ra:Int),.int .i64 (ba:Int),.int .i64 (ro:Int),.int .i64 (co:Int)] 6 rfl (by omega) 33
 simp only [zqc] at H;have HV:=zh (fun W=>z4l ⟨(so:Int),ch,ra,ba,ro,co⟩ W)
 rw [zt (z2x hs)] at HV
 unfold Pl.vs at HV;obtain ⟨a0,a1,a2,a3,a4,a5⟩:=zc6 (H.row 0 rfl);clear hb hs;go_enter Tryz.func18,Tryz.ntmps18
 go_wp2_with fail;refine (HV.out _).mono ?_
 rintro e w1 ⟨rfl,hb⟩;clear a0 a1 a2 a3 a4 a5;have H1:=H.go hb
 obtain ⟨a0,a1,a2,a3,a4,a5⟩:=zc6 (H1.row 0 rfl);go_wp2_with fail;go_ret;exact ⟨congrArg (fun z=>Ending.returned (.int .i64 z)) HW2.out,H1.below⟩
theorem z3bz (so ch ra ba ro co:Nat)(hs:so+ch+ra+ba+ro+co≤12)(b:Nat)(hb:ra=b)(w:World):
  Calls Tryz.prog 18 #[.agg #[.int .i64 (so:Int),.int .i64 (ch:Int),.int .i64 (ra:Int),.int .i64 (ba:Int),.int .i64 (ro:Int),.int .i64 (co:Int)],.int .i64 5] w fun e w'=>e=.returned (.int .i64 (2 ^ b))∧Below w.heap.size w w':=by
 have hb12:b≤12:=by omega
 have HW2:=zh (z4u hb12)
 have t9:IntKind.u64.wrap (b:Int)=(b:Int):=IntWalk.u64_in _ (by omega)
 subst hb
 have H:=(Ow.of (St.refl w)).arr #[.int .i64 (so:Int),.int .i64 (ch:Int),.int .i64 (ra:Int),.int .i64 (ba:Int),.int .i64 (ro:Int),.int .i64 (co:Int)] 6 rfl (by omega) 33
 simp only [zqc] at H;have HV:=zh (fun W=>z4l ⟨(so:Int),ch,ra,ba,ro,co⟩ W)
 rw [zt (z2x hs)] at HV
 unfold Pl.vs at HV;obtain ⟨a0,a1,a2,a3,a4,a5⟩:=zc6 (H.row 0 rfl);clear hs;go_enter Tryz.func18,Tryz.ntmps18
 go_wp2_with fail;refine (HV.out _).mono ?_
 rintro e w1 ⟨rfl,hb⟩;clear a0 a1 a2 a3 a4 a5;have H1:=H.go hb
 obtain ⟨a0,a1,a2,a3,a4,a5⟩:=zc6 (H1.row 0 rfl);go_wp2_with fail;go_ret;exact ⟨congrArg (fun z=>Ending.returned (.int .i64 z)) HW2.out,H1.below⟩
theorem z3by (so ch ra ba ro co:Nat)(hs:so+ch+ra+ba+ro+co≤12)(w:World):
  Calls Tryz.prog 18 #[.agg #[.int .i64 (so:Int),.int .i64 (ch:Int),.int .i64 (ra:Int),.int .i64 (ba:Int),.int .i64 (ro:Int),.int .i64 (co:Int)],.int .i64 6] w fun e w'=>e=.returned (.int .i64 (1))∧Below w.heap.size w w':=by
 have H:=(Ow.of (St.refl w)).arr #[.int .i64 (so:Int),.int .i64 (ch:Int),.int .i64 (ra:Int),.int .i64 (ba:Int),.int .i64 (ro:Int),.int .i64 (co:Int)] 6 rfl (by omega) 33
 simp only [zqc] at H;have HV:=zh (fun W=>z4l ⟨(so:Int),ch,ra,ba,ro,co⟩ W)
 rw [zt (z2x hs)] at HV
 unfold Pl.vs at HV;obtain ⟨a0,a1,a2,a3,a4,a5⟩:=zc6 (H.row 0 rfl);clear hs;go_enter Tryz.func18,Tryz.ntmps18
 go_wp2_with fail;refine (HV.out _).mono ?_
 rintro e w1 ⟨rfl,hb⟩;clear a0 a1 a2 a3 a4 a5;have H1:=H.go hb
 obtain ⟨a0,a1,a2,a3,a4,a5⟩:=zc6 (H1.row 0 rfl);go_wp2_with fail;go_ret;exact ⟨rfl,H1.below⟩
theorem z3bx (so ch ra ba ro co:Nat)(hs:so+ch+ra+ba+ro+co≤12)(k:Int)(hk:¬ kd k)(w:World):
  Calls Tryz.prog 18 #[.agg #[.int .i64 (so:Int),.int .i64 (ch:Int),.int .i64 (ra:Int),.int .i64 (ba:Int),.int .i64 (ro:Int),.int .i64 (co:Int)],.int .i64 k] w fun e w'=>e=.returned (.int .i64 (0))∧Below w.heap.size w w':=by
 unfold kd at hk;have b1:(k == 1)=false:=z1r (by omega)
 have b2:(k == 2)=false:=z1r (by omega)
 have b3:(k == 3)=false:=z1r (by omega)
 have b4:(k == 4)=false:=z1r (by omega)
 have b5:(k == 5)=false:=z1r (by omega)
 have b6:(k == 6)=false:=z1r (by omega)
 clear hk;have H:=(Ow.of (St.refl w)).arr #[.int .i64 (so:Int),.int .i64 (ch:Int),.int .i64 (ra:Int),.int .i64 (ba:Int),.int .i64 (ro:Int),.int .i64 (co:Int)] 6 rfl (by omega) 33
 simp only [zqc] at H;have HV:=zh (fun W=>z4l ⟨(so:Int),ch,ra,ba,ro,co⟩ W)
 rw [zt (z2x hs)] at HV
 unfold Pl.vs at HV;obtain ⟨a0,a1,a2,a3,a4,a5⟩:=zc6 (H.row 0 rfl);clear hs;go_enter Tryz.func18,Tryz.ntmps18
 go_wp2_with fail;refine (HV.out _).mono ?_
 rintro e w1 ⟨rfl,hb⟩;clear a0 a1 a2 a3 a4 a5;have H1:=H.go hb
 obtain ⟨a0,a1,a2,a3,a4,a5⟩:=zc6 (H1.row 0 rfl);go_wp2_with fail;go_ret;exact ⟨rfl,H1.below⟩
theorem z5l (k:Int)(s:Pl)(hs:shV s)(w:World):
  Calls Tryz.prog 18 #[.agg s.vs,.int .i64 k] w fun e w'=>e=.returned (.int .i64 (prt k s))∧Below w.heap.size w w':=by
 obtain ⟨so,ch,ra,ba,ro,co,rfl,h12⟩:=z5ai hs
 by_cases hk:kd k
 ·rcases z2ai hk with rfl | rfl | rfl | rfl | rfl | rfl
  ·rw [z8z (b:=ra+ba+ro+co) hk (by show (ra:Int)+(ba:Int)+(ro:Int)+(co:Int)=_;omega)];exact z4bd so ch ra ba ro co h12 _ rfl w
  ·rw [z8z (b:=ra+ba+ro) hk (by show (ra:Int)+(ba:Int)+(ro:Int)=_;omega)];exact z4bc so ch ra ba ro co h12 _ rfl w
  ·rw [z8z (b:=ra+ba+co) hk (by show (ra:Int)+(ba:Int)+(co:Int)=_;omega)];exact z4bb so ch ra ba ro co h12 _ rfl w
  ·rw [z8z (b:=ra+ba) hk (by show (ra:Int)+(ba:Int)=_;omega)];exact z4ba so ch ra ba ro co h12 _ rfl w
  ·rw [z8z (b:=ra) hk (by show (ra:Int)=_;omega)];exact z3bz so ch ra ba ro co h12 _ rfl w
  ·exact z3by so ch ra ba ro co h12 w
 ·rw [show prt k ⟨(so:Int),ch,ra,ba,ro,co⟩=0 from if_neg hk]
  exact z3bx so ch ra ba ro co h12 k hk w
namespace Cl
set_option maxHeartbeats 8000000
def plT (s p:Pl)(j:Nat):Bool:=match s.l[j]?,p.l[j]? with
 | some b,some n=>decide (0≤n) && decide (n<2 ^ b.toNat)
 | _,_=>true
def plV (s p:Pl):Bool:=decide (shV s) && (List.range 6).all (plT s p)
theorem z2r {s p:Pl}{j:Nat}(hj:j<6)(h:plT s p j=false):plV s p=false:=by
 unfold plV;rw [Bool.and_eq_false_iff];refine .inr ?_
 rw [Bool.eq_false_iff];intro e;have:=List.all_eq_true.1 e j (List.mem_range.2 hj)
 rw [h] at this;cases this
theorem z6j {s p:Pl}(hs:shV s)(h:∀ j,j<6→plT s p j=true):plV s p=true:=by
 unfold plV;rw [zt hs,Bool.true_and];exact List.all_eq_true.2 fun j hj=>h j (List.mem_range.1 hj)
theorem z6bq {s p:Pl}(hs:¬ shV s):plV s p=false:=by
 unfold plV;rw [zn hs,Bool.false_and]
theorem z1w {s p:Pl}{j:Nat}{b n:Int}(hb:s.l[j]?=some b)(hn:p.l[j]?=some n):plT s p j=(decide (0≤n) && decide (n<2 ^ b.toNat)):=by
 unfold plT;rw [hb,hn]
end Cl
theorem z1u (b:Nat):(0:Int)<2 ^ b:=Int.pow_pos (by omega)
def RVp (s p:Pl)(w1:World)(x:Value)(wr:World):Prop:=
 ∃ i:Nat,i≤6∧x=.int .i64 (i:Int)∧w1=wr∧Hid (∀ j,j<i→plT s p j=true)
theorem z5aa (so ch ra ba ro co:Nat)(hs:so+ch+ra+ba+ro+co≤12)(n0 n1 n2 n3 n4 n5:Int)(w:World):
  Calls Tryz.prog 83 #[.agg #[.int .i64 (so:Int),.int .i64 (ch:Int),.int .i64 (ra:Int),.int .i64 (ba:Int),.int .i64 (ro:Int),.int .i64 (co:Int)],.agg #[.int .i64 n0,.int .i64 n1,.int .i64 n2,.int .i64 n3,.int .i64 n4,.int .i64 n5]] w fun e w'=>e=.returned (.bool (plV ⟨(so:Int),ch,ra,ba,ro,co⟩ ⟨n0,n1,n2,n3,n4,n5⟩))∧Below w.heap.size w w':=by
 have HV:=zh (fun W=>z4l ⟨(so:Int),ch,ra,ba,ro,co⟩ W)
 rw [zt (z2x hs)] at HV
 have HSv:=zh (z2x hs)
 have HW:=zh (fun W=>z7b ⟨(so:Int),ch,ra,ba,ro,co⟩ W)
 have HNu:=zh (fun W=>z0ap ⟨n0,n1,n2,n3,n4,n5⟩ W)
 obtain ⟨res,hres⟩:∃ r,plV ⟨(so:Int),ch,ra,ba,ro,co⟩ ⟨n0,n1,n2,n3,n4,n5⟩=r:=⟨_,rfl⟩
 have HR:=zh hres;rw [hres];unfold Pl.vs at HV HW HNu;have H0:=((Ow.of (St.refl w)).arr #[.int .i64 (so:Int),.int .i64 (ch:Int),.int .i64 (ra:Int),.int .i64 (ba:Int),.int .i64 (ro:Int),.int .i64 (co:Int)] 6 rfl (by omega) 33).arr #[.int .i64 n0,.int .i64 n1,.int .i64 n2,.int .i64 n3,.int .i64 n4,.int .i64 n5] 6 rfl (by omega) 38
 simp only [zqc,zqb,World.size_alloc] at H0;obtain ⟨a0,a1,a2,a3,a4,a5⟩:=zc6 (H0.row 0 rfl);have hso:so≤12:=by omega
 have hch:ch≤12:=by omega
 have hra:ra≤12:=by omega
 have hba:ba≤12:=by omega
 have hro:ro≤12:=by omega
 have hco:co≤12:=by omega
 clear hs hres;go_enter Tryz.func83,Tryz.ntmps83
 go_wp2_with fail;refine (HV.out _).mono ?_
 rintro e w1 ⟨rfl,hb⟩;clear a0 a1 a2 a3 a4 a5;have H1:=H0.go hb
 obtain ⟨a0,a1,a2,a3,a4,a5⟩:=zc6 (H1.row 0 rfl);clear H0 hb HV;go_wp2_with fail;refine (HW.out _).mono ?_
 rintro e w2 ⟨rfl,hb⟩;clear a0 a1 a2 a3 a4 a5;have H2:=(H1.go hb).arr #[.int .i64 (so:Int),.int .i64 (ch:Int),.int .i64 (ra:Int),.int .i64 (ba:Int),.int .i64 (ro:Int),.int .i64 (co:Int)] 6 rfl (by omega) 103
 simp only [zqc,zqb] at H2;obtain ⟨p0,p1,p2,p3,p4,p5⟩:=zc6 (H2.row 1 rfl);clear H1 hb HW;go_wp2_with fail;refine (HNu.out _).mono ?_
 rintro e w3 ⟨rfl,hb⟩;clear p0 p1 p2 p3 p4 p5;have H3:=H2.go hb
 obtain ⟨c0,c1,c2,c3,c4,c5⟩:=zc6 (H3.row 2 rfl);have HB:=zh H3.below;clear H2 hb HNu H3;go_wp2_with fail;go_loopw [15] (fun x wr=>RVp ⟨(so:Int),ch,ra,ba,ro,co⟩ ⟨n0,n1,n2,n3,n4,n5⟩ w3 x wr) (fun x _=>6 - (intOf x).toNat)
 case atStart=>exact ⟨0,by omega,rfl,rfl,fun j hj=>absurd hj (Nat.not_lt_zero _)⟩
 case round=>
  obtain ⟨i,hi,rfl,rfl,hI⟩:=hrel;have hcase:i=0∨i=1∨i=2∨i=3∨i=4∨i=5∨i=6:=by omega
  clear hi;rcases hcase with rfl | rfl | rfl | rfl | rfl | rfl | rfl
  ·have hidx:∀ W:World,(Instr.index 103 (.agg #[.int .i64 n0,.int .i64 n1,.int .i64 n2,.int .i64 n3,.int .i64 n4,.int .i64 n5]) (.int .i64 0)).run Tryz.prog W=.ok (.int .i64 n0) W:=fun W=>z3p [.int .i64 n0,.int .i64 n1,.int .i64 n2,.int .i64 n3,.int .i64 n4,.int .i64 n5] 0 _ (by omega) rfl W
   have HT:=zh (z1w (s:=⟨(so:Int),ch,ra,ba,ro,co⟩) (p:=⟨n0,n1,n2,n3,n4,n5⟩) (j:=0) rfl rfl)
   rcases Int.lt_or_le n0 0 with h | h
   ·have t1:decide (n0<0)=true:=zt h
    have HF:Hid (res=false):=by unfold Hid;rw [← HR.out];exact z2r (j:=0) (by omega) (by rw [HT.out,zn (show ¬ 0≤n0 by omega)];rfl)
    clear h;go_wp2_with fail;go_ret;exact ⟨by rw [HF.out];rfl,HB.out⟩
   ·have t1:decide (n0<0)=false:=zn (by omega)
    rcases Int.lt_or_le n0 (2 ^ so) with h2 | h2
    ·have HP:Hid (plT ⟨(so:Int),ch,ra,ba,ro,co⟩ ⟨n0,n1,n2,n3,n4,n5⟩ 0=true):=by unfold Hid;rw [HT.out,zt h,zt (show n0<2 ^ (so:Int).toNat from h2)];rfl
     have t2:(n0 / 2 ^ so == 0)=true:=by rw [beq_iff_eq];exact Int.ediv_eq_zero_of_lt h h2
     have t3:(n0 / 2 ^ so != 0)=false:=by rw [bne,t2];rfl
     clear h h2;go_wp2_with fail;go_roundw
     case rel=>exact ⟨1,by omega,rfl,rfl,fun z hz=>by
      rcases zqi z 0 with h | h
      ·exact hI.out z h
      ·obtain rfl:z=0:=by omega
       exact HP.out⟩
     case measure=>simp [intOf]
    ·have HF:Hid (res=false):=by unfold Hid;rw [← HR.out];exact z2r (j:=0) (by omega) (by rw [HT.out,zn (show ¬ n0<2 ^ (so:Int).toNat from by show ¬ n0<2 ^ so;omega),Bool.and_false])
     have t2:(n0 / 2 ^ so == 0)=false:=z1r (by
      have h3:1≤n0 / 2 ^ so:=Int.le_ediv_of_mul_le (z1u _) (by omega)
      omega)
     have t3:(n0 / 2 ^ so != 0)=true:=by rw [bne,t2];rfl
     clear h h2;go_wp2_with fail;go_ret;exact ⟨by rw [HF.out];rfl,HB.out⟩
  ·have hidx:∀ W:World,(Instr.index 103 (.agg #[.int .i64 n0,.int .i64 n1,.int .i64 n2,.int .i64 n3,.int .i64 n4,.int .i64 n5]) (.int .i64 1)).run Tryz.prog W=.ok (.int .i64 n1) W:=fun W=>z3p [.int .i64 n0,.int .i64 n1,.int .i64 n2,.int .i64 n3,.int .i64 n4,.int .i64 n5] 1 _ (by omega) rfl W
   have HT:=zh (z1w (s:=⟨(so:Int),ch,ra,ba,ro,co⟩) (p:=⟨n0,n1,n2,n3,n4,n5⟩) (j:=1) rfl rfl)
   rcases Int.lt_or_le n1 0 with h | h
   ·have t1:decide (n1<0)=true:=zt h
    have HF:Hid (res=false):=by unfold Hid;rw [← HR.out];exact z2r (j:=1) (by omega) (by rw [HT.out,zn (show ¬ 0≤n1 by omega)];rfl)
    clear h;go_wp2_with fail;go_ret;exact ⟨by rw [HF.out];rfl,HB.out⟩
   ·have t1:decide (n1<0)=false:=zn (by omega)
    rcases Int.lt_or_le n1 (2 ^ ch) with h2 | h2
    ·have HP:Hid (plT ⟨(so:Int),ch,ra,ba,ro,co⟩ ⟨n0,n1,n2,n3,n4,n5⟩ 1=true):=by unfold Hid;rw [HT.out,zt h,zt (show n1<2 ^ (ch:Int).toNat from h2)];rfl
     have t2:(n1 / 2 ^ ch == 0)=true:=by rw [beq_iff_eq];exact Int.ediv_eq_zero_of_lt h h2
     have t3:(n1 / 2 ^ ch != 0)=false:=by rw [bne,t2];rfl
     clear h h2;go_wp2_with fail;go_roundw
     case rel=>exact ⟨2,by omega,rfl,rfl,fun z hz=>by
      rcases zqi z 1 with h | h
      ·exact hI.out z h
      ·obtain rfl:z=1:=by omega
       exact HP.out⟩
     case measure=>simp [intOf]
    ·have HF:Hid (res=false):=by unfold Hid;rw [← HR.out];exact z2r (j:=1) (by omega) (by rw [HT.out,zn (show ¬ n1<2 ^ (ch:Int).toNat from by show ¬ n1<2 ^ ch;omega),Bool.and_false])
     have t2:(n1 / 2 ^ ch == 0)=false:=z1r (by
      have h3:1≤n1 / 2 ^ ch:=Int.le_ediv_of_mul_le (z1u _) (by omega)
      omega)
     have t3:(n1 / 2 ^ ch != 0)=true:=by rw [bne,t2];rfl
     clear h h2;go_wp2_with fail;go_ret;exact ⟨by rw [HF.out];rfl,HB.out⟩
  ·have hidx:∀ W:World,(Instr.index 103 (.agg #[.int .i64 n0,.int .i64 n1,.int .i64 n2,.int .i64 n3,.int .i64 n4,.int .i64 n5]) (.int .i64 2)).run Tryz.prog W=.ok (.int .i64 n2) W:=fun W=>z3p [.int .i64 n0,.int .i64 n1,.int .i64 n2,.int .i64 n3,.int .i64 n4,.int .i64 n5] 2 _ (by omega) rfl W
   have HT:=zh (z1w (s:=⟨(so:Int),ch,ra,ba,ro,co⟩) (p:=⟨n0,n1,n2,n3,n4,n5⟩) (j:=2) rfl rfl)
   rcases Int.lt_or_le n2 0 with h | h
   ·have t1:decide (n2<0)=true:=zt h
    have HF:Hid (res=false):=by unfold Hid;rw [← HR.out];exact z2r (j:=2) (by omega) (by rw [HT.out,zn (show ¬ 0≤n2 by omega)];rfl)
    clear h;go_wp2_with fail;go_ret;exact ⟨by rw [HF.out];rfl,HB.out⟩
   ·have t1:decide (n2<0)=false:=zn (by omega)
    rcases Int.lt_or_le n2 (2 ^ ra) with h2 | h2
    ·have HP:Hid (plT ⟨(so:Int),ch,ra,ba,ro,co⟩ ⟨n0,n1,n2,n3,n4,n5⟩ 2=true):=by unfold Hid;rw [HT.out,zt h,zt (show n2<2 ^ (ra:Int).toNat from h2)];rfl
     have t2:(n2 / 2 ^ ra == 0)=true:=by rw [beq_iff_eq];exact Int.ediv_eq_zero_of_lt h h2
     have t3:(n2 / 2 ^ ra != 0)=false:=by rw [bne,t2];rfl
     clear h h2;go_wp2_with fail;go_roundw
     case rel=>exact ⟨3,by omega,rfl,rfl,fun z hz=>by
      rcases zqi z 2 with h | h
      ·exact hI.out z h
      ·obtain rfl:z=2:=by omega
       exact HP.out⟩
     case measure=>simp [intOf]
    ·have HF:Hid (res=false):=by unfold Hid;rw [← HR.out];exact z2r (j:=2) (by omega) (by rw [HT.out,zn (show ¬ n2<2 ^ (ra:Int).toNat from by show ¬ n2<2 ^ ra;omega),Bool.and_false])
     have t2:(n2 / 2 ^ ra == 0)=false:=z1r (by
      have h3:1≤n2 / 2 ^ ra:=Int.le_ediv_of_mul_le (z1u _) (by omega)
      omega)
     have t3:(n2 / 2 ^ ra != 0)=true:=by rw [bne,t2];rfl
     clear h h2;go_wp2_with fail;go_ret;exact ⟨by rw [HF.out];rfl,HB.out⟩
  ·have hidx:∀ W:World,(Instr.index 103 (.agg #[.int .i64 n0,.int .i64 n1,.int .i64 n2,.int .i64 n3,.int .i64 n4,.int .i64 n5]) (.int .i64 3)).run Tryz.prog W=.ok (.int .i64 n3) W:=fun W=>z3p [.int .i64 n0,.int .i64 n1,.int .i64 n2,.int .i64 n3,.int .i64 n4,.int .i64 n5] 3 _ (by omega) rfl W
   have HT:=zh (z1w (s:=⟨(so:Int),ch,ra,ba,ro,co⟩) (p:=⟨n0,n1,n2,n3,n4,n5⟩) (j:=3) rfl rfl)
   rcases Int.lt_or_le n3 0 with h | h
   ·have t1:decide (n3<0)=true:=zt h
    have HF:Hid (res=false):=by unfold Hid;rw [← HR.out];exact z2r (j:=3) (by omega) (by rw [HT.out,zn (show ¬ 0≤n3 by omega)];rfl)
    clear h;go_wp2_with fail;go_ret;exact ⟨by rw [HF.out];rfl,HB.out⟩
   ·have t1:decide (n3<0)=false:=zn (by omega)
    rcases Int.lt_or_le n3 (2 ^ ba) with h2 | h2
    ·have HP:Hid (plT ⟨(so:Int),ch,ra,ba,ro,co⟩ ⟨n0,n1,n2,n3,n4,n5⟩ 3=true):=by unfold Hid;rw [HT.out,zt h,zt (show n3<2 ^ (ba:Int).toNat from h2)];rfl
     have t2:(n3 / 2 ^ ba == 0)=true:=by rw [beq_iff_eq];exact Int.ediv_eq_zero_of_lt h h2
     have t3:(n3 / 2 ^ ba != 0)=false:=by rw [bne,t2];rfl
     clear h h2;go_wp2_with fail;go_roundw
     case rel=>exact ⟨4,by omega,rfl,rfl,fun z hz=>by
      rcases zqi z 3 with h | h
      ·exact hI.out z h
      ·obtain rfl:z=3:=by omega
       exact HP.out⟩
     case measure=>simp [intOf]
    ·have HF:Hid (res=false):=by unfold Hid;rw [← HR.out];exact z2r (j:=3) (by omega) (by rw [HT.out,zn (show ¬ n3<2 ^ (ba:Int).toNat from by show ¬ n3<2 ^ ba;omega),Bool.and_false])
     have t2:(n3 / 2 ^ ba == 0)=false:=z1r (by
      have h3:1≤n3 / 2 ^ ba:=Int.le_ediv_of_mul_le (z1u _) (by omega)
      omega)
     have t3:(n3 / 2 ^ ba != 0)=true:=by rw [bne,t2];rfl
     clear h h2;go_wp2_with fail;go_ret;exact ⟨by rw [HF.out];rfl,HB.out⟩
  ·have hidx:∀ W:World,(Instr.index 103 (.agg #[.int .i64 n0,.int .i64 n1,.int .i64 n2,.int .i64 n3,.int .i64 n4,.int .i64 n5]) (.int .i64 4)).run Tryz.prog W=.ok (.int .i64 n4) W:=fun W=>z3p [.int .i64 n0,.int .i64 n1,.int .i64 n2,.int .i64 n3,.int .i64 n4,.int .i64 n5] 4 _ (by omega) rfl W
   have HT:=zh (z1w (s:=⟨(so:Int),ch,ra,ba,ro,co⟩) (p:=⟨n0,n1,n2,n3,n4,n5⟩) (j:=4) rfl rfl)
   rcases Int.lt_or_le n4 0 with h | h
   ·have t1:decide (n4<0)=true:=zt h
    have HF:Hid (res=false):=by unfold Hid;rw [← HR.out];exact z2r (j:=4) (by omega) (by rw [HT.out,zn (show ¬ 0≤n4 by omega)];rfl)
    clear h;go_wp2_with fail;go_ret;exact ⟨by rw [HF.out];rfl,HB.out⟩
   ·have t1:decide (n4<0)=false:=zn (by omega)
    rcases Int.lt_or_le n4 (2 ^ ro) with h2 | h2
    ·have HP:Hid (plT ⟨(so:Int),ch,ra,ba,ro,co⟩ ⟨n0,n1,n2,n3,n4,n5⟩ 4=true):=by unfold Hid;rw [HT.out,zt h,zt (show n4<2 ^ (ro:Int).toNat from h2)];rfl
     have t2:(n4 / 2 ^ ro == 0)=true:=by rw [beq_iff_eq];exact Int.ediv_eq_zero_of_lt h h2
     have t3:(n4 / 2 ^ ro != 0)=false:=by rw [bne,t2];rfl
     clear h h2;go_wp2_with fail;go_roundw
     case rel=>exact ⟨5,by omega,rfl,rfl,fun z hz=>by
      rcases zqi z 4 with h | h
      ·exact hI.out z h
      ·obtain rfl:z=4:=by omega
       exact HP.out⟩
     case measure=>simp [intOf]
    ·have HF:Hid (res=false):=by unfold Hid;rw [← HR.out];exact z2r (j:=4) (by omega) (by rw [HT.out,zn (show ¬ n4<2 ^ (ro:Int).toNat from by show ¬ n4<2 ^ ro;omega),Bool.and_false])
     have t2:(n4 / 2 ^ ro == 0)=false:=z1r (by
      have h3:1≤n4 / 2 ^ ro:=Int.le_ediv_of_mul_le (z1u _) (by omega)
      omega)
     have t3:(n4 / 2 ^ ro != 0)=true:=by rw [bne,t2];rfl
     clear h h2;go_wp2_with fail;go_ret;exact ⟨by rw [HF.out];rfl,HB.out⟩
  ·have hidx:∀ W:World,(Instr.index 103 (.agg #[.int .i64 n0,.int .i64 n1,.int .i64 n2,.int .i64 n3,.int .i64 n4,.int .i64 n5]) (.int .i64 5)).run Tryz.prog W=.ok (.int .i64 n5) W:=fun W=>z3p [.int .i64 n0,.int .i64 n1,.int .i64 n2,.int .i64 n3,.int .i64 n4,.int .i64 n5] 5 _ (by omega) rfl W
   have HT:=zh (z1w (s:=⟨(so:Int),ch,ra,ba,ro,co⟩) (p:=⟨n0,n1,n2,n3,n4,n5⟩) (j:=5) rfl rfl)
   rcases Int.lt_or_le n5 0 with h | h
   ·have t1:decide (n5<0)=true:=zt h
    have HF:Hid (res=false):=by unfold Hid;rw [← HR.out];exact z2r (j:=5) (by omega) (by rw [HT.out,zn (show ¬ 0≤n5 by omega)];rfl)
    clear h;go_wp2_with fail;go_ret;exact ⟨by rw [HF.out];rfl,HB.out⟩
   ·have t1:decide (n5<0)=false:=zn (by omega)
    rcases Int.lt_or_le n5 (2 ^ co) with h2 | h2
    ·have HP:Hid (plT ⟨(so:Int),ch,ra,ba,ro,co⟩ ⟨n0,n1,n2,n3,n4,n5⟩ 5=true):=by unfold Hid;rw [HT.out,zt h,zt (show n5<2 ^ (co:Int).toNat from h2)];rfl
     have t2:(n5 / 2 ^ co == 0)=true:=by rw [beq_iff_eq];exact Int.ediv_eq_zero_of_lt h h2
     have t3:(n5 / 2 ^ co != 0)=false:=by rw [bne,t2];rfl
     clear h h2;go_wp2_with fail;go_roundw
     case rel=>exact ⟨6,by omega,rfl,rfl,fun z hz=>by
      rcases zqi z 5 with h | h
      ·exact hI.out z h
      ·obtain rfl:z=5:=by omega
       exact HP.out⟩
     case measure=>simp [intOf]
    ·have HF:Hid (res=false):=by unfold Hid;rw [← HR.out];exact z2r (j:=5) (by omega) (by rw [HT.out,zn (show ¬ n5<2 ^ (co:Int).toNat from by show ¬ n5<2 ^ co;omega),Bool.and_false])
     have t2:(n5 / 2 ^ co == 0)=false:=z1r (by
      have h3:1≤n5 / 2 ^ co:=Int.le_ediv_of_mul_le (z1u _) (by omega)
      omega)
     have t3:(n5 / 2 ^ co != 0)=true:=by rw [bne,t2];rfl
     clear h h2;go_wp2_with fail;go_ret;exact ⟨by rw [HF.out];rfl,HB.out⟩
  ·have HF:Hid (res=true):=by unfold Hid;rw [← HR.out];exact z6j HSv.out hI.out
   go_wp2_with fail;go_ret;exact ⟨by rw [HF.out];rfl,HB.out⟩
end Go.Proofs.YtpmofjomadibmaaGreatDoor
