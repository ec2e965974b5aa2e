/- Xm Xn Xo -/
import Derived.Test.YtpmofjomadibmaaGreatDoorQ06
namespace Go.Proofs.YtpmofjomadibmaaGreatDoor
set_option maxHeartbeats 8000000
open Go.RowKit Go.Sort
open Go.ChangeMaps (setBlock heap_setBlock_same heap_setBlock_other)
set_option linter.unusedVariables false
set_option maxRecDepth 100000
open Cl
theorem z6am (s p:Pl)(hs:¬ shV s)(w:World):
  Calls Tryz.prog 83 #[.agg s.vs,.agg p.vs] w fun e w'=>e=.returned (.bool (plV s p))∧Below w.heap.size w w':=by
 have HV:=zh (fun W=>z4w s W)
 rw [zn hs] at HV;rw [z6aq hs];obtain ⟨so,ch,ra,ba,ro,co⟩:=s;obtain ⟨n0,n1,n2,n3,n4,n5⟩:=p;unfold Pl.vs at *
 have H0:=((Ow.of (St.refl w)).arr #[.int .i64 so,.int .i64 ch,.int .i64 ra,.int .i64 ba,.int .i64 ro,.int .i64 co] 6 rfl (by omega) 33).arr #[.int .i64 n0,.int .i64 n1,.int .i64 n2,.int .i64 n3,.int .i64 n4,.int .i64 n5] 6 rfl (by omega) 38
 simp only [zqc,zqb,World.size_alloc] at H0;obtain ⟨a0,a1,a2,a3,a4,a5⟩:=zc6 (H0.row 0 rfl);clear hs;go_enter Tryz.func83,Tryz.ntmps83
 go_wp2_with fail;refine (HV.out _).mono ?_
 rintro e w1 ⟨rfl,hb⟩;have HB:=zh (H0.go hb).below
 clear a0 a1 a2 a3 a4 a5 HV hb H0;go_wp2_with fail;go_ret;exact ⟨rfl,HB.out⟩
theorem z3bz (s p:Pl)(w:World):
  Calls Tryz.prog 83 #[.agg s.vs,.agg p.vs] w fun e w'=>e=.returned (.bool (plV s p))∧Below w.heap.size w w':=by
 by_cases hs:shV s
 ·obtain ⟨so,ch,ra,ba,ro,co,rfl,h12⟩:=z9n hs
  exact z6al so ch ra ba ro co h12 p.so p.ch p.ra p.ba p.ro p.co w
 ·exact z6am s p hs w
theorem z1bv {b:Nat}(h:b≤12):IntKind.i64.wrap ((2:Int) ^ b)=(2:Int) ^ b:=by
 have:b=0∨b=1∨b=2∨b=3∨b=4∨b=5∨b=6∨b=7∨b=8∨b=9∨b=10∨b=11∨b=12:=by omega
 rcases this with rfl | rfl | rfl | rfl | rfl | rfl | rfl | rfl | rfl | rfl | rfl | rfl | rfl <;> decide +kernel
theorem z0b {α:Type}{O:List α}{i:Nat}{r r':α}(h:O[i]?=some r):(O.set i r')[i]?=some r':=List.getElem?_set_self (z0e h)
theorem put6 {w0 w:World}{O:List Rw}(h:Ow w0 w none [] [] O)(i:Nat){gb n c:Nat}{e:TypeId}{z0 z1 z2 z3 z4 z5:Value}(hi:O[i]?=some ⟨some ⟨gb,0,none⟩,n,c,e,[z0,z1,z2,z3,z4,z5]⟩)(v0 v1 v2 v3 v4 v5:Value):Ow w0 ((((((w.setCell ⟨gb,0,none⟩ v0).setCell ⟨gb,1,none⟩ v1).setCell ⟨gb,2,none⟩ v2).setCell ⟨gb,3,none⟩ v3).setCell ⟨gb,4,none⟩ v4).setCell ⟨gb,5,none⟩ v5) none [] [] (O.set i ⟨some ⟨gb,0,none⟩,n,c,e,[v0,v1,v2,v3,v4,v5]⟩):=by
 have h0:=h.put i hi 0 v0
 have h1:=h0.put i (z0b hi) 1 v1
 have h2:=h1.put i (z0b (z0b hi)) 2 v2
 have h3:=h2.put i (z0b (z0b (z0b hi))) 3 v3
 have h4:=h3.put i (z0b (z0b (z0b (z0b hi)))) 4 v4
 have h5:=h4.put i (z0b (z0b (z0b (z0b (z0b hi))))) 5 v5
 simp only [List.set_set,zqd,zqe] at h5;exact h5
def RVr (s p:Pl)(w1:World)(x:Value)(wr:World):Prop:=
 ∃ i:Nat,i≤6∧x=.int .i64 (i:Int)∧Below w1.heap.size w1 wr∧Hid (∀ j,j<i→plT s p j=true)
structure VpK (wb:World)(so ch ra ba ro co:Nat)(n0 n1 n2 n3 n4 n5:Int)(Ld:Nat→Bool)(u0 u1 u2 u3 u4 u5:Value)(O:List Rw)(W:World):Prop where
 ow:Ow wb W none [] [] O
 h0:Ld 0=true→u0=.agg #[.int .i64 (so:Int),.int .i64 (ch:Int),.int .i64 (ra:Int),.int .i64 (ba:Int),.int .i64 (ro:Int),.int .i64 (co:Int)]
 h1:Ld 1=true→u1=.agg #[.int .i64 (so:Int),.int .i64 (ch:Int),.int .i64 (ra:Int),.int .i64 (ba:Int),.int .i64 (ro:Int),.int .i64 (co:Int)]
 h2:Ld 2=true→u2=.agg #[.int .i64 n0,.int .i64 n1,.int .i64 n2,.int .i64 n3,.int .i64 n4,.int .i64 n5]
 h3:Ld 3=true→u3=.agg #[.int .i64 n0,.int .i64 n1,.int .i64 n2,.int .i64 n3,.int .i64 n4,.int .i64 n5]
 h4:Ld 4=true→∃ (v i:Nat),u4=.pointer (some ⟨v,0,none⟩)∧O[i]?=some (⟨some ⟨v,0,none⟩,6,6,103,if Ld 6=true then [.int .i64 (so:Int),.int .i64 (ch:Int),.int .i64 (ra:Int),.int .i64 (ba:Int),.int .i64 (ro:Int),.int .i64 (co:Int)] else [.int .i64 0,.int .i64 0,.int .i64 0,.int .i64 0,.int .i64 0,.int .i64 0]⟩:Rw)
 h5:Ld 5=true→∃ (v i:Nat),u5=.pointer (some ⟨v,0,none⟩)∧O[i]?=some (⟨some ⟨v,0,none⟩,6,6,103,if Ld 7=true then [.int .i64 n0,.int .i64 n1,.int .i64 n2,.int .i64 n3,.int .i64 n4,.int .i64 n5] else [.int .i64 0,.int .i64 0,.int .i64 0,.int .i64 0,.int .i64 0,.int .i64 0]⟩:Rw)
 ne:Ld 4=true→Ld 5=true→∀ v v':Nat,u4=.pointer (some ⟨v,0,none⟩)→u5=.pointer (some ⟨v',0,none⟩)→v≠v'
def VpI (wb:World)(so ch ra ba ro co:Nat)(n0 n1 n2 n3 n4 n5:Int)(A0:Act)(Ld:Nat→Bool)(a:Act)(W:World):Prop:=
 ∃ (u0 u1 u2 u3 u4 u5:Value) (O:List Rw),a=((((((A0.put (some 11) u0).put (some 12) u1).put (some 13) u2).put (some 14) u3).put (some 5) u4).put (some 6) u5)∧VpK wb so ch ra ba ro co n0 n1 n2 n3 n4 n5 Ld u0 u1 u2 u3 u4 u5 O W
theorem z1bx {wb W:World}{O:List Rw}{i v n c:Nat}{e:TypeId}{vs:List Value}(h:Ow wb W none [] [] O)(hi:O[i]?=some ⟨some ⟨v,0,none⟩,n,c,e,vs⟩):v<W.heap.size:=(h.lt hi rfl).1
structure VnK (wl:World)(v4 v5 i b:Nat)(n:Int)(Ld:Nat→Bool)(u0 u1 u2 u3 u4 u5 u6 u7 u8 u9 u10 u11 u12 u13 u14:Value)(W:World):Prop where
 bl:Below wl.heap.size wl W
 h0:Ld 0=true→u0=.int .i64 (i:Int)
 h1:Ld 1=true→u1=.pointer (some ⟨v5,i,none⟩)
 h2:Ld 2=true→u2=.int .i64 n
 h3:Ld 3=true→u3=.bool true
 h4:Ld 4=true→u4=.bool true
 h5:Ld 5=true→True
 h6:Ld 6=true→True
 h7:Ld 7=true→True
 h8:Ld 8=true→True
 h9:Ld 9=true→True
 h10:Ld 10=true→True
 h11:Ld 11=true→True
 h12:Ld 12=true→True
 h13:Ld 13=true→True
 h14:Ld 14=true→u14=.bool true
def VnI (wl:World)(v4 v5 i b:Nat)(n:Int)(A0:Act)(Ld:Nat→Bool)(a:Act)(W:World):Prop:=
 ∃ (u0 u1 u2 u3 u4 u5 u6 u7 u8 u9 u10 u11 u12 u13 u14:Value),a=(((((((((((((((A0.put (some 19) u0).put (some 20) u1).put (some 21) u2).put (some 22) u3).put (some 23) u4).put (some 24) u5).put (some 25) u6).put (some 26) u7).put (some 27) u8).put (some 28) u9).put (some 29) u10).put (some 30) u11).put (some 31) u12).put (some 32) u13).put (some 33) u14)∧VnK wl v4 v5 i b n Ld u0 u1 u2 u3 u4 u5 u6 u7 u8 u9 u10 u11 u12 u13 u14 W
structure VyK (wl:World)(v4 v5 i b:Nat)(n:Int)(r:Bool)(Ld:Nat→Bool)(u0 u1 u2 u3 u4 u5 u6 u7 u8 u9 u10 u11 u12 u13 u14:Value)(W:World):Prop where
 bl:Below wl.heap.size wl W
 h0:Ld 0=true→u0=.int .i64 (i:Int)
 h1:Ld 1=true→u1=.pointer (some ⟨v5,i,none⟩)
 h2:Ld 2=true→u2=.int .i64 n
 h3:Ld 3=true→u3=.bool false
 h4:Ld 4=true→u4=.bool false
 h5:Ld 5=true→u5=.int .i64 (i:Int)
 h6:Ld 6=true→u6=.pointer (some ⟨v5,i,none⟩)
 h7:Ld 7=true→u7=.int .i64 n
 h8:Ld 8=true→u8=.int .i64 (i:Int)
 h9:Ld 9=true→u9=.pointer (some ⟨v4,i,none⟩)
 h10:Ld 10=true→u10=.int .i64 (b:Int)
 h11:Ld 11=true→u11=.int .u64 (b:Int)
 h12:Ld 12=true→u12=.int .i64 (2 ^ b)
 h13:Ld 13=true→u13=.bool r
 h14:Ld 14=true→u14=.bool r
def VyI (wl:World)(v4 v5 i b:Nat)(n:Int)(r:Bool)(A0:Act)(Ld:Nat→Bool)(a:Act)(W:World):Prop:=
 ∃ (u0 u1 u2 u3 u4 u5 u6 u7 u8 u9 u10 u11 u12 u13 u14:Value),a=(((((((((((((((A0.put (some 19) u0).put (some 20) u1).put (some 21) u2).put (some 22) u3).put (some 23) u4).put (some 24) u5).put (some 25) u6).put (some 26) u7).put (some 27) u8).put (some 28) u9).put (some 29) u10).put (some 30) u11).put (some 31) u12).put (some 32) u13).put (some 33) u14)∧VyK wl v4 v5 i b n r Ld u0 u1 u2 u3 u4 u5 u6 u7 u8 u9 u10 u11 u12 u13 u14 W
theorem z5an (so ch ra ba ro co:Nat)(hs:so+ch+ra+ba+ro+co≤12)(n0 n1 n2 n3 n4 n5:Int)(w:World):
  Calls Tryz.prog 101 #[.agg #[.int .i64 (so:Int),.int .i64 (ch:Int),.int .i64 (ra:Int),.int .i64 (ba:Int),.int .i64 (ro:Int),.int .i64 (co:Int)],.agg #[.int .i64 n0,.int .i64 n1,.int .i64 n2,.int .i64 n3,.int .i64 n4,.int .i64 n5]] w fun e w'=>e=.returned (.bool (plV ⟨(so:Int),ch,ra,ba,ro,co⟩ ⟨n0,n1,n2,n3,n4,n5⟩))∧Below w.heap.size w w':=by
 have HV:=zh (fun W=>z2ad ⟨(so:Int),ch,ra,ba,ro,co⟩ W)
 rw [zt (z2o hs)] at HV
 have HSv:=zh (z2o hs)
 have HW:=zh (fun W=>z3ae ⟨(so:Int),ch,ra,ba,ro,co⟩ W)
 have HNu:=zh (fun W=>z9h ⟨n0,n1,n2,n3,n4,n5⟩ W)
 obtain ⟨res,hres⟩:∃ r,plV ⟨(so:Int),ch,ra,ba,ro,co⟩ ⟨n0,n1,n2,n3,n4,n5⟩=r:=⟨_,rfl⟩
 have HR:=zh hres;rw [hres];unfold Pl.vs at HV HW HNu;have H0:=((Ow.of (St.refl w)).arr #[.int .i64 (so:Int),.int .i64 (ch:Int),.int .i64 (ra:Int),.int .i64 (ba:Int),.int .i64 (ro:Int),.int .i64 (co:Int)] 6 rfl (by omega) 33).arr #[.int .i64 n0,.int .i64 n1,.int .i64 n2,.int .i64 n3,.int .i64 n4,.int .i64 n5] 6 rfl (by omega) 38
 simp only [zqc,zqb,World.size_alloc] at H0;obtain ⟨a0,a1,a2,a3,a4,a5⟩:=zc6 (H0.row 0 rfl);have hso:so≤12:=by omega
 have hch:ch≤12:=by omega
 have hra:ra≤12:=by omega
 have hba:ba≤12:=by omega
 have hro:ro≤12:=by omega
 have hco:co≤12:=by omega
 clear hs hres;go_enter Tryz.func101,Tryz.ntmps101
 go_wp2_with fail;refine (HV.out _).mono ?_
 rintro e wb ⟨rfl,hb⟩;clear a0 a1 a2 a3 a4 a5;have H1:=H0.go hb
 have HX:Hid (∀ W,Below wb.heap.size wb W→W.cell? ⟨w.heap.size,0,none⟩=some (.int .i64 (so:Int))∧W.cell? ⟨w.heap.size,1,none⟩=some (.int .i64 (ch:Int))∧W.cell? ⟨w.heap.size,2,none⟩=some (.int .i64 (ra:Int))∧W.cell? ⟨w.heap.size,3,none⟩=some (.int .i64 (ba:Int))∧W.cell? ⟨w.heap.size,4,none⟩=some (.int .i64 (ro:Int))∧W.cell? ⟨w.heap.size,5,none⟩=some (.int .i64 (co:Int))):=fun W hb=>by
  have H2:=H1.go hb
  exact ⟨(H2.row 0 rfl).cellAt 0 (by decide),(H2.row 0 rfl).cellAt 1 (by decide),(H2.row 0 rfl).cellAt 2 (by decide),(H2.row 0 rfl).cellAt 3 (by decide),(H2.row 0 rfl).cellAt 4 (by decide),(H2.row 0 rfl).cellAt 5 (by decide)⟩
 have HY:Hid (∀ W,Below wb.heap.size wb W→W.cell? ⟨w.heap.size+1,0,none⟩=some (.int .i64 n0)∧W.cell? ⟨w.heap.size+1,1,none⟩=some (.int .i64 n1)∧W.cell? ⟨w.heap.size+1,2,none⟩=some (.int .i64 n2)∧W.cell? ⟨w.heap.size+1,3,none⟩=some (.int .i64 n3)∧W.cell? ⟨w.heap.size+1,4,none⟩=some (.int .i64 n4)∧W.cell? ⟨w.heap.size+1,5,none⟩=some (.int .i64 n5)):=fun W hb=>by
  have H2:=H1.go hb
  exact ⟨(H2.row 1 rfl).cellAt 0 (by decide),(H2.row 1 rfl).cellAt 1 (by decide),(H2.row 1 rfl).cellAt 2 (by decide),(H2.row 1 rfl).cellAt 3 (by decide),(H2.row 1 rfl).cellAt 4 (by decide),(H2.row 1 rfl).cellAt 5 (by decide)⟩
 have HL:Hid (∀ W,Below wb.heap.size wb W→Below w.heap.size w W):=fun W hb=>(H1.go hb).below
 have HO:=zh (Ow.of (St.refl wb))
 clear H0 H1 hb HV;go_wp2_with fail;refine z0u (VpI wb so ch ra ba ro co n0 n1 n2 n3 n4 n5) (by kernel_rfl) (by kernel_rfl) ?_ ?_ ?_
 ·refine ⟨undef,undef,undef,undef,undef,undef,[],?_,⟨HO.out.drew,?_,?_,?_,?_,?_,?_,?_⟩⟩
  ·simp only [Act.put,zT,zZ,zS]
  all_goals (intro h;cases h)
 ·rintro jj Ld b W hj hf hcl hd ⟨u0,u1,u2,u3,u4,u5,O,rfl,hC⟩;have hj':jj<8:=hj
  have hcase:jj=0∨jj=1∨jj=2∨jj=3∨jj=4∨jj=5∨jj=6∨jj=7:=by omega
  clear hj hj';simp only [Act.put,zT,zZ,zS];rcases hcase with rfl | rfl | rfl | rfl | rfl | rfl | rfl | rfl
  ·obtain ⟨a0,a1,a2,a3,a4,a5⟩:=HX.out W hC.ow.below
   clear hd hcl;refine zw rfl fun K hK=>?_
   go_simp;refine hK _ _ ⟨_,u1,u2,u3,u4,u5,O,?_,⟨hC.ow,fun _=>rfl,hC.h1,hC.h2,hC.h3,hC.h4,hC.h5,hC.ne⟩⟩;simp only [Act.put,zT,zZ,zS]
  ·obtain rfl:=hC.h0 (hd 0 (by kernel_rfl));have hcall:=HW.out W
   clear hd hcl;refine zw rfl fun K hK=>?_
   go_simp;refine (hcall).mono ?_
   rintro e W' ⟨rfl,hb⟩;refine hK _ _ ⟨_,_,u2,u3,u4,u5,O,?_,⟨hC.ow.go hb,hC.h0,fun _=>rfl,hC.h2,hC.h3,hC.h4,hC.h5,hC.ne⟩⟩;simp only [Act.put,zT,zZ,zS]
  ·obtain ⟨a0,a1,a2,a3,a4,a5⟩:=HY.out W hC.ow.below
   clear hd hcl;refine zw rfl fun K hK=>?_
   go_simp;refine hK _ _ ⟨u0,u1,_,u3,u4,u5,O,?_,⟨hC.ow,hC.h0,hC.h1,fun _=>rfl,hC.h3,hC.h4,hC.h5,hC.ne⟩⟩;simp only [Act.put,zT,zZ,zS]
  ·obtain rfl:=hC.h2 (hd 2 (by kernel_rfl));have hcall:=HNu.out W
   clear hd hcl;refine zw rfl fun K hK=>?_
   go_simp;refine (hcall).mono ?_
   rintro e W' ⟨rfl,hb⟩;refine hK _ _ ⟨u0,u1,_,_,u4,u5,O,?_,⟨hC.ow.go hb,hC.h0,hC.h1,hC.h2,fun _=>rfl,hC.h4,hC.h5,hC.ne⟩⟩;simp only [Act.put,zT,zZ,zS]
  ·have hs6:Ld 6=false:=by cases e:Ld 6 with | false=>rfl | true=>(have:=hcl 6 4 e (by kernel_rfl);rw [hf] at this;cases this)
   clear hd hcl;refine zw rfl fun K hK=>?_
   go_simp;have ho:=hC.ow.arr #[.int .i64 0,.int .i64 0,.int .i64 0,.int .i64 0,.int .i64 0,.int .i64 0] 6 rfl (by omega) 103
   refine hK _ _ ⟨u0,u1,u2,u3,(.pointer (some ⟨W.heap.size,0,none⟩)),u5,_,?_,⟨ho,hC.h0,hC.h1,hC.h2,hC.h3,?_,?_,?_⟩⟩
   ·simp only [Act.put,zT,zZ,zS]
   ·exact fun _=>⟨W.heap.size,O.length,rfl,by rw [zqo (zqj _),Nat.sub_self];have e6:=hs6;rw [if_neg (show ¬ z2k Ld 4 6=true by rw [show z2k Ld 4 6=Ld 6 from rfl,e6];decide)];rfl⟩
   ·exact fun h=>by
     obtain ⟨v,i,e1,e2⟩:=hC.h5 h
     exact ⟨v,i,e1,by rw [zqn (z0e e2)];exact e2⟩
   ·exact fun h4 h5 v v' e4 e5=>by
     obtain ⟨x,i,e1,e2⟩:=hC.h5 h5
     have hl:=z1bx hC.ow e2
     rw [e1] at e5;have q1:(x=v'):=by simpa using e5
     have q2:(W.heap.size=v):=by simpa using e4
     omega
  ·have hs7:Ld 7=false:=by cases e:Ld 7 with | false=>rfl | true=>(have:=hcl 7 5 e (by kernel_rfl);rw [hf] at this;cases this)
   clear hd hcl;refine zw rfl fun K hK=>?_
   go_simp;have ho:=hC.ow.arr #[.int .i64 0,.int .i64 0,.int .i64 0,.int .i64 0,.int .i64 0,.int .i64 0] 6 rfl (by omega) 103
   refine hK _ _ ⟨u0,u1,u2,u3,u4,(.pointer (some ⟨W.heap.size,0,none⟩)),_,?_,⟨ho,hC.h0,hC.h1,hC.h2,hC.h3,?_,?_,?_⟩⟩
   ·simp only [Act.put,zT,zZ,zS]
   ·exact fun h=>by
     obtain ⟨v,i,e1,e2⟩:=hC.h4 h
     exact ⟨v,i,e1,by rw [zqn (z0e e2)];exact e2⟩
   ·exact fun _=>⟨W.heap.size,O.length,rfl,by rw [zqo (zqj _),Nat.sub_self];have e6:=hs7;rw [if_neg (show ¬ z2k Ld 5 7=true by rw [show z2k Ld 5 7=Ld 7 from rfl,e6];decide)];rfl⟩
   ·exact fun h4 h5 v v' e4 e5=>by
     obtain ⟨x,i,e1,e2⟩:=hC.h4 h4
     have hl:=z1bx hC.ow e2
     rw [e1] at e4;have q1:(x=v):=by simpa using e4
     have q2:(W.heap.size=v'):=by simpa using e5
     omega
  ·obtain ⟨v,i,rfl,hrow⟩:=hC.h4 (hd 4 (by kernel_rfl))
   obtain rfl:=hC.h1 (hd 1 (by kernel_rfl));have hal:=hd 4 (by kernel_rfl)
   rw [if_neg (show ¬ Ld 6=true by rw [hf];decide)] at hrow
   obtain ⟨y0,y1,y2,y3,y4,y5⟩:=zc6 (hC.ow.row i hrow);obtain ⟨yf0,yf1,yf2,yf3,yf4,yf5⟩:=zf6 (hC.ow.row i hrow);have HZ:=zh (put6 hC.ow i hrow (.int .i64 (so:Int)) (.int .i64 (ch:Int)) (.int .i64 (ra:Int)) (.int .i64 (ba:Int)) (.int .i64 (ro:Int)) (.int .i64 (co:Int)))
   clear hd hcl;refine zw rfl fun K hK=>?_
   go_simp;refine hK _ _ ⟨_,_,_,_,_,_,_,?_,{hC with ow:=HZ.out,h4:=?_,h5:=?_}⟩
   ·simp only [Act.put,zT,zZ,zS]
   ·exact fun _=>⟨v,i,rfl,by rw [if_pos (show z2k Ld 6 6=true by simp [z2k])];exact z0b hrow⟩
   ·exact fun h=>by
     obtain ⟨v',i',e1,e2⟩:=hC.h5 h
     have hne:i'≠i:=fun e=>by
      subst e
      rw [hrow] at e2;have q:v=v':=by
       have q:=congrArg (fun o:Option Rw=>o.map (fun r:Rw=>r.A)) e2
       simpa using q
      exact hC.ne hal h v v' rfl e1 q
     exact ⟨v',i',e1,by rw [zqf (Ne.symm hne)];exact e2⟩
  ·obtain ⟨v,i,rfl,hrow⟩:=hC.h5 (hd 5 (by kernel_rfl))
   obtain rfl:=hC.h3 (hd 3 (by kernel_rfl));have hal:=hd 5 (by kernel_rfl)
   rw [if_neg (show ¬ Ld 7=true by rw [hf];decide)] at hrow
   obtain ⟨y0,y1,y2,y3,y4,y5⟩:=zc6 (hC.ow.row i hrow);obtain ⟨yf0,yf1,yf2,yf3,yf4,yf5⟩:=zf6 (hC.ow.row i hrow);have HZ:=zh (put6 hC.ow i hrow (.int .i64 n0) (.int .i64 n1) (.int .i64 n2) (.int .i64 n3) (.int .i64 n4) (.int .i64 n5))
   clear hd hcl;refine zw rfl fun K hK=>?_
   go_simp;refine hK _ _ ⟨_,_,_,_,_,_,_,?_,{hC with ow:=HZ.out,h4:=?_,h5:=?_}⟩
   ·simp only [Act.put,zT,zZ,zS]
   ·exact fun h=>by
     obtain ⟨v',i',e1,e2⟩:=hC.h4 h
     have hne:i'≠i:=fun e=>by
      subst e
      rw [hrow] at e2;have q:v=v':=by
       have q:=congrArg (fun o:Option Rw=>o.map (fun r:Rw=>r.A)) e2
       simpa using q
      exact hC.ne h hal v' v e1 rfl q.symm
     exact ⟨v',i',e1,by rw [zqf (Ne.symm hne)];exact e2⟩
   ·exact fun _=>⟨v,i,rfl,by rw [if_pos (show z2k Ld 7 7=true by simp [z2k])];exact z0b hrow⟩
 ·rintro Ld b W hL ⟨u0,u1,u2,u3,u4,u5,O,rfl,hC⟩;obtain ⟨v4,i4,rfl,r4⟩:=hC.h4 (hL 4 (by decide))
  obtain ⟨v5,i5,rfl,r5⟩:=hC.h5 (hL 5 (by decide))
  rw [if_pos (hL 6 (by decide))] at r4
  rw [if_pos (hL 7 (by decide))] at r5
  have HG:Hid (∀ i,i<6→∃ (b:Nat) (n:Int),b≤12∧(Pl.mk (so:Int) ch ra ba ro co).l[i]?=some (b:Int)∧(Pl.mk n0 n1 n2 n3 n4 n5).l[i]?=some n∧∀ W2,Below W.heap.size W W2→W2.cell? ⟨v4,i,none⟩=some (.int .i64 (b:Int))∧W2.cell? ⟨v5,i,none⟩=some (.int .i64 n)):=fun i hi=>by
   have hcase:i=0∨i=1∨i=2∨i=3∨i=4∨i=5:=by omega
   clear hi;rcases hcase with rfl | rfl | rfl | rfl | rfl | rfl
   ·exact ⟨so,n0,hso,rfl,rfl,fun W2 h2=>⟨((hC.ow.go h2).row i4 r4).cellAt 0 (by decide),((hC.ow.go h2).row i5 r5).cellAt 0 (by decide)⟩⟩
   ·exact ⟨ch,n1,hch,rfl,rfl,fun W2 h2=>⟨((hC.ow.go h2).row i4 r4).cellAt 1 (by decide),((hC.ow.go h2).row i5 r5).cellAt 1 (by decide)⟩⟩
   ·exact ⟨ra,n2,hra,rfl,rfl,fun W2 h2=>⟨((hC.ow.go h2).row i4 r4).cellAt 2 (by decide),((hC.ow.go h2).row i5 r5).cellAt 2 (by decide)⟩⟩
   ·exact ⟨ba,n3,hba,rfl,rfl,fun W2 h2=>⟨((hC.ow.go h2).row i4 r4).cellAt 3 (by decide),((hC.ow.go h2).row i5 r5).cellAt 3 (by decide)⟩⟩
   ·exact ⟨ro,n4,hro,rfl,rfl,fun W2 h2=>⟨((hC.ow.go h2).row i4 r4).cellAt 4 (by decide),((hC.ow.go h2).row i5 r5).cellAt 4 (by decide)⟩⟩
   ·exact ⟨co,n5,hco,rfl,rfl,fun W2 h2=>⟨((hC.ow.go h2).row i4 r4).cellAt 5 (by decide),((hC.ow.go h2).row i5 r5).cellAt 5 (by decide)⟩⟩
  have HB:=zh (HL.out W hC.ow.below)
  clear hL r4 r5 hC HX HY HW HNu HL HO hso hch hra hba hro hco;simp only [Act.put,zT,zZ,zS];go_wp2_with fail;go_loopw [7] (fun x wr=>RVr ⟨(so:Int),ch,ra,ba,ro,co⟩ ⟨n0,n1,n2,n3,n4,n5⟩ W x wr) (fun x _=>6 - (intOf x).toNat)
  case atStart=>exact ⟨0,by omega,rfl,Below.refl _ _,fun j hj=>absurd hj (Nat.not_lt_zero _)⟩
  case round=>
   obtain ⟨i,hi,rfl,hbl,hI⟩:=hrel;rcases zqi i 6 with h | h
   ·obtain ⟨b,n,hb,q1,q2,q3⟩:=HG.out i h
    have HT:=zh (z2b q1 q2)
    have HQ:Hid (∀ W2,Below wr.heap.size wr W2→W2.cell? ⟨v4,i,none⟩=some (.int .i64 (b:Int))∧W2.cell? ⟨v5,i,none⟩=some (.int .i64 n)):=fun W2 h2=>q3 W2 (hbl.trans (h2.mono hbl.size))
    have HBr:=zh (HB.out.trans (hbl.mono HB.out.size))
    have HBl:=zh hbl;clear hbl;have d0:decide ((i:Int)<6)=true:=zt (by omega)
    have HJ:Hid ((0:Int)≤(i:Int)∧(i:Int)<6∧i<6):=⟨by omega,by omega,h⟩
    have HH:=zh h;have HI6:=zh hb;clear hb q1 q2 q3 h hi HG HB;go_wp2_with fail;rcases Int.lt_or_le n 0 with h | h
    ·have HN:Hid (decide (n<0)=true):=zt h
     have HF:Hid (res=false):=by unfold Hid;rw [← HR.out];exact z2n HH.out (by rw [HT.out,zn (show ¬ 0≤n by omega)];rfl)
     clear h;refine z0u (VnI wr v4 v5 i b n) (by kernel_rfl) (by kernel_rfl) ?_ ?_ ?_
     ·refine ⟨u19,u20,u21,u22,u23,u24,u25,u26,u27,u28,u29,u30,u31,u32,u33,?_,⟨z0s (Below.refl _ _) 1,?_,?_,?_,?_,?_,?_,?_,?_,?_,?_,?_,?_,?_,?_,?_⟩⟩
      ·simp only [Act.put,zT,zZ,zS]
      all_goals (intro h;cases h)
     ·rintro jj Ld b W hj hf hcl hd ⟨u0,u1,u2,u3,u4,u5,u6,u7,u8,u9,u10,u11,u12,u13,u14,rfl,hC⟩;have hj':jj<15:=hj
      have hcase:jj=0∨jj=1∨jj=2∨jj=3∨jj=4∨jj=5∨jj=6∨jj=7∨jj=8∨jj=9∨jj=10∨jj=11∨jj=12∨jj=13∨jj=14:=by omega
      clear hj hj';simp only [Act.put,zT,zZ,zS];rcases hcase with rfl | rfl | rfl | rfl | rfl | rfl | rfl | rfl | rfl | rfl | rfl | rfl | rfl | rfl | rfl
      ·clear hd hcl;refine zw rfl fun K hK=>?_
       go_simp;refine hK _ _ ⟨_,u1,u2,u3,u4,u5,u6,u7,u8,u9,u10,u11,u12,u13,u14,?_,{hC with h0:=fun _=>rfl}⟩;simp only [Act.put,zT,zZ,zS]
      ·obtain rfl:=hC.h0 (hd 0 (by kernel_rfl));have hj:=HJ.out;clear hd hcl;refine zw rfl fun K hK=>?_
       go_simp;refine hK _ _ ⟨_,_,u2,u3,u4,u5,u6,u7,u8,u9,u10,u11,u12,u13,u14,?_,{hC with h1:=fun _=>rfl}⟩;simp only [Act.put,zT,zZ,zS]
      ·obtain rfl:=hC.h1 (hd 1 (by kernel_rfl));obtain ⟨q0,q1⟩:=HQ.out W (hC.bl)
       clear hd hcl;refine zw rfl fun K hK=>?_
       go_simp;refine hK _ _ ⟨u0,_,_,u3,u4,u5,u6,u7,u8,u9,u10,u11,u12,u13,u14,?_,{hC with h2:=fun _=>rfl}⟩;simp only [Act.put,zT,zZ,zS]
      ·obtain rfl:=hC.h2 (hd 2 (by kernel_rfl));have hn:=HN.out;clear hd hcl;refine zw rfl fun K hK=>?_
       go_simp;refine hK _ _ ⟨u0,u1,_,_,u4,u5,u6,u7,u8,u9,u10,u11,u12,u13,u14,?_,{hC with h3:=fun _=>rfl}⟩;simp only [Act.put,zT,zZ,zS]
      ·obtain rfl:=hC.h3 (hd 3 (by kernel_rfl));clear hd hcl;refine zw rfl fun K hK=>?_
       go_simp;refine hK _ _ ⟨u0,u1,u2,_,_,u5,u6,u7,u8,u9,u10,u11,u12,u13,u14,?_,{hC with h4:=fun _=>rfl}⟩;simp only [Act.put,zT,zZ,zS]
      ·obtain rfl:=hC.h4 (hd 4 (by kernel_rfl));clear hd hcl;refine zw rfl fun K hK=>?_
       go_simp;refine hK _ _ ⟨u0,u1,u2,u3,_,undef,u6,u7,u8,u9,u10,u11,u12,u13,u14,?_,⟨hC.bl,hC.h0,hC.h1,hC.h2,hC.h3,hC.h4,fun _=>trivial,hC.h6,hC.h7,hC.h8,hC.h9,hC.h10,hC.h11,hC.h12,hC.h13,hC.h14⟩⟩;simp only [Act.put,zT,zZ,zS]
      ·obtain rfl:=hC.h4 (hd 4 (by kernel_rfl));clear hd hcl;refine zw rfl fun K hK=>?_
       go_simp;refine hK _ _ ⟨u0,u1,u2,u3,_,u5,undef,u7,u8,u9,u10,u11,u12,u13,u14,?_,⟨hC.bl,hC.h0,hC.h1,hC.h2,hC.h3,hC.h4,hC.h5,fun _=>trivial,hC.h7,hC.h8,hC.h9,hC.h10,hC.h11,hC.h12,hC.h13,hC.h14⟩⟩;simp only [Act.put,zT,zZ,zS]
      ·obtain rfl:=hC.h4 (hd 4 (by kernel_rfl));clear hd hcl;refine zw rfl fun K hK=>?_
       go_simp;refine hK _ _ ⟨u0,u1,u2,u3,_,u5,u6,undef,u8,u9,u10,u11,u12,u13,u14,?_,⟨hC.bl,hC.h0,hC.h1,hC.h2,hC.h3,hC.h4,hC.h5,hC.h6,fun _=>trivial,hC.h8,hC.h9,hC.h10,hC.h11,hC.h12,hC.h13,hC.h14⟩⟩;simp only [Act.put,zT,zZ,zS]
      ·obtain rfl:=hC.h4 (hd 4 (by kernel_rfl));clear hd hcl;refine zw rfl fun K hK=>?_
       go_simp;refine hK _ _ ⟨u0,u1,u2,u3,_,u5,u6,u7,undef,u9,u10,u11,u12,u13,u14,?_,⟨hC.bl,hC.h0,hC.h1,hC.h2,hC.h3,hC.h4,hC.h5,hC.h6,hC.h7,fun _=>trivial,hC.h9,hC.h10,hC.h11,hC.h12,hC.h13,hC.h14⟩⟩;simp only [Act.put,zT,zZ,zS]
      ·obtain rfl:=hC.h4 (hd 4 (by kernel_rfl));clear hd hcl;refine zw rfl fun K hK=>?_
       go_simp;refine hK _ _ ⟨u0,u1,u2,u3,_,u5,u6,u7,u8,undef,u10,u11,u12,u13,u14,?_,⟨hC.bl,hC.h0,hC.h1,hC.h2,hC.h3,hC.h4,hC.h5,hC.h6,hC.h7,hC.h8,fun _=>trivial,hC.h10,hC.h11,hC.h12,hC.h13,hC.h14⟩⟩;simp only [Act.put,zT,zZ,zS]
      ·obtain rfl:=hC.h4 (hd 4 (by kernel_rfl));clear hd hcl;refine zw rfl fun K hK=>?_
       go_simp;refine hK _ _ ⟨u0,u1,u2,u3,_,u5,u6,u7,u8,u9,undef,u11,u12,u13,u14,?_,⟨hC.bl,hC.h0,hC.h1,hC.h2,hC.h3,hC.h4,hC.h5,hC.h6,hC.h7,hC.h8,hC.h9,fun _=>trivial,hC.h11,hC.h12,hC.h13,hC.h14⟩⟩;simp only [Act.put,zT,zZ,zS]
      ·obtain rfl:=hC.h4 (hd 4 (by kernel_rfl));clear hd hcl;refine zw rfl fun K hK=>?_
       go_simp;refine hK _ _ ⟨u0,u1,u2,u3,_,u5,u6,u7,u8,u9,u10,undef,u12,u13,u14,?_,⟨hC.bl,hC.h0,hC.h1,hC.h2,hC.h3,hC.h4,hC.h5,hC.h6,hC.h7,hC.h8,hC.h9,hC.h10,fun _=>trivial,hC.h12,hC.h13,hC.h14⟩⟩;simp only [Act.put,zT,zZ,zS]
      ·obtain rfl:=hC.h4 (hd 4 (by kernel_rfl));clear hd hcl;refine zw rfl fun K hK=>?_
       go_simp;refine hK _ _ ⟨u0,u1,u2,u3,_,u5,u6,u7,u8,u9,u10,u11,undef,u13,u14,?_,⟨hC.bl,hC.h0,hC.h1,hC.h2,hC.h3,hC.h4,hC.h5,hC.h6,hC.h7,hC.h8,hC.h9,hC.h10,hC.h11,fun _=>trivial,hC.h13,hC.h14⟩⟩;simp only [Act.put,zT,zZ,zS]
      ·obtain rfl:=hC.h4 (hd 4 (by kernel_rfl));clear hd hcl;refine zw rfl fun K hK=>?_
       go_simp;refine hK _ _ ⟨u0,u1,u2,u3,_,u5,u6,u7,u8,u9,u10,u11,u12,undef,u14,?_,⟨hC.bl,hC.h0,hC.h1,hC.h2,hC.h3,hC.h4,hC.h5,hC.h6,hC.h7,hC.h8,hC.h9,hC.h10,hC.h11,hC.h12,fun _=>trivial,hC.h14⟩⟩;simp only [Act.put,zT,zZ,zS]
      ·obtain rfl:=hC.h4 (hd 4 (by kernel_rfl));clear hd hcl;refine zw rfl fun K hK=>?_
       go_simp;refine hK _ _ ⟨u0,u1,u2,u3,_,u5,u6,u7,u8,u9,u10,u11,u12,u13,_,?_,{hC with h14:=fun _=>rfl}⟩;simp only [Act.put,zT,zZ,zS]
     ·rintro Ld b W hL ⟨u0,u1,u2,u3,u4,u5,u6,u7,u8,u9,u10,u11,u12,u13,u14,rfl,hC⟩;obtain rfl:=hC.h14 (hL 14 (by show 14<15;decide))
      have HE:=zh (HBr.out.trans (hC.bl.mono HBr.out.size))
      have HEl:=zh (HBl.out.trans (hC.bl.mono HBl.out.size))
      clear hC hL;simp only [Act.put,zT,zZ,zS];go_wp2_with fail;go_ret;exact ⟨by rw [HF.out];rfl,HE.out⟩
    ·have HN:Hid (decide (n<0)=false):=zn (by omega)
     have HW6:Hid (IntKind.u64.wrap (b:Int)=(b:Int)):=IntWalk.u64_in _ (by have:=HI6.out;omega)
     have HW7:Hid (IntKind.i64.wrap ((2:Int) ^ min b 64)=2 ^ b):=by unfold Hid;rw [show min b 64=b from by have:=HI6.out;omega];exact z1bv HI6.out
     obtain ⟨r,hr⟩:∃ r,decide ((2:Int) ^ b≤n)=r:=⟨_,rfl⟩
     have HRr:=zh hr;have H0n:=zh h;clear h hr;refine z0u (VyI wr v4 v5 i b n r) (by kernel_rfl) (by kernel_rfl) ?_ ?_ ?_
     ·refine ⟨u19,u20,u21,u22,u23,u24,u25,u26,u27,u28,u29,u30,u31,u32,u33,?_,⟨z0s (Below.refl _ _) 1,?_,?_,?_,?_,?_,?_,?_,?_,?_,?_,?_,?_,?_,?_,?_⟩⟩
      ·simp only [Act.put,zT,zZ,zS]
      all_goals (intro h;cases h)
     ·rintro jj Ld b W hj hf hcl hd ⟨u0,u1,u2,u3,u4,u5,u6,u7,u8,u9,u10,u11,u12,u13,u14,rfl,hC⟩;have hj':jj<15:=hj
      have hcase:jj=0∨jj=1∨jj=2∨jj=3∨jj=4∨jj=5∨jj=6∨jj=7∨jj=8∨jj=9∨jj=10∨jj=11∨jj=12∨jj=13∨jj=14:=by omega
      clear hj hj';simp only [Act.put,zT,zZ,zS];rcases hcase with rfl | rfl | rfl | rfl | rfl | rfl | rfl | rfl | rfl | rfl | rfl | rfl | rfl | rfl | rfl
      ·clear hd hcl;refine zw rfl fun K hK=>?_
       go_simp;refine hK _ _ ⟨_,u1,u2,u3,u4,u5,u6,u7,u8,u9,u10,u11,u12,u13,u14,?_,{hC with h0:=fun _=>rfl}⟩;simp only [Act.put,zT,zZ,zS]
      ·obtain rfl:=hC.h0 (hd 0 (by kernel_rfl));have hj:=HJ.out;clear hd hcl;refine zw rfl fun K hK=>?_
       go_simp;refine hK _ _ ⟨_,_,u2,u3,u4,u5,u6,u7,u8,u9,u10,u11,u12,u13,u14,?_,{hC with h1:=fun _=>rfl}⟩;simp only [Act.put,zT,zZ,zS]
      ·obtain rfl:=hC.h1 (hd 1 (by kernel_rfl));obtain ⟨q0,q1⟩:=HQ.out W (hC.bl)
       clear hd hcl;refine zw rfl fun K hK=>?_
       go_simp;refine hK _ _ ⟨u0,_,_,u3,u4,u5,u6,u7,u8,u9,u10,u11,u12,u13,u14,?_,{hC with h2:=fun _=>rfl}⟩;simp only [Act.put,zT,zZ,zS]
      ·obtain rfl:=hC.h2 (hd 2 (by kernel_rfl));have hn:=HN.out;clear hd hcl;refine zw rfl fun K hK=>?_
       go_simp;refine hK _ _ ⟨u0,u1,_,_,u4,u5,u6,u7,u8,u9,u10,u11,u12,u13,u14,?_,{hC with h3:=fun _=>rfl}⟩;simp only [Act.put,zT,zZ,zS]
      ·obtain rfl:=hC.h3 (hd 3 (by kernel_rfl));clear hd hcl;refine zw rfl fun K hK=>?_
       go_simp;refine hK _ _ ⟨u0,u1,u2,_,_,u5,u6,u7,u8,u9,u10,u11,u12,u13,u14,?_,{hC with h4:=fun _=>rfl}⟩;simp only [Act.put,zT,zZ,zS]
      ·obtain rfl:=hC.h4 (hd 4 (by kernel_rfl));clear hd hcl;refine zw rfl fun K hK=>?_
       go_simp;refine hK _ _ ⟨u0,u1,u2,u3,_,_,u6,u7,u8,u9,u10,u11,u12,u13,u14,?_,{hC with h5:=fun _=>rfl}⟩;simp only [Act.put,zT,zZ,zS]
      ·obtain rfl:=hC.h4 (hd 4 (by kernel_rfl));obtain rfl:=hC.h5 (hd 5 (by kernel_rfl));have hj:=HJ.out;clear hd hcl;refine zw rfl fun K hK=>?_
       go_simp;refine hK _ _ ⟨u0,u1,u2,u3,_,_,_,u7,u8,u9,u10,u11,u12,u13,u14,?_,{hC with h6:=fun _=>rfl}⟩;simp only [Act.put,zT,zZ,zS]
      ·obtain rfl:=hC.h4 (hd 4 (by kernel_rfl));obtain rfl:=hC.h6 (hd 6 (by kernel_rfl));obtain ⟨q0,q1⟩:=HQ.out W (hC.bl)
       clear hd hcl;refine zw rfl fun K hK=>?_
       go_simp;refine hK _ _ ⟨u0,u1,u2,u3,_,u5,_,_,u8,u9,u10,u11,u12,u13,u14,?_,{hC with h7:=fun _=>rfl}⟩;simp only [Act.put,zT,zZ,zS]
      ·obtain rfl:=hC.h4 (hd 4 (by kernel_rfl));clear hd hcl;refine zw rfl fun K hK=>?_
       go_simp;refine hK _ _ ⟨u0,u1,u2,u3,_,u5,u6,u7,_,u9,u10,u11,u12,u13,u14,?_,{hC with h8:=fun _=>rfl}⟩;simp only [Act.put,zT,zZ,zS]
      ·obtain rfl:=hC.h4 (hd 4 (by kernel_rfl));obtain rfl:=hC.h8 (hd 8 (by kernel_rfl));have hj:=HJ.out;clear hd hcl;refine zw rfl fun K hK=>?_
       go_simp;refine hK _ _ ⟨u0,u1,u2,u3,_,u5,u6,u7,_,_,u10,u11,u12,u13,u14,?_,{hC with h9:=fun _=>rfl}⟩;simp only [Act.put,zT,zZ,zS]
      ·obtain rfl:=hC.h4 (hd 4 (by kernel_rfl));obtain rfl:=hC.h9 (hd 9 (by kernel_rfl));obtain ⟨q0,q1⟩:=HQ.out W (hC.bl)
       clear hd hcl;refine zw rfl fun K hK=>?_
       go_simp;refine hK _ _ ⟨u0,u1,u2,u3,_,u5,u6,u7,u8,_,_,u11,u12,u13,u14,?_,{hC with h10:=fun _=>rfl}⟩;simp only [Act.put,zT,zZ,zS]
      ·obtain rfl:=hC.h4 (hd 4 (by kernel_rfl));obtain rfl:=hC.h10 (hd 10 (by kernel_rfl));have hw:=HW6.out;clear hd hcl;refine zw rfl fun K hK=>?_
       go_simp;refine hK _ _ ⟨u0,u1,u2,u3,_,u5,u6,u7,u8,u9,_,_,u12,u13,u14,?_,{hC with h11:=fun _=>rfl}⟩;simp only [Act.put,zT,zZ,zS]
      ·obtain rfl:=hC.h4 (hd 4 (by kernel_rfl));obtain rfl:=hC.h11 (hd 11 (by kernel_rfl));have hw:=HW7.out;clear hd hcl;refine zw rfl fun K hK=>?_
       go_simp;refine hK _ _ ⟨u0,u1,u2,u3,_,u5,u6,u7,u8,u9,u10,_,_,u13,u14,?_,{hC with h12:=fun _=>rfl}⟩;simp only [Act.put,zT,zZ,zS]
      ·obtain rfl:=hC.h4 (hd 4 (by kernel_rfl));obtain rfl:=hC.h7 (hd 7 (by kernel_rfl));obtain rfl:=hC.h12 (hd 12 (by kernel_rfl));have hr:=HRr.out;clear hd hcl;refine zw rfl fun K hK=>?_
       go_simp;refine hK _ _ ⟨u0,u1,u2,u3,_,u5,u6,_,u8,u9,u10,u11,_,_,u14,?_,{hC with h13:=fun _=>rfl}⟩;simp only [Act.put,zT,zZ,zS]
      ·obtain rfl:=hC.h4 (hd 4 (by kernel_rfl));obtain rfl:=hC.h13 (hd 13 (by kernel_rfl));clear hd hcl;refine zw rfl fun K hK=>?_
       go_simp;refine hK _ _ ⟨u0,u1,u2,u3,_,u5,u6,u7,u8,u9,u10,u11,u12,_,_,?_,{hC with h14:=fun _=>rfl}⟩;simp only [Act.put,zT,zZ,zS]
     ·rintro Ld b W hL ⟨u0,u1,u2,u3,u4,u5,u6,u7,u8,u9,u10,u11,u12,u13,u14,rfl,hC⟩;obtain rfl:=hC.h14 (hL 14 (by show 14<15;decide))
      have HE:=zh (HBr.out.trans (hC.bl.mono HBr.out.size))
      have HEl:=zh (HBl.out.trans (hC.bl.mono HBl.out.size))
      clear hC hL;simp only [Act.put,zT,zZ,zS];cases r with
      | true=>
       have HF:Hid (res=false):=by unfold Hid;rw [← HR.out];exact z2n HH.out (by rw [HT.out,zn (show ¬ n<2 ^ (b:Int).toNat from by have:=of_decide_eq_true HRr.out;show ¬ n<2 ^ b;omega),Bool.and_false])
       go_wp2_with fail;go_ret;exact ⟨by rw [HF.out];rfl,HE.out⟩
      | false=>
       have HP:Hid (plT ⟨(so:Int),ch,ra,ba,ro,co⟩ ⟨n0,n1,n2,n3,n4,n5⟩ i=true):=by unfold Hid;rw [HT.out,zt H0n.out,zt (show n<2 ^ (b:Int).toNat from by have:=of_decide_eq_false HRr.out;show n<2 ^ b;omega)];rfl
       have hw1:IntKind.i64.wrap ((i:Int)+1)=((i+1:Nat):Int):=by rw [IntWalk.i64_in _ (by have:=HH.out;omega)];omega
       go_wp2_with fail;go_roundw
       case rel=>exact ⟨i+1,HH.out,rfl,HEl.out,fun z hz=>by
        rcases zqi z i with h | h
        ·exact hI.out z h
        ·obtain rfl:z=i:=by omega
         exact HP.out⟩
       case measure=>
        have:=HH.out
        simp [intOf]
        omega
   ·obtain rfl:i=6:=by omega
    have HE:=zh (HB.out.trans (hbl.mono HB.out.size))
    have HF:Hid (res=true):=by unfold Hid;rw [← HR.out];exact z6b HSv.out hI.out
    clear hbl;go_wp2_with fail;go_ret;exact ⟨by rw [HF.out];rfl,HE.out⟩
namespace Cl
set_option maxHeartbeats 8000000
def snV (s:Pl)(x:Sn):Bool:=plV s x.p && decide (0≤x.cp) && decide (x.cp<40) && decide (0≤x.ti) && decide (x.ti≤1099511627776)
end Cl
theorem z5ao (s p:Pl)(hs:¬ shV s)(w:World):
  Calls Tryz.prog 101 #[.agg s.vs,.agg p.vs] w fun e w'=>e=.returned (.bool (plV s p))∧Below w.heap.size w w':=by
 have HV:=zh (fun W=>z2ad s W)
 rw [zn hs] at HV;rw [z6aq hs];obtain ⟨so,ch,ra,ba,ro,co⟩:=s;obtain ⟨n0,n1,n2,n3,n4,n5⟩:=p;unfold Pl.vs at *
 have H0:=((Ow.of (St.refl w)).arr #[.int .i64 so,.int .i64 ch,.int .i64 ra,.int .i64 ba,.int .i64 ro,.int .i64 co] 6 rfl (by omega) 33).arr #[.int .i64 n0,.int .i64 n1,.int .i64 n2,.int .i64 n3,.int .i64 n4,.int .i64 n5] 6 rfl (by omega) 38
 simp only [zqc,zqb,World.size_alloc] at H0;obtain ⟨a0,a1,a2,a3,a4,a5⟩:=zc6 (H0.row 0 rfl);clear hs;go_enter Tryz.func101,Tryz.ntmps101
 go_wp2_with fail;refine (HV.out _).mono ?_
 rintro e w1 ⟨rfl,hb⟩;have HB:=zh (H0.go hb).below
 clear a0 a1 a2 a3 a4 a5 HV hb H0;go_wp2_with fail;go_ret;exact ⟨rfl,HB.out⟩
theorem z3be (s p:Pl)(w:World):
  Calls Tryz.prog 101 #[.agg s.vs,.agg p.vs] w fun e w'=>e=.returned (.bool (plV s p))∧Below w.heap.size w w':=by
 by_cases hs:shV s
 ·obtain ⟨so,ch,ra,ba,ro,co,rfl,h12⟩:=z9n hs
  exact z5an so ch ra ba ro co h12 p.so p.ch p.ra p.ba p.ro p.co w
 ·exact z5ao s p hs w
theorem z4ba (s:Pl)(x:Sn)(w:World):
  Calls Tryz.prog 57 #[.agg s.vs,.agg x.vs] w fun e w'=>e=.returned (.bool (snV s x))∧Below w.heap.size w w':=by
 obtain ⟨⟨x0,x1,x2,x3,x4,x5⟩,x6,x7⟩:=x
 have HV:=zh (fun W=>z3bz s ⟨x0,x1,x2,x3,x4,x5⟩ W)
 have H0:=((Ow.of (St.refl w)).arr s.vs 6 rfl (by omega) 33).arr #[.int .i64 x0,.int .i64 x1,.int .i64 x2,.int .i64 x3,.int .i64 x4,.int .i64 x5,.int .i64 x6,.int .i64 x7] 8 rfl (by omega) 40
 obtain ⟨so,ch,ra,ba,ro,co⟩:=s;unfold Sn.vs;unfold Pl.vs at *
 simp only [zqc,zqb,World.size_alloc] at H0;obtain ⟨a0,a1,a2,a3,a4,a5⟩:=zc6 (H0.row 0 rfl);obtain ⟨b0,b1,b2,b3,b4,b5,b6,b7⟩:=zc8 (H0.row 1 rfl);obtain ⟨q0,h0⟩:∃ q,plV ⟨so,ch,ra,ba,ro,co⟩ ⟨x0,x1,x2,x3,x4,x5⟩=q:=⟨_,rfl⟩
 rw [h0] at HV;obtain ⟨q1,h1⟩:∃ q,decide (0≤x6)=q:=⟨_,rfl⟩
 obtain ⟨q2,h2⟩:∃ q,decide (x6<40)=q:=⟨_,rfl⟩
 obtain ⟨q3,h3⟩:∃ q,decide (0≤x7)=q:=⟨_,rfl⟩
 obtain ⟨q4,h4⟩:∃ q,decide (x7≤1099511627776)=q:=⟨_,rfl⟩
 go_enter Tryz.func57,Tryz.ntmps57
 go_wp2_with fail;refine (HV.out _).mono ?_
 rintro e w1 ⟨rfl,hb⟩;have H1:=H0.go hb
 clear hb H0 HV;clear a0 a1 a2 a3 a4 a5 b0 b1 b2 b3 b4 b5 b6 b7;have c6:=(H1.row 1 rfl).cellAt 6 (by decide)
 have c7:=(H1.row 1 rfl).cellAt 7 (by decide)
 have HB:=zh H1.below;clear H1;have HS:Hid (snV ⟨so,ch,ra,ba,ro,co⟩ ⟨⟨x0,x1,x2,x3,x4,x5⟩,x6,x7⟩=(q0 && q1 && q2 && q3 && q4)):=by unfold Hid snV;rw [h0,h1,h2,h3,h4]
 clear h0;cases q0 with
 | false=>
  go_wp2_with fail;go_ret;exact ⟨by rw [HS.out];rfl,HB.out⟩
 | true=>
  cases q1 with
  | false=>
   go_wp2_with fail;go_ret;exact ⟨by rw [HS.out];rfl,HB.out⟩
  | true=>
   cases q2 with
   | false=>
    go_wp2_with fail;go_ret;exact ⟨by rw [HS.out];rfl,HB.out⟩
   | true=>
    cases q3 with
    | false=>
     go_wp2_with fail;go_ret;exact ⟨by rw [HS.out];rfl,HB.out⟩
    | true=>
     cases q4 with
     | false=>
      go_wp2_with fail;go_ret;exact ⟨by rw [HS.out];rfl,HB.out⟩
     | true=>
      go_wp2_with fail;go_ret;exact ⟨by rw [HS.out];rfl,HB.out⟩
theorem z3bf (s:Pl)(x:Sn)(w:World):
  Calls Tryz.prog 67 #[.agg s.vs,.agg x.vs] w fun e w'=>e=.returned (.bool (snV s x))∧Below w.heap.size w w':=by
 obtain ⟨⟨x0,x1,x2,x3,x4,x5⟩,x6,x7⟩:=x
 have HV0:=zh (fun W=>z2ad s W)
 have HV:=zh (fun W=>z3be s ⟨x0,x1,x2,x3,x4,x5⟩ W)
 have H0:=((Ow.of (St.refl w)).arr s.vs 6 rfl (by omega) 33).arr #[.int .i64 x0,.int .i64 x1,.int .i64 x2,.int .i64 x3,.int .i64 x4,.int .i64 x5,.int .i64 x6,.int .i64 x7] 8 rfl (by omega) 40
 obtain ⟨so,ch,ra,ba,ro,co⟩:=s;unfold Sn.vs;unfold Pl.vs at *
 simp only [zqc,zqb,World.size_alloc] at H0;obtain ⟨a0,a1,a2,a3,a4,a5⟩:=zc6 (H0.row 0 rfl);obtain ⟨b0,b1,b2,b3,b4,b5,b6,b7⟩:=zc8 (H0.row 1 rfl);obtain ⟨q0,h0⟩:∃ q,plV ⟨so,ch,ra,ba,ro,co⟩ ⟨x0,x1,x2,x3,x4,x5⟩=q:=⟨_,rfl⟩
 rw [h0] at HV;obtain ⟨q1,h1⟩:∃ q,decide (0≤x6)=q:=⟨_,rfl⟩
 obtain ⟨q2,h2⟩:∃ q,decide (x6<40)=q:=⟨_,rfl⟩
 obtain ⟨q3,h3⟩:∃ q,decide (0≤x7)=q:=⟨_,rfl⟩
 obtain ⟨q4,h4⟩:∃ q,decide (x7≤1099511627776)=q:=⟨_,rfl⟩
 go_enter Tryz.func67,Tryz.ntmps67
 go_wp2_with fail;refine (HV0.out _).mono ?_
 rintro e w1 ⟨rfl,hb⟩;have H1:=H0.go hb
 clear hb H0 HV0;clear a0 a1 a2 a3 a4 a5 b0 b1 b2 b3 b4 b5 b6 b7;obtain ⟨a0,a1,a2,a3,a4,a5⟩:=zc6 (H1.row 0 rfl);obtain ⟨b0,b1,b2,b3,b4,b5,b6,b7⟩:=zc8 (H1.row 1 rfl);cases hv:decide (shV ⟨so,ch,ra,ba,ro,co⟩) with
 | false=>
  have HF:Hid (snV ⟨so,ch,ra,ba,ro,co⟩ ⟨⟨x0,x1,x2,x3,x4,x5⟩,x6,x7⟩=false):=by unfold Hid snV;rw [z6aq (of_decide_eq_false hv)];rfl
  have HB:=zh H1.below;clear h0 h1 h2 h3 h4 H1 HV;go_wp2_with fail;go_ret;exact ⟨by rw [HF.out];rfl,HB.out⟩
 | true=>
 go_wp2_with fail;refine (HV.out _).mono ?_
 rintro e w2 ⟨rfl,hb⟩;have H1:=H1.go hb
 clear hb HV;clear a0 a1 a2 a3 a4 a5 b0 b1 b2 b3 b4 b5 b6 b7;have c6:=(H1.row 1 rfl).cellAt 6 (by decide)
 have c7:=(H1.row 1 rfl).cellAt 7 (by decide)
 have HB:=zh H1.below;clear H1;have HS:Hid (snV ⟨so,ch,ra,ba,ro,co⟩ ⟨⟨x0,x1,x2,x3,x4,x5⟩,x6,x7⟩=(q0 && q1 && q2 && q3 && q4)):=by unfold Hid snV;rw [h0,h1,h2,h3,h4]
 clear h0;cases q0 with
 | false=>
  go_wp2_with fail;go_ret;exact ⟨by rw [HS.out];rfl,HB.out⟩
 | true=>
  cases q1 with
  | false=>
   go_wp2_with fail;go_ret;exact ⟨by rw [HS.out];rfl,HB.out⟩
  | true=>
   cases q2 with
   | false=>
    go_wp2_with fail;go_ret;exact ⟨by rw [HS.out];rfl,HB.out⟩
   | true=>
    cases q3 with
    | false=>
     go_wp2_with fail;go_ret;exact ⟨by rw [HS.out];rfl,HB.out⟩
    | true=>
     cases q4 with
     | false=>
      go_wp2_with fail;go_ret;exact ⟨by rw [HS.out];rfl,HB.out⟩
     | true=>
      go_wp2_with fail;go_ret;exact ⟨by rw [HS.out];rfl,HB.out⟩
namespace Cl
set_option maxHeartbeats 8000000
def z6k (s:Pl)(l:List Sn):Bool:=l.all (snV s)
theorem z3ai {s:Pl}{l:List Sn}{i:Nat}{x:Sn}(hx:l[i]?=some x)(h:snV s x=false):z6k s l=false:=by
 unfold z6k;rw [Bool.eq_false_iff];intro e;rw [List.all_eq_true.1 e x (List.mem_of_getElem? hx)] at h
 cases h
theorem z3ah {s:Pl}{l:List Sn}(h:∀ (j:Nat) (x:Sn),l[j]?=some x→snV s x=true):z6k s l=true:=by
 unfold z6k;refine List.all_eq_true.2 fun x hx=>?_
 obtain ⟨j,hj⟩:=List.getElem?_of_mem hx
 exact h j x hj
def CellsPl (w:World)(b:Nat)(s:Pl):Prop:=
 w.cell? ⟨b,0,none⟩=some (.int .i64 s.so)∧w.cell? ⟨b,1,none⟩=some (.int .i64 s.ch)∧w.cell? ⟨b,2,none⟩=some (.int .i64 s.ra)∧w.cell? ⟨b,3,none⟩=some (.int .i64 s.ba)∧w.cell? ⟨b,4,none⟩=some (.int .i64 s.ro)∧w.cell? ⟨b,5,none⟩=some (.int .i64 s.co)
theorem CellsPl.go {w w':World}{b:Nat}{s:Pl}(h:CellsPl w b s)(hb:Below w.heap.size w w')(hlt:b<w.heap.size):CellsPl w' b s:=by
 obtain ⟨h0,h1,h2,h3,h4,h5⟩:=h;exact ⟨(hb.cell (p:=⟨b,0,none⟩) hlt).trans h0,(hb.cell (p:=⟨b,1,none⟩) hlt).trans h1,(hb.cell (p:=⟨b,2,none⟩) hlt).trans h2,(hb.cell (p:=⟨b,3,none⟩) hlt).trans h3,(hb.cell (p:=⟨b,4,none⟩) hlt).trans h4,(hb.cell (p:=⟨b,5,none⟩) hlt).trans h5⟩
end Cl
theorem z4bm (s:Pl)(x:Sn)(sb:Nat)(w:World)(hs:CellsPl w sb s)(hlt:sb<w.heap.size):
  Calls Tryz.prog 56 #[.agg x.vs,.pointer (some ⟨sb,0,none⟩)] w fun e w'=>e=.returned (.bool (!snV s x))∧Below w.heap.size w w':=by
 obtain ⟨⟨x0,x1,x2,x3,x4,x5⟩,x6,x7⟩:=x
 have HV:=zh (fun W=>z4ba s ⟨⟨x0,x1,x2,x3,x4,x5⟩,x6,x7⟩ W)
 have H0:=(Ow.of (St.refl w)).arr #[.int .i64 x0,.int .i64 x1,.int .i64 x2,.int .i64 x3,.int .i64 x4,.int .i64 x5,.int .i64 x6,.int .i64 x7] 8 rfl (by omega) 40
 obtain ⟨c0,c1,c2,c3,c4,c5⟩:=hs.go H0.below hlt
 obtain ⟨so,ch,ra,ba,ro,co⟩:=s;unfold Sn.vs at *
 unfold Pl.vs at *
 simp only [zqc] at H0 c0 c1 c2 c3 c4 c5;obtain ⟨b0,b1,b2,b3,b4,b5,b6,b7⟩:=zc8 (H0.row 0 rfl);clear hs;go_enter Tryz.func56,Tryz.ntmps56
 go_wp2_with fail;refine (HV.out _).mono ?_
 rintro e w1 ⟨rfl,hb⟩;have HB:=zh (H0.go hb).below
 clear hb H0 HV b0 b1 b2 b3 b4 b5 b6 b7 c0 c1 c2 c3 c4 c5;go_wp2_with fail;go_ret;exact ⟨rfl,HB.out⟩
def RIx (s:Pl)(l:List Sn)(n:Nat)(w:World)(x:Value)(wr:World):Prop:=
 ∃ i:Nat,i≤n∧x=.int .i64 (i:Int)∧Below w.heap.size w wr∧Hid (∀ (j:Nat) (z:Sn),j<i→l[j]?=some z→snV s z=true)
theorem z7ax (s:Pl)(sb:Nat)(A:Option Addr)(n c:Nat)(l:List Sn)(w:World)(hn:l.length=n)(hn2:n≤125)(hl:Sl w w.heap.size A (fl l))(hs:CellsPl w sb s)(hlt:sb<w.heap.size):
  Calls Tryz.prog 89 #[.slice A n c,.func (.func 56) #[] #[.pointer (some ⟨sb,0,none⟩)]] w fun e w'=>∃ r:Int,e=.returned (.int .i64 r)∧decide (0≤r)=!z6k s l∧Below w.heap.size w w':=by
 have eg:∀ args w,(callFunc 56 args).run Tryz.prog w=.ok (.enter 56 args) w:=enters_of Tryz.func56 (by kernel_rfl) rfl
 have HL:=zh hl;have HS:=zh hs;have HN:=zh hn;have HLT:=zh hlt;clear hl hs hn hlt;go_enter Tryz.func89,Tryz.ntmps89
 go_wp2_with fail;go_loopw [8] (fun x wr=>RIx s l n w x wr) (fun x _=>n+1 - (intOf x).toNat)
 case atStart=>exact ⟨0,zqr _,rfl,Below.refl _ _,fun j z hj=>absurd hj (Nat.not_lt_zero _)⟩
 case round=>
  obtain ⟨i,hi,rfl,hbl,hI⟩:=hrel;rcases Nat.eq_or_lt_of_le hi with heq | hlt
  ·have hd:decide ((i:Int)<(n:Int))=false:=zn (by omega)
   have hd2:decide (i<n)=false:=zn (by omega)
   have HF:Hid (z6k s l=true):=z3ah fun j z hz=>hI.out j z (by have:=z0e hz;have:=HN.out;omega) hz
   have HB:=zh hbl;clear heq hi hbl;go_wp2_with fail;go_ret;exact ⟨_,rfl,by rw [HF.out];rfl,HB.out⟩
  ·have hd:decide ((i:Int)<(n:Int))=true:=zt (by omega)
   have hd2:decide (i<n)=true:=zt (by omega)
   obtain ⟨x,hx⟩:∃ x,l[i]?=some x:=⟨l[i]'(by rw [HN.out];exact hlt),zql _⟩
   obtain ⟨a,rfl,e0,e1,e2,e3,e4,e5,e6,e7⟩:=z3o (HL.out.below hbl) hx
   have HX:=zh hx;have HC:=zh (z4bm s x sb wr (HS.out.go hbl HLT.out) (zqv HLT.out hbl.size))
   have HB:=zh hbl;have HH:=zh hlt;have hli:(i:Int)<(n:Int):=by omega
   obtain ⟨⟨x0,x1,x2,x3,x4,x5⟩,x6,x7⟩:=x
   unfold Sn.vs at HC;simp only at e0 e1 e2 e3 e4 e5 e6 e7
   clear hi hbl hx;cases hv:snV s ⟨⟨x0,x1,x2,x3,x4,x5⟩,x6,x7⟩ with
   | false=>
    rw [hv] at HC;have HF:Hid (z6k s l=false):=z3ai HX.out hv
    clear hv;go_wp2_with (go_at_fn 56;refine HC.out.mono ?_;rintro e w' ⟨rfl,hb'⟩)
    go_ret;refine ⟨_,rfl,?_,HB.out.trans (hb'.mono HB.out.size)⟩
    rw [HF.out];exact zt (Int.natCast_nonneg i)
   | true=>
    rw [hv] at HC;have HV:=zh hv;clear hv;have hw1:IntKind.i64.wrap ((i:Int)+1)=((i+1:Nat):Int):=by rw [IntWalk.i64_in _ (by omega)];omega
    go_wp2_with (go_at_fn 56;refine HC.out.mono ?_;rintro e w' ⟨rfl,hb'⟩)
    go_roundw
    case rel=>exact ⟨i+1,HH.out,rfl,HB.out.trans (hb'.mono HB.out.size),fun j z hj hz=>by
     rcases zqi j i with h | h
     ·exact hI.out j z h hz
     ·obtain rfl:j=i:=by omega
      have:=HX.out
      rw [hz] at this;obtain rfl:=zqk this
      exact HV.out⟩
    case measure=>
     have:=HH.out
     simp [intOf]
     omega
theorem z0ag (s:Pl)(sb:Nat)(A:Option Addr)(n c:Nat)(l:List Sn)(w:World)(hn:l.length=n)(hn2:n≤125)(hl:Sl w w.heap.size A (fl l))(hs:CellsPl w sb s)(hlt:sb<w.heap.size):
  Calls Tryz.prog 59 #[.slice A n c,.func (.func 56) #[] #[.pointer (some ⟨sb,0,none⟩)]] w fun e w'=>e=.returned (.bool (!z6k s l))∧Below w.heap.size w w':=by
 have HC:=zh (z7ax s sb A n c l w hn hn2 hl hs hlt)
 clear hl hs hn hlt;go_enter Tryz.func59,Tryz.ntmps59
 go_wp2_with fail;refine HC.out.mono ?_;rintro e w1 ⟨r,rfl,hr,hb⟩;go_wp2_with fail;go_ret;exact ⟨by rw [← hr];rfl,hb⟩
end Go.Proofs.YtpmofjomadibmaaGreatDoor
