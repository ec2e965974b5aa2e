/- Xm Xn Xo Dm NBits NPowA -/
import Derived.Test.YtpmofjomadibmaaGreatDoorU07
import Derived.Lib.BitFns
namespace Go.Proofs.YtpmofjomadibmaaGreatDoor
set_option maxHeartbeats 8000000
open Go.RowKit Go.Sort
open Go.ChangeMaps (setBlock heap_setBlock_same heap_setBlock_other)
set_option linter.unusedVariables false
set_option maxRecDepth 100000
open Cl
theorem z7am (s p:Pl)(hs:¬ shV s)(w:World):
  Calls Tryz.prog 83 #[.agg s.vs,.agg p.vs] w fun e w'=>e=.returned (.bool (plV s p))/\Below w.heap.size w w':=by
 have HV:=zh (fun W=>z5a s W)
 rw [zn hs] at HV;rw [z7ar hs];obtain ⟨so,ch,ra,ba,ro,co⟩:=s;obtain ⟨n0,n1,n2,n3,n4,n5⟩:=p;unfold Pl.vs at *
 have H0:=((Ow.of (St.refl w)).arr #[.int .i64 so,.int .i64 ch,.int .i64 ra,.int .i64 ba,.int .i64 ro,.int .i64 co] 6 rfl (by omega) 33).arr #[.int .i64 n0,.int .i64 n1,.int .i64 n2,.int .i64 n3,.int .i64 n4,.int .i64 n5] 6 rfl (by omega) 38
 simp only [zqc,zqb,World.size_alloc] at H0;obtain ⟨a0,a1,a2,a3,a4,a5⟩:=zc6 (H0.row 0 rfl);clear hs;go_enter Tryz.func83,Tryz.ntmps83
 go_wp2_with fail;refine (HV.out _).mono ?_
 rintro e w1 ⟨rfl,hb⟩;have HB:=zh (H0.go hb).below
 clear a0 a1 a2 a3 a4 a5 HV hb H0;go_wp2_with fail;go_ret;exact ⟨rfl,HB.out⟩
theorem z6bd (s p:Pl)(w:World):
  Calls Tryz.prog 83 #[.agg s.vs,.agg p.vs] w fun e w'=>e=.returned (.bool (plV s p))/\Below w.heap.size w w':=by
 by_cases hs:shV s
 ·obtain ⟨so,ch,ra,ba,ro,co,rfl,h12⟩:=z9z hs
  exact z7al so ch ra ba ro co h12 p.so p.ch p.ra p.ba p.ro p.co w
 ·exact z7am s p hs w
theorem z3bm {b:Nat}(h:b<=12):IntKind.i64.wrap ((2:Int) ^ b)=(2:Int) ^ b:=by
 have:b=0∨b=1∨b=2∨b=3∨b=4∨b=5∨b=6∨b=7∨b=8∨b=9∨b=10∨b=11∨b=12:=by omega
 rcases this with rfl|rfl|rfl|rfl|rfl|rfl|rfl|rfl|rfl|rfl|rfl|rfl|rfl <;> decide +kernel
theorem z0a {α:Type}{O:List α}{i:Nat}{r r':α}(h:O[i]?=some r):(O.set i r')[i]?=some r':=List.getElem?_set_self (z0d h)
theorem put6 {w0 w:World}{O:List Rw}(h:Ow w0 w none [] [] O)(i:Nat){gb n c:Nat}{e:TypeId}{z0 z1 z2 z3 z4 z5:Value}(hi:O[i]?=some ⟨some ⟨gb,0,none⟩,n,c,e,[z0,z1,z2,z3,z4,z5]⟩)(v0 v1 v2 v3 v4 v5:Value):Ow w0 ((((((w.setCell ⟨gb,0,none⟩ v0).setCell ⟨gb,1,none⟩ v1).setCell ⟨gb,2,none⟩ v2).setCell ⟨gb,3,none⟩ v3).setCell ⟨gb,4,none⟩ v4).setCell ⟨gb,5,none⟩ v5) none [] [] (O.set i ⟨some ⟨gb,0,none⟩,n,c,e,[v0,v1,v2,v3,v4,v5]⟩):=by
 have h0:=h.put i hi 0 v0
 have h1:=h0.put i (z0a hi) 1 v1
 have h2:=h1.put i (z0a (z0a hi)) 2 v2
 have h3:=h2.put i (z0a (z0a (z0a hi))) 3 v3
 have h4:=h3.put i (z0a (z0a (z0a (z0a hi)))) 4 v4
 have h5:=h4.put i (z0a (z0a (z0a (z0a (z0a hi))))) 5 v5
 simp only [List.set_set,zqd,zqe] at h5;exact h5
def RVr (s p:Pl)(w1:World)(x:Value)(wr:World):Prop:=
 ∃ i:Nat,i<=6/\x=.int .i64 i/\Below w1.heap.size w1 wr/\Hid (∀ j,j<i->plT s p j=true)
structure VpK (wb:World)(so ch ra ba ro co:Nat)(n0 n1 n2 n3 n4 n5:Int)(Ld:Nat->Bool)(u0 u1 u2 u3 u4 u5:Value)(O:List Rw)(W:World):Prop where
 ow:Ow wb W none [] [] O
 h0:Ld 0=true->u0=.agg #[.int .i64 so,.int .i64 ch,.int .i64 ra,.int .i64 ba,.int .i64 ro,.int .i64 co]
 h1:Ld 1=true->u1=.agg #[.int .i64 so,.int .i64 ch,.int .i64 ra,.int .i64 ba,.int .i64 ro,.int .i64 co]
 h2:Ld 2=true->u2=.agg #[.int .i64 n0,.int .i64 n1,.int .i64 n2,.int .i64 n3,.int .i64 n4,.int .i64 n5]
 h3:Ld 3=true->u3=.agg #[.int .i64 n0,.int .i64 n1,.int .i64 n2,.int .i64 n3,.int .i64 n4,.int .i64 n5]
 h4:Ld 4=true->∃ (v i:Nat),u4=.pointer (some ⟨v,0,none⟩)/\O[i]?=some (⟨some ⟨v,0,none⟩,6,6,103,if Ld 6=true then [.int .i64 so,.int .i64 ch,.int .i64 ra,.int .i64 ba,.int .i64 ro,.int .i64 co] else [.int .i64 0,.int .i64 0,.int .i64 0,.int .i64 0,.int .i64 0,.int .i64 0]⟩:Rw)
 h5:Ld 5=true->∃ (v i:Nat),u5=.pointer (some ⟨v,0,none⟩)/\O[i]?=some (⟨some ⟨v,0,none⟩,6,6,103,if Ld 7=true then [.int .i64 n0,.int .i64 n1,.int .i64 n2,.int .i64 n3,.int .i64 n4,.int .i64 n5] else [.int .i64 0,.int .i64 0,.int .i64 0,.int .i64 0,.int .i64 0,.int .i64 0]⟩:Rw)
 ne:Ld 4=true->Ld 5=true->∀ v v':Nat,u4=.pointer (some ⟨v,0,none⟩)->u5=.pointer (some ⟨v',0,none⟩)->v≠v'
def VpI (wb:World)(so ch ra ba ro co:Nat)(n0 n1 n2 n3 n4 n5:Int)(A0:Act)(Ld:Nat->Bool)(a:Act)(W:World):Prop:=
 ∃ (u0 u1 u2 u3 u4 u5:Value) (O:List Rw),a=((((((A0.put (some 11) u0).put (some 12) u1).put (some 13) u2).put (some 14) u3).put (some 5) u4).put (some 6) u5)/\VpK wb so ch ra ba ro co n0 n1 n2 n3 n4 n5 Ld u0 u1 u2 u3 u4 u5 O W
theorem z3bp {wb W:World}{O:List Rw}{i v n c:Nat}{e:TypeId}{vs:List Value}(h:Ow wb W none [] [] O)(hi:O[i]?=some ⟨some ⟨v,0,none⟩,n,c,e,vs⟩):v<W.heap.size:=(h.lt hi rfl).1
theorem z6aq (so ch ra ba ro co:Nat)(hs:so+ch+ra+ba+ro+co<=12)(n0 n1 n2 n3 n4 n5:Int)(w:World):
  Calls Tryz.prog 101 #[.agg #[.int .i64 so,.int .i64 ch,.int .i64 ra,.int .i64 ba,.int .i64 ro,.int .i64 co],.agg #[.int .i64 n0,.int .i64 n1,.int .i64 n2,.int .i64 n3,.int .i64 n4,.int .i64 n5]] w fun e w'=>e=.returned (.bool (plV ⟨(so:Int),ch,ra,ba,ro,co⟩ ⟨n0,n1,n2,n3,n4,n5⟩))/\Below w.heap.size w w':=by
 have HV:=zh (fun W=>z2ar ⟨(so:Int),ch,ra,ba,ro,co⟩ W)
 rw [zt (z2r hs)] at HV
 have HSv:=zh (z2r hs)
 have HW:=zh (fun W=>z4af ⟨(so:Int),ch,ra,ba,ro,co⟩ W)
 have HNu:=zh (fun W=>z9p ⟨n0,n1,n2,n3,n4,n5⟩ W)
 obtain ⟨res,hres⟩:∃ r,plV ⟨(so:Int),ch,ra,ba,ro,co⟩ ⟨n0,n1,n2,n3,n4,n5⟩=r:=⟨_,rfl⟩
 have HR:=zh hres;rw [hres];unfold Pl.vs at HV HW HNu;have H0:=((Ow.of (St.refl w)).arr #[.int .i64 so,.int .i64 ch,.int .i64 ra,.int .i64 ba,.int .i64 ro,.int .i64 co] 6 rfl (by omega) 33).arr #[.int .i64 n0,.int .i64 n1,.int .i64 n2,.int .i64 n3,.int .i64 n4,.int .i64 n5] 6 rfl (by omega) 38
 simp only [zqc,zqb,World.size_alloc] at H0;obtain ⟨a0,a1,a2,a3,a4,a5⟩:=zc6 (H0.row 0 rfl);have hso:so<=12:=by omega
 have hch:ch<=12:=by omega
 have hra:ra<=12:=by omega
 have hba:ba<=12:=by omega
 have hro:ro<=12:=by omega
 have hco:co<=12:=by omega
 clear hs hres;go_enter Tryz.func101,Tryz.ntmps101
 go_wp2_with fail;refine (HV.out _).mono ?_
 rintro e wb ⟨rfl,hb⟩;clear a0 a1 a2 a3 a4 a5;have H1:=H0.go hb
 have HX:Hid (∀ W,Below wb.heap.size wb W->W.cell? ⟨w.heap.size,0,none⟩=some (.int .i64 so)/\W.cell? ⟨w.heap.size,1,none⟩=some (.int .i64 ch)/\W.cell? ⟨w.heap.size,2,none⟩=some (.int .i64 ra)/\W.cell? ⟨w.heap.size,3,none⟩=some (.int .i64 ba)/\W.cell? ⟨w.heap.size,4,none⟩=some (.int .i64 ro)/\W.cell? ⟨w.heap.size,5,none⟩=some (.int .i64 co)):=fun W hb=>by
  have H2:=H1.go hb
  exact ⟨(H2.row 0 rfl).cellAt 0 (by decide),(H2.row 0 rfl).cellAt 1 (by decide),(H2.row 0 rfl).cellAt 2 (by decide),(H2.row 0 rfl).cellAt 3 (by decide),(H2.row 0 rfl).cellAt 4 (by decide),(H2.row 0 rfl).cellAt 5 (by decide)⟩
 have HY:Hid (∀ W,Below wb.heap.size wb W->W.cell? ⟨w.heap.size+1,0,none⟩=some (.int .i64 n0)/\W.cell? ⟨w.heap.size+1,1,none⟩=some (.int .i64 n1)/\W.cell? ⟨w.heap.size+1,2,none⟩=some (.int .i64 n2)/\W.cell? ⟨w.heap.size+1,3,none⟩=some (.int .i64 n3)/\W.cell? ⟨w.heap.size+1,4,none⟩=some (.int .i64 n4)/\W.cell? ⟨w.heap.size+1,5,none⟩=some (.int .i64 n5)):=fun W hb=>by
  have H2:=H1.go hb
  exact ⟨(H2.row 1 rfl).cellAt 0 (by decide),(H2.row 1 rfl).cellAt 1 (by decide),(H2.row 1 rfl).cellAt 2 (by decide),(H2.row 1 rfl).cellAt 3 (by decide),(H2.row 1 rfl).cellAt 4 (by decide),(H2.row 1 rfl).cellAt 5 (by decide)⟩
 have HL:Hid (∀ W,Below wb.heap.size wb W->Below w.heap.size w W):=fun W hb=>(H1.go hb).below
 have HO:=zh (Ow.of (St.refl wb))
 clear H0 H1 hb HV;go_wp2_with fail;refine z1k (VpI wb so ch ra ba ro co n0 n1 n2 n3 n4 n5) (by kernel_rfl) (by kernel_rfl) ?_ ?_ ?_
 ·refine ⟨undef,undef,undef,undef,undef,undef,[],?_,⟨HO.out.drew,?_,?_,?_,?_,?_,?_,?_⟩⟩
  ·simp only [Act.put,zT,zZ,zS]
  all_goals (intro h;cases h)
 ·rintro jj Ld b W hj hf hcl hd ⟨u0,u1,u2,u3,u4,u5,O,rfl,hC⟩;have hj':jj<8:=hj
  have hcase:jj=0∨jj=1∨jj=2∨jj=3∨jj=4∨jj=5∨jj=6∨jj=7:=by omega
  clear hj hj';simp only [Act.put,zT,zZ,zS];rcases hcase with rfl|rfl|rfl|rfl|rfl|rfl|rfl|rfl
  ·obtain ⟨a0,a1,a2,a3,a4,a5⟩:=HX.out W hC.ow.below
   clear hd hcl;refine zw rfl fun K hK=>?_
   go_simp;refine hK _ _ ⟨_,u1,u2,u3,u4,u5,O,?_,⟨hC.ow,fun _=>rfl,hC.h1,hC.h2,hC.h3,hC.h4,hC.h5,hC.ne⟩⟩;simp only [Act.put,zT,zZ,zS]
  ·obtain rfl:=hC.h0 (hd 0 (by kernel_rfl));have hcall:=HW.out W
   clear hd hcl;refine zw rfl fun K hK=>?_
   go_simp;refine (hcall).mono ?_
   rintro e W' ⟨rfl,hb⟩;refine hK _ _ ⟨_,_,u2,u3,u4,u5,O,?_,⟨hC.ow.go hb,hC.h0,fun _=>rfl,hC.h2,hC.h3,hC.h4,hC.h5,hC.ne⟩⟩;simp only [Act.put,zT,zZ,zS]
  ·obtain ⟨a0,a1,a2,a3,a4,a5⟩:=HY.out W hC.ow.below
   clear hd hcl;refine zw rfl fun K hK=>?_
   go_simp;refine hK _ _ ⟨u0,u1,_,u3,u4,u5,O,?_,⟨hC.ow,hC.h0,hC.h1,fun _=>rfl,hC.h3,hC.h4,hC.h5,hC.ne⟩⟩;simp only [Act.put,zT,zZ,zS]
  ·obtain rfl:=hC.h2 (hd 2 (by kernel_rfl));have hcall:=HNu.out W
   clear hd hcl;refine zw rfl fun K hK=>?_
   go_simp;refine (hcall).mono ?_
   rintro e W' ⟨rfl,hb⟩;refine hK _ _ ⟨u0,u1,_,_,u4,u5,O,?_,⟨hC.ow.go hb,hC.h0,hC.h1,hC.h2,fun _=>rfl,hC.h4,hC.h5,hC.ne⟩⟩;simp only [Act.put,zT,zZ,zS]
  ·have hs6:Ld 6=false:=by cases e:Ld 6 with|false=>rfl|true=>(have:=hcl 6 4 e (by kernel_rfl);rw [hf] at this;cases this)
   clear hd hcl;refine zw rfl fun K hK=>?_
   go_simp;have ho:=hC.ow.arr #[.int .i64 0,.int .i64 0,.int .i64 0,.int .i64 0,.int .i64 0,.int .i64 0] 6 rfl (by omega) 103
   refine hK _ _ ⟨u0,u1,u2,u3,(.pointer (some ⟨W.heap.size,0,none⟩)),u5,_,?_,⟨ho,hC.h0,hC.h1,hC.h2,hC.h3,?_,?_,?_⟩⟩
   ·simp only [Act.put,zT,zZ,zS]
   ·exact fun _=>⟨W.heap.size,O.length,rfl,by rw [zqo (zqj _),Nat.sub_self];have e6:=hs6;rw [if_neg (show ¬ z3i Ld 4 6=true by rw [show z3i Ld 4 6=Ld 6 from rfl,e6];decide)];rfl⟩
   ·exact fun h=>by
     obtain ⟨v,i,e1,e2⟩:=hC.h5 h
     exact ⟨v,i,e1,by rw [zqn (z0d e2)];exact e2⟩
   ·exact fun h4 h5 v v' e4 e5=>by
     obtain ⟨x,i,e1,e2⟩:=hC.h5 h5
     have hl:=z3bp hC.ow e2
     rw [e1] at e5;have q1:(x=v'):=by simpa using e5
     have q2:(W.heap.size=v):=by simpa using e4
     omega
  ·have hs7:Ld 7=false:=by cases e:Ld 7 with|false=>rfl|true=>(have:=hcl 7 5 e (by kernel_rfl);rw [hf] at this;cases this)
   clear hd hcl;refine zw rfl fun K hK=>?_
   go_simp;have ho:=hC.ow.arr #[.int .i64 0,.int .i64 0,.int .i64 0,.int .i64 0,.int .i64 0,.int .i64 0] 6 rfl (by omega) 103
   refine hK _ _ ⟨u0,u1,u2,u3,u4,(.pointer (some ⟨W.heap.size,0,none⟩)),_,?_,⟨ho,hC.h0,hC.h1,hC.h2,hC.h3,?_,?_,?_⟩⟩
   ·simp only [Act.put,zT,zZ,zS]
   ·exact fun h=>by
     obtain ⟨v,i,e1,e2⟩:=hC.h4 h
     exact ⟨v,i,e1,by rw [zqn (z0d e2)];exact e2⟩
   ·exact fun _=>⟨W.heap.size,O.length,rfl,by rw [zqo (zqj _),Nat.sub_self];have e6:=hs7;rw [if_neg (show ¬ z3i Ld 5 7=true by rw [show z3i Ld 5 7=Ld 7 from rfl,e6];decide)];rfl⟩
   ·exact fun h4 h5 v v' e4 e5=>by
     obtain ⟨x,i,e1,e2⟩:=hC.h4 h4
     have hl:=z3bp hC.ow e2
     rw [e1] at e4;have q1:(x=v):=by simpa using e4
     have q2:(W.heap.size=v'):=by simpa using e5
     omega
  ·obtain ⟨v,i,rfl,hrow⟩:=hC.h4 (hd 4 (by kernel_rfl))
   obtain rfl:=hC.h1 (hd 1 (by kernel_rfl));have hal:=hd 4 (by kernel_rfl)
   rw [if_neg (show ¬ Ld 6=true by rw [hf];decide)] at hrow
   obtain ⟨y0,y1,y2,y3,y4,y5⟩:=zc6 (hC.ow.row i hrow);obtain ⟨yf0,yf1,yf2,yf3,yf4,yf5⟩:=zf6 (hC.ow.row i hrow);have HZ:=zh (put6 hC.ow i hrow (.int .i64 so) (.int .i64 ch) (.int .i64 ra) (.int .i64 ba) (.int .i64 ro) (.int .i64 co))
   clear hd hcl;refine zw rfl fun K hK=>?_
   go_simp;refine hK _ _ ⟨_,_,_,_,_,_,_,?_,{hC with ow:=HZ.out,h4:=?_,h5:=?_}⟩
   ·simp only [Act.put,zT,zZ,zS]
   ·exact fun _=>⟨v,i,rfl,by rw [if_pos (show z3i Ld 6 6=true by simp [z3i])];exact z0a hrow⟩
   ·exact fun h=>by
     obtain ⟨v',i',e1,e2⟩:=hC.h5 h
     have hne:i'≠i:=fun e=>by
      subst e
      rw [hrow] at e2;have q:v=v':=by
       have q:=congrArg (fun o:Option Rw=>o.map (fun r:Rw=>r.A)) e2
       simpa using q
      exact hC.ne hal h v v' rfl e1 q
     exact ⟨v',i',e1,by rw [zqf (Ne.symm hne)];exact e2⟩
  ·obtain ⟨v,i,rfl,hrow⟩:=hC.h5 (hd 5 (by kernel_rfl))
   obtain rfl:=hC.h3 (hd 3 (by kernel_rfl));have hal:=hd 5 (by kernel_rfl)
   rw [if_neg (show ¬ Ld 7=true by rw [hf];decide)] at hrow
   obtain ⟨y0,y1,y2,y3,y4,y5⟩:=zc6 (hC.ow.row i hrow);obtain ⟨yf0,yf1,yf2,yf3,yf4,yf5⟩:=zf6 (hC.ow.row i hrow);have HZ:=zh (put6 hC.ow i hrow (.int .i64 n0) (.int .i64 n1) (.int .i64 n2) (.int .i64 n3) (.int .i64 n4) (.int .i64 n5))
   clear hd hcl;refine zw rfl fun K hK=>?_
   go_simp;refine hK _ _ ⟨_,_,_,_,_,_,_,?_,{hC with ow:=HZ.out,h4:=?_,h5:=?_}⟩
   ·simp only [Act.put,zT,zZ,zS]
   ·exact fun h=>by
     obtain ⟨v',i',e1,e2⟩:=hC.h4 h
     have hne:i'≠i:=fun e=>by
      subst e
      rw [hrow] at e2;have q:v=v':=by
       have q:=congrArg (fun o:Option Rw=>o.map (fun r:Rw=>r.A)) e2
       simpa using q
      exact hC.ne h hal v' v e1 rfl q.symm
     exact ⟨v',i',e1,by rw [zqf (Ne.symm hne)];exact e2⟩
   ·exact fun _=>⟨v,i,rfl,by rw [if_pos (show z3i Ld 7 7=true by simp [z3i])];exact z0a hrow⟩
 ·rintro Ld b W hL ⟨u0,u1,u2,u3,u4,u5,O,rfl,hC⟩;obtain ⟨v4,i4,rfl,r4⟩:=hC.h4 (hL 4 (by decide))
  obtain ⟨v5,i5,rfl,r5⟩:=hC.h5 (hL 5 (by decide))
  rw [if_pos (hL 6 (by decide))] at r4
  rw [if_pos (hL 7 (by decide))] at r5
  have HG:Hid (∀ i,i<6->∃ (b:Nat) (n:Int),b<=12/\(Pl.mk (so:Int) ch ra ba ro co).l[i]?=some (b:Int)/\(Pl.mk n0 n1 n2 n3 n4 n5).l[i]?=some n/\∀ W2,Below W.heap.size W W2->W2.cell? ⟨v4,i,none⟩=some (.int .i64 b)/\W2.cell? ⟨v5,i,none⟩=some (.int .i64 n)):=fun i hi=>by
   have hcase:i=0∨i=1∨i=2∨i=3∨i=4∨i=5:=by omega
   clear hi;rcases hcase with rfl|rfl|rfl|rfl|rfl|rfl
   ·exact ⟨so,n0,hso,rfl,rfl,fun W2 h2=>⟨((hC.ow.go h2).row i4 r4).cellAt 0 (by decide),((hC.ow.go h2).row i5 r5).cellAt 0 (by decide)⟩⟩
   ·exact ⟨ch,n1,hch,rfl,rfl,fun W2 h2=>⟨((hC.ow.go h2).row i4 r4).cellAt 1 (by decide),((hC.ow.go h2).row i5 r5).cellAt 1 (by decide)⟩⟩
   ·exact ⟨ra,n2,hra,rfl,rfl,fun W2 h2=>⟨((hC.ow.go h2).row i4 r4).cellAt 2 (by decide),((hC.ow.go h2).row i5 r5).cellAt 2 (by decide)⟩⟩
   ·exact ⟨ba,n3,hba,rfl,rfl,fun W2 h2=>⟨((hC.ow.go h2).row i4 r4).cellAt 3 (by decide),((hC.ow.go h2).row i5 r5).cellAt 3 (by decide)⟩⟩
   ·exact ⟨ro,n4,hro,rfl,rfl,fun W2 h2=>⟨((hC.ow.go h2).row i4 r4).cellAt 4 (by decide),((hC.ow.go h2).row i5 r5).cellAt 4 (by decide)⟩⟩
   ·exact ⟨co,n5,hco,rfl,rfl,fun W2 h2=>⟨((hC.ow.go h2).row i4 r4).cellAt 5 (by decide),((hC.ow.go h2).row i5 r5).cellAt 5 (by decide)⟩⟩
  have HB:=zh (HL.out W hC.ow.below)
  clear hL r4 r5 hC HX HY HW HNu HL HO hso hch hra hba hro hco;simp only [Act.put,zT,zZ,zS];go_wp2_with fail;go_loopw [7] (fun x wr=>RVr ⟨(so:Int),ch,ra,ba,ro,co⟩ ⟨n0,n1,n2,n3,n4,n5⟩ W x wr) (fun x _=>6 - (intOf x).toNat)
  case atStart=>exact ⟨0,by omega,rfl,Below.refl _ _,fun j hj=>absurd hj (Nat.not_lt_zero _)⟩
  case round=>
   obtain ⟨i,hi,rfl,hbl,hI⟩:=hrel;rcases zqi i 6 with h|h
   ·obtain ⟨b,n,hb,q1,q2,q3⟩:=HG.out i h
    have HT:=zh (z2o q1 q2)
    have HQ:Hid (∀ W2,Below wr.heap.size wr W2->W2.cell? ⟨v4,i,none⟩=some (.int .i64 b)/\W2.cell? ⟨v5,i,none⟩=some (.int .i64 n)):=fun W2 h2=>q3 W2 (hbl.trans (h2.mono hbl.size))
    have HBr:=zh (HB.out.trans (hbl.mono HB.out.size))
    have HBl:=zh hbl;clear hbl;have d0:decide ((i:Int)<6)=true:=zt (by omega)
    have HJ:Hid ((0:Int)<=(i:Int)/\(i:Int)<6/\i<6):=⟨by omega,by omega,h⟩
    have HH:=zh h;have HI6:=zh hb;clear hb q1 q2 q3 h hi HG HB;go_wp2_with fail;rcases Int.lt_or_le n 0 with h|h
    ·have HN:Hid (decide (n<0)=true):=zt h
     have HF:Hid (res=false):=by unfold Hid;rw [<- HR.out];exact z2n HH.out (by rw [HT.out,zn (show ¬ 0<=n by omega)];rfl)
     clear h;obtain ⟨q4,q5⟩:=HQ.out wr (Below.refl _ _)
     have c4:=cell_regrown q4
     have c5:=cell_regrown q5
     obtain ⟨j0,j1,j2⟩:=HJ.out;have f0:=HN.out;clear q4 q5;refine wp_region_quiet_below (by kernel_rfl) (by kernel_rfl) ?_
     repeat (go_big_quiet_step (fail))
     refine wpQuiet_nil ?_
     intro W2 hW2;have hBq:=z0v hW2
     have HE:=zh (HBr.out.trans (hBq.mono HBr.out.size))
     have HEl:=zh (HBl.out.trans (hBq.mono HBl.out.size))
     clear hW2 hBq c4 c5 j0 j1 j2 f0;go_wp2_with fail;go_ret;exact ⟨by rw [HF.out];rfl,HE.out⟩
    ·have HN:Hid (decide (n<0)=false):=zn (by omega)
     have HW6:Hid (IntKind.u64.wrap (b:Int)=(b:Int)):=IntWalk.u64_in _ (by have:=HI6.out;omega)
     have HW7:Hid (IntKind.i64.wrap ((2:Int) ^ min b 64)=2 ^ b):=by unfold Hid;rw [show min b 64=b from by have:=HI6.out;omega];exact z3bm HI6.out
     obtain ⟨r,hr⟩:∃ r,decide ((2:Int) ^ b<=n)=r:=⟨_,rfl⟩
     have HRr:=zh hr;have H0n:=zh h;clear h hr;obtain ⟨q4,q5⟩:=HQ.out wr (Below.refl _ _)
     have c4:=cell_regrown q4
     have c5:=cell_regrown q5
     obtain ⟨j0,j1,j2⟩:=HJ.out;have f0:=HN.out;have f1:=HW6.out;have f2:=HW7.out;have f3:=HRr.out;clear q4 q5;refine wp_region_quiet_below (by kernel_rfl) (by kernel_rfl) ?_
     repeat (go_big_quiet_step (fail))
     refine wpQuiet_nil ?_
     intro W2 hW2;have hBq:=z0v hW2
     have HE:=zh (HBr.out.trans (hBq.mono HBr.out.size))
     have HEl:=zh (HBl.out.trans (hBq.mono HBl.out.size))
     clear hW2 hBq c4 c5 j0 j1 j2 f0 f1 f2 f3;cases r with
     | true=>
      have HF:Hid (res=false):=by unfold Hid;rw [<- HR.out];exact z2n HH.out (by rw [HT.out,zn (show ¬ n<2 ^ (b:Int).toNat from by have:=of_decide_eq_true HRr.out;show ¬ n<2 ^ b;omega),Bool.and_false])
      go_wp2_with fail;go_ret;exact ⟨by rw [HF.out];rfl,HE.out⟩
     | false=>
      have HP:Hid (plT ⟨(so:Int),ch,ra,ba,ro,co⟩ ⟨n0,n1,n2,n3,n4,n5⟩ i=true):=by unfold Hid;rw [HT.out,zt H0n.out,zt (show n<2 ^ (b:Int).toNat from by have:=of_decide_eq_false HRr.out;show n<2 ^ b;omega)];rfl
      have hw1:IntKind.i64.wrap ((i:Int)+1)=((i+1:Nat):Int):=by rw [IntWalk.i64_in _ (by have:=HH.out;omega)];omega
      go_wp2_with fail;go_roundw
      case rel=>exact ⟨i+1,HH.out,rfl,HEl.out,fun z hz=>by
       rcases zqi z i with h|h
       ·exact hI.out z h
       ·obtain rfl:z=i:=by omega
        exact HP.out⟩
      case measure=>
       have:=HH.out
       simp [intOf]
       omega
   ·obtain rfl:i=6:=by omega
    have HE:=zh (HB.out.trans (hbl.mono HB.out.size))
    have HF:Hid (res=true):=by unfold Hid;rw [<- HR.out];exact z7d HSv.out hI.out
    clear hbl;go_wp2_with fail;go_ret;exact ⟨by rw [HF.out];rfl,HE.out⟩
namespace Cl
set_option maxHeartbeats 8000000
def snV (s:Pl)(x:Sn):Bool:=plV s x.p && decide (0<=x.cp) && decide (x.cp<40) && decide (0<=x.ti) && decide (x.ti<=1099511627776)
end Cl
theorem z6ar (s p:Pl)(hs:¬ shV s)(w:World):
  Calls Tryz.prog 101 #[.agg s.vs,.agg p.vs] w fun e w'=>e=.returned (.bool (plV s p))/\Below w.heap.size w w':=by
 have HV:=zh (fun W=>z2ar s W)
 rw [zn hs] at HV;rw [z7ar hs];obtain ⟨so,ch,ra,ba,ro,co⟩:=s;obtain ⟨n0,n1,n2,n3,n4,n5⟩:=p;unfold Pl.vs at *
 have H0:=((Ow.of (St.refl w)).arr #[.int .i64 so,.int .i64 ch,.int .i64 ra,.int .i64 ba,.int .i64 ro,.int .i64 co] 6 rfl (by omega) 33).arr #[.int .i64 n0,.int .i64 n1,.int .i64 n2,.int .i64 n3,.int .i64 n4,.int .i64 n5] 6 rfl (by omega) 38
 simp only [zqc,zqb,World.size_alloc] at H0;obtain ⟨a0,a1,a2,a3,a4,a5⟩:=zc6 (H0.row 0 rfl);clear hs;go_enter Tryz.func101,Tryz.ntmps101
 go_wp2_with fail;refine (HV.out _).mono ?_
 rintro e w1 ⟨rfl,hb⟩;have HB:=zh (H0.go hb).below
 clear a0 a1 a2 a3 a4 a5 HV hb H0;go_wp2_with fail;go_ret;exact ⟨rfl,HB.out⟩
theorem z5bg (s p:Pl)(w:World):
  Calls Tryz.prog 101 #[.agg s.vs,.agg p.vs] w fun e w'=>e=.returned (.bool (plV s p))/\Below w.heap.size w w':=by
 by_cases hs:shV s
 ·obtain ⟨so,ch,ra,ba,ro,co,rfl,h12⟩:=z9z hs
  exact z6aq so ch ra ba ro co h12 p.so p.ch p.ra p.ba p.ro p.co w
 ·exact z6ar s p hs w
theorem z6be (s:Pl)(x:Sn)(w:World):
  Calls Tryz.prog 57 #[.agg s.vs,.agg x.vs] w fun e w'=>e=.returned (.bool (snV s x))/\Below w.heap.size w w':=by
 obtain ⟨⟨x0,x1,x2,x3,x4,x5⟩,x6,x7⟩:=x
 have HV:=zh (fun W=>z6bd s ⟨x0,x1,x2,x3,x4,x5⟩ W)
 have H0:=((Ow.of (St.refl w)).arr s.vs 6 rfl (by omega) 33).arr #[.int .i64 x0,.int .i64 x1,.int .i64 x2,.int .i64 x3,.int .i64 x4,.int .i64 x5,.int .i64 x6,.int .i64 x7] 8 rfl (by omega) 40
 obtain ⟨so,ch,ra,ba,ro,co⟩:=s;unfold Sn.vs;unfold Pl.vs at *
 simp only [zqc,zqb,World.size_alloc] at H0;obtain ⟨a0,a1,a2,a3,a4,a5⟩:=zc6 (H0.row 0 rfl);obtain ⟨b0,b1,b2,b3,b4,b5,b6,b7⟩:=zc8 (H0.row 1 rfl);obtain ⟨q0,h0⟩:∃ q,plV ⟨so,ch,ra,ba,ro,co⟩ ⟨x0,x1,x2,x3,x4,x5⟩=q:=⟨_,rfl⟩
 rw [h0] at HV;obtain ⟨q1,h1⟩:∃ q,decide (0<=x6)=q:=⟨_,rfl⟩
 obtain ⟨q2,h2⟩:∃ q,decide (x6<40)=q:=⟨_,rfl⟩
 obtain ⟨q3,h3⟩:∃ q,decide (0<=x7)=q:=⟨_,rfl⟩
 obtain ⟨q4,h4⟩:∃ q,decide (x7<=1099511627776)=q:=⟨_,rfl⟩
 go_enter Tryz.func57,Tryz.ntmps57
 go_wp2_with fail;refine (HV.out _).mono ?_
 rintro e w1 ⟨rfl,hb⟩;have H1:=H0.go hb
 clear hb H0 HV;clear a0 a1 a2 a3 a4 a5 b0 b1 b2 b3 b4 b5 b6 b7;have c6:=(H1.row 1 rfl).cellAt 6 (by decide)
 have c7:=(H1.row 1 rfl).cellAt 7 (by decide)
 have HB:=zh H1.below;clear H1;have HS:Hid (snV ⟨so,ch,ra,ba,ro,co⟩ ⟨⟨x0,x1,x2,x3,x4,x5⟩,x6,x7⟩=(q0 && q1 && q2 && q3 && q4)):=by unfold Hid snV;rw [h0,h1,h2,h3,h4]
 clear h0;cases q0 with
 | false=>
  go_wp2_with fail;go_ret;exact ⟨by rw [HS.out];rfl,HB.out⟩
 | true=>
  cases q1 with
  | false=>
   go_wp2_with fail;go_ret;exact ⟨by rw [HS.out];rfl,HB.out⟩
  | true=>
   cases q2 with
   | false=>
    go_wp2_with fail;go_ret;exact ⟨by rw [HS.out];rfl,HB.out⟩
   | true=>
    cases q3 with
    | false=>
     go_wp2_with fail;go_ret;exact ⟨by rw [HS.out];rfl,HB.out⟩
    | true=>
     cases q4 with
     | false=>
      go_wp2_with fail;go_ret;exact ⟨by rw [HS.out];rfl,HB.out⟩
     | true=>
      go_wp2_with fail;go_ret;exact ⟨by rw [HS.out];rfl,HB.out⟩
theorem z5bh (s:Pl)(x:Sn)(w:World):
  Calls Tryz.prog 67 #[.agg s.vs,.agg x.vs] w fun e w'=>e=.returned (.bool (snV s x))/\Below w.heap.size w w':=by
 obtain ⟨⟨x0,x1,x2,x3,x4,x5⟩,x6,x7⟩:=x
 have HV0:=zh (fun W=>z2ar s W)
 have HV:=zh (fun W=>z5bg s ⟨x0,x1,x2,x3,x4,x5⟩ W)
 have H0:=((Ow.of (St.refl w)).arr s.vs 6 rfl (by omega) 33).arr #[.int .i64 x0,.int .i64 x1,.int .i64 x2,.int .i64 x3,.int .i64 x4,.int .i64 x5,.int .i64 x6,.int .i64 x7] 8 rfl (by omega) 40
 obtain ⟨so,ch,ra,ba,ro,co⟩:=s;unfold Sn.vs;unfold Pl.vs at *
 simp only [zqc,zqb,World.size_alloc] at H0;obtain ⟨a0,a1,a2,a3,a4,a5⟩:=zc6 (H0.row 0 rfl);obtain ⟨b0,b1,b2,b3,b4,b5,b6,b7⟩:=zc8 (H0.row 1 rfl);obtain ⟨q0,h0⟩:∃ q,plV ⟨so,ch,ra,ba,ro,co⟩ ⟨x0,x1,x2,x3,x4,x5⟩=q:=⟨_,rfl⟩
 rw [h0] at HV;obtain ⟨q1,h1⟩:∃ q,decide (0<=x6)=q:=⟨_,rfl⟩
 obtain ⟨q2,h2⟩:∃ q,decide (x6<40)=q:=⟨_,rfl⟩
 obtain ⟨q3,h3⟩:∃ q,decide (0<=x7)=q:=⟨_,rfl⟩
 obtain ⟨q4,h4⟩:∃ q,decide (x7<=1099511627776)=q:=⟨_,rfl⟩
 go_enter Tryz.func67,Tryz.ntmps67
 go_wp2_with fail;refine (HV0.out _).mono ?_
 rintro e w1 ⟨rfl,hb⟩;have H1:=H0.go hb
 clear hb H0 HV0;clear a0 a1 a2 a3 a4 a5 b0 b1 b2 b3 b4 b5 b6 b7;obtain ⟨a0,a1,a2,a3,a4,a5⟩:=zc6 (H1.row 0 rfl);obtain ⟨b0,b1,b2,b3,b4,b5,b6,b7⟩:=zc8 (H1.row 1 rfl);cases hv:decide (shV ⟨so,ch,ra,ba,ro,co⟩) with
 | false=>
  have HF:Hid (snV ⟨so,ch,ra,ba,ro,co⟩ ⟨⟨x0,x1,x2,x3,x4,x5⟩,x6,x7⟩=false):=by unfold Hid snV;rw [z7ar (of_decide_eq_false hv)];rfl
  have HB:=zh H1.below;clear h0 h1 h2 h3 h4 H1 HV;go_wp2_with fail;go_ret;exact ⟨by rw [HF.out];rfl,HB.out⟩
 | true=>
 go_wp2_with fail;refine (HV.out _).mono ?_
 rintro e w2 ⟨rfl,hb⟩;have H1:=H1.go hb
 clear hb HV;clear a0 a1 a2 a3 a4 a5 b0 b1 b2 b3 b4 b5 b6 b7;have c6:=(H1.row 1 rfl).cellAt 6 (by decide)
 have c7:=(H1.row 1 rfl).cellAt 7 (by decide)
 have HB:=zh H1.below;clear H1;have HS:Hid (snV ⟨so,ch,ra,ba,ro,co⟩ ⟨⟨x0,x1,x2,x3,x4,x5⟩,x6,x7⟩=(q0 && q1 && q2 && q3 && q4)):=by unfold Hid snV;rw [h0,h1,h2,h3,h4]
 clear h0;cases q0 with
 | false=>
  go_wp2_with fail;go_ret;exact ⟨by rw [HS.out];rfl,HB.out⟩
 | true=>
  cases q1 with
  | false=>
   go_wp2_with fail;go_ret;exact ⟨by rw [HS.out];rfl,HB.out⟩
  | true=>
   cases q2 with
   | false=>
    go_wp2_with fail;go_ret;exact ⟨by rw [HS.out];rfl,HB.out⟩
   | true=>
    cases q3 with
    | false=>
     go_wp2_with fail;go_ret;exact ⟨by rw [HS.out];rfl,HB.out⟩
    | true=>
     cases q4 with
     | false=>
      go_wp2_with fail;go_ret;exact ⟨by rw [HS.out];rfl,HB.out⟩
     | true=>
      go_wp2_with fail;go_ret;exact ⟨by rw [HS.out];rfl,HB.out⟩
namespace Cl
set_option maxHeartbeats 8000000
def z7w (s:Pl)(l:List Sn):Bool:=l.all (snV s)
theorem z4aj {s:Pl}{l:List Sn}{i:Nat}{x:Sn}(hx:l[i]?=some x)(h:snV s x=false):z7w s l=false:=by
 unfold z7w;rw [Bool.eq_false_iff];intro e;rw [List.all_eq_true.1 e x (List.mem_of_getElem? hx)] at h
 cases h
theorem z4ai {s:Pl}{l:List Sn}(h:∀ (j:Nat) (x:Sn),l[j]?=some x->snV s x=true):z7w s l=true:=by
 unfold z7w;refine List.all_eq_true.2 fun x hx=>?_
 obtain ⟨j,hj⟩:=List.getElem?_of_mem hx
 exact h j x hj
def CellsPl (w:World)(b:Nat)(s:Pl):Prop:=
 w.cell? ⟨b,0,none⟩=some (.int .i64 s.so)/\w.cell? ⟨b,1,none⟩=some (.int .i64 s.ch)/\w.cell? ⟨b,2,none⟩=some (.int .i64 s.ra)/\w.cell? ⟨b,3,none⟩=some (.int .i64 s.ba)/\w.cell? ⟨b,4,none⟩=some (.int .i64 s.ro)/\w.cell? ⟨b,5,none⟩=some (.int .i64 s.co)
theorem CellsPl.go {w w':World}{b:Nat}{s:Pl}(h:CellsPl w b s)(hb:Below w.heap.size w w')(hlt:b<w.heap.size):CellsPl w' b s:=by
 obtain ⟨h0,h1,h2,h3,h4,h5⟩:=h;exact ⟨(hb.cell (p:=⟨b,0,none⟩) hlt).trans h0,(hb.cell (p:=⟨b,1,none⟩) hlt).trans h1,(hb.cell (p:=⟨b,2,none⟩) hlt).trans h2,(hb.cell (p:=⟨b,3,none⟩) hlt).trans h3,(hb.cell (p:=⟨b,4,none⟩) hlt).trans h4,(hb.cell (p:=⟨b,5,none⟩) hlt).trans h5⟩
end Cl
theorem z6br (s:Pl)(x:Sn)(sb:Nat)(w:World)(hs:CellsPl w sb s)(hlt:sb<w.heap.size):
  Calls Tryz.prog 56 #[.agg x.vs,.pointer (some ⟨sb,0,none⟩)] w fun e w'=>e=.returned (.bool (!snV s x))/\Below w.heap.size w w':=by
 obtain ⟨⟨x0,x1,x2,x3,x4,x5⟩,x6,x7⟩:=x
 have HV:=zh (fun W=>z6be s ⟨⟨x0,x1,x2,x3,x4,x5⟩,x6,x7⟩ W)
 have H0:=(Ow.of (St.refl w)).arr #[.int .i64 x0,.int .i64 x1,.int .i64 x2,.int .i64 x3,.int .i64 x4,.int .i64 x5,.int .i64 x6,.int .i64 x7] 8 rfl (by omega) 40
 obtain ⟨c0,c1,c2,c3,c4,c5⟩:=hs.go H0.below hlt
 obtain ⟨so,ch,ra,ba,ro,co⟩:=s;unfold Sn.vs at *
 unfold Pl.vs at *
 simp only [zqc] at H0 c0 c1 c2 c3 c4 c5;obtain ⟨b0,b1,b2,b3,b4,b5,b6,b7⟩:=zc8 (H0.row 0 rfl);clear hs;go_enter Tryz.func56,Tryz.ntmps56
 go_wp2_with fail;refine (HV.out _).mono ?_
 rintro e w1 ⟨rfl,hb⟩;have HB:=zh (H0.go hb).below
 clear hb H0 HV b0 b1 b2 b3 b4 b5 b6 b7 c0 c1 c2 c3 c4 c5;go_wp2_with fail;go_ret;exact ⟨rfl,HB.out⟩
def RIx (s:Pl)(l:List Sn)(n:Nat)(w:World)(x:Value)(wr:World):Prop:=
 ∃ i:Nat,i<=n/\x=.int .i64 i/\Below w.heap.size w wr/\Hid (∀ (j:Nat) (z:Sn),j<i->l[j]?=some z->snV s z=true)
theorem z9aj (s:Pl)(sb:Nat)(A:Option Addr)(n c:Nat)(l:List Sn)(w:World)(hn:l.length=n)(hn2:n<=125)(hl:Sl w w.heap.size A (fl l))(hs:CellsPl w sb s)(hlt:sb<w.heap.size):
  Calls Tryz.prog 89 #[.slice A n c,.func (.func 56) #[] #[.pointer (some ⟨sb,0,none⟩)]] w fun e w'=>∃ r:Int,e=.returned (.int .i64 r)/\decide (0<=r)=!z7w s l/\Below w.heap.size w w':=by
 have eg:∀ args w,(callFunc 56 args).run Tryz.prog w=.ok (.enter 56 args) w:=enters_of Tryz.func56 (by kernel_rfl) rfl
 have HL:=zh hl;have HS:=zh hs;have HN:=zh hn;have HLT:=zh hlt;clear hl hs hn hlt;go_enter Tryz.func89,Tryz.ntmps89
 go_wp2_with fail;go_loopw [8] (fun x wr=>RIx s l n w x wr) (fun x _=>n+1 - (intOf x).toNat)
 case atStart=>exact ⟨0,zqr _,rfl,Below.refl _ _,fun j z hj=>absurd hj (Nat.not_lt_zero _)⟩
 case round=>
  obtain ⟨i,hi,rfl,hbl,hI⟩:=hrel;rcases Nat.eq_or_lt_of_le hi with heq|hlt
  ·have hd:decide ((i:Int)<n)=false:=zn (by omega)
   have hd2:decide (i<n)=false:=zn (by omega)
   have HF:Hid (z7w s l=true):=z4ai fun j z hz=>hI.out j z (by have:=z0d hz;have:=HN.out;omega) hz
   have HB:=zh hbl;clear heq hi hbl;go_wp2_with fail;go_ret;exact ⟨_,rfl,by rw [HF.out];rfl,HB.out⟩
  ·have hd:decide ((i:Int)<n)=true:=zt (by omega)
   have hd2:decide (i<n)=true:=zt (by omega)
   obtain ⟨x,hx⟩:∃ x,l[i]?=some x:=⟨l[i]'(by rw [HN.out];exact hlt),zql _⟩
   obtain ⟨a,rfl,e0,e1,e2,e3,e4,e5,e6,e7⟩:=z2v (HL.out.below hbl) hx
   have HX:=zh hx;have HC:=zh (z6br s x sb wr (HS.out.go hbl HLT.out) (zqv HLT.out hbl.size))
   have HB:=zh hbl;have HH:=zh hlt;have hli:(i:Int)<n:=by omega
   obtain ⟨⟨x0,x1,x2,x3,x4,x5⟩,x6,x7⟩:=x
   unfold Sn.vs at HC;simp only at e0 e1 e2 e3 e4 e5 e6 e7
   clear hi hbl hx;cases hv:snV s ⟨⟨x0,x1,x2,x3,x4,x5⟩,x6,x7⟩ with
   | false=>
    rw [hv] at HC;have HF:Hid (z7w s l=false):=z4aj HX.out hv
    clear hv;go_wp2_with (go_at_fn 56;refine HC.out.mono ?_;rintro e w' ⟨rfl,hb'⟩)
    go_ret;refine ⟨_,rfl,?_,HB.out.trans (hb'.mono HB.out.size)⟩
    rw [HF.out];exact zt (Int.natCast_nonneg i)
   | true=>
    rw [hv] at HC;have HV:=zh hv;clear hv;have hw1:IntKind.i64.wrap ((i:Int)+1)=((i+1:Nat):Int):=by rw [IntWalk.i64_in _ (by omega)];omega
    go_wp2_with (go_at_fn 56;refine HC.out.mono ?_;rintro e w' ⟨rfl,hb'⟩)
    go_roundw
    case rel=>exact ⟨i+1,HH.out,rfl,HB.out.trans (hb'.mono HB.out.size),fun j z hj hz=>by
     rcases zqi j i with h|h
     ·exact hI.out j z h hz
     ·obtain rfl:j=i:=by omega
      have:=HX.out
      rw [hz] at this;obtain rfl:=zqk this
      exact HV.out⟩
    case measure=>
     have:=HH.out
     simp [intOf]
     omega
theorem z0as (s:Pl)(sb:Nat)(A:Option Addr)(n c:Nat)(l:List Sn)(w:World)(hn:l.length=n)(hn2:n<=125)(hl:Sl w w.heap.size A (fl l))(hs:CellsPl w sb s)(hlt:sb<w.heap.size):
  Calls Tryz.prog 59 #[.slice A n c,.func (.func 56) #[] #[.pointer (some ⟨sb,0,none⟩)]] w fun e w'=>e=.returned (.bool (!z7w s l))/\Below w.heap.size w w':=by
 have HC:=zh (z9aj s sb A n c l w hn hn2 hl hs hlt)
 clear hl hs hn hlt;go_enter Tryz.func59,Tryz.ntmps59
 go_wp2_with fail;refine HC.out.mono ?_;rintro e w1 ⟨r,rfl,hr,hb⟩;go_wp2_with fail;go_ret;exact ⟨by rw [<- hr];rfl,hb⟩
namespace Na
set_option maxHeartbeats 8000000
def Gue (q t v1 guess rest:Nat):Prop:=guess*v1+rest=t/\q<=guess/\guess<=16777217/\(16777216<=rest->guess<=16777216)
structure Rnd (U V P u0 u1 u2 Ul v1 v2 Vl:Nat):Prop where
 hU:U=((u0*16777216+u1)*16777216+u2)*P+Ul
 hUl:Ul<P
 hV:V=(v1*16777216+v2)*P+Vl
 hVl:Vl<P
 h1:u1<16777216
 h2:u2<16777216
 k1:v1<16777216
 k2:v2<16777216
 hi:8388608<=v1
 lt:U<16777216*V
section
variable {U V P u0 u1 u2 Ul v1 v2 Vl:Nat}
theorem Rnd.pos (h:Rnd U V P u0 u1 u2 Ul v1 v2 Vl):0<V:=by
 have h1:=h.lt;rcases zqh V with e|e
 ·rw [e] at h1;omega
 ·exact e
theorem Rnd.qlt (h:Rnd U V P u0 u1 u2 Ul v1 v2 Vl):U / V<16777216:=by
 rw [Nat.div_lt_iff_lt_mul h.pos];exact h.lt
theorem Rnd.topU (h:Rnd U V P u0 u1 u2 Ul v1 v2 Vl):u0<=v1:=by
 rcases zqi v1 u0 with hc|hc
 ·exfalso
  have e1:(v1+1)*(16777216*16777216*P)<=u0*(16777216*16777216*P):=Nat.mul_le_mul_right _ hc
  have e2:u0*(16777216*16777216*P)<=U:=by
   rw [h.hU,Nat.add_mul,Nat.add_mul,Nat.add_mul,zqs (u0*16777216),zqs u0,<- zqs 16777216 16777216 P]
   omega
  have e3:16777216*V<=(v1+1)*(16777216*16777216*P):=by
   have e4:V<=(v1+1)*(16777216*P):=by
    have e5:v2*P+P<=16777216*P:=by
     have:=Nat.mul_le_mul_right P (show v2+1<=16777216 by have:=h.k2;omega)
     rw [Nat.add_mul,Nat.one_mul] at this;exact this
    have e6:=h.hV;have e7:=h.hVl;rw [Nat.add_mul,zqs] at e6;rw [Nat.add_mul,Nat.one_mul];omega
   have:=Nat.mul_le_mul_left 16777216 e4
   rw [Nat.mul_left_comm] at this;rw [zqs 16777216 16777216 P];exact this
  have:=h.lt
  omega
 ·exact hc
theorem Rnd.start (h:Rnd U V P u0 u1 u2 Ul v1 v2 Vl):Gue (U / V) (u0*16777216+u1) v1 ((u0*16777216+u1) / v1) ((u0*16777216+u1) % v1):=by
 have hv:0<v1:=by have:=h.hi;omega
 have hm:=Nat.mod_lt (u0*16777216+u1) hv
 have hP:0<P:=by have:=h.hVl;omega
 refine ⟨by rw [Nat.mul_comm];exact Nat.div_add_mod _ _,?_,?_,fun h1=>by have:=h.k1;omega⟩
 ·rw [Nat.le_div_iff_mul_le hv];rcases zqi (u0*16777216+u1) (U / V*v1) with hc|hc
  ·exfalso
   have e1:(u0*16777216+u1+1)*(16777216*P)<=U / V*v1*(16777216*P):=Nat.mul_le_mul_right _ hc
   have e2:U / V*v1*(16777216*P)<=U / V*V:=by
    rw [zqs];refine Nat.mul_le_mul_left _ ?_
    have:=h.hV
    rw [Nat.add_mul,zqs] at this;omega
   have e3:=Nat.div_mul_le_self U V
   have e4:U<(u0*16777216+u1+1)*(16777216*P):=by
    have e5:u2*P+P<=16777216*P:=by
     have:=Nat.mul_le_mul_right P (show u2+1<=16777216 by have:=h.h2;omega)
     rw [Nat.add_mul,Nat.one_mul] at this;exact this
    have e6:=h.hU;have e7:=h.hUl;rw [Nat.add_mul,zqs] at e6;rw [Nat.add_mul,Nat.one_mul];omega
   omega
  ·exact hc
 ·have e1:=h.topU;have e2:=h.hi;have e3:=h.h1;rw [<- Nat.lt_succ_iff,Nat.div_lt_iff_lt_mul hv];have e4:u0*16777216<=v1*16777216:=Nat.mul_le_mul_right _ e1
  omega
theorem Rnd.next (h:Rnd U V P u0 u1 u2 Ul v1 v2 Vl){guess rest:Nat}(hg:Gue (U / V) (u0*16777216+u1) v1 guess rest)(hr:rest<16777216)(hc:16777216<=guess∨rest*16777216+u2<guess*v2):
  1<=guess/\Gue (U / V) (u0*16777216+u1) v1 (guess - 1) (rest+v1):=by
 obtain ⟨g1,g2,g3,g4⟩:=hg;have hlt:U / V<guess:=by
  rcases hc with hc|hc
  ·have:=h.qlt;omega
  ·rcases zqi (U / V) guess with hq|hq
   ·exact hq
   ·exfalso
    have e1:guess*V<=U:=zqq (Nat.mul_le_mul_right V hq) (Nat.div_mul_le_self U V)
    have e2:guess*((v1*16777216+v2)*P)<=guess*V:=Nat.mul_le_mul_left _ (by have:=h.hV;omega)
    have e3:guess*(v1*16777216+v2)=(guess*v1)*16777216+guess*v2:=by rw [zqt,zqs]
    have e4:(u0*16777216+u1)*16777216+u2+1<=guess*(v1*16777216+v2):=by
     rw [e3];have:(guess*v1+rest)*16777216=(u0*16777216+u1)*16777216:=by rw [g1]
     omega
    have e5:=Nat.mul_le_mul_right P e4
    rw [Nat.add_mul _ 1,Nat.one_mul,zqs guess] at e5;have:=h.hU
    have:=h.hUl
    omega
 have hlt2:1<=guess:=zqu (zqr _) hlt
 refine ⟨hlt2,?_,Nat.le_sub_one_of_lt hlt,by omega,fun _=>by omega⟩
 obtain ⟨m,rfl⟩:∃ m,guess=m+1:=⟨guess - 1,by omega⟩
 rw [Nat.add_mul,Nat.one_mul] at g1
 show m*v1+(rest+v1)=_
 omega
theorem Rnd.done (h:Rnd U V P u0 u1 u2 Ul v1 v2 Vl){guess rest:Nat}(hg:Gue (U / V) (u0*16777216+u1) v1 guess rest)(hc:16777216<=rest∨(guess<16777216/\guess*v2<=rest*16777216+u2)):
  U / V<=guess/\guess<=U / V+1/\guess<=16777216:=by
 obtain ⟨g1,g2,g3,g4⟩:=hg;have hP:0<P:=by have:=h.hVl;omega
 have hgb:guess<=16777216:=by
  rcases hc with hc|⟨hc,_⟩
  ·exact g4 hc
  ·omega
 refine ⟨g2,?_,hgb⟩
 have hV0:=h.pos;have hVP:16777216*P<=V:=by
  have e1:=h.hV;have e2:1*(16777216*P)<=v1*(16777216*P):=Nat.mul_le_mul_right _ (by have:=h.hi;omega)
  rw [Nat.add_mul,zqs] at e1;omega
 have key:guess*V<U+V:=by
  rcases hc with hc|⟨_,hc⟩
  ·-- guess*v1<=top - base
   have e1:guess*V<=guess*(v1*(16777216*P)+16777216*P):=by
    refine Nat.mul_le_mul_left _ ?_
    have e2:=h.hV;have e3:=h.hVl;have e4:v2*P+P<=16777216*P:=by
     have:=Nat.mul_le_mul_right P (show v2+1<=16777216 by have:=h.k2;omega)
     rw [Nat.add_mul,Nat.one_mul] at this;exact this
    rw [Nat.add_mul,zqs] at e2;omega
   have e2:guess*(v1*(16777216*P)+16777216*P)<=(guess*v1)*(16777216*P)+16777216*(16777216*P):=by
    rw [zqt,<- zqs guess v1];have:=Nat.mul_le_mul_right (16777216*P) hgb
    omega
   have e3:(guess*v1+rest)*(16777216*P)=(u0*16777216+u1)*(16777216*P):=by rw [g1]
   rw [Nat.add_mul] at e3;have e4:=Nat.mul_le_mul_right (16777216*P) hc
   have e5:=h.hU;rw [Nat.add_mul,zqs] at e5;omega
  ·have e1:guess*V=guess*((v1*16777216+v2)*P)+guess*Vl:=by rw [h.hV,zqt]
   have e2:guess*((v1*16777216+v2)*P)=(guess*v1*16777216+guess*v2)*P:=by rw [<- zqs,zqt,zqs]
   have e3:(guess*v1*16777216+guess*v2)*P<=((u0*16777216+u1)*16777216+u2)*P:=by
    refine Nat.mul_le_mul_right _ ?_
    have:(guess*v1+rest)*16777216=(u0*16777216+u1)*16777216:=by rw [g1]
    omega
   have e4:guess*Vl<=16777216*Vl:=Nat.mul_le_mul_right _ hgb
   have e5:=h.hVl;have e6:=h.hU;omega
 have e7:guess*V<(U / V+1+1)*V:=by
  have e8:=Nat.div_add_mod U V
  have e9:=Nat.mod_lt U hV0
  rw [Nat.add_mul,Nat.add_mul,Nat.one_mul,Nat.mul_comm (U / V) V]
  omega
 have:=Nat.lt_of_mul_lt_mul_right e7
 omega
end
theorem take_step (X Y o:List Nat)(t k bw d bw':Nat)(ho:o.length=k)(h:val o+t*val (Y.take k)=val (X.take k)+16777216 ^ k*bw)(hd:d+(bw+t*at0 Y k)=at0 X k+16777216*bw'):
  val (o++[d])+t*val (Y.take (k+1))=val (X.take (k+1))+16777216 ^ (k+1)*bw':=by
 rw [val_snoc,ho,val_take_at0,val_take_at0,Nat.pow_succ,zqt];have e1:16777216 ^ k*(d+(bw+t*at0 Y k))=16777216 ^ k*(at0 X k+16777216*bw'):=by rw [hd]
 rw [zqt,zqt,zqt,<- zqs _ 16777216] at e1;have e2:t*(16777216 ^ k*at0 Y k)=16777216 ^ k*(t*at0 Y k):=Nat.mul_left_comm ..
 omega
theorem take_borrow {t bw y x d bw':Nat}(ht:t<=16777216)(hb:bw<=16777216)(hy:y<16777216)(hd:d<16777216)(h:d+(bw+t*y)=x+16777216*bw'):bw'<=16777216:=by
 have e1:t*y<=16777216*y:=Nat.mul_le_mul_right _ ht
 omega
theorem take_end {X Y o:List Nat}{t n bw:Nat}(hl:Lim o)(ho:o.length=n)(h:val o+t*val (Y.take n)=val (X.take n)+16777216 ^ n*bw)(hX:X.length<=n)(hY:Y.length<=n):
  (val X<t*val Y->0<bw)/\(t*val Y<=val X->bw=0/\val o=val X - t*val Y):=by
 rw [zqp hX,zqp hY] at h;have hlt:=val_lt hl
 rw [ho] at hlt;refine ⟨fun h1=>?_,fun h1=>?_⟩
 ·rcases zqh bw with rfl|hb
  ·rw [Nat.mul_zero] at h;omega
  ·exact hb
 ·have:bw=0:=by
   rcases zqh bw with hb|hb
   ·exact hb
   ·have h2:=Nat.mul_le_mul_left (16777216 ^ n) hb
    rw [Nat.mul_one] at h2;omega
  subst this
  rw [Nat.mul_zero] at h;exact ⟨rfl,by omega⟩
theorem give_end {X Y o o':List Nat}{t n bw cr:Nat}(hl:Lim o)(ho:o.length=n)(hl':Lim o')(ho':o'.length=n)(h:val o+(t+1)*val (Y.take n)=val (X.take n)+16777216 ^ n*bw)
  (hX:X.length<=n) (hY:Y.length<=n) (hb:0<bw) (hYv:val Y<=16777216 ^ n) (ht:t*val Y<=val X) (hr:val X<(t+1)*val Y) (h2:val o'+16777216 ^ n*cr=val o+val Y):val o'=val X - t*val Y:=by
 rw [zqp hX,zqp hY] at h;have k1:=val_lt hl
 have k2:=val_lt hl'
 rw [ho] at k1;rw [ho'] at k2;rw [Nat.add_mul,Nat.one_mul] at h hr;have e0:16777216 ^ n*bw<16777216 ^ n*2:=by omega
 have e0':=Nat.lt_of_mul_lt_mul_left e0
 obtain rfl:bw=1:=by omega
 rw [Nat.mul_one] at h;have hcr:cr=1:=by
  rcases zqh cr with rfl|hc
  ·rw [Nat.mul_zero] at h2;omega
  ·have hlt:16777216 ^ n*cr<16777216 ^ n*2:=by omega
   have:=Nat.lt_of_mul_lt_mul_left hlt
   omega
 subst hcr
 omega
end Na
open Go.RowKit
namespace Na
set_option maxHeartbeats 8000000
theorem shift_carry {x s cr:Nat}(hx:x<16777216)(hc:cr<s):(x*s+cr) / 16777216<s:=by
 rw [Nat.div_lt_iff_lt_mul (by omega)]
 have:(x+1)*s<=16777216*s:=Nat.mul_le_mul_right _ hx
 rw [Nat.add_mul,Nat.one_mul] at this;rw [Nat.mul_comm s];omega
end Na
theorem z3bw (a b:Nat)(ha:a<9223372036854775808)(hb:b<9223372036854775808):bits .or .i64 (a:Int) (b:Int)=((a ||| b:Nat):Int):=by
 have hlt:a ||| b<2 ^ 63:=Nat.or_lt_two_pow (by simpa using ha) (by simpa using hb)
 have key:(BitVec.ofInt 64 (a:Int) ||| BitVec.ofInt 64 (b:Int)).toNat=a ||| b:=by
  rw [BitVec.toNat_or,BitVec.toNat_ofInt,BitVec.toNat_ofInt];congr 1 <;> omega
 show IntKind.i64.wrap ((BitVec.ofInt 64 (a:Int) ||| BitVec.ofInt 64 (b:Int)).toNat:Nat)=((a ||| b:Nat):Int)
 rw [key,IntKind.wrap_i64];generalize a ||| b=c at *
 omega
theorem z1bu (x k cr:Nat)(hx:x<16777216)(hb:k<24)(hc:cr<2 ^ k):bits .or .i64 (cr:Int) ((x*2 ^ k:Nat):Int)=((x*2 ^ k+cr:Nat):Int):=by
 have h2:2 ^ k<=2 ^ 23:=Nat.pow_le_pow_right (by omega) (by omega)
 have h3:x*2 ^ k<=x*2 ^ 23:=Nat.mul_le_mul_left _ h2
 rw [z3bw _ _ (by omega) (by omega),Nat.or_comm,Nat.mul_comm x,<- Nat.two_pow_add_eq_or_of_lt hc]
def NSh (w:World)(X:List Nat)(k n:Nat)(i cr o:Value)(wr:World):Prop:=
 ∃ (j c:Nat) (Ao:Option Addr) (co:Nat) (l:List Nat),j<=n/\i=.int .i64 j/\cr=.int .i64 c/\o=.slice Ao j co/\Hid (l.length=j/\Na.Lim l/\Na.val l+16777216 ^ j*c=Na.val (X.take j)*2 ^ k/\c<2 ^ k)/\wr.ownsRow w.heap.size 3 1 (.slice Ao j co) j (z0c l)/\Below w.heap.size w wr
theorem z8h (A:Option Addr)(n c k:Nat)(X:List Nat)(w:World)(hn:X.length=n)(hs:Sl w w.heap.size A (z0c X))(hX:Na.Lim X)(hl:n<=1000)(hk:k<24):
  Calls Tryz.prog 153 #[.slice A n c,.int .i64 k] w fun e w'=>∃ (A':Option Addr) (c':Nat) (o:List Nat),e=.returned (.slice A' (n+1) c')/\o.length=n+1/\Na.Lim o/\Na.val o=Na.val X*2 ^ k/\w'.ownsRow w.heap.size 3 1 (.slice A' (n+1) c') (n+1) (z0c o)/\Below w.heap.size w w':=by
 obtain ⟨i0,hi,hz0,hz1,hz2⟩:=info_parts z4y
 have HN:=zh hn;have HS:=zh hs;have HX:=zh hX;have hmk:=z1h (P:=Tryz.prog) 22 3 i0 (.int .i64 0) Tryz.underlying22 hi hz0 hz1 .i64 .i64 0 ((n:Int)+1) 0 (n+1) (by omega) (by omega) (zqr _) (by rw [hz2];omega) (by omega)
 have HO0:Hid ((w.alloc (.cells (madeCells #[Value.int .i64 0] (n+1)) 3)).ownsRow w.heap.size 3 1 (.slice (some ⟨w.heap.size,0,none⟩) 0 (n+1)) 0 (z0c [])):=z8o w (.int .i64 0) (n+1) 3 rfl (by unfold maxLen;omega)
 have HBB:Hid (Below w.heap.size w (w.alloc (.cells (madeCells #[Value.int .i64 0] (n+1)) 3))):=z0i _ _
 have hp0:0<2 ^ k:=Nat.pow_pos (by omega)
 have HP0:=zh hp0;clear hn hs hX hp0;go_enter Tryz.func153,Tryz.ntmps153
 go_wp2_with fail;clear hmk;go_loopw [15,6,5] (fun i cr o wr=>NSh w X k n i cr o wr) (fun i _ _ _=>n - (intOf i).toNat)
 case atStart=>exact ⟨0,0,_,_,[],zqr _,rfl,rfl,rfl,⟨rfl,Na.Lim.nil,by simp [Na.val],HP0.out⟩,HO0.out,HBB.out⟩
 case round=>
  clear HO0 HBB;obtain ⟨j,cr,Ao,co,l,hj,rfl,rfl,rfl,HP,ho,hb⟩:=hrel;have HO:=zh ho;have HB:=zh hb;rcases zqi j n with hjn|hjn
  ·obtain ⟨a,ha⟩:=z0m X j (by rw [HN.out];exact hjn)
   obtain ⟨ad,rfl,hbk,hca⟩:=(HS.out.below hb).nat ha
   have ha24:=HX.out.at ha
   have ham:a*2 ^ k<=a*2 ^ 23:=Nat.mul_le_mul_left _ (Nat.pow_le_pow_right (by omega) (by omega))
   have HOR:=zh (z1bu a k cr ha24 hk HP.out.2.2.2)
   have HE1:Hid ((a:Int)*2 ^ k=((a*2 ^ k:Nat):Int)):=by unfold Hid;simp
   obtain ⟨m,hm⟩:∃ m:Nat,a*2 ^ k=m:=⟨_,rfl⟩
   rw [hm] at HOR HE1 ham;have hm1:m<=140737488355328:=by omega
   have hcr:cr<8388608:=zqv HP.out.2.2.2 (Nat.pow_le_pow_right (n:=2) (j:=23) (by omega) (by omega))
   have HSH:Hid (wrap64 ((a:Int)*2 ^ k)=(m:Int)):=by
    unfold Hid;rw [HE1.out];exact IntWalk.wrap64_in _ ⟨by omega,by omega⟩
   obtain ⟨t,ht⟩:∃ t:Nat,m+cr=t:=⟨_,rfl⟩
   have ht2:t<281474976710656:=by omega
   rw [ht] at HOR;obtain ⟨d,hd⟩:∃ d,t % 16777216=d:=⟨_,rfl⟩
   obtain ⟨q,hq⟩:∃ q,t / 16777216=q:=⟨_,rfl⟩
   have HAND:Hid (bits .and .i64 (t:Int) 16777215=(d:Int)):=by unfold Hid;rw [z6m];omega
   have hshr:(t:Int) / 16777216=(q:Int):=by omega
   have hd24:d<16777216:=by omega
   have HQ:Hid (q<2 ^ k):=by
    unfold Hid;have:=Na.shift_carry ha24 HP.out.2.2.2
    rw [hm,ht,hq] at this;exact this
   have hq24:q<16777216:=by omega
   have HST:Hid (Na.val (l++[d])+16777216 ^ (j+1)*q=Na.val (X.take (j+1))*2 ^ k):=by
    unfold Hid;have h1:=Na.split24 (16777216 ^ j) t
    rw [hd,hq] at h1;have h2:=HP.out.2.2.1;rw [Na.val_snoc,HP.out.1,Na.val_take_succ X j a ha,Nat.add_mul,<- h2,zqs (16777216 ^ j) a,hm,Nat.pow_succ]
    have h3:16777216 ^ j*t=16777216 ^ j*m+16777216 ^ j*cr:=by rw [<- ht,zqt]
    omega
   have HLr:=zh (HP.out.2.1.append (Na.Lim.one hd24))
   have HLl:Hid ((l++[d]).length=j+1):=by unfold Hid;rw [zqm,HP.out.1];rfl
   have HO3:Hid ((wr.alloc (.cells #[.int .i64 d] 3)).ownsRow w.heap.size 3 1 (.slice Ao j co) j (z0c l)):=z0x ho _
   have HSl:=zh (z2c wr 3 (.int .i64 d))
   have HBW:Hid (w.heap.size<=wr.heap.size):=hb.size
   have hrow:∀ y,(Value.slice Ao j co).ownBlock=some y->w.heap.size<=y:=z1r ho
   have HM1:Hid (j+1<=maxLen/\(j+1)*8<=140737488355328):=⟨by unfold maxLen;omega,by omega⟩
   have HM3:Hid (w.heap.size<=(wr.alloc (.cells #[.int .i64 d] 3)).heap.size):=by have:=HBW.out;unfold Hid;simp;omega
   clear ho hb ha ham hm ht hd hq hcr hm1;have hor:=HOR.out;have hsh:=HSH.out;have hand:=HAND.out;clear HOR HSH HAND HE1;go_wp2_with (at_builtin;refine z0h _ rfl (.tmp 24) (.tmp 27) 22 rfl w.heap.size 3 i0 (.int .i64 0) 8 Tryz.underlying22 hi hz0 hz1 hz2 rfl _ _ _ _ rfl HO3.out _ _ 1 _ _ rfl rfl HSl.out (fun u hu=>by simp at hu;subst hu;rfl) HM1.out.1 HM1.out.2 HM3.out ?_;intro A' c' w8 hown hgrow hblk;clear hor hsh hand)
   go_roundw
   case rel=>
    rw [z1a] at hown;exact ⟨j+1,q,A',c',l++[d],by omega,by go_num,rfl,rfl,⟨HLl.out,HLr.out,HST.out,HQ.out⟩,hown,(HB.out.alloc HBW.out _).grown hgrow (by have:=HBW.out;simp;omega) hrow⟩
   case measure=>simp [intOf];omega
  ·obtain rfl:n=j:=by omega
   have hc24:cr<16777216:=zqv HP.out.2.2.2 (Nat.pow_le_pow_right (n:=2) (j:=24) (by omega) (by omega))
   have hdk:decide (n<n)=false:=zn (by omega)
   have HLr:=zh (HP.out.2.1.append (Na.Lim.one hc24))
   have HLl:Hid ((l++[cr]).length=n+1):=by unfold Hid;rw [zqm,HP.out.1];rfl
   have HVl:Hid (Na.val (l++[cr])=Na.val X*2 ^ k):=by
    unfold Hid;rw [Na.val_snoc,HP.out.1,HP.out.2.2.1,zqp (by have:=HN.out;omega)]
   have HO3:Hid ((wr.alloc (.cells #[.int .i64 cr] 3)).ownsRow w.heap.size 3 1 (.slice Ao n co) n (z0c l)):=z0x ho _
   have HSl:=zh (z2c wr 3 (.int .i64 cr))
   have HBW:Hid (w.heap.size<=wr.heap.size):=hb.size
   have hrow:∀ y,(Value.slice Ao n co).ownBlock=some y->w.heap.size<=y:=z1r ho
   clear ho hb HS HP0 hjn;go_wp2_with (at_builtin;refine z0h _ rfl (.tmp 32) (.tmp 34) 22 rfl w.heap.size 3 i0 (.int .i64 0) 8 Tryz.underlying22 hi hz0 hz1 hz2 rfl _ _ _ _ rfl HO3.out _ _ 1 _ _ rfl rfl HSl.out (fun u hu=>by simp at hu;subst hu;rfl) (by unfold maxLen;omega) (by omega) (by have:=HBW.out;simp;omega) ?_;intro A' c' w8 hown hgrow hblk)
   go_ret;rw [z1a] at hown;exact ⟨A',c',l++[cr],rfl,HLl.out,HLr.out,HVl.out,hown,(HB.out.alloc HBW.out _).grown hgrow (by have:=HBW.out;simp;omega) hrow⟩
namespace Na
set_option maxHeartbeats 8000000
def win (U o:List Nat)(j:Nat):List Nat:=U.take j++(o++U.drop (j+o.length))
theorem win_length (U o:List Nat)(j:Nat)(h:j+o.length<=U.length):(win U o j).length=U.length:=by
 unfold win;simp
 omega
theorem win_nil (U:List Nat)(j:Nat)(h:j<=U.length):win U [] j=U:=by
 unfold win;simp
theorem win_get (U o:List Nat)(j k a:Nat)(hk:o.length<=k)(h:U[j+k]?=some a):(win U o j)[j+k]?=some a:=by
 unfold win;have hj:j+k<U.length:=lt_of_get h
 rw [zqo (by rw [zqw];omega),zqw,Nat.min_eq_left (by omega),show j+k - j=k by omega,zqo hk,List.getElem?_drop,show j+o.length+(k - o.length)=j+k by omega]
 exact h
theorem win_set (U o:List Nat)(j d:Nat)(h:j+o.length<U.length):(win U o j).set (j+o.length) d=win U (o++[d]) j:=by
 unfold win;rw [List.set_append_right _ _ (by rw [zqw];omega),zqw,Nat.min_eq_left (by omega),show j+o.length - j=o.length by omega,List.set_append_right _ _ (zqj _),Nat.sub_self]
 rw [List.drop_eq_getElem_cons h];simp [Nat.add_assoc]
theorem take_digit (u X:Nat)(hX:X<=281475000000000)(hu:u<16777216):∃ d b:Nat,d<16777216/\d+X=u+16777216*b/\((u:Int) - (X:Int)) % 16777216=(d:Int)/\((d:Int) - ((u:Int) - (X:Int))) / 16777216=(b:Int):=by
 refine ⟨(((u:Int) - (X:Int)) % 16777216).toNat,((((u:Int) - (X:Int)) % 16777216 - ((u:Int) - (X:Int))) / 16777216).toNat,?_,?_,?_,?_⟩ <;> omega
end Na
def NTk (w:World)(g j N m c base:Nat)(U V:List Nat)(t:Nat)(i bw:Value)(wr:World):Prop:=
 ∃ (k b:Nat) (o:List Nat),k<=N/\i=.int .i64 k/\bw=.int .i64 b/\b<=16777216/\Hid (o.length=k/\Na.Lim o/\Na.val o+t*Na.val (V.take k)=Na.val ((U.drop j).take k)+16777216 ^ k*b)/\
  wr.ownsRow base 3 1 (.slice (some ⟨g,0,none⟩) m c) m (z0c (Na.win U o j))/\w.grownBy wr (some g)
theorem z0ae (g j N cap m c base n c2 B:Nat)(A2:Option Addr)(U V:List Nat)(t:Nat)(w:World)(hU:U.length=m)(hV:V.length=n)(ho:w.ownsRow base 3 1 (.slice (some ⟨g,0,none⟩) m c) m (z0c U))(hs2:Sl w B A2 (z0c V))(hg2:∀ ad,A2=some ad->0<n->ad.block≠g)(hB:B<=w.heap.size)
  (hUl:Na.Lim U) (hVl:Na.Lim V) (hN:j+N<=m) (hm:m<=1000) (hn1:n<=1000) (ht:t<=16777216) :
  Calls Tryz.prog 154 #[.slice (some ⟨g,j,none⟩) N cap,.slice A2 n c2,.int .i64 t] w fun e w'=>∃ (b:Nat) (o:List Nat),e=.returned (.bool (decide (0<b)))/\o.length=N/\Na.Lim o/\Na.val o+t*Na.val (V.take N)=Na.val ((U.drop j).take N)+16777216 ^ N*b/\
   w'.ownsRow base 3 1 (.slice (some ⟨g,0,none⟩) m c) m (z0c (Na.win U o j))/\w.grownBy w' (some g):=by
 have HU:=zh hU;have HV:=zh hV;have HO0:=zh ho;have HS2:=zh hs2;have HUl:=zh hUl;have HVl:=zh hVl;have HG2:=zh hg2;clear hU hV ho hs2 hUl hVl hg2;go_enter Tryz.func154,Tryz.ntmps154
 go_wp2_with fail;go_loopw [12,7] (fun i bw wr=>NTk w g j N m c base U V t i bw wr) (fun i _ _=>N - (intOf i).toNat)
 case atStart=>exact ⟨0,0,[],zqr _,rfl,rfl,zqr _,⟨rfl,Na.Lim.nil,by simp [Na.val]⟩,by rw [Na.win_nil U j (by have:=HU.out;omega)];exact HO0.out,World.grownBy.refl w _⟩
 case round=>
  clear HO0;obtain ⟨k,b,o,hk,rfl,rfl,hb,HP,ho,hg⟩:=hrel;have HO:=zh ho;have HG:=zh hg;rcases zqi k N with hkN|hkN
  ·obtain ⟨a,ha⟩:=z0m U (j+k) (by rw [HU.out];omega)
   have hca:=z1b ho (Na.win_get U o j k a (by rw [HP.out.1];exact zqj _) ha)
   have hfz:=ho.frozenAt (j+k)
   have ha24:=HUl.out.at ha
   have HA0:Hid (Na.at0 (U.drop j) k=a):=Na.at0_some (by rw [List.getElem?_drop];exact ha)
   rcases zqi k n with hkn|hkn
   ·obtain ⟨y,hy⟩:=z0m V k (by rw [HV.out];exact hkn)
    obtain ⟨ad2,rfl,hbk2,hcy⟩:=HS2.out.nat hy
    have hcb:=(World.cell?_of_block (a:=ad2.add k) (hg.block (ad2.add k).block (by rw [z1d];omega) (by rw [z1d];intro e;exact HG2.out ad2 rfl (by omega) (zqk e)))).trans hcy
    have hy24:=HVl.out.at hy
    have HY0:Hid (Na.at0 V k=y):=Na.at0_some hy
    obtain ⟨p,hp⟩:∃ p,t*y=p:=⟨_,rfl⟩
    have hp2:p<=281474976710656:=by
     have:=Nat.mul_le_mul ht (Nat.le_of_lt hy24)
     omega
    have HP1:Hid ((t:Int)*(y:Int)=(p:Int)):=by unfold Hid;rw [<- hp];exact (Int.natCast_mul t y).symm
    obtain ⟨d,b',hd24,hdb,hd1,hd2⟩:=Na.take_digit a (b+p) (by omega) ha24
    have HAND:Hid (bits .and .i64 ((a:Int) - (b:Int) - (p:Int)) 16777215=(d:Int)):=by unfold Hid;rw [z6m];omega
    have HSHR:Hid (((d:Int) - ((a:Int) - (b:Int) - (p:Int))) / 16777216=(b':Int)):=by unfold Hid;omega
    have HBB:Hid (b'<=16777216):=Na.take_borrow ht hb hy24 hd24 (by rw [hp];exact hdb)
    have HST:=zh (Na.take_step (U.drop j) V o t k b d b' HP.out.1 HP.out.2.2 (by rw [HA0.out,HY0.out,hp];exact hdb))
    have HLr:=zh (HP.out.2.1.append (Na.Lim.one hd24))
    have HLl:Hid ((o++[d]).length=k+1):=by unfold Hid;rw [zqm,HP.out.1];rfl
    have HSet:=zh (Na.win_set U o j d (by rw [HU.out,HP.out.1];omega))
    rw [HP.out.1] at HSet;clear ho hg ha hy hcy hp hd1 hd2 hdb hbk2;have hmul:=HP1.out;have hand:=HAND.out;have hshr:=HSHR.out;clear HP1 HAND HSHR;go_wp2_with fail;go_roundw
    case rel=>
     have o1:=z1x HO.out (j+k) (.int .i64 d)
     rw [z1s,HSet.out] at o1;exact ⟨k+1,b',o++[d],by omega,by go_num,rfl,HBB.out,⟨HLl.out,HLr.out,HST.out⟩,o1,z0j HG.out (z0f _ _ _)⟩
    case measure=>simp [intOf];omega
   ·have HY0:Hid (Na.at0 V k=0):=Na.at0_none (by rw [HV.out];exact hkn)
    obtain ⟨d,b',hd24,hdb,hd1,hd2⟩:=Na.take_digit a b (by omega) ha24
    have HAND:Hid (bits .and .i64 ((a:Int) - (b:Int)) 16777215=(d:Int)):=by unfold Hid;rw [z6m];omega
    have HSHR:Hid (((d:Int) - ((a:Int) - (b:Int))) / 16777216=(b':Int)):=by unfold Hid;omega
    have HBB:Hid (b'<=16777216):=by unfold Hid;omega
    have HST:=zh (Na.take_step (U.drop j) V o t k b d b' HP.out.1 HP.out.2.2 (by rw [HA0.out,HY0.out,Nat.mul_zero,Nat.add_zero];exact hdb))
    have HLr:=zh (HP.out.2.1.append (Na.Lim.one hd24))
    have HLl:Hid ((o++[d]).length=k+1):=by unfold Hid;rw [zqm,HP.out.1];rfl
    have HSet:=zh (Na.win_set U o j d (by rw [HU.out,HP.out.1];omega))
    rw [HP.out.1] at HSet;have hkd:decide (k<n)=false:=zn (by omega)
    clear ho hg ha hd1 hd2 hdb;have hand:=HAND.out;have hshr:=HSHR.out;clear HAND HSHR;go_wp2_with fail;go_roundw
    case rel=>
     have o1:=z1x HO.out (j+k) (.int .i64 d)
     rw [z1s,HSet.out] at o1;exact ⟨k+1,b',o++[d],by omega,by go_num,rfl,HBB.out,⟨HLl.out,HLr.out,HST.out⟩,o1,z0j HG.out (z0f _ _ _)⟩
    case measure=>simp [intOf];omega
  ·obtain rfl:N=k:=by omega
   have hdk:decide (N<N)=false:=zn (by omega)
   have HBd:Hid (decide (0<(b:Int))=decide (0<b)):=by
    unfold Hid;by_cases h:0<b
    ·rw [zt h,zt (by omega)]
    ·rw [zn h,zn (by omega)]
   clear ho hg hkN;go_wp2_with fail;go_ret;exact ⟨b,o,z2i (by first|rfl|exact HBd.out),HP.out.1,HP.out.2.1,HP.out.2.2,HO.out,HG.out⟩
def NGi (w:World)(g j N m c base:Nat)(U V:List Nat)(i cr:Value)(wr:World):Prop:=
 ∃ (k b:Nat) (o:List Nat),k<=N/\i=.int .i64 k/\cr=.int .i64 b/\b<=1/\Hid (o.length=k/\Na.Lim o/\Na.val o+16777216 ^ k*b=Na.val ((U.drop j).take k)+Na.val (V.take k))/\
  wr.ownsRow base 3 1 (.slice (some ⟨g,0,none⟩) m c) m (z0c (Na.win U o j))/\w.grownBy wr (some g)
theorem z0aj (g j N cap m c base n c2 B:Nat)(A2:Option Addr)(U V:List Nat)(w:World)(hU:U.length=m)(hV:V.length=n)(ho:w.ownsRow base 3 1 (.slice (some ⟨g,0,none⟩) m c) m (z0c U))(hs2:Sl w B A2 (z0c V))(hg2:∀ ad,A2=some ad->0<n->ad.block≠g)(hB:B<=w.heap.size)
  (hUl:Na.Lim U) (hVl:Na.Lim V) (hN:j+N<=m) (hm:m<=1000) (hn1:n<=1000) :
  Calls Tryz.prog 155 #[.slice (some ⟨g,j,none⟩) N cap,.slice A2 n c2] w fun e w'=>∃ (b:Nat) (o:List Nat),e=.returned (.tuple #[])/\o.length=N/\Na.Lim o/\Na.val o+16777216 ^ N*b=Na.val ((U.drop j).take N)+Na.val (V.take N)/\
   w'.ownsRow base 3 1 (.slice (some ⟨g,0,none⟩) m c) m (z0c (Na.win U o j))/\w.grownBy w' (some g):=by
 have HU:=zh hU;have HV:=zh hV;have HO0:=zh ho;have HS2:=zh hs2;have HUl:=zh hUl;have HVl:=zh hVl;have HG2:=zh hg2;clear hU hV ho hs2 hUl hVl hg2;go_enter Tryz.func155,Tryz.ntmps155
 go_wp2_with fail;go_loopw [8,4] (fun i cr wr=>NGi w g j N m c base U V i cr wr) (fun i _ _=>N - (intOf i).toNat)
 case atStart=>exact ⟨0,0,[],zqr _,rfl,rfl,zqr _,⟨rfl,Na.Lim.nil,by simp [Na.val]⟩,by rw [Na.win_nil U j (by have:=HU.out;omega)];exact HO0.out,World.grownBy.refl w _⟩
 case round=>
  clear HO0;obtain ⟨k,b,o,hk,rfl,rfl,hb,HP,ho,hg⟩:=hrel;have HO:=zh ho;have HG:=zh hg;rcases zqi k N with hkN|hkN
  ·obtain ⟨a,ha⟩:=z0m U (j+k) (by rw [HU.out];omega)
   have hca:=z1b ho (Na.win_get U o j k a (by rw [HP.out.1];exact zqj _) ha)
   have hfz:=ho.frozenAt (j+k)
   have ha24:=HUl.out.at ha
   have HA0:Hid (Na.at0 (U.drop j) k=a):=Na.at0_some (by rw [List.getElem?_drop];exact ha)
   rcases zqi k n with hkn|hkn
   ·obtain ⟨y,hy⟩:=z0m V k (by rw [HV.out];exact hkn)
    obtain ⟨ad2,rfl,hbk2,hcy⟩:=HS2.out.nat hy
    have hcb:=(World.cell?_of_block (a:=ad2.add k) (hg.block (ad2.add k).block (by rw [z1d];omega) (by rw [z1d];intro e;exact HG2.out ad2 rfl (by omega) (zqk e)))).trans hcy
    have hy24:=HVl.out.at hy
    have HY0:Hid (Na.at0 V k=y):=Na.at0_some hy
    obtain ⟨s,hs⟩:∃ s,b+a+y=s:=⟨_,rfl⟩
    obtain ⟨d,hd⟩:∃ d,s % 16777216=d:=⟨_,rfl⟩
    obtain ⟨q,hq⟩:∃ q,s / 16777216=q:=⟨_,rfl⟩
    have HAND:Hid (bits .and .i64 ((b:Int)+(a:Int)+(y:Int)) 16777215=(d:Int)):=by unfold Hid;rw [z6m];omega
    have HSHR:Hid (((b:Int)+(a:Int)+(y:Int)) / 16777216=(q:Int)):=by unfold Hid;omega
    have hd24:d<16777216:=by omega
    have HBB:Hid (q<=1):=by unfold Hid;omega
    have HST:=zh (Na.add_step (U.drop j) V o k b s HP.out.1 HP.out.2.2 (by rw [HA0.out,HY0.out];omega))
    rw [hd,hq] at HST;have HLr:=zh (HP.out.2.1.append (Na.Lim.one hd24))
    have HLl:Hid ((o++[d]).length=k+1):=by unfold Hid;rw [zqm,HP.out.1];rfl
    have HSet:=zh (Na.win_set U o j d (by rw [HU.out,HP.out.1];omega))
    rw [HP.out.1] at HSet;clear ho hg ha hy hcy hs hd hq hbk2;have hand:=HAND.out;have hshr:=HSHR.out;clear HAND HSHR;go_wp2_with fail;go_roundw
    case rel=>
     have o1:=z1x HO.out (j+k) (.int .i64 d)
     rw [z1s,HSet.out] at o1;exact ⟨k+1,q,o++[d],by omega,by go_num,rfl,HBB.out,⟨HLl.out,HLr.out,HST.out⟩,o1,z0j HG.out (z0f _ _ _)⟩
    case measure=>simp [intOf];omega
   ·have HY0:Hid (Na.at0 V k=0):=Na.at0_none (by rw [HV.out];exact hkn)
    obtain ⟨s,hs⟩:∃ s,b+a=s:=⟨_,rfl⟩
    obtain ⟨d,hd⟩:∃ d,s % 16777216=d:=⟨_,rfl⟩
    obtain ⟨q,hq⟩:∃ q,s / 16777216=q:=⟨_,rfl⟩
    have HAND:Hid (bits .and .i64 ((b:Int)+(a:Int)) 16777215=(d:Int)):=by unfold Hid;rw [z6m];omega
    have HSHR:Hid (((b:Int)+(a:Int)) / 16777216=(q:Int)):=by unfold Hid;omega
    have hd24:d<16777216:=by omega
    have HBB:Hid (q<=1):=by unfold Hid;omega
    have HST:=zh (Na.add_step (U.drop j) V o k b s HP.out.1 HP.out.2.2 (by rw [HA0.out,HY0.out];omega))
    rw [hd,hq] at HST;have HLr:=zh (HP.out.2.1.append (Na.Lim.one hd24))
    have HLl:Hid ((o++[d]).length=k+1):=by unfold Hid;rw [zqm,HP.out.1];rfl
    have HSet:=zh (Na.win_set U o j d (by rw [HU.out,HP.out.1];omega))
    rw [HP.out.1] at HSet;have hkd:decide (k<n)=false:=zn (by omega)
    clear ho hg ha hs hd hq;have hand:=HAND.out;have hshr:=HSHR.out;clear HAND HSHR;go_wp2_with fail;go_roundw
    case rel=>
     have o1:=z1x HO.out (j+k) (.int .i64 d)
     rw [z1s,HSet.out] at o1;exact ⟨k+1,q,o++[d],by omega,by go_num,rfl,HBB.out,⟨HLl.out,HLr.out,HST.out⟩,o1,z0j HG.out (z0f _ _ _)⟩
    case measure=>simp [intOf];omega
  ·obtain rfl:N=k:=by omega
   have hdk:decide (N<N)=false:=zn (by omega)
   clear ho hg hkN;go_wp2_with fail;go_end0
   exact ⟨b,o,rfl,HP.out.1,HP.out.2.1,HP.out.2.2,HO.out,HG.out⟩
theorem z4bo:∀ (f x:Nat),x<2 ^ f->x≠0->1<=Lib.bitLenAux f x/\2 ^ (Lib.bitLenAux f x - 1)<=x/\x<2 ^ Lib.bitLenAux f x
 | 0,x,h,h0=>by simp at h;omega
 | f+1,x,h,h0=>by
  rw [Lib.bitLenAux,if_neg h0];by_cases h2:x / 2=0
  ·have hz:Lib.bitLenAux f 0=0:=by cases f <;> simp [Lib.bitLenAux]
   rw [h2,hz];simp
   omega
  ·obtain ⟨a,b,c⟩:=z4bo f (x / 2) (by rw [Nat.pow_succ] at h;omega) h2
   generalize Lib.bitLenAux f (x / 2)=L at a b c ⊢
   obtain ⟨L,rfl⟩:∃ M,L=M+1:=⟨L - 1,by omega⟩
   have e1:1+(L+1) - 1=L+1:=by omega
   have e2:1+(L+1)=(L+1)+1:=by omega
   rw [e1,e2,Nat.pow_succ 2 (L+1)]
   simp only [Nat.add_sub_cancel] at b;rw [Nat.pow_succ] at c ⊢
   omega
def Nbl (x:Nat):Nat:=Lib.bitLen x
theorem z8ao {x:Nat}(h0:0<x)(h:x<18446744073709551616):1<=Nbl x/\2 ^ (Nbl x - 1)<=x/\x<2 ^ Nbl x:=z4bo 64 x h (by omega)
theorem z3ag {x k:Nat}(h:x<2 ^ k)(hk:k<=64):Nbl x<=k:=Lib.bitLen_le x k hk h
theorem z0bu:(Lib.len8tab.size:Int)=256:=by
 have:Lib.len8tab.size=256:=by decide
 omega
theorem z8j (k a b:Nat)(hk:k<=56)(ha:a<=8)(hb:b=k+a):wrap64 ((k:Int)+wrap64 (a:Int))=(b:Int):=by
 unfold wrap64;omega
theorem z6ag (a:Nat)(ha:a<=8):wrap64 (wrap64 (a:Int))=(a:Int):=by
 unfold wrap64;omega
theorem z0bq (a:Nat)(ha:a<=8):wrap64 (a:Int)=(a:Int):=by
 unfold wrap64;omega
theorem z1aa (y:Int)(h:y.toNat<Lib.len8tab.size):((Lib.len8tab[y.toNat]'h).toNat:Int)=Lib.len8 y:=by
 unfold Lib.len8;rw [getElem?_pos Lib.len8tab y.toNat h];rfl
theorem z9ab (x:Int)(w:World)(h0:0<=x)(h1:x<16777216):
    Calls Tryz.prog 115 #[.int .u64 x] w fun e w'=>e=.returned (.int .i64 (Lib.bitLen x.toNat))/\w'=w:=by
  go_enter Tryz.func115,Tryz.ntmps115
  go_wp2
  all_goals first
    | (go_ret;refine ⟨congrArg Ending.returned (congrArg (Value.int IntKind.i64) ?_),rfl⟩)
    | (exfalso;have hs:=z0bu;omega)
  all_goals first
    | (rw [z1aa (x / 65536) _,Lib.len8_of (x / 65536) (by omega) (by omega)]
       have e:(x / 65536).toNat=x.toNat / 65536:=by omega
       have l:=Lib.bitLen_le8' (x / 65536) (by omega) (by omega)
       have s:=Lib.bitLen_shift16 x.toNat (by omega) (by omega)
       rw [e] at l ⊢
       exact z8j 16 _ _ (by decide) l s)
    | (rw [z1aa (x / 256) _,Lib.len8_of (x / 256) (by omega) (by omega)]
       have e:(x / 256).toNat=x.toNat / 256:=by omega
       have l:=Lib.bitLen_le8' (x / 256) (by omega) (by omega)
       have s:=Lib.bitLen_shift8 x.toNat (by omega) (by omega)
       rw [e] at l ⊢
       exact z8j 8 _ _ (by decide) l s)
    | (rw [z1aa (x) _,Lib.len8_of (x) (by omega) (by omega)]
       have l:=Lib.bitLen_le8' (x) (by omega) (by omega)
       first|exact z6ag _ l|exact z8j 0 _ _ (by decide) l (by omega)|exact z0bq _ l)
theorem z4g (x:Nat)(xi:Int)(hx:xi=(x:Int))(w:World)(h1:x<16777216):
  Calls Tryz.prog 82 #[.int .u64 xi] w fun e w'=>e=.returned (.int .i64 (Nbl x:Int))/\w=w':=by
 subst hx
 go_enter Tryz.func82,Tryz.ntmps82
 go_wp2_with fail;refine (z9ab x _ (by omega) (by omega)).mono ?_
 rintro e w' ⟨rfl,rfl⟩;go_wp2_with fail;go_ret;exact ⟨rfl,rfl⟩
theorem and1 (n:Int):bits .and .i64 n 1=n % 2:=by
 have hm:(BitVec.ofInt 64 1).toNat=2 ^ 1 - 1:=by decide
 have key:(BitVec.ofInt 64 n &&& BitVec.ofInt 64 1).toNat=(n % ((2 ^ 64:Nat):Int)).toNat % 2 ^ 1:=by
  rw [BitVec.toNat_and,BitVec.toNat_ofInt,hm,Nat.and_two_pow_sub_one_eq_mod]
 show IntKind.i64.wrap ((BitVec.ofInt 64 n &&& BitVec.ofInt 64 1).toNat:Nat)=n % 2
 rw [key,IntKind.wrap_i64];omega
namespace Na
set_option maxHeartbeats 8000000
theorem pow24' (k:Nat):16777216 ^ k=2 ^ (24*k):=by rw [Nat.pow_mul]
theorem bitlen (x k a:Nat)(hk:(dig x).length=k+1)(ha:(dig x)[k]?=some a):0<a/\1<=Nbl a/\2 ^ (k*24+Nbl a - 1)<=x/\x<2 ^ (k*24+Nbl a):=by
 have h24:=(dig_lim x).at ha
 have h0:0<a:=by
  rcases dig_last x with h|h
  ·omega
  ·rw [hk,Nat.add_sub_cancel,ha] at h;rcases zqh a with e|e
   ·subst e;exact absurd rfl h
   ·exact e
 obtain ⟨b1,b2,b3⟩:=z8ao h0 (by omega)
 have hv:=val_take_succ (dig x) k a ha
 rw [zqp (by omega),val_dig] at hv
 have hl:=val_lt ((dig_lim x).take k)
 rw [zqw,Nat.min_eq_left (by omega)] at hl
 rw [pow24'] at hv hl;have e1:k*24+Nbl a - 1=24*k+(Nbl a - 1):=by omega
 have e2:k*24+Nbl a=24*k+Nbl a:=by omega
 refine ⟨h0,b1,?_,?_⟩
 ·rw [e1,Nat.pow_add,hv];have:=Nat.mul_le_mul_left (2 ^ (24*k)) b2
  omega
 ·rw [e2,Nat.pow_add,hv];have:=Nat.mul_le_mul_left (2 ^ (24*k)) (Nat.succ_le_of_lt b3)
  rw [Nat.mul_succ] at this;omega
theorem top2:∃ N,N=4800/\top=2 ^ N:=⟨24*200,by omega,by unfold top;rw [pow24']⟩
theorem pow_big {x L n:Nat}(h:2 ^ L<=x)(hn:4800<=L*n):top<=x ^ n:=by
 obtain ⟨N,hN,ht⟩:=top2;rw [ht]
 calc 2 ^ N<=2 ^ (L*n):=Nat.pow_le_pow_right (by omega) (by omega)
  _=(2 ^ L) ^ n:=Nat.pow_mul ..
  _<=x ^ n:=Nat.pow_le_pow_left h n
theorem z1bo {x L n j m:Nat}(hm:401<=m)(h1:1<=L)(h:x<2 ^ L)(h2:(L - 1)*n<4800)(hx:0<x)(hj:j<=n):(dig (x ^ j)).length<=m:=by
 apply dig_len_le
 have a1:x ^ j<=x ^ n:=Nat.pow_le_pow_right hx hj
 rcases zqi L 2 with h3|h3
 ·have:L=1:=by omega
  subst this
  have e:x=1:=by omega
  rw [e,Nat.one_pow];exact Nat.one_lt_pow (by omega) (by omega)
 ·have a2:x ^ n<=(2 ^ L) ^ n:=Nat.pow_le_pow_left (by omega) n
  rw [<- Nat.pow_mul] at a2;have a3:L*n<=2*((L - 1)*n):=by
   rw [<- zqs];exact Nat.mul_le_mul_right n (by omega)
  have a4:(2:Nat) ^ (L*n)<2 ^ (24*m):=Nat.pow_lt_pow_right (by omega) (by omega)
  rw [pow24'];omega
theorem pow_400 {x L n j:Nat}(h1:1<=L)(h:x<2 ^ L)(h2:(L - 1)*n<4800)(hx:0<x)(hj:j<=n):(dig (x ^ j)).length<=401:=z1bo (zqj _) h1 h h2 hx hj
theorem z8m (j m:Nat)(hm:401<=m):(dig (0 ^ j)).length<=m:=by
 apply dig_len_le
 have h:0 ^ j<=1:=by cases j <;> simp
 have:1<16777216 ^ m:=Nat.one_lt_pow (by omega) (by omega)
 omega
theorem pow_400_zero (j:Nat):(dig (0 ^ j)).length<=401:=z8m j 401 (zqj _)
theorem pow_half (n j:Nat):n / 2 ^ j=n / 2 ^ (j+1)+n / 2 ^ (j+1)+(n / 2 ^ j) % 2:=by
 rw [Nat.pow_succ,<- Nat.div_div_eq_div_mul];omega
theorem pow_sq (x n j:Nat)(h:(n / 2 ^ j) % 2=0):x ^ (n / 2 ^ (j+1))*x ^ (n / 2 ^ (j+1))=x ^ (n / 2 ^ j):=by
 rw [<- Nat.pow_add];have:=pow_half n j
 rw [h,Nat.add_zero] at this;rw [<- this]
theorem pow_sqx (x n j:Nat)(h:(n / 2 ^ j) % 2=1):x ^ (n / 2 ^ (j+1))*x ^ (n / 2 ^ (j+1))*x=x ^ (n / 2 ^ j):=by
 rw [<- Nat.pow_add,<- Nat.pow_add_one];have:=pow_half n j
 rw [h] at this;rw [<- this]
theorem pow_start (n:Nat)(h:n<=4800):n / 2 ^ Nbl n=0:=by
 rcases zqh n with e|e
 ·subst e;simp
 ·exact Nat.div_eq_of_lt (z8ao e (by omega)).2.2
end Na
end Go.Proofs.YtpmofjomadibmaaGreatDoor
