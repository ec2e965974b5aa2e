/- Xy -/
import Derived.Test.YtpmofjomadibmaaGreatDoorU19
import Derived.Deep.CutRange
namespace Go.Proofs.YtpmofjomadibmaaGreatDoor
set_option maxHeartbeats 16000000
open Go.RowKit Go.Sort
open Go.ChangeMaps (setBlock heap_setBlock_same heap_setBlock_other)
set_option linter.unusedVariables false
set_option maxRecDepth 100000
open Cl
theorem zy6 {w:World}{B b n c s:Nat}{e:TypeId}{v0 v1 v2 v3 v4 v5:Value}{r:List Value}(h:w.ownsRow B e s (.slice (some ⟨b,0,none⟩) n c) n (v0::v1::v2::v3::v4::v5::r)):w.cell? ⟨b,0,none⟩=some v0/\w.cell? ⟨b,1,none⟩=some v1/\w.cell? ⟨b,2,none⟩=some v2/\w.cell? ⟨b,3,none⟩=some v3/\w.cell? ⟨b,4,none⟩=some v4/\w.cell? ⟨b,5,none⟩=some v5:=by
 have k:n*s=r.length+6:=h.1.symm
 exact ⟨h.cellAt 0 (by omega),h.cellAt 1 (by omega),h.cellAt 2 (by omega),h.cellAt 3 (by omega),h.cellAt 4 (by omega),h.cellAt 5 (by omega)⟩
theorem z9an {α:Type}{R:List α}(h:R.length=8):∃ r0 r1 r2 r3 r4 r5 r6 r7,R=[r0,r1,r2,r3,r4,r5,r6,r7]:=by
 match R,h with
 | [r0,r1,r2,r3,r4,r5,r6,r7],_=>exact ⟨r0,r1,r2,r3,r4,r5,r6,r7,rfl⟩
theorem z8b {r p x:Pl}(h0:r.l[0]?=p.l[0]?∨r.l[0]?=x.l[0]?)(h1:r.l[1]?=p.l[1]?∨r.l[1]?=x.l[1]?)(h2:r.l[2]?=p.l[2]?∨r.l[2]?=x.l[2]?)(h3:r.l[3]?=p.l[3]?∨r.l[3]?=x.l[3]?)(h4:r.l[4]?=p.l[4]?∨r.l[4]?=x.l[4]?)(h5:r.l[5]?=p.l[5]?∨r.l[5]?=x.l[5]?):∀ j,j<6->r.l[j]?=p.l[j]?∨r.l[j]?=x.l[j]?:=fun j hj=>by
 have hcase:j=0∨j=1∨j=2∨j=3∨j=4∨j=5:=by omega
 rcases hcase with rfl|rfl|rfl|rfl|rfl|rfl <;> assumption
theorem z6c {s p x r:Pl}(hp:plV s p=true)(hx:plV s x=true)(h:∀ j,j<6->r.l[j]?=p.l[j]?∨r.l[j]?=x.l[j]?):plV s r=true:=by
 unfold plV at hp hx;rw [Bool.and_eq_true] at hp hx;refine z7d (of_decide_eq_true hp.1) fun j hj=>?_
 have h1:=List.all_eq_true.1 hp.2 j (List.mem_range.2 hj)
 have h2:=List.all_eq_true.1 hx.2 j (List.mem_range.2 hj)
 unfold plT at *
 rcases h j hj with e|e
 ·rw [e];exact h1
 ·rw [e];exact h2
theorem mix6 {s:Pl}{x0 x1 x2 x3 x4 x5 p0 p1 p2 p3 p4 p5:Int}(hx:plV s ⟨x0,x1,x2,x3,x4,x5⟩=true)(hp:plV s ⟨p0,p1,p2,p3,p4,p5⟩=true):plV s ⟨x0,p1,p2,p3,p4,p5⟩=true/\plV s ⟨p0,x1,p2,p3,p4,p5⟩=true/\plV s ⟨p0,p1,x2,p3,p4,p5⟩=true/\plV s ⟨p0,p1,p2,x3,p4,p5⟩=true/\plV s ⟨p0,p1,p2,p3,x4,p5⟩=true/\plV s ⟨p0,p1,p2,p3,p4,x5⟩=true:=
 ⟨z6c hp hx (z8b (.inr rfl) (.inl rfl) (.inl rfl) (.inl rfl) (.inl rfl) (.inl rfl)),z6c hp hx (z8b (.inl rfl) (.inr rfl) (.inl rfl) (.inl rfl) (.inl rfl) (.inl rfl)),z6c hp hx (z8b (.inl rfl) (.inl rfl) (.inr rfl) (.inl rfl) (.inl rfl) (.inl rfl)),z6c hp hx (z8b (.inl rfl) (.inl rfl) (.inl rfl) (.inr rfl) (.inl rfl) (.inl rfl)),z6c hp hx (z8b (.inl rfl) (.inl rfl) (.inl rfl) (.inl rfl) (.inr rfl) (.inl rfl)),z6c hp hx (z8b (.inl rfl) (.inl rfl) (.inl rfl) (.inl rfl) (.inl rfl) (.inr rfl))⟩
theorem z2ao {s p:Pl}{c t:Int}(hp:plV s p=true)(hc:0<=c/\c<40)(ht:0<=t/\t<=1099511627776):snV s ⟨p,c,t⟩=true:=by
 unfold snV;rw [hp,zt hc.1,zt hc.2,zt ht.1,zt ht.2];rfl
theorem z2p {s:Pl}{x:Sn}(h:snV s x=true):plV s x.p=true/\(0<=x.cp/\x.cp<40)/\(0<=x.ti/\x.ti<=1099511627776):=by
 unfold snV at h;rw [Bool.and_eq_true,Bool.and_eq_true,Bool.and_eq_true,Bool.and_eq_true] at h;obtain ⟨⟨⟨⟨h1,h2⟩,h3⟩,h4⟩,h5⟩:=h
 exact ⟨h1,⟨of_decide_eq_true h2,of_decide_eq_true h3⟩,⟨of_decide_eq_true h4,of_decide_eq_true h5⟩⟩
theorem z9c {wb w:World}{g:Nat}(h:wb.grownBy w (some g))(gb:Nat)(hp:wb.heap.size<=gb)(v0 v1 v2 v3 v4 v5 v6 v7:Value):wb.grownBy ((((((((w.setCell ⟨gb,0,none⟩ v0).setCell ⟨gb,1,none⟩ v1).setCell ⟨gb,2,none⟩ v2).setCell ⟨gb,3,none⟩ v3).setCell ⟨gb,4,none⟩ v4).setCell ⟨gb,5,none⟩ v5).setCell ⟨gb,6,none⟩ v6).setCell ⟨gb,7,none⟩ v7) (some g):=by
 have key:∀ {W:World},wb.grownBy W (some g)->∀ (k:Nat) (v:Value),wb.grownBy (W.setCell ⟨gb,k,none⟩ v) (some g):=fun h k v=>z0t h (z0f _ ⟨gb,k,none⟩ v) (fun x e=>by cases e;exact hp)
 exact key (key (key (key (key (key (key (key h 0 v0) 1 v1) 2 v2) 3 v3) 4 v4) 5 v5) 6 v6) 7 v7
theorem z1bn {w0 w:World}{g:Option Nat}{M:List (Nat×Value)}{L:List Ob}{O:List Rw}(h:Ow w0 w g M L O)(i:Nat){gb n c:Nat}{e:TypeId}{z0 z1 z2 z3 z4 z5 z6 z7:Value}(hi:O[i]?=some ⟨some ⟨gb,0,none⟩,n,c,e,[z0,z1,z2,z3,z4,z5,z6,z7]⟩)(v0 v1 v2 v3 v4 v5 v6 v7:Value):Ow w0 ((((((((w.setCell ⟨gb,0,none⟩ v0).setCell ⟨gb,1,none⟩ v1).setCell ⟨gb,2,none⟩ v2).setCell ⟨gb,3,none⟩ v3).setCell ⟨gb,4,none⟩ v4).setCell ⟨gb,5,none⟩ v5).setCell ⟨gb,6,none⟩ v6).setCell ⟨gb,7,none⟩ v7) g M L (O.set i ⟨some ⟨gb,0,none⟩,n,c,e,[v0,v1,v2,v3,v4,v5,v6,v7]⟩):=by
 have h0:=h.put i hi 0 v0
 have h1:=h0.put i (z0a hi) 1 v1
 have h2:=h1.put i (z0a (z0a hi)) 2 v2
 have h3:=h2.put i (z0a (z0a (z0a hi))) 3 v3
 have h4:=h3.put i (z0a (z0a (z0a (z0a hi)))) 4 v4
 have h5:=h4.put i (z0a (z0a (z0a (z0a (z0a hi))))) 5 v5
 have h6:=h5.put i (z0a (z0a (z0a (z0a (z0a (z0a hi)))))) 6 v6
 have h7:=h6.put i (z0a (z0a (z0a (z0a (z0a (z0a (z0a hi))))))) 7 v7
 simp only [List.set_set,zqd,zqe] at h7;exact h7
theorem z4q {w0 w:World}{g B:Nat}{M:List (Nat×Value)}{L:List Ob}{O:List Rw}(hd:Dice w g B)(hB:B<=w0.heap.size)(h:Ow w0 w (some g) M L O){i gb n c:Nat}{e:TypeId}{z0 z1 z2 z3 z4 z5 z6 z7:Value}(hi:O[i]?=some ⟨some ⟨gb,0,none⟩,n,c,e,[z0,z1,z2,z3,z4,z5,z6,z7]⟩)(v0 v1 v2 v3 v4 v5 v6 v7:Value):Dice ((((((((w.setCell ⟨gb,0,none⟩ v0).setCell ⟨gb,1,none⟩ v1).setCell ⟨gb,2,none⟩ v2).setCell ⟨gb,3,none⟩ v3).setCell ⟨gb,4,none⟩ v4).setCell ⟨gb,5,none⟩ v5).setCell ⟨gb,6,none⟩ v6).setCell ⟨gb,7,none⟩ v7) g B:=by
 have key:∀ {W:World} {O':List Rw} {vs:List Value},Dice W g B->Ow w0 W (some g) M L O'->O'[i]?=some ⟨some ⟨gb,0,none⟩,n,c,e,vs⟩->∀ (k:Nat) (v:Value),Dice (W.setCell ⟨gb,k,none⟩ v) g B:=fun hd h hi k v=>hd.turned hB h hi (z0f _ _ _)
 have h0:=h.put i hi 0 v0
 have d0:=key hd h hi 0 v0
 have h1:=h0.put i (z0a hi) 1 v1
 have d1:=key d0 h0 (z0a hi) 1 v1
 have h2:=h1.put i (z0a (z0a hi)) 2 v2
 have d2:=key d1 h1 (z0a (z0a hi)) 2 v2
 have h3:=h2.put i (z0a (z0a (z0a hi))) 3 v3
 have d3:=key d2 h2 (z0a (z0a (z0a hi))) 3 v3
 have h4:=h3.put i (z0a (z0a (z0a (z0a hi)))) 4 v4
 have d4:=key d3 h3 (z0a (z0a (z0a (z0a hi)))) 4 v4
 have h5:=h4.put i (z0a (z0a (z0a (z0a (z0a hi))))) 5 v5
 have d5:=key d4 h4 (z0a (z0a (z0a (z0a (z0a hi))))) 5 v5
 have h6:=h5.put i (z0a (z0a (z0a (z0a (z0a (z0a hi)))))) 6 v6
 have d6:=key d5 h5 (z0a (z0a (z0a (z0a (z0a (z0a hi)))))) 6 v6
 exact key d6 h6 (z0a (z0a (z0a (z0a (z0a (z0a (z0a hi))))))) 7 v7
structure SaK (w0 wb:World)(g B:Nat)(M:List (Nat×Value))(L:List Ob)(PP:List Rw)(xb yb pb yi pj so ch ra ba ro co:Nat)(x0 x1 x2 x3 x4 x5 x6 x7 q0 q1 q2 q3 q4 q5:Int)(Ld:Nat->Bool)(u0 u1 u2 u3 u4 u5 u6:Value)(W:World):Prop where
 ow:∃ R:List Value,R.length=8/\Ow w0 W (some g) M L (PP.set yi ⟨some ⟨yb,0,none⟩,8,8,40,R⟩)/\(Ld 7=true->∃ sv:Sn,snV ⟨(so:Int),ch,ra,ba,ro,co⟩ sv=true/\R=sv.vs.toList)
 hd:Dice W g B
 gr:wb.grownBy W (some g)
 h0:Ld 0=true->u0=.pointer (some ⟨xb,0,none⟩)
 h1:Ld 1=true->u1=.agg #[.int .i64 x0,.int .i64 x1,.int .i64 x2,.int .i64 x3,.int .i64 x4,.int .i64 x5]
 h2:Ld 2=true->u2=.pointer (some ⟨xb,6,none⟩)
 h3:Ld 3=true->u3=.int .i64 x6
 h4:Ld 4=true->u4=.pointer (some ⟨g,0,none⟩)
 h5:Ld 5=true->∃ z:Nat,z<100/\u5=.int .i64 z
 h6:Ld 6=true->∃ sv:Sn,snV ⟨(so:Int),ch,ra,ba,ro,co⟩ sv=true/\u6=.agg sv.vs
inductive SaI (w0 wb:World)(g B:Nat)(M:List (Nat×Value))(L:List Ob)(PP:List Rw)(xb yb pb yi pj so ch ra ba ro co:Nat)(x0 x1 x2 x3 x4 x5 x6 x7 q0 q1 q2 q3 q4 q5:Int)(A0:Act)(Ld:Nat->Bool)(a:Act)(W:World):Prop
 | m {u0 u1 u2 u3 u4 u5 u6:Value}(k:SaK w0 wb g B M L PP xb yb pb yi pj so ch ra ba ro co x0 x1 x2 x3 x4 x5 x6 x7 q0 q1 q2 q3 q4 q5 Ld u0 u1 u2 u3 u4 u5 u6 W)(h:a=(((((((A0.put (some 34) u0).put (some 35) u1).put (some 36) u2).put (some 37) u3).put (some 38) u4).put (some 39) u5).put (some 40) u6):=by simp only [Act.put,zT,zZ,zS])
structure SbK (w0 wb:World)(g B:Nat)(M:List (Nat×Value))(L:List Ob)(PP:List Rw)(xb yb pb yi pj so ch ra ba ro co:Nat)(x0 x1 x2 x3 x4 x5 x6 x7 q0 q1 q2 q3 q4 q5:Int)(Ld:Nat->Bool)(u0 u1 u2 u3 u4 u5:Value)(W:World):Prop where
 ow:∃ R:List Value,R.length=8/\Ow w0 W (some g) M L (PP.set yi ⟨some ⟨yb,0,none⟩,8,8,40,R⟩)/\(Ld 6=true->∃ sv:Sn,snV ⟨(so:Int),ch,ra,ba,ro,co⟩ sv=true/\R=sv.vs.toList)
 hd:Dice W g B
 gr:wb.grownBy W (some g)
 h0:Ld 0=true->u0=.agg #[.int .i64 q0,.int .i64 q1,.int .i64 q2,.int .i64 q3,.int .i64 q4,.int .i64 q5]
 h1:Ld 1=true->u1=.pointer (some ⟨g,0,none⟩)
 h2:Ld 2=true->∃ z:Nat,z<4/\u2=.int .i64 z
 h3:Ld 3=true->u3=.pointer (some ⟨g,0,none⟩)
 h4:Ld 4=true->∃ z:Nat,z<100/\u4=.int .i64 z
 h5:Ld 5=true->∃ sv:Sn,snV ⟨(so:Int),ch,ra,ba,ro,co⟩ sv=true/\u5=.agg sv.vs
inductive SbI (w0 wb:World)(g B:Nat)(M:List (Nat×Value))(L:List Ob)(PP:List Rw)(xb yb pb yi pj so ch ra ba ro co:Nat)(x0 x1 x2 x3 x4 x5 x6 x7 q0 q1 q2 q3 q4 q5:Int)(A0:Act)(Ld:Nat->Bool)(a:Act)(W:World):Prop
 | m {u0 u1 u2 u3 u4 u5:Value}(k:SbK w0 wb g B M L PP xb yb pb yi pj so ch ra ba ro co x0 x1 x2 x3 x4 x5 x6 x7 q0 q1 q2 q3 q4 q5 Ld u0 u1 u2 u3 u4 u5 W)(h:a=((((((A0.put (some 26) u0).put (some 27) u1).put (some 28) u2).put (some 29) u3).put (some 30) u4).put (some 31) u5):=by simp only [Act.put,zT,zZ,zS])
structure SdK (w0 wb:World)(g B:Nat)(M:List (Nat×Value))(L:List Ob)(PP:List Rw)(xb yb pb yi pj so ch ra ba ro co:Nat)(x0 x1 x2 x3 x4 x5 x6 x7 q0 q1 q2 q3 q4 q5:Int)(Ld:Nat->Bool)(u0 u1 u2 u3 u4 u5:Value)(W:World):Prop where
 ow:∃ R:List Value,R.length=8/\Ow w0 W (some g) M L (PP.set yi ⟨some ⟨yb,0,none⟩,8,8,40,R⟩)/\(Ld 6=true->∃ sv:Sn,snV ⟨(so:Int),ch,ra,ba,ro,co⟩ sv=true/\R=sv.vs.toList)
 hd:Dice W g B
 gr:wb.grownBy W (some g)
 h0:Ld 0=true->u0=.agg #[.int .i64 q0,.int .i64 q1,.int .i64 q2,.int .i64 q3,.int .i64 q4,.int .i64 q5]
 h1:Ld 1=true->u1=.pointer (some ⟨xb,6,none⟩)
 h2:Ld 2=true->u2=.int .i64 x6
 h3:Ld 3=true->u3=.pointer (some ⟨g,0,none⟩)
 h4:Ld 4=true->∃ z:Nat,z<100/\u4=.int .i64 z
 h5:Ld 5=true->∃ sv:Sn,snV ⟨(so:Int),ch,ra,ba,ro,co⟩ sv=true/\u5=.agg sv.vs
inductive SdI (w0 wb:World)(g B:Nat)(M:List (Nat×Value))(L:List Ob)(PP:List Rw)(xb yb pb yi pj so ch ra ba ro co:Nat)(x0 x1 x2 x3 x4 x5 x6 x7 q0 q1 q2 q3 q4 q5:Int)(A0:Act)(Ld:Nat->Bool)(a:Act)(W:World):Prop
 | m {u0 u1 u2 u3 u4 u5:Value}(k:SdK w0 wb g B M L PP xb yb pb yi pj so ch ra ba ro co x0 x1 x2 x3 x4 x5 x6 x7 q0 q1 q2 q3 q4 q5 Ld u0 u1 u2 u3 u4 u5 W)(h:a=((((((A0.put (some 109) u0).put (some 110) u1).put (some 111) u2).put (some 112) u3).put (some 113) u4).put (some 114) u5):=by simp only [Act.put,zT,zZ,zS])
structure SeK (w0 wb:World)(g B:Nat)(M:List (Nat×Value))(L:List Ob)(PP:List Rw)(xb yb pb yi pj so ch ra ba ro co:Nat)(x0 x1 x2 x3 x4 x5 x6 x7 q0 q1 q2 q3 q4 q5:Int)(Ld:Nat->Bool)(u0 u1 u2 u3 u4 u5 u6 u7 u8 u9 u10 u11 u12 u13 u14 u15 u17 u19 u21 u23:Value)(W:World):Prop where
 ow:∃ pv:Pl,plV ⟨(so:Int),ch,ra,ba,ro,co⟩ pv=true/\Ow w0 W (some g) M L (PP.set pj ⟨some ⟨pb,0,none⟩,6,6,38,pv.vs.toList⟩)
 hd:Dice W g B
 gr:wb.grownBy W (some g)
 h0:Ld 0=true->u0=.pointer (some ⟨xb,0,none⟩)
 h1:Ld 1=true->u1=.pointer (some ⟨xb,0,none⟩)
 h2:Ld 2=true->u2=.int .i64 x0
 h3:Ld 3=true->u3=.pointer (some ⟨xb,0,none⟩)
 h4:Ld 4=true->u4=.pointer (some ⟨xb,1,none⟩)
 h5:Ld 5=true->u5=.int .i64 x1
 h6:Ld 6=true->u6=.pointer (some ⟨xb,0,none⟩)
 h7:Ld 7=true->u7=.pointer (some ⟨xb,2,none⟩)
 h8:Ld 8=true->u8=.int .i64 x2
 h9:Ld 9=true->u9=.pointer (some ⟨xb,0,none⟩)
 h10:Ld 10=true->u10=.pointer (some ⟨xb,3,none⟩)
 h11:Ld 11=true->u11=.int .i64 x3
 h12:Ld 12=true->u12=.pointer (some ⟨xb,0,none⟩)
 h13:Ld 13=true->u13=.pointer (some ⟨xb,4,none⟩)
 h14:Ld 14=true->u14=.int .i64 x4
 h15:Ld 15=true->u15=.pointer (some ⟨pb,0,none⟩)
 h17:Ld 17=true->u17=.pointer (some ⟨pb,1,none⟩)
 h19:Ld 19=true->u19=.pointer (some ⟨pb,2,none⟩)
 h21:Ld 21=true->u21=.pointer (some ⟨pb,3,none⟩)
 h23:Ld 23=true->u23=.pointer (some ⟨pb,4,none⟩)
inductive SeI (w0 wb:World)(g B:Nat)(M:List (Nat×Value))(L:List Ob)(PP:List Rw)(xb yb pb yi pj so ch ra ba ro co:Nat)(x0 x1 x2 x3 x4 x5 x6 x7 q0 q1 q2 q3 q4 q5:Int)(A0:Act)(Ld:Nat->Bool)(a:Act)(W:World):Prop
 | m {u0 u1 u2 u3 u4 u5 u6 u7 u8 u9 u10 u11 u12 u13 u14 u15 u17 u19 u21 u23:Value}(k:SeK w0 wb g B M L PP xb yb pb yi pj so ch ra ba ro co x0 x1 x2 x3 x4 x5 x6 x7 q0 q1 q2 q3 q4 q5 Ld u0 u1 u2 u3 u4 u5 u6 u7 u8 u9 u10 u11 u12 u13 u14 u15 u17 u19 u21 u23 W)(h:a=((((((((((((((((((((A0.put (some 43) u0).put (some 44) u1).put (some 45) u2).put (some 46) u3).put (some 47) u4).put (some 48) u5).put (some 49) u6).put (some 50) u7).put (some 51) u8).put (some 52) u9).put (some 53) u10).put (some 54) u11).put (some 55) u12).put (some 56) u13).put (some 57) u14).put (some 58) u15).put (some 59) u17).put (some 60) u19).put (some 61) u21).put (some 62) u23):=by simp only [Act.put,zT,zZ,zS])
structure SfK (w0 wb:World)(g B:Nat)(M:List (Nat×Value))(L:List Ob)(PP:List Rw)(xb yb pb yi pj so ch ra ba ro co:Nat)(x0 x1 x2 x3 x4 x5 x6 x7 q0 q1 q2 q3 q4 q5:Int)(Ld:Nat->Bool)(u0 u1 u2 u3 u4 u5 u6 u7 u8 u9 u10 u11 u12 u13 u14 u15 u17 u19 u21 u23:Value)(W:World):Prop where
 ow:∃ pv:Pl,plV ⟨(so:Int),ch,ra,ba,ro,co⟩ pv=true/\Ow w0 W (some g) M L (PP.set pj ⟨some ⟨pb,0,none⟩,6,6,38,pv.vs.toList⟩)
 hd:Dice W g B
 gr:wb.grownBy W (some g)
 h0:Ld 0=true->u0=.pointer (some ⟨xb,0,none⟩)
 h1:Ld 1=true->u1=.pointer (some ⟨xb,0,none⟩)
 h2:Ld 2=true->u2=.int .i64 x0
 h3:Ld 3=true->u3=.pointer (some ⟨xb,0,none⟩)
 h4:Ld 4=true->u4=.pointer (some ⟨xb,1,none⟩)
 h5:Ld 5=true->u5=.int .i64 x1
 h6:Ld 6=true->u6=.pointer (some ⟨xb,0,none⟩)
 h7:Ld 7=true->u7=.pointer (some ⟨xb,2,none⟩)
 h8:Ld 8=true->u8=.int .i64 x2
 h9:Ld 9=true->u9=.pointer (some ⟨xb,0,none⟩)
 h10:Ld 10=true->u10=.pointer (some ⟨xb,3,none⟩)
 h11:Ld 11=true->u11=.int .i64 x3
 h12:Ld 12=true->u12=.pointer (some ⟨xb,0,none⟩)
 h13:Ld 13=true->u13=.pointer (some ⟨xb,5,none⟩)
 h14:Ld 14=true->u14=.int .i64 x5
 h15:Ld 15=true->u15=.pointer (some ⟨pb,0,none⟩)
 h17:Ld 17=true->u17=.pointer (some ⟨pb,1,none⟩)
 h19:Ld 19=true->u19=.pointer (some ⟨pb,2,none⟩)
 h21:Ld 21=true->u21=.pointer (some ⟨pb,3,none⟩)
 h23:Ld 23=true->u23=.pointer (some ⟨pb,5,none⟩)
inductive SfI (w0 wb:World)(g B:Nat)(M:List (Nat×Value))(L:List Ob)(PP:List Rw)(xb yb pb yi pj so ch ra ba ro co:Nat)(x0 x1 x2 x3 x4 x5 x6 x7 q0 q1 q2 q3 q4 q5:Int)(A0:Act)(Ld:Nat->Bool)(a:Act)(W:World):Prop
 | m {u0 u1 u2 u3 u4 u5 u6 u7 u8 u9 u10 u11 u12 u13 u14 u15 u17 u19 u21 u23:Value}(k:SfK w0 wb g B M L PP xb yb pb yi pj so ch ra ba ro co x0 x1 x2 x3 x4 x5 x6 x7 q0 q1 q2 q3 q4 q5 Ld u0 u1 u2 u3 u4 u5 u6 u7 u8 u9 u10 u11 u12 u13 u14 u15 u17 u19 u21 u23 W)(h:a=((((((((((((((((((((A0.put (some 65) u0).put (some 66) u1).put (some 67) u2).put (some 68) u3).put (some 69) u4).put (some 70) u5).put (some 71) u6).put (some 72) u7).put (some 73) u8).put (some 74) u9).put (some 75) u10).put (some 76) u11).put (some 77) u12).put (some 78) u13).put (some 79) u14).put (some 80) u15).put (some 81) u17).put (some 82) u19).put (some 83) u21).put (some 84) u23):=by simp only [Act.put,zT,zZ,zS])
structure SgK (w0 wb:World)(g B:Nat)(M:List (Nat×Value))(L:List Ob)(PP:List Rw)(xb yb pb yi pj so ch ra ba ro co:Nat)(x0 x1 x2 x3 x4 x5 x6 x7 q0 q1 q2 q3 q4 q5:Int)(Ld:Nat->Bool)(u0 u1 u2 u3 u4 u5 u6 u8:Value)(W:World):Prop where
 ow:∃ pv:Pl,plV ⟨(so:Int),ch,ra,ba,ro,co⟩ pv=true/\Ow w0 W (some g) M L (PP.set pj ⟨some ⟨pb,0,none⟩,6,6,38,pv.vs.toList⟩)
 hd:Dice W g B
 gr:wb.grownBy W (some g)
 h0:Ld 0=true->u0=.pointer (some ⟨xb,0,none⟩)
 h1:Ld 1=true->u1=.pointer (some ⟨xb,0,none⟩)
 h2:Ld 2=true->u2=.int .i64 x0
 h3:Ld 3=true->u3=.pointer (some ⟨xb,0,none⟩)
 h4:Ld 4=true->u4=.pointer (some ⟨xb,1,none⟩)
 h5:Ld 5=true->u5=.int .i64 x1
 h6:Ld 6=true->u6=.pointer (some ⟨pb,0,none⟩)
 h8:Ld 8=true->u8=.pointer (some ⟨pb,1,none⟩)
inductive SgI (w0 wb:World)(g B:Nat)(M:List (Nat×Value))(L:List Ob)(PP:List Rw)(xb yb pb yi pj so ch ra ba ro co:Nat)(x0 x1 x2 x3 x4 x5 x6 x7 q0 q1 q2 q3 q4 q5:Int)(A0:Act)(Ld:Nat->Bool)(a:Act)(W:World):Prop
 | m {u0 u1 u2 u3 u4 u5 u6 u8:Value}(k:SgK w0 wb g B M L PP xb yb pb yi pj so ch ra ba ro co x0 x1 x2 x3 x4 x5 x6 x7 q0 q1 q2 q3 q4 q5 Ld u0 u1 u2 u3 u4 u5 u6 u8 W)(h:a=((((((((A0.put (some 87) u0).put (some 88) u1).put (some 89) u2).put (some 90) u3).put (some 91) u4).put (some 92) u5).put (some 93) u6).put (some 94) u8):=by simp only [Act.put,zT,zZ,zS])
structure ShK (w0 wb:World)(g B:Nat)(M:List (Nat×Value))(L:List Ob)(PP:List Rw)(xb yb pb yi pj so ch ra ba ro co:Nat)(x0 x1 x2 x3 x4 x5 x6 x7 q0 q1 q2 q3 q4 q5:Int)(Ld:Nat->Bool)(u0 u1 u2 u3 u4 u5 u6 u7 u8 u9 u11 u13:Value)(W:World):Prop where
 ow:∃ pv:Pl,plV ⟨(so:Int),ch,ra,ba,ro,co⟩ pv=true/\Ow w0 W (some g) M L (PP.set pj ⟨some ⟨pb,0,none⟩,6,6,38,pv.vs.toList⟩)
 hd:Dice W g B
 gr:wb.grownBy W (some g)
 h0:Ld 0=true->u0=.pointer (some ⟨xb,0,none⟩)
 h1:Ld 1=true->u1=.pointer (some ⟨xb,0,none⟩)
 h2:Ld 2=true->u2=.int .i64 x0
 h3:Ld 3=true->u3=.pointer (some ⟨xb,0,none⟩)
 h4:Ld 4=true->u4=.pointer (some ⟨xb,1,none⟩)
 h5:Ld 5=true->u5=.int .i64 x1
 h6:Ld 6=true->u6=.pointer (some ⟨xb,0,none⟩)
 h7:Ld 7=true->u7=.pointer (some ⟨xb,2,none⟩)
 h8:Ld 8=true->u8=.int .i64 x2
 h9:Ld 9=true->u9=.pointer (some ⟨pb,0,none⟩)
 h11:Ld 11=true->u11=.pointer (some ⟨pb,1,none⟩)
 h13:Ld 13=true->u13=.pointer (some ⟨pb,2,none⟩)
inductive ShI (w0 wb:World)(g B:Nat)(M:List (Nat×Value))(L:List Ob)(PP:List Rw)(xb yb pb yi pj so ch ra ba ro co:Nat)(x0 x1 x2 x3 x4 x5 x6 x7 q0 q1 q2 q3 q4 q5:Int)(A0:Act)(Ld:Nat->Bool)(a:Act)(W:World):Prop
 | m {u0 u1 u2 u3 u4 u5 u6 u7 u8 u9 u11 u13:Value}(k:ShK w0 wb g B M L PP xb yb pb yi pj so ch ra ba ro co x0 x1 x2 x3 x4 x5 x6 x7 q0 q1 q2 q3 q4 q5 Ld u0 u1 u2 u3 u4 u5 u6 u7 u8 u9 u11 u13 W)(h:a=((((((((((((A0.put (some 97) u0).put (some 98) u1).put (some 99) u2).put (some 100) u3).put (some 101) u4).put (some 102) u5).put (some 103) u6).put (some 104) u7).put (some 105) u8).put (some 106) u9).put (some 107) u11).put (some 108) u13):=by simp only [Act.put,zT,zZ,zS])
theorem z1ae {w0 w:World}{g B:Nat}{M:List (Nat×Value)}{L:List Ob}{O:List Rw}(h:Ow w0 w (some g) M L O)(hd:Dice w g B)(hB:B<=w0.heap.size)(so ch ra ba ro co:Nat)(hs:so+ch+ra+ba+ro+co<=12)(x:Sn)(hx:snV ⟨(so:Int),ch,ra,ba,ro,co⟩ x=true):
  Calls Tryz.prog 50 #[.pointer (some ⟨g,0,none⟩),.agg #[.int .i64 so,.int .i64 ch,.int .i64 ra,.int .i64 ba,.int .i64 ro,.int .i64 co],.agg x.vs] w fun e w'=>∃ y:Sn,e=.returned (.agg y.vs)/\snV ⟨(so:Int),ch,ra,ba,ro,co⟩ y=true/\Dice w' g B/\Ow w0 w' (some g) M L O/\w.grownBy w' (some g):=by
 obtain ⟨⟨x0,x1,x2,x3,x4,x5⟩,x6,x7⟩:=x
 unfold Sn.vs;have H0:=((h.arr #[.int .i64 so,.int .i64 ch,.int .i64 ra,.int .i64 ba,.int .i64 ro,.int .i64 co] 6 rfl (by omega) 33).arr #[.int .i64 x0,.int .i64 x1,.int .i64 x2,.int .i64 x3,.int .i64 x4,.int .i64 x5,.int .i64 x6,.int .i64 x7] 8 rfl (by omega) 40).arr #[.int .i64 0,.int .i64 0,.int .i64 0,.int .i64 0,.int .i64 0,.int .i64 0,.int .i64 0,.int .i64 0] 8 rfl (by omega) 40
 simp only [World.size_alloc,zqa,zqb,zqc] at H0;have HD0:Hid (Dice (((w.alloc (.cells #[.int .i64 so,.int .i64 ch,.int .i64 ra,.int .i64 ba,.int .i64 ro,.int .i64 co] 33)).alloc (.cells #[.int .i64 x0,.int .i64 x1,.int .i64 x2,.int .i64 x3,.int .i64 x4,.int .i64 x5,.int .i64 x6,.int .i64 x7] 40)).alloc (.cells #[.int .i64 0,.int .i64 0,.int .i64 0,.int .i64 0,.int .i64 0,.int .i64 0,.int .i64 0,.int .i64 0] 40)) g B):=((hd.below (z0i _ _)).below (z0i _ _)).below (z0i _ _)
 have HSm:=zh hs;have HG0:Hid (w.grownBy (((w.alloc (.cells #[.int .i64 so,.int .i64 ch,.int .i64 ra,.int .i64 ba,.int .i64 ro,.int .i64 co] 33)).alloc (.cells #[.int .i64 x0,.int .i64 x1,.int .i64 x2,.int .i64 x3,.int .i64 x4,.int .i64 x5,.int .i64 x6,.int .i64 x7] 40)).alloc (.cells #[.int .i64 0,.int .i64 0,.int .i64 0,.int .i64 0,.int .i64 0,.int .i64 0,.int .i64 0,.int .i64 0] 40)) (some g)):=z1q (z1q (z1q (World.grownBy.refl _ _) _) _) _
 have HX:=zh hx;have HBd:=zh hB;obtain ⟨OO,hOO⟩:∃ z,O++[(⟨some ⟨w.heap.size,0,none⟩,6,6,33,[.int .i64 so,.int .i64 ch,.int .i64 ra,.int .i64 ba,.int .i64 ro,.int .i64 co]⟩:Rw),⟨some ⟨w.heap.size+1,0,none⟩,8,8,40,[.int .i64 x0,.int .i64 x1,.int .i64 x2,.int .i64 x3,.int .i64 x4,.int .i64 x5,.int .i64 x6,.int .i64 x7]⟩,⟨some ⟨w.heap.size+1+1,0,none⟩,8,8,40,[.int .i64 0,.int .i64 0,.int .i64 0,.int .i64 0,.int .i64 0,.int .i64 0,.int .i64 0,.int .i64 0]⟩]=z:=⟨_,rfl⟩
 obtain ⟨si,hsi⟩:∃ z,O.length+0=z:=⟨_,rfl⟩
 obtain ⟨xi,hxi⟩:∃ z,O.length+1=z:=⟨_,rfl⟩
 obtain ⟨yi,hyi⟩:∃ z,O.length+2=z:=⟨_,rfl⟩
 have HSr:Hid (OO[si]?=some (⟨some ⟨w.heap.size,0,none⟩,6,6,33,[.int .i64 so,.int .i64 ch,.int .i64 ra,.int .i64 ba,.int .i64 ro,.int .i64 co]⟩:Rw)):=by unfold Hid;rw [<- hOO,<- hsi,z0b];rfl
 have HXr:Hid (OO[xi]?=some (⟨some ⟨w.heap.size+1,0,none⟩,8,8,40,[.int .i64 x0,.int .i64 x1,.int .i64 x2,.int .i64 x3,.int .i64 x4,.int .i64 x5,.int .i64 x6,.int .i64 x7]⟩:Rw)):=by unfold Hid;rw [<- hOO,<- hxi,z0b];rfl
 have HYr:Hid (OO[yi]?=some (⟨some ⟨w.heap.size+1+1,0,none⟩,8,8,40,[.int .i64 0,.int .i64 0,.int .i64 0,.int .i64 0,.int .i64 0,.int .i64 0,.int .i64 0,.int .i64 0]⟩:Rw)):=by unfold Hid;rw [<- hOO,<- hyi,z0b];rfl
 have HO:Hid (Ow w0 (((w.alloc (.cells #[.int .i64 so,.int .i64 ch,.int .i64 ra,.int .i64 ba,.int .i64 ro,.int .i64 co] 33)).alloc (.cells #[.int .i64 x0,.int .i64 x1,.int .i64 x2,.int .i64 x3,.int .i64 x4,.int .i64 x5,.int .i64 x6,.int .i64 x7] 40)).alloc (.cells #[.int .i64 0,.int .i64 0,.int .i64 0,.int .i64 0,.int .i64 0,.int .i64 0,.int .i64 0,.int .i64 0] 40)) (some g) M L (OO++[])):=by unfold Hid;rw [List.append_nil,<- hOO];exact H0
 have HOe:=zh hOO;have HYi:=zh hyi;have HNxy:Hid (yi≠xi):=by unfold Hid;omega
 have HPl:Hid (O.length<=OO.length):=by unfold Hid;rw [<- hOO,zqm];omega
 clear h hd hB hs hx H0 hOO hsi hxi hyi;go_enter Tryz.func50,Tryz.ntmps50
 go_wp2_with fail;refine z1k (SqI w0 w g B M L OO so ch ra ba ro co) (by kernel_rfl) (by kernel_rfl) ?_ ?_ ?_
 ·refine ⟨undef,undef,undef,undef,undef,undef,undef,undef,undef,undef,undef,undef,undef,undef,undef,undef,undef,?_,⟨⟨[],HO.out.drew,(fun h=>by cases h),(fun h=>by cases h),(fun h=>by cases h)⟩,HD0.out.drew,z1z HG0.out,?_,?_,?_,?_,?_,?_,?_,?_,?_,?_,?_,?_,?_,?_,?_,?_,?_⟩⟩
  ·simp only [Act.put,zT,zZ,zS]
  all_goals (intro h;cases h)
 ·rintro jj Ld b W hj hf hcl hd ⟨u0,u1,u2,u3,u4,u5,u6,u7,u8,u9,u10,u11,u12,u13,u14,u15,u16,rfl,hC⟩;have hj':jj<18:=hj
  have hcase:jj=0∨jj=1∨jj=2∨jj=3∨jj=4∨jj=5∨jj=6∨jj=7∨jj=8∨jj=9∨jj=10∨jj=11∨jj=12∨jj=13∨jj=14∨jj=15∨jj=16∨jj=17:=by omega
  clear hj hj';simp only [Act.put,zT,zZ,zS];rcases hcase with rfl|rfl|rfl|rfl|rfl|rfl|rfl|rfl|rfl|rfl|rfl|rfl|rfl|rfl|rfl|rfl|rfl|rfl
  ·clear hd hcl;refine zw rfl fun K hK=>?_
   go_simp;refine hK _ _ ⟨_,u1,u2,u3,u4,u5,u6,u7,u8,u9,u10,u11,u12,u13,u14,u15,u16,?_,{hC with h0:=fun _=>rfl}⟩;simp only [Act.put,zT,zZ,zS]
  ·obtain rfl:=hC.h0 (hd 0 (by kernel_rfl));obtain ⟨l,how,d12,d13,d16⟩:=hC.ow;have hn13:Ld 13=false:=z4b hcl (z4b hcl hf (by kernel_rfl):Ld 12=false) (by kernel_rfl)
   have hn12:Ld 12=false:=z4b hcl hf (by kernel_rfl)
   have hcall:=z1e how hC.hd 64 (by omega) (by omega)
   clear hd hcl;refine zw rfl fun K hK=>?_
   go_simp;refine hcall.mono ?_;rintro e W' ⟨r,rfl,hr,hd',how',hgr⟩;refine hK _ _ ⟨_,_,u2,u3,u4,u5,u6,u7,u8,u9,u10,u11,u12,u13,u14,u15,u16,?_,{hC with ow:=⟨l,how',(fun h _=>nomatch hn12.symm.trans h),(fun h _=>nomatch hn13.symm.trans h),d16⟩,hd:=hd',gr:=z0j hC.gr hgr,h1:=fun _=>⟨r,hr,rfl⟩}⟩;simp only [Act.put,zT,zZ,zS]
  ·clear hd hcl;refine zw rfl fun K hK=>?_
   go_simp;refine hK _ _ ⟨u0,u1,_,u3,u4,u5,u6,u7,u8,u9,u10,u11,u12,u13,u14,u15,u16,?_,{hC with h2:=fun _=>rfl}⟩;simp only [Act.put,zT,zZ,zS]
  ·obtain rfl:=hC.h2 (hd 2 (by kernel_rfl));obtain ⟨l,how,d12,d13,d16⟩:=hC.ow;have hn13:Ld 13=false:=z4b hcl (z4b hcl hf (by kernel_rfl):Ld 12=false) (by kernel_rfl)
   have hn12:Ld 12=false:=z4b hcl hf (by kernel_rfl)
   have hcall:=z1e how hC.hd 64 (by omega) (by omega)
   clear hd hcl;refine zw rfl fun K hK=>?_
   go_simp;refine hcall.mono ?_;rintro e W' ⟨r,rfl,hr,hd',how',hgr⟩;refine hK _ _ ⟨u0,u1,_,_,u4,u5,u6,u7,u8,u9,u10,u11,u12,u13,u14,u15,u16,?_,{hC with ow:=⟨l,how',(fun h _=>nomatch hn12.symm.trans h),(fun h _=>nomatch hn13.symm.trans h),d16⟩,hd:=hd',gr:=z0j hC.gr hgr,h3:=fun _=>⟨r,hr,rfl⟩}⟩;simp only [Act.put,zT,zZ,zS]
  ·clear hd hcl;refine zw rfl fun K hK=>?_
   go_simp;refine hK _ _ ⟨u0,u1,u2,u3,_,u5,u6,u7,u8,u9,u10,u11,u12,u13,u14,u15,u16,?_,{hC with h4:=fun _=>rfl}⟩;simp only [Act.put,zT,zZ,zS]
  ·obtain rfl:=hC.h4 (hd 4 (by kernel_rfl));obtain ⟨l,how,d12,d13,d16⟩:=hC.ow;have hn13:Ld 13=false:=z4b hcl (z4b hcl hf (by kernel_rfl):Ld 12=false) (by kernel_rfl)
   have hn12:Ld 12=false:=z4b hcl hf (by kernel_rfl)
   have hcall:=z1e how hC.hd 64 (by omega) (by omega)
   clear hd hcl;refine zw rfl fun K hK=>?_
   go_simp;refine hcall.mono ?_;rintro e W' ⟨r,rfl,hr,hd',how',hgr⟩;refine hK _ _ ⟨u0,u1,u2,u3,_,_,u6,u7,u8,u9,u10,u11,u12,u13,u14,u15,u16,?_,{hC with ow:=⟨l,how',(fun h _=>nomatch hn12.symm.trans h),(fun h _=>nomatch hn13.symm.trans h),d16⟩,hd:=hd',gr:=z0j hC.gr hgr,h5:=fun _=>⟨r,hr,rfl⟩}⟩;simp only [Act.put,zT,zZ,zS]
  ·clear hd hcl;refine zw rfl fun K hK=>?_
   go_simp;refine hK _ _ ⟨u0,u1,u2,u3,u4,u5,_,u7,u8,u9,u10,u11,u12,u13,u14,u15,u16,?_,{hC with h6:=fun _=>rfl}⟩;simp only [Act.put,zT,zZ,zS]
  ·obtain rfl:=hC.h6 (hd 6 (by kernel_rfl));obtain ⟨l,how,d12,d13,d16⟩:=hC.ow;have hn13:Ld 13=false:=z4b hcl (z4b hcl hf (by kernel_rfl):Ld 12=false) (by kernel_rfl)
   have hn12:Ld 12=false:=z4b hcl hf (by kernel_rfl)
   have hcall:=z1e how hC.hd 64 (by omega) (by omega)
   clear hd hcl;refine zw rfl fun K hK=>?_
   go_simp;refine hcall.mono ?_;rintro e W' ⟨r,rfl,hr,hd',how',hgr⟩;refine hK _ _ ⟨u0,u1,u2,u3,u4,u5,_,_,u8,u9,u10,u11,u12,u13,u14,u15,u16,?_,{hC with ow:=⟨l,how',(fun h _=>nomatch hn12.symm.trans h),(fun h _=>nomatch hn13.symm.trans h),d16⟩,hd:=hd',gr:=z0j hC.gr hgr,h7:=fun _=>⟨r,hr,rfl⟩}⟩;simp only [Act.put,zT,zZ,zS]
  ·clear hd hcl;refine zw rfl fun K hK=>?_
   go_simp;refine hK _ _ ⟨u0,u1,u2,u3,u4,u5,u6,u7,_,u9,u10,u11,u12,u13,u14,u15,u16,?_,{hC with h8:=fun _=>rfl}⟩;simp only [Act.put,zT,zZ,zS]
  ·obtain rfl:=hC.h8 (hd 8 (by kernel_rfl));obtain ⟨l,how,d12,d13,d16⟩:=hC.ow;have hn13:Ld 13=false:=z4b hcl (z4b hcl hf (by kernel_rfl):Ld 12=false) (by kernel_rfl)
   have hn12:Ld 12=false:=z4b hcl hf (by kernel_rfl)
   have hcall:=z1e how hC.hd 64 (by omega) (by omega)
   clear hd hcl;refine zw rfl fun K hK=>?_
   go_simp;refine hcall.mono ?_;rintro e W' ⟨r,rfl,hr,hd',how',hgr⟩;refine hK _ _ ⟨u0,u1,u2,u3,u4,u5,u6,u7,_,_,u10,u11,u12,u13,u14,u15,u16,?_,{hC with ow:=⟨l,how',(fun h _=>nomatch hn12.symm.trans h),(fun h _=>nomatch hn13.symm.trans h),d16⟩,hd:=hd',gr:=z0j hC.gr hgr,h9:=fun _=>⟨r,hr,rfl⟩}⟩;simp only [Act.put,zT,zZ,zS]
  ·clear hd hcl;refine zw rfl fun K hK=>?_
   go_simp;refine hK _ _ ⟨u0,u1,u2,u3,u4,u5,u6,u7,u8,u9,_,u11,u12,u13,u14,u15,u16,?_,{hC with h10:=fun _=>rfl}⟩;simp only [Act.put,zT,zZ,zS]
  ·obtain rfl:=hC.h10 (hd 10 (by kernel_rfl));obtain ⟨l,how,d12,d13,d16⟩:=hC.ow;have hn13:Ld 13=false:=z4b hcl (z4b hcl hf (by kernel_rfl):Ld 12=false) (by kernel_rfl)
   have hn12:Ld 12=false:=z4b hcl hf (by kernel_rfl)
   have hcall:=z1e how hC.hd 64 (by omega) (by omega)
   clear hd hcl;refine zw rfl fun K hK=>?_
   go_simp;refine hcall.mono ?_;rintro e W' ⟨r,rfl,hr,hd',how',hgr⟩;refine hK _ _ ⟨u0,u1,u2,u3,u4,u5,u6,u7,u8,u9,_,_,u12,u13,u14,u15,u16,?_,{hC with ow:=⟨l,how',(fun h _=>nomatch hn12.symm.trans h),(fun h _=>nomatch hn13.symm.trans h),d16⟩,hd:=hd',gr:=z0j hC.gr hgr,h11:=fun _=>⟨r,hr,rfl⟩}⟩;simp only [Act.put,zT,zZ,zS]
  ·obtain ⟨z1,hz1,rfl⟩:=hC.h1 (hd 1 (by kernel_rfl))
   obtain ⟨z3,hz3,rfl⟩:=hC.h3 (hd 3 (by kernel_rfl))
   obtain ⟨z5,hz5,rfl⟩:=hC.h5 (hd 5 (by kernel_rfl))
   obtain ⟨z7,hz7,rfl⟩:=hC.h7 (hd 7 (by kernel_rfl))
   obtain ⟨z9,hz9,rfl⟩:=hC.h9 (hd 9 (by kernel_rfl))
   obtain ⟨z11,hz11,rfl⟩:=hC.h11 (hd 11 (by kernel_rfl))
   obtain ⟨l,how,d12,d13,d16⟩:=hC.ow;have hn13:Ld 13=false:=z4b hcl hf (by kernel_rfl)
   have ho:=how.arr #[.int .i64 z1,.int .i64 z3,.int .i64 z5,.int .i64 z7,.int .i64 z9,.int .i64 z11] 6 rfl (by omega) 3
   rw [zqa] at ho;clear hd hcl;refine zw rfl fun K hK=>?_
   go_simp;refine hK _ _ ⟨u0,_,u2,_,u4,_,u6,_,u8,_,u10,_,_,u13,u14,u15,u16,?_,{hC with ow:=⟨_,ho,fun _ _=>⟨l.length,some ⟨W.heap.size,0,none⟩,6,[(z1:Int),(z3:Int),(z5:Int),(z7:Int),(z9:Int),(z11:Int)],rfl,rfl,z6w⟩,(fun h _=>nomatch hn13.symm.trans h),fun h=>(by obtain ⟨i,pb,R,e1,e0,e2,e3,e4⟩:=d16 h;exact ⟨i,pb,R,e1,e0,e2,z3at e3,e4⟩)⟩,hd:=hC.hd.below (z0i _ _),gr:=z1q hC.gr _,h1:=fun _=>⟨z1,hz1,rfl⟩,h3:=fun _=>⟨z3,hz3,rfl⟩,h5:=fun _=>⟨z5,hz5,rfl⟩,h7:=fun _=>⟨z7,hz7,rfl⟩,h9:=fun _=>⟨z9,hz9,rfl⟩,h11:=fun _=>⟨z11,hz11,rfl⟩,h12:=fun _=>trivial}⟩
   simp only [Act.put,zT,zZ,zS]
  ·obtain ⟨l,how,d12,d13,d16⟩:=hC.ow;obtain ⟨i,A,c,ts,hts,rfl,hi⟩:=d12 (hd 12 (by kernel_rfl)) hf
   have hrow:=how.row (OO.length+i) (z3s hi)
   have hcall:=z5bs (St.refl W) A 6 c W.heap.size ts hts (by omega) (zqj _) (z7g hrow (by omega))
   clear hd hcl;refine zw rfl fun K hK=>?_
   go_simp;refine hcall.mono ?_;rintro e W' ⟨g2,rfl,hd2,hst⟩;have hdd:=hd2;obtain ⟨A2,n2,c2,at2,ts2,hh,_,_,_,_,hBg⟩:=hdd;have ho:=how.add (z0ac hh hBg) hst.below
   rw [zqa] at ho;refine hK _ _ ⟨u0,u1,u2,u3,u4,u5,u6,u7,u8,u9,u10,u11,(.slice A 6 c),_,u14,u15,u16,?_,⟨⟨_,ho,(fun _ h=>by cases h),fun _ _=>⟨l.length,g2,W.heap.size,A2,n2,c2,at2,W,rfl,zqq hC.gr.size hBg,z6w,hd2,zqj _,Ow.of hst⟩,fun h=>(by obtain ⟨i,pb,R,e1,e0,e2,e3,e4⟩:=d16 h;exact ⟨i,pb,R,e1,e0,e2,z3at e3,e4⟩)⟩,hC.hd.below hst.below,z2aa hC.gr hst.below,hC.h0,hC.h1,hC.h2,hC.h3,hC.h4,hC.h5,hC.h6,hC.h7,hC.h8,hC.h9,hC.h10,hC.h11,hC.h12,fun _=>trivial,hC.h14,hC.h15,hC.h16⟩⟩
   simp only [Act.put,zT,zZ,zS]
  ·obtain ⟨l,how,d12,d13,d16⟩:=hC.ow;obtain ⟨y0,y1,y2,y3,y4,y5⟩:=zc6 (how.row si (by rw [z0r _ _ (z0d HSr.out)];exact HSr.out))
   clear hd hcl;refine zw rfl fun K hK=>?_
   go_simp;refine hK _ _ ⟨u0,u1,u2,u3,u4,u5,u6,u7,u8,u9,u10,u11,u12,u13,_,u15,u16,?_,{hC with h14:=fun _=>rfl}⟩;simp only [Act.put,zT,zZ,zS]
  ·obtain ⟨l,how,d12,d13,d16⟩:=hC.ow;have h13:=hd 13 (by kernel_rfl)
   obtain ⟨i,g2,B2,A2,n2,c2,at2,W1,rfl,hwg,hi,hd2,hB2,hn⟩:=d13 h13 hf
   obtain rfl:=hC.h14 (hd 14 (by kernel_rfl));have hcall:=z1br hn hd2 hB2 so ch ra ba ro co HSm.out
   clear hd hcl;refine zw rfl fun K hK=>?_
   go_simp;refine hcall.mono ?_;rintro e W' ⟨pv,rfl,hpv,hd2',hn',hg⟩;have hdd:=hd2';obtain ⟨A3,n3,c3,at3,ts3,hh,_,_,_,_,hBg⟩:=hdd;have hlt:=(how.lt (z3s hi) rfl).2
   have ho:=how.turn (OO.length+i) (z3s hi) (r':=⟨some ⟨g2,0,none⟩,2,2,67,[.slice A3 n3 c3,.int .i64 at3]⟩) hg (z0ac hh hlt) (.inl rfl)
   rw [z0o] at ho;have hdg:=hC.hd.turned HBd.out how (z3s hi) hg
   refine hK _ _ ⟨u0,u1,u2,u3,u4,u5,u6,u7,u8,u9,u10,u11,u12,(.pointer (some ⟨g2,0,none⟩)),_,_,u16,?_,⟨⟨_,ho,(fun _ h=>by rw [show z3i Ld 15 13=Ld 13 from rfl,h13] at h;cases h),(fun _ h=>by cases h),fun h=>(by obtain ⟨j,pb,R,e1,e0,e2,e3,e4⟩:=d16 h;exact ⟨j,pb,R,e1,e0,e2,(by rw [zqf (fun e=>by subst e;rw [hi] at e3;exact absurd (show (67:TypeId)=38 from zqk (congrArg (fun o:Option Rw=>o.map (fun r:Rw=>r.e)) e3)) (by decide))];exact e3),e4⟩)⟩,hdg,z0t hC.gr hg (fun x e=>by cases e;exact hwg),hC.h0,hC.h1,hC.h2,hC.h3,hC.h4,hC.h5,hC.h6,hC.h7,hC.h8,hC.h9,hC.h10,hC.h11,hC.h12,hC.h13,fun _=>rfl,fun _=>⟨pv,hpv,rfl⟩,hC.h16⟩⟩
   simp only [Act.put,zT,zZ,zS]
  ·obtain ⟨l,how,d12,d13,d16⟩:=hC.ow;have hn17:Ld 17=false:=z4b hcl hf (by kernel_rfl)
   have ho:=how.arr #[.int .i64 0,.int .i64 0,.int .i64 0,.int .i64 0,.int .i64 0,.int .i64 0] 6 rfl (by omega) 38
   rw [zqa] at ho;clear hd hcl;refine zw rfl fun K hK=>?_
   go_simp;refine hK _ _ ⟨u0,u1,u2,u3,u4,u5,u6,u7,u8,u9,u10,u11,u12,u13,u14,u15,_,?_,{hC with ow:=⟨_,ho,fun h h'=>(by obtain ⟨j,A,c,ts,e1,e2,e3⟩:=d12 h h';exact ⟨j,A,c,ts,e1,e2,z3at e3⟩),fun h h'=>(by obtain ⟨j,g2,B2,A2,n2,c2,at2,W1,e1,e0,e2,e3,e4,e5⟩:=d13 h h';exact ⟨j,g2,B2,A2,n2,c2,at2,W1,e1,e0,z3at e2,e3.below (z0i _ _),e4,e5.go (z0i _ _)⟩),fun _=>⟨l.length,W.heap.size,[.int .i64 0,.int .i64 0,.int .i64 0,.int .i64 0,.int .i64 0,.int .i64 0],rfl,hC.gr.size,rfl,z6w,(fun h=>by rw [show z3i Ld 16 17=Ld 17 from rfl,hn17] at h;cases h)⟩⟩,hd:=hC.hd.below (z0i _ _),gr:=z1q hC.gr _,h16:=fun _=>trivial}⟩
   simp only [Act.put,zT,zZ,zS]
  ·obtain ⟨l,how,d12,d13,d16⟩:=hC.ow;have h15:=hd 15 (by kernel_rfl)
   have h13:=hcl 15 13 h15 (by kernel_rfl)
   obtain ⟨i,pb,R,rfl,hpw,hRl,hi,_⟩:=d16 (hd 16 (by kernel_rfl))
   obtain ⟨r0,r1,r2,r3,r4,r5,rfl⟩:=six hRl
   obtain ⟨pv,hpv,rfl⟩:=hC.h15 h15
   obtain ⟨p0,p1,p2,p3,p4,p5⟩:=pv;obtain ⟨y0,y1,y2,y3,y4,y5⟩:=zc6 (how.row (OO.length+i) (z3s hi));obtain ⟨f0,f1,f2,f3,f4,f5⟩:=zf6 (how.row (OO.length+i) (z3s hi));have ho:=z6bf how (OO.length+i) (z3s hi) (.int .i64 p0) (.int .i64 p1) (.int .i64 p2) (.int .i64 p3) (.int .i64 p4) (.int .i64 p5)
   rw [z0o] at ho;have hdg:=z7s hC.hd HBd.out how (z3s hi) (.int .i64 p0) (.int .i64 p1) (.int .i64 p2) (.int .i64 p3) (.int .i64 p4) (.int .i64 p5)
   clear hd hcl;unfold Pl.vs;refine zw rfl fun K hK=>?_
   go_simp;refine hK _ _ ⟨u0,u1,u2,u3,u4,u5,u6,u7,u8,u9,u10,u11,u12,u13,u14,_,_,?_,{hC with ow:=⟨_,ho,(fun _ h=>by rw [show z3i Ld 17 13=Ld 13 from rfl,h13] at h;cases h),(fun _ h=>by rw [show z3i Ld 17 15=Ld 15 from rfl,h15] at h;cases h),fun _=>⟨i,pb,_,rfl,hpw,rfl,z0a hi,fun _=>⟨⟨p0,p1,p2,p3,p4,p5⟩,hpv,rfl⟩⟩⟩,hd:=hdg,gr:=z3az hC.gr pb hpw (.int .i64 p0) (.int .i64 p1) (.int .i64 p2) (.int .i64 p3) (.int .i64 p4) (.int .i64 p5),h15:=fun _=>⟨⟨p0,p1,p2,p3,p4,p5⟩,hpv,rfl⟩}⟩
   simp only [Act.put,List.setIfInBounds_toArray,zqd,zqe,Pl.vs]
 ·rintro Ld b W hL ⟨u0,u1,u2,u3,u4,u5,u6,u7,u8,u9,u10,u11,u12,u13,u14,u15,u16,rfl,hC⟩;obtain ⟨l,how,-,-,d16⟩:=hC.ow
  obtain ⟨pi,pb,R,rfl,hpb,hRl,hpi,hpw⟩:=d16 (hL 16 (by show 16<18;decide))
  obtain ⟨pv,hpv,rfl⟩:=hpw (hL 17 (by show 17<18;decide))
  clear hpw;have HDg:=zh hC.hd;have HGr:=zh hC.gr;have HPb:=zh hpb;have HYb:Hid (w.heap.size<=w.heap.size+1+1):=by unfold Hid;omega
  clear hpb hC hL d16 hRl;simp only [Act.put,zT,zZ,zS];obtain ⟨⟨q0,q1,q2,q3,q4,q5⟩,hqv⟩:∃ q:Pl,q=pv:=⟨pv,rfl⟩
  subst hqv
  obtain ⟨pj,hpj⟩:∃ z,OO.length+pi=z:=⟨_,rfl⟩
  have hxl:=z0d HXr.out
  have hyl:=z0d HYr.out
  obtain ⟨PP,hPP⟩:∃ z,OO++l=z:=⟨_,rfl⟩
  have HXp:Hid (PP[xi]?=some (⟨some ⟨w.heap.size+1,0,none⟩,8,8,40,[.int .i64 x0,.int .i64 x1,.int .i64 x2,.int .i64 x3,.int .i64 x4,.int .i64 x5,.int .i64 x6,.int .i64 x7]⟩:Rw)):=by unfold Hid;rw [<- hPP,z0r _ _ hxl];exact HXr.out
  have HYp:Hid (PP[yi]?=some (⟨some ⟨w.heap.size+1+1,0,none⟩,8,8,40,[.int .i64 0,.int .i64 0,.int .i64 0,.int .i64 0,.int .i64 0,.int .i64 0,.int .i64 0,.int .i64 0]⟩:Rw)):=by unfold Hid;rw [<- hPP,z0r _ _ hyl];exact HYr.out
  have HPp:Hid (PP[pj]?=some (⟨some ⟨pb,0,none⟩,6,6,38,[.int .i64 q0,.int .i64 q1,.int .i64 q2,.int .i64 q3,.int .i64 q4,.int .i64 q5]⟩:Rw)):=by unfold Hid;rw [<- hPP,<- hpj];exact z3s hpi
  have HPl:Hid (O.length<=pj):=by unfold Hid;have:=HPl.out;omega
  have HNpy:Hid (yi≠pj):=by unfold Hid;omega
  have HNpx:Hid (pj≠xi):=by unfold Hid;omega
  have HQv:=zh hpv;have HLe:Hid (∃ l2,PP=O++l2):=⟨_,by rw [<- hPP,<- HOe.out,zqa]⟩
  rw [hPP] at how;have HW:=zh how;clear how hpi hpv hpj hxl hyl hPP HO HD0 HG0 HSr HXr HYr HOe;have HN:=zh (z1e HW.out HDg.out 6 (by omega) (by omega))
  go_wp2_with fail;refine HN.out.mono ?_;rintro e w1 ⟨z,rfl,hz,hd,how,hgr⟩;have HG1:=zh (z0j HGr.out hgr)
  have HW1:=zh how;have HD1:=zh hd;clear HN HW HDg how hd hgr HGr;obtain ⟨zi,hzi,hz6⟩:∃ zi:Int,(z:Int)=zi/\0<=zi/\zi<6:=⟨_,rfl,by omega,by omega⟩
  rw [hzi];clear hz hzi;go_upto_block 0 with (fail)
  go_cut [] from 26 to 108 (fun wx=>∃ pv:Pl,plV ⟨(so:Int),ch,ra,ba,ro,co⟩ pv=true/\Hid (Ow w0 wx (some g) M L (PP.set pj ⟨some ⟨pb,0,none⟩,6,6,38,pv.vs.toList⟩))/\Hid (Dice wx g B)/\Hid (w.grownBy wx (some g)))
  case first=>
   have hcase:zi=0∨zi=1∨zi=2∨zi=3∨zi=4∨zi=5:=by omega
   clear hz6;rcases hcase with rfl|rfl|rfl|rfl|rfl|rfl
   ·have HSa:Hid (∀ z:Nat,z<100->snV ⟨(so:Int),ch,ra,ba,ro,co⟩ ⟨⟨x0,x1,x2,x3,x4,x5⟩,x6,(z:Int)⟩=true):=fun z hz=>z2ao (z2p HX.out).1 (z2p HX.out).2.1 (by omega)
    go_wp2_with fail;have HWs:Hid (Ow w0 w1 (some g) M L (PP.set yi (⟨some ⟨w.heap.size+1+1,0,none⟩,8,8,40,[.int .i64 0,.int .i64 0,.int .i64 0,.int .i64 0,.int .i64 0,.int .i64 0,.int .i64 0,.int .i64 0]⟩:Rw))):=by unfold Hid;rw [z1p HYp.out];exact HW1.out
    refine z1k (SaI w0 w g B M L PP (w.heap.size+1) (w.heap.size+1+1) pb yi pj so ch ra ba ro co x0 x1 x2 x3 x4 x5 x6 x7 q0 q1 q2 q3 q4 q5) (by kernel_rfl) (by kernel_rfl) ?_ ?_ ?_
    ·refine @SaI.m _ _ _ _ _ _ _ _ _ _ _ _ _ _ _ _ _ _ _ _ _ _ _ _ _ _ _ _ _ _ _ _ _ _ _ _ undef undef undef undef undef undef undef ⟨⟨_,rfl,HWs.out.drew,(fun h=>by cases h)⟩,HD1.out.drew,z1z HG1.out,?_,?_,?_,?_,?_,?_,?_⟩ ?_
     all_goals first|(intro h;cases h)|simp only [Act.put,zT,zZ,zS]
    ·rintro jj Ld b W hj hf hcl hd ⟨hC,rfl⟩;have hj':jj<8:=hj
     have hcase:jj=0∨jj=1∨jj=2∨jj=3∨jj=4∨jj=5∨jj=6∨jj=7:=by omega
     clear hj hj';simp only [Act.put,zT,zZ,zS];rcases hcase with rfl|rfl|rfl|rfl|rfl|rfl|rfl|rfl
     ·clear hd hcl;refine zw rfl fun K hK=>?_
      go_simp;exact hK _ _ (.m {hC with h0:=fun _=>rfl})
     ·obtain rfl:=hC.h0 (hd 0 (by kernel_rfl));obtain ⟨R,hRl,how,hRp⟩:=hC.ow;obtain ⟨c0,c1,c2,c3,c4,c5⟩:=zy6 (how.row xi (by rw [zqf HNxy.out];exact HXp.out))
      clear hd hcl;refine zw rfl fun K hK=>?_
      go_simp;exact hK _ _ (.m {hC with h1:=fun _=>rfl})
     ·clear hd hcl;refine zw rfl fun K hK=>?_
      go_simp;exact hK _ _ (.m {hC with h2:=fun _=>rfl})
     ·obtain rfl:=hC.h2 (hd 2 (by kernel_rfl));obtain ⟨R,hRl,how,hRp⟩:=hC.ow;have c6:=(how.row xi (by rw [zqf HNxy.out];exact HXp.out)).cellAt 6 (by decide)
      clear hd hcl;refine zw rfl fun K hK=>?_
      go_simp;exact hK _ _ (.m {hC with h3:=fun _=>rfl})
     ·clear hd hcl;refine zw rfl fun K hK=>?_
      go_simp;exact hK _ _ (.m {hC with h4:=fun _=>rfl})
     ·obtain rfl:=hC.h4 (hd 4 (by kernel_rfl));obtain ⟨R,hRl,how,hRp⟩:=hC.ow;have hcall:=z1e how hC.hd 100 (by omega) (by omega)
      clear hd hcl;refine zw rfl fun K hK=>?_
      go_simp;refine (hcall).mono ?_
      rintro e W' ⟨r,rfl,hr,hd',how',hgr⟩;exact hK _ _ (.m {hC with ow:=⟨R,hRl,how',hRp⟩,hd:=hd',gr:=z0j hC.gr hgr,h5:=fun _=>⟨r,hr,rfl⟩})
     ·obtain rfl:=hC.h1 (hd 1 (by kernel_rfl));obtain rfl:=hC.h3 (hd 3 (by kernel_rfl));obtain ⟨z5,hz5,rfl⟩:=hC.h5 (hd 5 (by kernel_rfl))
      clear hd hcl;refine zw rfl fun K hK=>?_
      go_simp;refine hK _ _ (.m (h:=?_) {hC with h6:=fun _=>⟨⟨⟨x0,x1,x2,x3,x4,x5⟩,x6,z5⟩,HSa.out z5 hz5,rfl⟩});simp only [Act.put,List.setIfInBounds_toArray,zqd,zqe,Sn.vs]
     ·obtain ⟨sv,hsv,rfl⟩:=hC.h6 (hd 6 (by kernel_rfl))
      obtain ⟨R,hRl,how,hRp⟩:=hC.ow;obtain ⟨r0,r1,r2,r3,r4,r5,r6,r7,rfl⟩:=z9an hRl
      have hV:=z0a (r':=(⟨some ⟨(w.heap.size+1+1),0,none⟩,8,8,40,[r0,r1,r2,r3,r4,r5,r6,r7]⟩:Rw)) HYp.out
      obtain ⟨⟨s0,s1,s2,s3,s4,s5⟩,s6,s7⟩:=sv
      obtain ⟨y0,y1,y2,y3,y4,y5,y6,y7⟩:=zc8 (how.row yi hV);obtain ⟨f0,f1,f2,f3,f4,f5,f6,f7⟩:=zf8 (how.row yi hV);have HZ:=zh (z1bn how yi hV (.int .i64 s0) (.int .i64 s1) (.int .i64 s2) (.int .i64 s3) (.int .i64 s4) (.int .i64 s5) (.int .i64 s6) (.int .i64 s7))
      rw [List.set_set] at HZ;have HDq:=zh (z4q hC.hd HBd.out how hV (.int .i64 s0) (.int .i64 s1) (.int .i64 s2) (.int .i64 s3) (.int .i64 s4) (.int .i64 s5) (.int .i64 s6) (.int .i64 s7))
      clear hd hcl;unfold Sn.vs;refine zw rfl fun K hK=>?_
      go_simp;refine hK _ _ (.m (h:=?_) {hC with ow:=⟨_,rfl,HZ.out,fun _=>⟨⟨⟨s0,s1,s2,s3,s4,s5⟩,s6,s7⟩,hsv,rfl⟩⟩,hd:=HDq.out,gr:=z9c hC.gr (w.heap.size+1+1) HYb.out (.int .i64 s0) (.int .i64 s1) (.int .i64 s2) (.int .i64 s3) (.int .i64 s4) (.int .i64 s5) (.int .i64 s6) (.int .i64 s7),h6:=fun _=>⟨⟨⟨s0,s1,s2,s3,s4,s5⟩,s6,s7⟩,hsv,rfl⟩});simp only [Act.put,List.setIfInBounds_toArray,zqd,zqe,Sn.vs]
    ·rintro Ld b W hL ⟨hC,rfl⟩;obtain ⟨R,hRl,how,hRp⟩:=hC.ow;obtain ⟨sv,hsv,rfl⟩:=hRp (hL 7 (by show 7<8;decide))
     have HDf:=zh hC.hd;have HGf:=zh hC.gr;have HSv:=zh hsv;obtain ⟨⟨s0,s1,s2,s3,s4,s5⟩,s6,s7⟩:=sv
     obtain ⟨z0,z1,z2,z3,z4,z5,z6,z7⟩:=zc8 (how.row yi (z0a HYp.out));have HE:Hid (Ow w0 W (some g) M L O):=by
      unfold Hid;obtain ⟨l2,hl2⟩:=HLe.out;rw [hl2,<- HYi.out,z0o] at how;exact how.fewO
     clear hC how hL hRl hRp hsv;simp only [Act.put,zT,zZ,zS];(first|unfold Sn.vs at z0 z1 z2 z3 z4 z5 z6 z7|dsimp only at z0 z1 z2 z3 z4 z5 z6 z7);go_wp2_with fail;refine bodyPost_ret (v:=.agg #[.int .i64 s0,.int .i64 s1,.int .i64 s2,.int .i64 s3,.int .i64 s4,.int .i64 s5,.int .i64 s6,.int .i64 s7]) (by simp [results,Tryz.results50,go_sem,z0,z1,z2,z3,z4,z5,z6,z7]) rfl ?_
     exact ⟨⟨⟨s0,s1,s2,s3,s4,s5⟩,s6,s7⟩,rfl,HSv.out,HDf.out,HE.out,HGf.out⟩
   ·have HWp:Hid (Ow w0 w1 (some g) M L (PP.set pj (⟨some ⟨pb,0,none⟩,6,6,38,[.int .i64 q0,.int .i64 q1,.int .i64 q2,.int .i64 q3,.int .i64 q4,.int .i64 q5]⟩:Rw))):=by unfold Hid;rw [z1p HPp.out];exact HW1.out
    go_wp2_with fail;refine z1k (SeI w0 w g B M L PP (w.heap.size+1) (w.heap.size+1+1) pb yi pj so ch ra ba ro co x0 x1 x2 x3 x4 x5 x6 x7 q0 q1 q2 q3 q4 q5) (by kernel_rfl) (by kernel_rfl) ?_ ?_ ?_
    ·refine @SeI.m _ _ _ _ _ _ _ _ _ _ _ _ _ _ _ _ _ _ _ _ _ _ _ _ _ _ _ _ _ _ _ _ _ _ _ _ undef undef undef undef undef undef undef undef undef undef undef undef undef undef undef undef undef undef undef undef ⟨⟨⟨q0,q1,q2,q3,q4,q5⟩,HQv.out,HWp.out.drew⟩,HD1.out.drew,z1z HG1.out,?_,?_,?_,?_,?_,?_,?_,?_,?_,?_,?_,?_,?_,?_,?_,?_,?_,?_,?_,?_⟩ ?_
     all_goals first|(intro h;cases h)|simp only [Act.put,zT,zZ,zS]
    ·rintro jj Ld b W hj hf hcl hd ⟨hC,rfl⟩;have hj':jj<25:=hj
     have hcase:jj=0∨jj=1∨jj=2∨jj=3∨jj=4∨jj=5∨jj=6∨jj=7∨jj=8∨jj=9∨jj=10∨jj=11∨jj=12∨jj=13∨jj=14∨jj=15∨jj=16∨jj=17∨jj=18∨jj=19∨jj=20∨jj=21∨jj=22∨jj=23∨jj=24:=by omega
     clear hj hj';simp only [Act.put,zT,zZ,zS];rcases hcase with rfl|rfl|rfl|rfl|rfl|rfl|rfl|rfl|rfl|rfl|rfl|rfl|rfl|rfl|rfl|rfl|rfl|rfl|rfl|rfl|rfl|rfl|rfl|rfl|rfl
     ·clear hd hcl;refine zw rfl fun K hK=>?_
      go_simp;exact hK _ _ (.m {hC with h0:=fun _=>rfl})
     ·obtain rfl:=hC.h0 (hd 0 (by kernel_rfl));clear hd hcl;refine zw rfl fun K hK=>?_
      go_simp;exact hK _ _ (.m {hC with h1:=fun _=>rfl})
     ·obtain rfl:=hC.h1 (hd 1 (by kernel_rfl));obtain ⟨pv,hpv,how⟩:=hC.ow;have c0:=(how.row xi (by rw [zqf HNpx.out];exact HXp.out)).cellAt 0 (by decide)
      clear hd hcl;refine zw rfl fun K hK=>?_
      go_simp;exact hK _ _ (.m {hC with h2:=fun _=>rfl})
     ·clear hd hcl;refine zw rfl fun K hK=>?_
      go_simp;exact hK _ _ (.m {hC with h3:=fun _=>rfl})
     ·obtain rfl:=hC.h3 (hd 3 (by kernel_rfl));clear hd hcl;refine zw rfl fun K hK=>?_
      go_simp;exact hK _ _ (.m {hC with h4:=fun _=>rfl})
     ·obtain rfl:=hC.h4 (hd 4 (by kernel_rfl));obtain ⟨pv,hpv,how⟩:=hC.ow;have c1:=(how.row xi (by rw [zqf HNpx.out];exact HXp.out)).cellAt 1 (by decide)
      clear hd hcl;refine zw rfl fun K hK=>?_
      go_simp;exact hK _ _ (.m {hC with h5:=fun _=>rfl})
     ·clear hd hcl;refine zw rfl fun K hK=>?_
      go_simp;exact hK _ _ (.m {hC with h6:=fun _=>rfl})
     ·obtain rfl:=hC.h6 (hd 6 (by kernel_rfl));clear hd hcl;refine zw rfl fun K hK=>?_
      go_simp;exact hK _ _ (.m {hC with h7:=fun _=>rfl})
     ·obtain rfl:=hC.h7 (hd 7 (by kernel_rfl));obtain ⟨pv,hpv,how⟩:=hC.ow;have c2:=(how.row xi (by rw [zqf HNpx.out];exact HXp.out)).cellAt 2 (by decide)
      clear hd hcl;refine zw rfl fun K hK=>?_
      go_simp;exact hK _ _ (.m {hC with h8:=fun _=>rfl})
     ·clear hd hcl;refine zw rfl fun K hK=>?_
      go_simp;exact hK _ _ (.m {hC with h9:=fun _=>rfl})
     ·obtain rfl:=hC.h9 (hd 9 (by kernel_rfl));clear hd hcl;refine zw rfl fun K hK=>?_
      go_simp;exact hK _ _ (.m {hC with h10:=fun _=>rfl})
     ·obtain rfl:=hC.h10 (hd 10 (by kernel_rfl));obtain ⟨pv,hpv,how⟩:=hC.ow;have c3:=(how.row xi (by rw [zqf HNpx.out];exact HXp.out)).cellAt 3 (by decide)
      clear hd hcl;refine zw rfl fun K hK=>?_
      go_simp;exact hK _ _ (.m {hC with h11:=fun _=>rfl})
     ·clear hd hcl;refine zw rfl fun K hK=>?_
      go_simp;exact hK _ _ (.m {hC with h12:=fun _=>rfl})
     ·obtain rfl:=hC.h12 (hd 12 (by kernel_rfl));clear hd hcl;refine zw rfl fun K hK=>?_
      go_simp;exact hK _ _ (.m {hC with h13:=fun _=>rfl})
     ·obtain rfl:=hC.h13 (hd 13 (by kernel_rfl));obtain ⟨pv,hpv,how⟩:=hC.ow;have c4:=(how.row xi (by rw [zqf HNpx.out];exact HXp.out)).cellAt 4 (by decide)
      clear hd hcl;refine zw rfl fun K hK=>?_
      go_simp;exact hK _ _ (.m {hC with h14:=fun _=>rfl})
     ·clear hd hcl;refine zw rfl fun K hK=>?_
      go_simp;exact hK _ _ (.m {hC with h15:=fun _=>rfl})
     ·obtain rfl:=hC.h15 (hd 15 (by kernel_rfl));obtain rfl:=hC.h2 (hd 2 (by kernel_rfl));obtain ⟨pv,hpv,how⟩:=hC.ow;obtain ⟨p0,p1,p2,p3,p4,p5⟩:=pv;have hV:=z0a (r':=(⟨some ⟨pb,0,none⟩,6,6,38,[.int .i64 p0,.int .i64 p1,.int .i64 p2,.int .i64 p3,.int .i64 p4,.int .i64 p5]⟩:Rw)) HPp.out
      have y:=(how.row pj hV).cellAt 0 (by decide)
      have f:=(how.row pj hV).frozenAt 0
      have ho:=how.put pj hV 0 (.int .i64 x0)
      rw [List.set_set] at ho;have hdg:=hC.hd.turned HBd.out how hV (z0f _ ⟨pb,0,none⟩ (.int .i64 x0))
      clear hd hcl;refine zw rfl fun K hK=>?_
      go_simp;exact hK _ _ (.m {hC with ow:=⟨⟨x0,p1,p2,p3,p4,p5⟩,(mix6 (z2p HX.out).1 hpv).1,ho⟩,hd:=hdg,gr:=z0t hC.gr (z0f _ ⟨pb,0,none⟩ (.int .i64 x0)) (fun x e=>by cases e;exact HPb.out)})
     ·clear hd hcl;refine zw rfl fun K hK=>?_
      go_simp;exact hK _ _ (.m {hC with h17:=fun _=>rfl})
     ·obtain rfl:=hC.h17 (hd 17 (by kernel_rfl));obtain rfl:=hC.h5 (hd 5 (by kernel_rfl));obtain ⟨pv,hpv,how⟩:=hC.ow;obtain ⟨p0,p1,p2,p3,p4,p5⟩:=pv;have hV:=z0a (r':=(⟨some ⟨pb,0,none⟩,6,6,38,[.int .i64 p0,.int .i64 p1,.int .i64 p2,.int .i64 p3,.int .i64 p4,.int .i64 p5]⟩:Rw)) HPp.out
      have y:=(how.row pj hV).cellAt 1 (by decide)
      have f:=(how.row pj hV).frozenAt 1
      have ho:=how.put pj hV 1 (.int .i64 x1)
      rw [List.set_set] at ho;have hdg:=hC.hd.turned HBd.out how hV (z0f _ ⟨pb,1,none⟩ (.int .i64 x1))
      clear hd hcl;refine zw rfl fun K hK=>?_
      go_simp;exact hK _ _ (.m {hC with ow:=⟨⟨p0,x1,p2,p3,p4,p5⟩,(mix6 (z2p HX.out).1 hpv).2.1,ho⟩,hd:=hdg,gr:=z0t hC.gr (z0f _ ⟨pb,1,none⟩ (.int .i64 x1)) (fun x e=>by cases e;exact HPb.out)})
     ·clear hd hcl;refine zw rfl fun K hK=>?_
      go_simp;exact hK _ _ (.m {hC with h19:=fun _=>rfl})
     ·obtain rfl:=hC.h19 (hd 19 (by kernel_rfl));obtain rfl:=hC.h8 (hd 8 (by kernel_rfl));obtain ⟨pv,hpv,how⟩:=hC.ow;obtain ⟨p0,p1,p2,p3,p4,p5⟩:=pv;have hV:=z0a (r':=(⟨some ⟨pb,0,none⟩,6,6,38,[.int .i64 p0,.int .i64 p1,.int .i64 p2,.int .i64 p3,.int .i64 p4,.int .i64 p5]⟩:Rw)) HPp.out
      have y:=(how.row pj hV).cellAt 2 (by decide)
      have f:=(how.row pj hV).frozenAt 2
      have ho:=how.put pj hV 2 (.int .i64 x2)
      rw [List.set_set] at ho;have hdg:=hC.hd.turned HBd.out how hV (z0f _ ⟨pb,2,none⟩ (.int .i64 x2))
      clear hd hcl;refine zw rfl fun K hK=>?_
      go_simp;exact hK _ _ (.m {hC with ow:=⟨⟨p0,p1,x2,p3,p4,p5⟩,(mix6 (z2p HX.out).1 hpv).2.2.1,ho⟩,hd:=hdg,gr:=z0t hC.gr (z0f _ ⟨pb,2,none⟩ (.int .i64 x2)) (fun x e=>by cases e;exact HPb.out)})
     ·clear hd hcl;refine zw rfl fun K hK=>?_
      go_simp;exact hK _ _ (.m {hC with h21:=fun _=>rfl})
     ·obtain rfl:=hC.h21 (hd 21 (by kernel_rfl));obtain rfl:=hC.h11 (hd 11 (by kernel_rfl));obtain ⟨pv,hpv,how⟩:=hC.ow;obtain ⟨p0,p1,p2,p3,p4,p5⟩:=pv;have hV:=z0a (r':=(⟨some ⟨pb,0,none⟩,6,6,38,[.int .i64 p0,.int .i64 p1,.int .i64 p2,.int .i64 p3,.int .i64 p4,.int .i64 p5]⟩:Rw)) HPp.out
      have y:=(how.row pj hV).cellAt 3 (by decide)
      have f:=(how.row pj hV).frozenAt 3
      have ho:=how.put pj hV 3 (.int .i64 x3)
      rw [List.set_set] at ho;have hdg:=hC.hd.turned HBd.out how hV (z0f _ ⟨pb,3,none⟩ (.int .i64 x3))
      clear hd hcl;refine zw rfl fun K hK=>?_
      go_simp;exact hK _ _ (.m {hC with ow:=⟨⟨p0,p1,p2,x3,p4,p5⟩,(mix6 (z2p HX.out).1 hpv).2.2.2.1,ho⟩,hd:=hdg,gr:=z0t hC.gr (z0f _ ⟨pb,3,none⟩ (.int .i64 x3)) (fun x e=>by cases e;exact HPb.out)})
     ·clear hd hcl;refine zw rfl fun K hK=>?_
      go_simp;exact hK _ _ (.m {hC with h23:=fun _=>rfl})
     ·obtain rfl:=hC.h23 (hd 23 (by kernel_rfl));obtain rfl:=hC.h14 (hd 14 (by kernel_rfl));obtain ⟨pv,hpv,how⟩:=hC.ow;obtain ⟨p0,p1,p2,p3,p4,p5⟩:=pv;have hV:=z0a (r':=(⟨some ⟨pb,0,none⟩,6,6,38,[.int .i64 p0,.int .i64 p1,.int .i64 p2,.int .i64 p3,.int .i64 p4,.int .i64 p5]⟩:Rw)) HPp.out
      have y:=(how.row pj hV).cellAt 4 (by decide)
      have f:=(how.row pj hV).frozenAt 4
      have ho:=how.put pj hV 4 (.int .i64 x4)
      rw [List.set_set] at ho;have hdg:=hC.hd.turned HBd.out how hV (z0f _ ⟨pb,4,none⟩ (.int .i64 x4))
      clear hd hcl;refine zw rfl fun K hK=>?_
      go_simp;exact hK _ _ (.m {hC with ow:=⟨⟨p0,p1,p2,p3,x4,p5⟩,(mix6 (z2p HX.out).1 hpv).2.2.2.2.1,ho⟩,hd:=hdg,gr:=z0t hC.gr (z0f _ ⟨pb,4,none⟩ (.int .i64 x4)) (fun x e=>by cases e;exact HPb.out)})
    ·rintro Ld b W hL ⟨hC,rfl⟩;obtain ⟨pv,hpv,how⟩:=hC.ow;have HDm:=zh hC.hd;have HGm:=zh hC.gr;have HWm:=zh how;clear hC hL how;simp only [Act.put,zT,zZ,zS];go_wp2_with fail;go_meet;exact ⟨pv,hpv,HWm,HDm,HGm⟩
   ·have HWp:Hid (Ow w0 w1 (some g) M L (PP.set pj (⟨some ⟨pb,0,none⟩,6,6,38,[.int .i64 q0,.int .i64 q1,.int .i64 q2,.int .i64 q3,.int .i64 q4,.int .i64 q5]⟩:Rw))):=by unfold Hid;rw [z1p HPp.out];exact HW1.out
    go_wp2_with fail;refine z1k (SfI w0 w g B M L PP (w.heap.size+1) (w.heap.size+1+1) pb yi pj so ch ra ba ro co x0 x1 x2 x3 x4 x5 x6 x7 q0 q1 q2 q3 q4 q5) (by kernel_rfl) (by kernel_rfl) ?_ ?_ ?_
    ·refine @SfI.m _ _ _ _ _ _ _ _ _ _ _ _ _ _ _ _ _ _ _ _ _ _ _ _ _ _ _ _ _ _ _ _ _ _ _ _ undef undef undef undef undef undef undef undef undef undef undef undef undef undef undef undef undef undef undef undef ⟨⟨⟨q0,q1,q2,q3,q4,q5⟩,HQv.out,HWp.out.drew⟩,HD1.out.drew,z1z HG1.out,?_,?_,?_,?_,?_,?_,?_,?_,?_,?_,?_,?_,?_,?_,?_,?_,?_,?_,?_,?_⟩ ?_
     all_goals first|(intro h;cases h)|simp only [Act.put,zT,zZ,zS]
    ·rintro jj Ld b W hj hf hcl hd ⟨hC,rfl⟩;have hj':jj<25:=hj
     have hcase:jj=0∨jj=1∨jj=2∨jj=3∨jj=4∨jj=5∨jj=6∨jj=7∨jj=8∨jj=9∨jj=10∨jj=11∨jj=12∨jj=13∨jj=14∨jj=15∨jj=16∨jj=17∨jj=18∨jj=19∨jj=20∨jj=21∨jj=22∨jj=23∨jj=24:=by omega
     clear hj hj';simp only [Act.put,zT,zZ,zS];rcases hcase with rfl|rfl|rfl|rfl|rfl|rfl|rfl|rfl|rfl|rfl|rfl|rfl|rfl|rfl|rfl|rfl|rfl|rfl|rfl|rfl|rfl|rfl|rfl|rfl|rfl
     ·clear hd hcl;refine zw rfl fun K hK=>?_
      go_simp;exact hK _ _ (.m {hC with h0:=fun _=>rfl})
     ·obtain rfl:=hC.h0 (hd 0 (by kernel_rfl));clear hd hcl;refine zw rfl fun K hK=>?_
      go_simp;exact hK _ _ (.m {hC with h1:=fun _=>rfl})
     ·obtain rfl:=hC.h1 (hd 1 (by kernel_rfl));obtain ⟨pv,hpv,how⟩:=hC.ow;have c0:=(how.row xi (by rw [zqf HNpx.out];exact HXp.out)).cellAt 0 (by decide)
      clear hd hcl;refine zw rfl fun K hK=>?_
      go_simp;exact hK _ _ (.m {hC with h2:=fun _=>rfl})
     ·clear hd hcl;refine zw rfl fun K hK=>?_
      go_simp;exact hK _ _ (.m {hC with h3:=fun _=>rfl})
     ·obtain rfl:=hC.h3 (hd 3 (by kernel_rfl));clear hd hcl;refine zw rfl fun K hK=>?_
      go_simp;exact hK _ _ (.m {hC with h4:=fun _=>rfl})
     ·obtain rfl:=hC.h4 (hd 4 (by kernel_rfl));obtain ⟨pv,hpv,how⟩:=hC.ow;have c1:=(how.row xi (by rw [zqf HNpx.out];exact HXp.out)).cellAt 1 (by decide)
      clear hd hcl;refine zw rfl fun K hK=>?_
      go_simp;exact hK _ _ (.m {hC with h5:=fun _=>rfl})
     ·clear hd hcl;refine zw rfl fun K hK=>?_
      go_simp;exact hK _ _ (.m {hC with h6:=fun _=>rfl})
     ·obtain rfl:=hC.h6 (hd 6 (by kernel_rfl));clear hd hcl;refine zw rfl fun K hK=>?_
      go_simp;exact hK _ _ (.m {hC with h7:=fun _=>rfl})
     ·obtain rfl:=hC.h7 (hd 7 (by kernel_rfl));obtain ⟨pv,hpv,how⟩:=hC.ow;have c2:=(how.row xi (by rw [zqf HNpx.out];exact HXp.out)).cellAt 2 (by decide)
      clear hd hcl;refine zw rfl fun K hK=>?_
      go_simp;exact hK _ _ (.m {hC with h8:=fun _=>rfl})
     ·clear hd hcl;refine zw rfl fun K hK=>?_
      go_simp;exact hK _ _ (.m {hC with h9:=fun _=>rfl})
     ·obtain rfl:=hC.h9 (hd 9 (by kernel_rfl));clear hd hcl;refine zw rfl fun K hK=>?_
      go_simp;exact hK _ _ (.m {hC with h10:=fun _=>rfl})
     ·obtain rfl:=hC.h10 (hd 10 (by kernel_rfl));obtain ⟨pv,hpv,how⟩:=hC.ow;have c3:=(how.row xi (by rw [zqf HNpx.out];exact HXp.out)).cellAt 3 (by decide)
      clear hd hcl;refine zw rfl fun K hK=>?_
      go_simp;exact hK _ _ (.m {hC with h11:=fun _=>rfl})
     ·clear hd hcl;refine zw rfl fun K hK=>?_
      go_simp;exact hK _ _ (.m {hC with h12:=fun _=>rfl})
     ·obtain rfl:=hC.h12 (hd 12 (by kernel_rfl));clear hd hcl;refine zw rfl fun K hK=>?_
      go_simp;exact hK _ _ (.m {hC with h13:=fun _=>rfl})
     ·obtain rfl:=hC.h13 (hd 13 (by kernel_rfl));obtain ⟨pv,hpv,how⟩:=hC.ow;have c5:=(how.row xi (by rw [zqf HNpx.out];exact HXp.out)).cellAt 5 (by decide)
      clear hd hcl;refine zw rfl fun K hK=>?_
      go_simp;exact hK _ _ (.m {hC with h14:=fun _=>rfl})
     ·clear hd hcl;refine zw rfl fun K hK=>?_
      go_simp;exact hK _ _ (.m {hC with h15:=fun _=>rfl})
     ·obtain rfl:=hC.h15 (hd 15 (by kernel_rfl));obtain rfl:=hC.h2 (hd 2 (by kernel_rfl));obtain ⟨pv,hpv,how⟩:=hC.ow;obtain ⟨p0,p1,p2,p3,p4,p5⟩:=pv;have hV:=z0a (r':=(⟨some ⟨pb,0,none⟩,6,6,38,[.int .i64 p0,.int .i64 p1,.int .i64 p2,.int .i64 p3,.int .i64 p4,.int .i64 p5]⟩:Rw)) HPp.out
      have y:=(how.row pj hV).cellAt 0 (by decide)
      have f:=(how.row pj hV).frozenAt 0
      have ho:=how.put pj hV 0 (.int .i64 x0)
      rw [List.set_set] at ho;have hdg:=hC.hd.turned HBd.out how hV (z0f _ ⟨pb,0,none⟩ (.int .i64 x0))
      clear hd hcl;refine zw rfl fun K hK=>?_
      go_simp;exact hK _ _ (.m {hC with ow:=⟨⟨x0,p1,p2,p3,p4,p5⟩,(mix6 (z2p HX.out).1 hpv).1,ho⟩,hd:=hdg,gr:=z0t hC.gr (z0f _ ⟨pb,0,none⟩ (.int .i64 x0)) (fun x e=>by cases e;exact HPb.out)})
     ·clear hd hcl;refine zw rfl fun K hK=>?_
      go_simp;exact hK _ _ (.m {hC with h17:=fun _=>rfl})
     ·obtain rfl:=hC.h17 (hd 17 (by kernel_rfl));obtain rfl:=hC.h5 (hd 5 (by kernel_rfl));obtain ⟨pv,hpv,how⟩:=hC.ow;obtain ⟨p0,p1,p2,p3,p4,p5⟩:=pv;have hV:=z0a (r':=(⟨some ⟨pb,0,none⟩,6,6,38,[.int .i64 p0,.int .i64 p1,.int .i64 p2,.int .i64 p3,.int .i64 p4,.int .i64 p5]⟩:Rw)) HPp.out
      have y:=(how.row pj hV).cellAt 1 (by decide)
      have f:=(how.row pj hV).frozenAt 1
      have ho:=how.put pj hV 1 (.int .i64 x1)
      rw [List.set_set] at ho;have hdg:=hC.hd.turned HBd.out how hV (z0f _ ⟨pb,1,none⟩ (.int .i64 x1))
      clear hd hcl;refine zw rfl fun K hK=>?_
      go_simp;exact hK _ _ (.m {hC with ow:=⟨⟨p0,x1,p2,p3,p4,p5⟩,(mix6 (z2p HX.out).1 hpv).2.1,ho⟩,hd:=hdg,gr:=z0t hC.gr (z0f _ ⟨pb,1,none⟩ (.int .i64 x1)) (fun x e=>by cases e;exact HPb.out)})
     ·clear hd hcl;refine zw rfl fun K hK=>?_
      go_simp;exact hK _ _ (.m {hC with h19:=fun _=>rfl})
     ·obtain rfl:=hC.h19 (hd 19 (by kernel_rfl));obtain rfl:=hC.h8 (hd 8 (by kernel_rfl));obtain ⟨pv,hpv,how⟩:=hC.ow;obtain ⟨p0,p1,p2,p3,p4,p5⟩:=pv;have hV:=z0a (r':=(⟨some ⟨pb,0,none⟩,6,6,38,[.int .i64 p0,.int .i64 p1,.int .i64 p2,.int .i64 p3,.int .i64 p4,.int .i64 p5]⟩:Rw)) HPp.out
      have y:=(how.row pj hV).cellAt 2 (by decide)
      have f:=(how.row pj hV).frozenAt 2
      have ho:=how.put pj hV 2 (.int .i64 x2)
      rw [List.set_set] at ho;have hdg:=hC.hd.turned HBd.out how hV (z0f _ ⟨pb,2,none⟩ (.int .i64 x2))
      clear hd hcl;refine zw rfl fun K hK=>?_
      go_simp;exact hK _ _ (.m {hC with ow:=⟨⟨p0,p1,x2,p3,p4,p5⟩,(mix6 (z2p HX.out).1 hpv).2.2.1,ho⟩,hd:=hdg,gr:=z0t hC.gr (z0f _ ⟨pb,2,none⟩ (.int .i64 x2)) (fun x e=>by cases e;exact HPb.out)})
     ·clear hd hcl;refine zw rfl fun K hK=>?_
      go_simp;exact hK _ _ (.m {hC with h21:=fun _=>rfl})
     ·obtain rfl:=hC.h21 (hd 21 (by kernel_rfl));obtain rfl:=hC.h11 (hd 11 (by kernel_rfl));obtain ⟨pv,hpv,how⟩:=hC.ow;obtain ⟨p0,p1,p2,p3,p4,p5⟩:=pv;have hV:=z0a (r':=(⟨some ⟨pb,0,none⟩,6,6,38,[.int .i64 p0,.int .i64 p1,.int .i64 p2,.int .i64 p3,.int .i64 p4,.int .i64 p5]⟩:Rw)) HPp.out
      have y:=(how.row pj hV).cellAt 3 (by decide)
      have f:=(how.row pj hV).frozenAt 3
      have ho:=how.put pj hV 3 (.int .i64 x3)
      rw [List.set_set] at ho;have hdg:=hC.hd.turned HBd.out how hV (z0f _ ⟨pb,3,none⟩ (.int .i64 x3))
      clear hd hcl;refine zw rfl fun K hK=>?_
      go_simp;exact hK _ _ (.m {hC with ow:=⟨⟨p0,p1,p2,x3,p4,p5⟩,(mix6 (z2p HX.out).1 hpv).2.2.2.1,ho⟩,hd:=hdg,gr:=z0t hC.gr (z0f _ ⟨pb,3,none⟩ (.int .i64 x3)) (fun x e=>by cases e;exact HPb.out)})
     ·clear hd hcl;refine zw rfl fun K hK=>?_
      go_simp;exact hK _ _ (.m {hC with h23:=fun _=>rfl})
     ·obtain rfl:=hC.h23 (hd 23 (by kernel_rfl));obtain rfl:=hC.h14 (hd 14 (by kernel_rfl));obtain ⟨pv,hpv,how⟩:=hC.ow;obtain ⟨p0,p1,p2,p3,p4,p5⟩:=pv;have hV:=z0a (r':=(⟨some ⟨pb,0,none⟩,6,6,38,[.int .i64 p0,.int .i64 p1,.int .i64 p2,.int .i64 p3,.int .i64 p4,.int .i64 p5]⟩:Rw)) HPp.out
      have y:=(how.row pj hV).cellAt 5 (by decide)
      have f:=(how.row pj hV).frozenAt 5
      have ho:=how.put pj hV 5 (.int .i64 x5)
      rw [List.set_set] at ho;have hdg:=hC.hd.turned HBd.out how hV (z0f _ ⟨pb,5,none⟩ (.int .i64 x5))
      clear hd hcl;refine zw rfl fun K hK=>?_
      go_simp;exact hK _ _ (.m {hC with ow:=⟨⟨p0,p1,p2,p3,p4,x5⟩,(mix6 (z2p HX.out).1 hpv).2.2.2.2.2,ho⟩,hd:=hdg,gr:=z0t hC.gr (z0f _ ⟨pb,5,none⟩ (.int .i64 x5)) (fun x e=>by cases e;exact HPb.out)})
    ·rintro Ld b W hL ⟨hC,rfl⟩;obtain ⟨pv,hpv,how⟩:=hC.ow;have HDm:=zh hC.hd;have HGm:=zh hC.gr;have HWm:=zh how;clear hC hL how;simp only [Act.put,zT,zZ,zS];go_wp2_with fail;go_meet;exact ⟨pv,hpv,HWm,HDm,HGm⟩
   ·have HWp:Hid (Ow w0 w1 (some g) M L (PP.set pj (⟨some ⟨pb,0,none⟩,6,6,38,[.int .i64 q0,.int .i64 q1,.int .i64 q2,.int .i64 q3,.int .i64 q4,.int .i64 q5]⟩:Rw))):=by unfold Hid;rw [z1p HPp.out];exact HW1.out
    go_wp2_with fail;refine z1k (SgI w0 w g B M L PP (w.heap.size+1) (w.heap.size+1+1) pb yi pj so ch ra ba ro co x0 x1 x2 x3 x4 x5 x6 x7 q0 q1 q2 q3 q4 q5) (by kernel_rfl) (by kernel_rfl) ?_ ?_ ?_
    ·refine @SgI.m _ _ _ _ _ _ _ _ _ _ _ _ _ _ _ _ _ _ _ _ _ _ _ _ _ _ _ _ _ _ _ _ _ _ _ _ undef undef undef undef undef undef undef undef ⟨⟨⟨q0,q1,q2,q3,q4,q5⟩,HQv.out,HWp.out.drew⟩,HD1.out.drew,z1z HG1.out,?_,?_,?_,?_,?_,?_,?_,?_⟩ ?_
     all_goals first|(intro h;cases h)|simp only [Act.put,zT,zZ,zS]
    ·rintro jj Ld b W hj hf hcl hd ⟨hC,rfl⟩;have hj':jj<10:=hj
     have hcase:jj=0∨jj=1∨jj=2∨jj=3∨jj=4∨jj=5∨jj=6∨jj=7∨jj=8∨jj=9:=by omega
     clear hj hj';simp only [Act.put,zT,zZ,zS];rcases hcase with rfl|rfl|rfl|rfl|rfl|rfl|rfl|rfl|rfl|rfl
     ·clear hd hcl;refine zw rfl fun K hK=>?_
      go_simp;exact hK _ _ (.m {hC with h0:=fun _=>rfl})
     ·obtain rfl:=hC.h0 (hd 0 (by kernel_rfl));clear hd hcl;refine zw rfl fun K hK=>?_
      go_simp;exact hK _ _ (.m {hC with h1:=fun _=>rfl})
     ·obtain rfl:=hC.h1 (hd 1 (by kernel_rfl));obtain ⟨pv,hpv,how⟩:=hC.ow;have c0:=(how.row xi (by rw [zqf HNpx.out];exact HXp.out)).cellAt 0 (by decide)
      clear hd hcl;refine zw rfl fun K hK=>?_
      go_simp;exact hK _ _ (.m {hC with h2:=fun _=>rfl})
     ·clear hd hcl;refine zw rfl fun K hK=>?_
      go_simp;exact hK _ _ (.m {hC with h3:=fun _=>rfl})
     ·obtain rfl:=hC.h3 (hd 3 (by kernel_rfl));clear hd hcl;refine zw rfl fun K hK=>?_
      go_simp;exact hK _ _ (.m {hC with h4:=fun _=>rfl})
     ·obtain rfl:=hC.h4 (hd 4 (by kernel_rfl));obtain ⟨pv,hpv,how⟩:=hC.ow;have c1:=(how.row xi (by rw [zqf HNpx.out];exact HXp.out)).cellAt 1 (by decide)
      clear hd hcl;refine zw rfl fun K hK=>?_
      go_simp;exact hK _ _ (.m {hC with h5:=fun _=>rfl})
     ·clear hd hcl;refine zw rfl fun K hK=>?_
      go_simp;exact hK _ _ (.m {hC with h6:=fun _=>rfl})
     ·obtain rfl:=hC.h6 (hd 6 (by kernel_rfl));obtain rfl:=hC.h2 (hd 2 (by kernel_rfl));obtain ⟨pv,hpv,how⟩:=hC.ow;obtain ⟨p0,p1,p2,p3,p4,p5⟩:=pv;have hV:=z0a (r':=(⟨some ⟨pb,0,none⟩,6,6,38,[.int .i64 p0,.int .i64 p1,.int .i64 p2,.int .i64 p3,.int .i64 p4,.int .i64 p5]⟩:Rw)) HPp.out
      have y:=(how.row pj hV).cellAt 0 (by decide)
      have f:=(how.row pj hV).frozenAt 0
      have ho:=how.put pj hV 0 (.int .i64 x0)
      rw [List.set_set] at ho;have hdg:=hC.hd.turned HBd.out how hV (z0f _ ⟨pb,0,none⟩ (.int .i64 x0))
      clear hd hcl;refine zw rfl fun K hK=>?_
      go_simp;exact hK _ _ (.m {hC with ow:=⟨⟨x0,p1,p2,p3,p4,p5⟩,(mix6 (z2p HX.out).1 hpv).1,ho⟩,hd:=hdg,gr:=z0t hC.gr (z0f _ ⟨pb,0,none⟩ (.int .i64 x0)) (fun x e=>by cases e;exact HPb.out)})
     ·clear hd hcl;refine zw rfl fun K hK=>?_
      go_simp;exact hK _ _ (.m {hC with h8:=fun _=>rfl})
     ·obtain rfl:=hC.h8 (hd 8 (by kernel_rfl));obtain rfl:=hC.h5 (hd 5 (by kernel_rfl));obtain ⟨pv,hpv,how⟩:=hC.ow;obtain ⟨p0,p1,p2,p3,p4,p5⟩:=pv;have hV:=z0a (r':=(⟨some ⟨pb,0,none⟩,6,6,38,[.int .i64 p0,.int .i64 p1,.int .i64 p2,.int .i64 p3,.int .i64 p4,.int .i64 p5]⟩:Rw)) HPp.out
      have y:=(how.row pj hV).cellAt 1 (by decide)
      have f:=(how.row pj hV).frozenAt 1
      have ho:=how.put pj hV 1 (.int .i64 x1)
      rw [List.set_set] at ho;have hdg:=hC.hd.turned HBd.out how hV (z0f _ ⟨pb,1,none⟩ (.int .i64 x1))
      clear hd hcl;refine zw rfl fun K hK=>?_
      go_simp;exact hK _ _ (.m {hC with ow:=⟨⟨p0,x1,p2,p3,p4,p5⟩,(mix6 (z2p HX.out).1 hpv).2.1,ho⟩,hd:=hdg,gr:=z0t hC.gr (z0f _ ⟨pb,1,none⟩ (.int .i64 x1)) (fun x e=>by cases e;exact HPb.out)})
    ·rintro Ld b W hL ⟨hC,rfl⟩;obtain ⟨pv,hpv,how⟩:=hC.ow;have HDm:=zh hC.hd;have HGm:=zh hC.gr;have HWm:=zh how;clear hC hL how;simp only [Act.put,zT,zZ,zS];go_wp2_with fail;go_meet;exact ⟨pv,hpv,HWm,HDm,HGm⟩
   ·have HWp:Hid (Ow w0 w1 (some g) M L (PP.set pj (⟨some ⟨pb,0,none⟩,6,6,38,[.int .i64 q0,.int .i64 q1,.int .i64 q2,.int .i64 q3,.int .i64 q4,.int .i64 q5]⟩:Rw))):=by unfold Hid;rw [z1p HPp.out];exact HW1.out
    go_wp2_with fail;refine z1k (ShI w0 w g B M L PP (w.heap.size+1) (w.heap.size+1+1) pb yi pj so ch ra ba ro co x0 x1 x2 x3 x4 x5 x6 x7 q0 q1 q2 q3 q4 q5) (by kernel_rfl) (by kernel_rfl) ?_ ?_ ?_
    ·refine @ShI.m _ _ _ _ _ _ _ _ _ _ _ _ _ _ _ _ _ _ _ _ _ _ _ _ _ _ _ _ _ _ _ _ _ _ _ _ undef undef undef undef undef undef undef undef undef undef undef undef ⟨⟨⟨q0,q1,q2,q3,q4,q5⟩,HQv.out,HWp.out.drew⟩,HD1.out.drew,z1z HG1.out,?_,?_,?_,?_,?_,?_,?_,?_,?_,?_,?_,?_⟩ ?_
     all_goals first|(intro h;cases h)|simp only [Act.put,zT,zZ,zS]
    ·rintro jj Ld b W hj hf hcl hd ⟨hC,rfl⟩;have hj':jj<15:=hj
     have hcase:jj=0∨jj=1∨jj=2∨jj=3∨jj=4∨jj=5∨jj=6∨jj=7∨jj=8∨jj=9∨jj=10∨jj=11∨jj=12∨jj=13∨jj=14:=by omega
     clear hj hj';simp only [Act.put,zT,zZ,zS];rcases hcase with rfl|rfl|rfl|rfl|rfl|rfl|rfl|rfl|rfl|rfl|rfl|rfl|rfl|rfl|rfl
     ·clear hd hcl;refine zw rfl fun K hK=>?_
      go_simp;exact hK _ _ (.m {hC with h0:=fun _=>rfl})
     ·obtain rfl:=hC.h0 (hd 0 (by kernel_rfl));clear hd hcl;refine zw rfl fun K hK=>?_
      go_simp;exact hK _ _ (.m {hC with h1:=fun _=>rfl})
     ·obtain rfl:=hC.h1 (hd 1 (by kernel_rfl));obtain ⟨pv,hpv,how⟩:=hC.ow;have c0:=(how.row xi (by rw [zqf HNpx.out];exact HXp.out)).cellAt 0 (by decide)
      clear hd hcl;refine zw rfl fun K hK=>?_
      go_simp;exact hK _ _ (.m {hC with h2:=fun _=>rfl})
     ·clear hd hcl;refine zw rfl fun K hK=>?_
      go_simp;exact hK _ _ (.m {hC with h3:=fun _=>rfl})
     ·obtain rfl:=hC.h3 (hd 3 (by kernel_rfl));clear hd hcl;refine zw rfl fun K hK=>?_
      go_simp;exact hK _ _ (.m {hC with h4:=fun _=>rfl})
     ·obtain rfl:=hC.h4 (hd 4 (by kernel_rfl));obtain ⟨pv,hpv,how⟩:=hC.ow;have c1:=(how.row xi (by rw [zqf HNpx.out];exact HXp.out)).cellAt 1 (by decide)
      clear hd hcl;refine zw rfl fun K hK=>?_
      go_simp;exact hK _ _ (.m {hC with h5:=fun _=>rfl})
     ·clear hd hcl;refine zw rfl fun K hK=>?_
      go_simp;exact hK _ _ (.m {hC with h6:=fun _=>rfl})
     ·obtain rfl:=hC.h6 (hd 6 (by kernel_rfl));clear hd hcl;refine zw rfl fun K hK=>?_
      go_simp;exact hK _ _ (.m {hC with h7:=fun _=>rfl})
     ·obtain rfl:=hC.h7 (hd 7 (by kernel_rfl));obtain ⟨pv,hpv,how⟩:=hC.ow;have c2:=(how.row xi (by rw [zqf HNpx.out];exact HXp.out)).cellAt 2 (by decide)
      clear hd hcl;refine zw rfl fun K hK=>?_
      go_simp;exact hK _ _ (.m {hC with h8:=fun _=>rfl})
     ·clear hd hcl;refine zw rfl fun K hK=>?_
      go_simp;exact hK _ _ (.m {hC with h9:=fun _=>rfl})
     ·obtain rfl:=hC.h9 (hd 9 (by kernel_rfl));obtain rfl:=hC.h2 (hd 2 (by kernel_rfl));obtain ⟨pv,hpv,how⟩:=hC.ow;obtain ⟨p0,p1,p2,p3,p4,p5⟩:=pv;have hV:=z0a (r':=(⟨some ⟨pb,0,none⟩,6,6,38,[.int .i64 p0,.int .i64 p1,.int .i64 p2,.int .i64 p3,.int .i64 p4,.int .i64 p5]⟩:Rw)) HPp.out
      have y:=(how.row pj hV).cellAt 0 (by decide)
      have f:=(how.row pj hV).frozenAt 0
      have ho:=how.put pj hV 0 (.int .i64 x0)
      rw [List.set_set] at ho;have hdg:=hC.hd.turned HBd.out how hV (z0f _ ⟨pb,0,none⟩ (.int .i64 x0))
      clear hd hcl;refine zw rfl fun K hK=>?_
      go_simp;exact hK _ _ (.m {hC with ow:=⟨⟨x0,p1,p2,p3,p4,p5⟩,(mix6 (z2p HX.out).1 hpv).1,ho⟩,hd:=hdg,gr:=z0t hC.gr (z0f _ ⟨pb,0,none⟩ (.int .i64 x0)) (fun x e=>by cases e;exact HPb.out)})
     ·clear hd hcl;refine zw rfl fun K hK=>?_
      go_simp;exact hK _ _ (.m {hC with h11:=fun _=>rfl})
     ·obtain rfl:=hC.h11 (hd 11 (by kernel_rfl));obtain rfl:=hC.h5 (hd 5 (by kernel_rfl));obtain ⟨pv,hpv,how⟩:=hC.ow;obtain ⟨p0,p1,p2,p3,p4,p5⟩:=pv;have hV:=z0a (r':=(⟨some ⟨pb,0,none⟩,6,6,38,[.int .i64 p0,.int .i64 p1,.int .i64 p2,.int .i64 p3,.int .i64 p4,.int .i64 p5]⟩:Rw)) HPp.out
      have y:=(how.row pj hV).cellAt 1 (by decide)
      have f:=(how.row pj hV).frozenAt 1
      have ho:=how.put pj hV 1 (.int .i64 x1)
      rw [List.set_set] at ho;have hdg:=hC.hd.turned HBd.out how hV (z0f _ ⟨pb,1,none⟩ (.int .i64 x1))
      clear hd hcl;refine zw rfl fun K hK=>?_
      go_simp;exact hK _ _ (.m {hC with ow:=⟨⟨p0,x1,p2,p3,p4,p5⟩,(mix6 (z2p HX.out).1 hpv).2.1,ho⟩,hd:=hdg,gr:=z0t hC.gr (z0f _ ⟨pb,1,none⟩ (.int .i64 x1)) (fun x e=>by cases e;exact HPb.out)})
     ·clear hd hcl;refine zw rfl fun K hK=>?_
      go_simp;exact hK _ _ (.m {hC with h13:=fun _=>rfl})
     ·obtain rfl:=hC.h13 (hd 13 (by kernel_rfl));obtain rfl:=hC.h8 (hd 8 (by kernel_rfl));obtain ⟨pv,hpv,how⟩:=hC.ow;obtain ⟨p0,p1,p2,p3,p4,p5⟩:=pv;have hV:=z0a (r':=(⟨some ⟨pb,0,none⟩,6,6,38,[.int .i64 p0,.int .i64 p1,.int .i64 p2,.int .i64 p3,.int .i64 p4,.int .i64 p5]⟩:Rw)) HPp.out
      have y:=(how.row pj hV).cellAt 2 (by decide)
      have f:=(how.row pj hV).frozenAt 2
      have ho:=how.put pj hV 2 (.int .i64 x2)
      rw [List.set_set] at ho;have hdg:=hC.hd.turned HBd.out how hV (z0f _ ⟨pb,2,none⟩ (.int .i64 x2))
      clear hd hcl;refine zw rfl fun K hK=>?_
      go_simp;exact hK _ _ (.m {hC with ow:=⟨⟨p0,p1,x2,p3,p4,p5⟩,(mix6 (z2p HX.out).1 hpv).2.2.1,ho⟩,hd:=hdg,gr:=z0t hC.gr (z0f _ ⟨pb,2,none⟩ (.int .i64 x2)) (fun x e=>by cases e;exact HPb.out)})
    ·rintro Ld b W hL ⟨hC,rfl⟩;obtain ⟨pv,hpv,how⟩:=hC.ow;have HDm:=zh hC.hd;have HGm:=zh hC.gr;have HWm:=zh how;clear hC hL how;simp only [Act.put,zT,zZ,zS];go_wp2_with fail;go_meet;exact ⟨pv,hpv,HWm,HDm,HGm⟩
   ·have HSb:Hid (∀ y z:Nat,y<4->z<100->snV ⟨(so:Int),ch,ra,ba,ro,co⟩ ⟨⟨q0,q1,q2,q3,q4,q5⟩,(y:Int),(z:Int)⟩=true):=fun y z hy hz=>z2ao HQv.out (by omega) (by omega)
    go_wp2_with fail;have HWs:Hid (Ow w0 w1 (some g) M L (PP.set yi (⟨some ⟨w.heap.size+1+1,0,none⟩,8,8,40,[.int .i64 0,.int .i64 0,.int .i64 0,.int .i64 0,.int .i64 0,.int .i64 0,.int .i64 0,.int .i64 0]⟩:Rw))):=by unfold Hid;rw [z1p HYp.out];exact HW1.out
    refine z1k (SbI w0 w g B M L PP (w.heap.size+1) (w.heap.size+1+1) pb yi pj so ch ra ba ro co x0 x1 x2 x3 x4 x5 x6 x7 q0 q1 q2 q3 q4 q5) (by kernel_rfl) (by kernel_rfl) ?_ ?_ ?_
    ·refine @SbI.m _ _ _ _ _ _ _ _ _ _ _ _ _ _ _ _ _ _ _ _ _ _ _ _ _ _ _ _ _ _ _ _ _ _ _ _ undef undef undef undef undef undef ⟨⟨_,rfl,HWs.out.drew,(fun h=>by cases h)⟩,HD1.out.drew,z1z HG1.out,?_,?_,?_,?_,?_,?_⟩ ?_
     all_goals first|(intro h;cases h)|simp only [Act.put,zT,zZ,zS]
    ·rintro jj Ld b W hj hf hcl hd ⟨hC,rfl⟩;have hj':jj<7:=hj
     have hcase:jj=0∨jj=1∨jj=2∨jj=3∨jj=4∨jj=5∨jj=6:=by omega
     clear hj hj';simp only [Act.put,zT,zZ,zS];rcases hcase with rfl|rfl|rfl|rfl|rfl|rfl|rfl
     ·obtain ⟨R,hRl,how,hRp⟩:=hC.ow;obtain ⟨c0,c1,c2,c3,c4,c5⟩:=zc6 (how.row pj (by rw [zqf HNpy.out];exact HPp.out))
      clear hd hcl;refine zw rfl fun K hK=>?_
      go_simp;exact hK _ _ (.m {hC with h0:=fun _=>rfl})
     ·clear hd hcl;refine zw rfl fun K hK=>?_
      go_simp;exact hK _ _ (.m {hC with h1:=fun _=>rfl})
     ·obtain rfl:=hC.h1 (hd 1 (by kernel_rfl));obtain ⟨R,hRl,how,hRp⟩:=hC.ow;have hcall:=z1e how hC.hd 4 (by omega) (by omega)
      clear hd hcl;refine zw rfl fun K hK=>?_
      go_simp;refine (hcall).mono ?_
      rintro e W' ⟨r,rfl,hr,hd',how',hgr⟩;exact hK _ _ (.m {hC with ow:=⟨R,hRl,how',hRp⟩,hd:=hd',gr:=z0j hC.gr hgr,h2:=fun _=>⟨r,hr,rfl⟩})
     ·clear hd hcl;refine zw rfl fun K hK=>?_
      go_simp;exact hK _ _ (.m {hC with h3:=fun _=>rfl})
     ·obtain rfl:=hC.h3 (hd 3 (by kernel_rfl));obtain ⟨R,hRl,how,hRp⟩:=hC.ow;have hcall:=z1e how hC.hd 100 (by omega) (by omega)
      clear hd hcl;refine zw rfl fun K hK=>?_
      go_simp;refine (hcall).mono ?_
      rintro e W' ⟨r,rfl,hr,hd',how',hgr⟩;exact hK _ _ (.m {hC with ow:=⟨R,hRl,how',hRp⟩,hd:=hd',gr:=z0j hC.gr hgr,h4:=fun _=>⟨r,hr,rfl⟩})
     ·obtain rfl:=hC.h0 (hd 0 (by kernel_rfl));obtain ⟨z2,hz2,rfl⟩:=hC.h2 (hd 2 (by kernel_rfl))
      obtain ⟨z4,hz4,rfl⟩:=hC.h4 (hd 4 (by kernel_rfl))
      clear hd hcl;refine zw rfl fun K hK=>?_
      go_simp;refine hK _ _ (.m (h:=?_) {hC with h5:=fun _=>⟨⟨⟨q0,q1,q2,q3,q4,q5⟩,z2,z4⟩,HSb.out z2 z4 hz2 hz4,rfl⟩});simp only [Act.put,List.setIfInBounds_toArray,zqd,zqe,Sn.vs]
     ·obtain ⟨sv,hsv,rfl⟩:=hC.h5 (hd 5 (by kernel_rfl))
      obtain ⟨R,hRl,how,hRp⟩:=hC.ow;obtain ⟨r0,r1,r2,r3,r4,r5,r6,r7,rfl⟩:=z9an hRl
      have hV:=z0a (r':=(⟨some ⟨(w.heap.size+1+1),0,none⟩,8,8,40,[r0,r1,r2,r3,r4,r5,r6,r7]⟩:Rw)) HYp.out
      obtain ⟨⟨s0,s1,s2,s3,s4,s5⟩,s6,s7⟩:=sv
      obtain ⟨y0,y1,y2,y3,y4,y5,y6,y7⟩:=zc8 (how.row yi hV);obtain ⟨f0,f1,f2,f3,f4,f5,f6,f7⟩:=zf8 (how.row yi hV);have HZ:=zh (z1bn how yi hV (.int .i64 s0) (.int .i64 s1) (.int .i64 s2) (.int .i64 s3) (.int .i64 s4) (.int .i64 s5) (.int .i64 s6) (.int .i64 s7))
      rw [List.set_set] at HZ;have HDq:=zh (z4q hC.hd HBd.out how hV (.int .i64 s0) (.int .i64 s1) (.int .i64 s2) (.int .i64 s3) (.int .i64 s4) (.int .i64 s5) (.int .i64 s6) (.int .i64 s7))
      clear hd hcl;unfold Sn.vs;refine zw rfl fun K hK=>?_
      go_simp;refine hK _ _ (.m (h:=?_) {hC with ow:=⟨_,rfl,HZ.out,fun _=>⟨⟨⟨s0,s1,s2,s3,s4,s5⟩,s6,s7⟩,hsv,rfl⟩⟩,hd:=HDq.out,gr:=z9c hC.gr (w.heap.size+1+1) HYb.out (.int .i64 s0) (.int .i64 s1) (.int .i64 s2) (.int .i64 s3) (.int .i64 s4) (.int .i64 s5) (.int .i64 s6) (.int .i64 s7),h5:=fun _=>⟨⟨⟨s0,s1,s2,s3,s4,s5⟩,s6,s7⟩,hsv,rfl⟩});simp only [Act.put,List.setIfInBounds_toArray,zqd,zqe,Sn.vs]
    ·rintro Ld b W hL ⟨hC,rfl⟩;obtain ⟨R,hRl,how,hRp⟩:=hC.ow;obtain ⟨sv,hsv,rfl⟩:=hRp (hL 6 (by show 6<7;decide))
     have HDf:=zh hC.hd;have HGf:=zh hC.gr;have HSv:=zh hsv;obtain ⟨⟨s0,s1,s2,s3,s4,s5⟩,s6,s7⟩:=sv
     obtain ⟨z0,z1,z2,z3,z4,z5,z6,z7⟩:=zc8 (how.row yi (z0a HYp.out));have HE:Hid (Ow w0 W (some g) M L O):=by
      unfold Hid;obtain ⟨l2,hl2⟩:=HLe.out;rw [hl2,<- HYi.out,z0o] at how;exact how.fewO
     clear hC how hL hRl hRp hsv;simp only [Act.put,zT,zZ,zS];(first|unfold Sn.vs at z0 z1 z2 z3 z4 z5 z6 z7|dsimp only at z0 z1 z2 z3 z4 z5 z6 z7);go_wp2_with fail;refine bodyPost_ret (v:=.agg #[.int .i64 s0,.int .i64 s1,.int .i64 s2,.int .i64 s3,.int .i64 s4,.int .i64 s5,.int .i64 s6,.int .i64 s7]) (by simp [results,Tryz.results50,go_sem,z0,z1,z2,z3,z4,z5,z6,z7]) rfl ?_
     exact ⟨⟨⟨s0,s1,s2,s3,s4,s5⟩,s6,s7⟩,rfl,HSv.out,HDf.out,HE.out,HGf.out⟩
  case rest=>
   obtain ⟨⟨r0,r1,r2,r3,r4,r5⟩,hpv,HWq,HDm,HGm⟩:=hcut
   have how:=HWq.out;obtain ⟨PP2,hPP2⟩:∃ z,PP.set pj (⟨some ⟨pb,0,none⟩,6,6,38,[.int .i64 r0,.int .i64 r1,.int .i64 r2,.int .i64 r3,.int .i64 r4,.int .i64 r5]⟩:Rw)=z:=⟨_,rfl⟩
   have HX2:=HXp;have HY2:=HYp;have HP2:=HPp;have HL2:=HLe;clear HXp HYp HPp HLe HQv;have HXp:Hid (PP2[xi]?=some (⟨some ⟨w.heap.size+1,0,none⟩,8,8,40,[.int .i64 x0,.int .i64 x1,.int .i64 x2,.int .i64 x3,.int .i64 x4,.int .i64 x5,.int .i64 x6,.int .i64 x7]⟩:Rw)):=by unfold Hid;rw [<- hPP2,zqf HNpx.out];exact HX2.out
   have HYp:Hid (PP2[yi]?=some (⟨some ⟨w.heap.size+1+1,0,none⟩,8,8,40,[.int .i64 0,.int .i64 0,.int .i64 0,.int .i64 0,.int .i64 0,.int .i64 0,.int .i64 0,.int .i64 0]⟩:Rw)):=by unfold Hid;rw [<- hPP2,zqf (Ne.symm HNpy.out)];exact HY2.out
   have HPp:Hid (PP2[pj]?=some (⟨some ⟨pb,0,none⟩,6,6,38,[.int .i64 r0,.int .i64 r1,.int .i64 r2,.int .i64 r3,.int .i64 r4,.int .i64 r5]⟩:Rw)):=by unfold Hid;rw [<- hPP2];exact z0a HP2.out
   have HLe:Hid (∃ l2,PP2=O++l2):=by
    unfold Hid;obtain ⟨l2,hl2⟩:=HL2.out;rw [<- hPP2,hl2];exact ⟨_,List.set_append_right _ _ (by have:=HPl.out;omega)⟩
   have HQv:=zh hpv;have HWm:Hid (Ow w0 wc (some g) M L PP2):=by unfold Hid;rw [<- hPP2];exact how
   clear how hpv hPP2 HX2 HY2 HP2 HL2 HWq;have HSc:Hid (∀ z:Nat,z<100->snV ⟨(so:Int),ch,ra,ba,ro,co⟩ ⟨⟨r0,r1,r2,r3,r4,r5⟩,x6,(z:Int)⟩=true):=fun z hz=>z2ao HQv.out (z2p HX.out).2.1 (by omega)
   go_wp2_with fail;have HWs:Hid (Ow w0 wc (some g) M L (PP2.set yi (⟨some ⟨w.heap.size+1+1,0,none⟩,8,8,40,[.int .i64 0,.int .i64 0,.int .i64 0,.int .i64 0,.int .i64 0,.int .i64 0,.int .i64 0,.int .i64 0]⟩:Rw))):=by unfold Hid;rw [z1p HYp.out];exact HWm.out
   refine z1k (SdI w0 w g B M L PP2 (w.heap.size+1) (w.heap.size+1+1) pb yi pj so ch ra ba ro co x0 x1 x2 x3 x4 x5 x6 x7 r0 r1 r2 r3 r4 r5) (by kernel_rfl) (by kernel_rfl) ?_ ?_ ?_
   ·refine @SdI.m _ _ _ _ _ _ _ _ _ _ _ _ _ _ _ _ _ _ _ _ _ _ _ _ _ _ _ _ _ _ _ _ _ _ _ _ undef undef undef undef undef undef ⟨⟨_,rfl,HWs.out.drew,(fun h=>by cases h)⟩,HDm.out.drew,z1z HGm.out,?_,?_,?_,?_,?_,?_⟩ ?_
    all_goals first|(intro h;cases h)|simp only [Act.put,zT,zZ,zS]
   ·rintro jj Ld b W hj hf hcl hd ⟨hC,rfl⟩;have hj':jj<7:=hj
    have hcase:jj=0∨jj=1∨jj=2∨jj=3∨jj=4∨jj=5∨jj=6:=by omega
    clear hj hj';simp only [Act.put,zT,zZ,zS];rcases hcase with rfl|rfl|rfl|rfl|rfl|rfl|rfl
    ·obtain ⟨R,hRl,how,hRp⟩:=hC.ow;obtain ⟨c0,c1,c2,c3,c4,c5⟩:=zc6 (how.row pj (by rw [zqf HNpy.out];exact HPp.out))
     clear hd hcl;refine zw rfl fun K hK=>?_
     go_simp;exact hK _ _ (.m {hC with h0:=fun _=>rfl})
    ·clear hd hcl;refine zw rfl fun K hK=>?_
     go_simp;exact hK _ _ (.m {hC with h1:=fun _=>rfl})
    ·obtain rfl:=hC.h1 (hd 1 (by kernel_rfl));obtain ⟨R,hRl,how,hRp⟩:=hC.ow;have c6:=(how.row xi (by rw [zqf HNxy.out];exact HXp.out)).cellAt 6 (by decide)
     clear hd hcl;refine zw rfl fun K hK=>?_
     go_simp;exact hK _ _ (.m {hC with h2:=fun _=>rfl})
    ·clear hd hcl;refine zw rfl fun K hK=>?_
     go_simp;exact hK _ _ (.m {hC with h3:=fun _=>rfl})
    ·obtain rfl:=hC.h3 (hd 3 (by kernel_rfl));obtain ⟨R,hRl,how,hRp⟩:=hC.ow;have hcall:=z1e how hC.hd 100 (by omega) (by omega)
     clear hd hcl;refine zw rfl fun K hK=>?_
     go_simp;refine (hcall).mono ?_
     rintro e W' ⟨r,rfl,hr,hd',how',hgr⟩;exact hK _ _ (.m {hC with ow:=⟨R,hRl,how',hRp⟩,hd:=hd',gr:=z0j hC.gr hgr,h4:=fun _=>⟨r,hr,rfl⟩})
    ·obtain rfl:=hC.h0 (hd 0 (by kernel_rfl));obtain rfl:=hC.h2 (hd 2 (by kernel_rfl));obtain ⟨z4,hz4,rfl⟩:=hC.h4 (hd 4 (by kernel_rfl))
     clear hd hcl;refine zw rfl fun K hK=>?_
     go_simp;refine hK _ _ (.m (h:=?_) {hC with h5:=fun _=>⟨⟨⟨r0,r1,r2,r3,r4,r5⟩,x6,z4⟩,HSc.out z4 hz4,rfl⟩});simp only [Act.put,List.setIfInBounds_toArray,zqd,zqe,Sn.vs]
    ·obtain ⟨sv,hsv,rfl⟩:=hC.h5 (hd 5 (by kernel_rfl))
     obtain ⟨R,hRl,how,hRp⟩:=hC.ow;obtain ⟨r0,r1,r2,r3,r4,r5,r6,r7,rfl⟩:=z9an hRl
     have hV:=z0a (r':=(⟨some ⟨(w.heap.size+1+1),0,none⟩,8,8,40,[r0,r1,r2,r3,r4,r5,r6,r7]⟩:Rw)) HYp.out
     obtain ⟨⟨s0,s1,s2,s3,s4,s5⟩,s6,s7⟩:=sv
     obtain ⟨y0,y1,y2,y3,y4,y5,y6,y7⟩:=zc8 (how.row yi hV);obtain ⟨f0,f1,f2,f3,f4,f5,f6,f7⟩:=zf8 (how.row yi hV);have HZ:=zh (z1bn how yi hV (.int .i64 s0) (.int .i64 s1) (.int .i64 s2) (.int .i64 s3) (.int .i64 s4) (.int .i64 s5) (.int .i64 s6) (.int .i64 s7))
     rw [List.set_set] at HZ;have HDq:=zh (z4q hC.hd HBd.out how hV (.int .i64 s0) (.int .i64 s1) (.int .i64 s2) (.int .i64 s3) (.int .i64 s4) (.int .i64 s5) (.int .i64 s6) (.int .i64 s7))
     clear hd hcl;unfold Sn.vs;refine zw rfl fun K hK=>?_
     go_simp;refine hK _ _ (.m (h:=?_) {hC with ow:=⟨_,rfl,HZ.out,fun _=>⟨⟨⟨s0,s1,s2,s3,s4,s5⟩,s6,s7⟩,hsv,rfl⟩⟩,hd:=HDq.out,gr:=z9c hC.gr (w.heap.size+1+1) HYb.out (.int .i64 s0) (.int .i64 s1) (.int .i64 s2) (.int .i64 s3) (.int .i64 s4) (.int .i64 s5) (.int .i64 s6) (.int .i64 s7),h5:=fun _=>⟨⟨⟨s0,s1,s2,s3,s4,s5⟩,s6,s7⟩,hsv,rfl⟩});simp only [Act.put,List.setIfInBounds_toArray,zqd,zqe,Sn.vs]
   ·rintro Ld b W hL ⟨hC,rfl⟩;obtain ⟨R,hRl,how,hRp⟩:=hC.ow;obtain ⟨sv,hsv,rfl⟩:=hRp (hL 6 (by show 6<7;decide))
    have HDf:=zh hC.hd;have HGf:=zh hC.gr;have HSv:=zh hsv;obtain ⟨⟨s0,s1,s2,s3,s4,s5⟩,s6,s7⟩:=sv
    obtain ⟨z0,z1,z2,z3,z4,z5,z6,z7⟩:=zc8 (how.row yi (z0a HYp.out));have HE:Hid (Ow w0 W (some g) M L O):=by
     unfold Hid;obtain ⟨l2,hl2⟩:=HLe.out;rw [hl2,<- HYi.out,z0o] at how;exact how.fewO
    clear hC how hL hRl hRp hsv;simp only [Act.put,zT,zZ,zS];(first|unfold Sn.vs at z0 z1 z2 z3 z4 z5 z6 z7|dsimp only at z0 z1 z2 z3 z4 z5 z6 z7);go_wp2_with fail;refine bodyPost_ret (v:=.agg #[.int .i64 s0,.int .i64 s1,.int .i64 s2,.int .i64 s3,.int .i64 s4,.int .i64 s5,.int .i64 s6,.int .i64 s7]) (by simp [results,Tryz.results50,go_sem,z0,z1,z2,z3,z4,z5,z6,z7]) rfl ?_
    exact ⟨⟨⟨s0,s1,s2,s3,s4,s5⟩,s6,s7⟩,rfl,HSv.out,HDf.out,HE.out,HGf.out⟩
end Go.Proofs.YtpmofjomadibmaaGreatDoor
