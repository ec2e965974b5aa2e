/- ClassifyJudgesW LawSl OpenRy OpenSn ClsTab -/
import Derived.Test.YtpmofjomadibmaaGreatDoorQ24
import Derived.ProofKit
import Derived.OpenShut
import Derived.Carry
import Derived.Deep.Slices
import Derived.Deep.Fields
import Derived.ChangeSame
import Derived.Test.YtpmofjomadibmaaGreatDoorRows
import Derived.LaidMore
import Derived.Lay
import Derived.SevenTiedAt
import Derived.Stop.Joined
import Derived.Lib.SmallJoins
namespace Go.Proofs.YtpmofjomadibmaaGreatDoor
set_option maxHeartbeats 16000000
open Go.RowKit Go.Sort
open Go.ChangeMaps (setBlock heap_setBlock_same heap_setBlock_other)
set_option linter.unusedVariables false
set_option maxRecDepth 100000
open Cl
theorem z3bp {w0 w:World}{M:List (Nat×Value)}{L:List Ob}{O:List Rw}(h:Ow w0 w none M L O)(A:Option Addr)(n c B:Nat)(ts:List Int)(hn:ts.length=n)(hl:n≤140737488355328)(hB:B≤w0.heap.size)(hs:Sl w B A (z0p ts)):
  Calls Tryz.prog 10 #[.slice A n c] w fun e w'=>∃ g,e=.returned (.pointer (some ⟨g,0,none⟩))∧Dice w' g B∧Ow w0 w' (some g) M L O:=by
 refine (z9g A n c B ts w hn hl hs (zqq hB h.size)).mono ?_
 rintro e w' ⟨he,hd,hz,hb⟩;have h':=h.go hb
 refine ⟨_,he,hd,⟨⟨h'.st.below,fun x e=>by cases e;exact ⟨by omega,h.size⟩,fun i b v hi=>?_,h'.st.one,fun o ho=>?_⟩,h'.own,fun i r hi b hb'=>?_,h'.two⟩⟩
 ·obtain ⟨h1,h2,h3,h4,_⟩:=h'.st.box i b v hi
  exact ⟨h1,h2,h3,h4,fun e=>by cases e;have:=(h.st.box i _ v hi).1;omega⟩
 ·obtain ⟨h1,h2,h3,B,hB,hs2,hne⟩:=h.st.held o ho
  refine ⟨h1,h2,h3,B,zqq hB hb.size,hs2.below (hb.mono hB),fun ad e h0=>⟨fun e2=>?_,(hne ad e h0).2⟩⟩
  obtain ⟨ad',e',hbk,_⟩:=hs2 (by omega)
  rw [e] at e';obtain rfl:=zqk e'
  have:=zqk e2
  omega
 ·obtain ⟨_,a2,a3⟩:=h'.ap i r hi b hb'
  exact ⟨fun e=>by have:=(h.lt hi hb').1;have:=zqk e;omega,a2,a3⟩
theorem z6l {α:Type}{L:List α}{a b c:α}(i j k:Nat)(hi:L[i]?=some a)(hj:L[j]?=some b)(hk:L[k]?=some c):∀ o∈[a,b,c],o∈L:=fun o ho=>by
 simp only [List.mem_cons,List.mem_nil_iff,or_false] at ho;rcases ho with rfl | rfl | rfl
 ·exact List.mem_of_getElem? hi
 ·exact List.mem_of_getElem? hj
 ·exact List.mem_of_getElem? hk
def lenV:Value→Nat
 | .slice _ n _=>n
 | _=>0
def RLp (w:World)(g B N:Nat)(L:List Ob)(O:List Rw)(x14:Value)(wr:World):Prop:=
 ∃ (A:Option Addr) (n c:Nat) (l:List Sn),x14=.slice A n c∧n≤N∧Hid (l.length=n)∧Hid (Dice wr g B)∧Hid (Ox w wr (some g) [] L O [⟨A,n,c,40,8,fl l⟩])
def RCj (w:World)(g B sb ab:Nat)(P1:Option Addr)(m1 e1:Nat)(P2:Option Addr)(m2 e2:Nat)(v14:Value)(wx:World):Prop:=
 ∃ (s:Pl) (Y1:Option Addr) (u1 v1:Nat) (Y2:Option Addr) (u2 v2:Nat) (pa qa:List Int) (A:Option Addr) (n c e3:Nat) (l:List Sn),v14=.slice A n c∧Hid (Dice wx g B)∧Hid (Ow w wx (some g) [] [⟨Y1,u1,v1,z0p pa⟩,⟨Y2,u2,v2,z0p qa⟩,⟨A,n*8,e3,fl l⟩] [Rw.pair B 27 (.slice P1 m1 e1) (.slice P2 m2 e2),⟨some ⟨sb,0,none⟩,6,6,33,s.vs.toList⟩,Rw.pair ab 27 (.slice Y1 u1 v1) (.slice Y2 u2 v2)])
structure JpK (w0:World)(g:Option Nat)(L:List Ob)(OO:List Rw)(sb:Nat)(p0 p1 p2 p3 p4 p5 k r:Int)(Ld:Nat→Bool)(u0 u1 u2 u3 u4 u5 u6:Value)(W:World):Prop where
 ow:Ow w0 W g [] L OO
 h0:Ld 0=true→u0=.agg #[.int .i64 p0,.int .i64 p1,.int .i64 p2,.int .i64 p3,.int .i64 p4,.int .i64 p5]
 h1:Ld 1=true→u1=.int .i64 k
 h2:Ld 2=true→u2=.int .i64 r
 h3:Ld 3=true→u3=.agg #[.int .i64 p0,.int .i64 p1,.int .i64 p2,.int .i64 p3,.int .i64 p4,.int .i64 p5]
 h4:Ld 4=true→u4=.int .i64 k
 h5:Ld 5=true→u5=.int .i64 r
 h6:Ld 6=true→u6=.bool false
def JpI (w0:World)(g:Option Nat)(L:List Ob)(OO:List Rw)(sb:Nat)(p0 p1 p2 p3 p4 p5 k r:Int)(A0:Act)(Ld:Nat→Bool)(a:Act)(W:World):Prop:=
 ∃ (u0 u1 u2 u3 u4 u5 u6:Value),a=(((((((A0.put (some 155) u0).put (some 156) u1).put (some 157) u2).put (some 158) u3).put (some 159) u4).put (some 160) u5).put (some 161) u6)∧JpK w0 g L OO sb p0 p1 p2 p3 p4 p5 k r Ld u0 u1 u2 u3 u4 u5 u6 W
theorem z9ag {a:Int}{i:Nat}(h:i<7):∃ k:Int,([.int .i64 1,.int .i64 2,.int .i64 3,.int .i64 4,.int .i64 5,.int .i64 6,.int .i64 a]:List Value)[i]?=some (.int .i64 k):=by
 have hcase:i=0∨i=1∨i=2∨i=3∨i=4∨i=5∨i=6:=by omega
 rcases hcase with rfl | rfl | rfl | rfl | rfl | rfl | rfl
 all_goals exact ⟨_,rfl⟩
def RPt (w:World)(g:Option Nat)(L:List Ob)(O:List Rw)(x:Value)(wr:World):Prop:=
 ∃ i:Nat,i≤7∧x=.int .i64 (i:Int)∧Hid (Ow w wr g [] L O)
theorem z5u (A0:Option Addr)(n0 c0:Nat)(ts:List Int)(A1:Option Addr)(n1 c1:Nat)(rl:List Sn)(P1:Option Addr)(m1 e1:Nat)(p:List Int)(P2:Option Addr)(m2 e2:Nat)(q:List Int)(what kind:Int)(w:World)(hn0:ts.length=n0)(hl0:n0≤9223372036854775807)(hs0:Sl w w.heap.size A0 (z0p ts))(hn1:rl.length=n1)(hl1:n1≤9223372036854775807)(hs1:Sl w w.heap.size A1 (fl rl))
  (hp:p.length=m1) (hpc:m1≤e1) (hp1:m1≤281474976710656) (hp2:Sl w w.heap.size P1 (z0p p)) (hq:q.length=m2) (hqc:m2≤e2) (hq1:m2≤281474976710656) (hq2:Sl w w.heap.size P2 (z0p q)) (hwh : -9223372036854775808≤what∧what≤9223372036854775807) (ht:Tab w) :
  Calls Tryz.prog 3 #[.slice A0 n0 c0,.slice A1 n1 c1,.agg #[.slice P1 m1 e1,.slice P2 m2 e2],.int .i64 what,.int .i64 kind] w fun e w'=>e=.returned (.bool true)∧Below w.heap.size w w':=by
 have HB1:Hid (Below w.heap.size w (w.alloc (.cells #[.slice P1 m1 e1,.slice P2 m2 e2] 27))):=z0h _ _
 have HT:=zh ht;have HAw:Hid (Calls Tryz.prog 9 #[] (w.alloc (.cells #[.slice P1 m1 e1,.slice P2 m2 e2] 27)) fun e w'=>e=.returned (.bool true)∧Below (w.alloc (.cells #[.slice P1 m1 e1,.slice P2 m2 e2] 27)).heap.size (w.alloc (.cells #[.slice P1 m1 e1,.slice P2 m2 e2] 27)) w'):=z7m _ (ht.below HB1.out)
 have H0:=(Ow.of (St.refl w)).pair (.slice P1 m1 e1) (.slice P2 m2 e2) 27
 simp only [zqc] at H0;have c0':=H0.p0 0 rfl
 have c1':=H0.p1 0 rfl
 clear ht;rcases zqi 400 n0 with hbig | hsm
 ·have HLi:=zh (z0by A0 n0 c0 (w.alloc (.cells #[.slice P1 m1 e1,.slice P2 m2 e2] 27)) hbig hl0)
  clear hn0 hs0 hn1 hs1 hp hp2 hq hq2 H0 hbig;go_enter Tryz.func3,Tryz.ntmps3
  go_wp2_with fail;refine HLi.out.mono ?_;rintro e w1 ⟨rfl,rfl⟩;go_wp2_with fail;refine HAw.out.mono ?_;rintro e w2 ⟨rfl,hb⟩;have HB:=zh (HB1.out.trans (hb.mono HB1.out.size))
  clear hb;go_wp2_with fail;go_ret;exact ⟨rfl,HB.out⟩
 have HLi:=zh (z7ar A0 n0 c0 (w.alloc (.cells #[.slice P1 m1 e1,.slice P2 m2 e2] 27)) hsm)
 rcases zqi 60 n1 with hbig | hsmn1
 ·have hgn1:decide ((60:Int)<(n1:Int))=true:=zt (by omega)
  clear hn0 hs0 hn1 hs1 hp hp2 hq hq2 H0 hbig hsm;go_enter Tryz.func3,Tryz.ntmps3
  go_wp2_with fail;refine HLi.out.mono ?_;rintro e w1 ⟨rfl,rfl⟩;go_wp2_with fail;refine HAw.out.mono ?_;rintro e w2 ⟨rfl,hb⟩;have HB:=zh (HB1.out.trans (hb.mono HB1.out.size))
  clear hb;go_wp2_with fail;go_ret;exact ⟨rfl,HB.out⟩
 have hgn1:decide ((60:Int)<(n1:Int))=false:=zn (by omega)
 rcases zqi 40 m1 with hbig | hsmm1
 ·have hgm1:decide ((40:Int)<(m1:Int))=true:=zt (by omega)
  clear hn0 hs0 hn1 hs1 hp hp2 hq hq2 H0 hbig hsm;go_enter Tryz.func3,Tryz.ntmps3
  go_wp2_with fail;refine HLi.out.mono ?_;rintro e w1 ⟨rfl,rfl⟩;go_wp2_with fail;refine HAw.out.mono ?_;rintro e w2 ⟨rfl,hb⟩;have HB:=zh (HB1.out.trans (hb.mono HB1.out.size))
  clear hb;go_wp2_with fail;go_ret;exact ⟨rfl,HB.out⟩
 have hgm1:decide ((40:Int)<(m1:Int))=false:=zn (by omega)
 rcases zqi 40 m2 with hbig | hsmm2
 ·have hgm2:decide ((40:Int)<(m2:Int))=true:=zt (by omega)
  clear hn0 hs0 hn1 hs1 hp hp2 hq hq2 H0 hbig hsm;go_enter Tryz.func3,Tryz.ntmps3
  go_wp2_with fail;refine HLi.out.mono ?_;rintro e w1 ⟨rfl,rfl⟩;go_wp2_with fail;refine HAw.out.mono ?_;rintro e w2 ⟨rfl,hb⟩;have HB:=zh (HB1.out.trans (hb.mono HB1.out.size))
  clear hb;go_wp2_with fail;go_ret;exact ⟨rfl,HB.out⟩
 have hgm2:decide ((40:Int)<(m2:Int))=false:=zn (by omega)
 have HR:=zh (z3bp H0 A0 n0 c0 w.heap.size ts hn0 (by omega) (zqj _) (hs0.below HB1.out))
 have HN1:=zh (show rl.length=n1∧n1≤60 from ⟨hn1,hsmn1⟩)
 have HS1:=zh hs1;have HPp:=zh (show p.length=m1∧m1≤40∧m1≤e1 from ⟨hp,hsmm1,hpc⟩)
 have HPs:=zh hp2;have HQq:=zh (show q.length=m2∧m2≤40∧m2≤e2 from ⟨hq,hsmm2,hqc⟩)
 have HQs:=zh hq2;have HWh:=zh hwh;clear H0 hs0 hn0 hn1 hs1 hp hp2 hq hq2 hsm hsmn1 hsmm1 hsmm2 hl0 hl1 hp1 hq1 hpc hqc hwh;go_enter Tryz.func3,Tryz.ntmps3
 go_wp2_with fail;refine HLi.out.mono ?_;rintro e w1 ⟨rfl,rfl⟩;go_wp2_with fail;refine HR.out.mono ?_;rintro e w1 ⟨g,rfl,hd1,h1⟩;have HBd:Hid (w.heap.size≤w.heap.size):=zqj _
 have HC:=zh (z2aa h1 hd1 HBd.out)
 clear HR HLi hd1 h1 c0' c1' hgn1 hgm1 hgm2;go_wp2_with fail;refine HC.out.mono ?_;rintro e w2 ⟨sh,rfl,hsh,hd2,h2⟩;obtain ⟨so,ch,ra,ba,ro,co,rfl,h12⟩:=z9n (z6bc hsh)
 have HSm:=zh h12;have HC2:=zh (z8aj h2 hd2 HBd.out)
 clear HC hd2 h2 hsh h12;go_wp2_with fail;refine HC2.out.mono ?_;rintro e w3 ⟨X1,k1,f1,X2,k2,f2,x,y,rfl,-,hd3,h3⟩;have H4:=(h3.arr #[.int .i64 so,.int .i64 ch,.int .i64 ra,.int .i64 ba,.int .i64 ro,.int .i64 co] 6 rfl (by omega) 33).pair (.slice X1 k1 f1) (.slice X2 k2 f2) 27
 simp only [World.size_alloc,zqb,zqc] at H4;have D4:Dice ((w3.alloc (.cells #[.int .i64 so,.int .i64 ch,.int .i64 ra,.int .i64 ba,.int .i64 ro,.int .i64 co] 33)).alloc (.cells #[.slice X1 k1 f1,.slice X2 k2 f2] 27)) g w.heap.size:=(hd3.below (z0h _ _)).below (z0h _ _)
 obtain ⟨a0,a1,a2,a3,a4,a5⟩:=zc6 (H4.row 1 rfl);have HL:=zh (z4bx H4 D4 HBd.out so ch ra ba ro co HSm.out 12 (by omega))
 clear HC2 hd3 h3 H4 D4;unfold Pl.vs;go_wp2_with fail;refine HL.out.mono ?_;rintro e w5 ⟨A,n,c,l0,rfl,hl,hn,-,hd5,hx5⟩;obtain ⟨l,hlz⟩:∃ z,l0.map Sn.one=z:=⟨_,rfl⟩
 rw [hlz] at hl hx5;have HX:=zh hx5;have HD:=zh hd5;have HLn:Hid (l.length=n∧n≤12):=⟨hl,hn⟩
 clear HL hlz l0 hl hn hd5 hx5 a0 a1 a2 a3 a4 a5;have HMo:=zh (z7f what 8 w5 (by omega) (by omega))
 obtain ⟨z,hz⟩:∃ z,what % 8=z:=⟨_,rfl⟩
 rw [hz] at HMo;have hz8:0≤z∧z<8:=by omega
 have HW8:Hid (IntKind.i64.wrap (what.tdiv 8)=what.tdiv 8):=by
  have:=HWh.out
  refine IntWalk.i64_in _ ?_
  have h1:(what.tdiv 8).natAbs=what.natAbs / 8:=Int.natAbs_tdiv what 8
  omega
 clear hz;go_wp2_with fail;refine HMo.out.mono ?_;rintro e w6 ⟨rfl,rfl⟩;go_upto_block 0 with (fail)
 clear HMo;go_cut [14,15] from 56 to 103 (fun v14 _ wx=>RCj w g w.heap.size w3.heap.size (w3.heap.size+1) P1 m1 e1 P2 m2 e2 v14 wx)
 case first=>
  have HY:=zh (HX.out.keepX 0 rfl (m:=n*8) rfl (by have:=HLn.out;omega) (by omega)).ow
  have hcase:z=0∨z=1∨z=2∨z=3∨z=4∨z=5∨z=6∨z=7:=by omega
  clear hz8;rcases hcase with rfl | rfl | rfl | rfl | rfl | rfl | rfl | rfl
  ·have HZ:=zh (HY.out.old (A:=A1) (n:=n1*8) (c:=n1*8) HS1.out (by rw [z3m,HN1.out.1]) (zqj _) (by have:=HN1.out;omega))
   go_wp2_with fail;go_meet;exact ⟨⟨(so:Int),ch,ra,ba,ro,co⟩,X1,k1,f1,X2,k2,f2,Na.up (Na.dig x),Na.up (Na.dig y),A1,n1,c1,n1*8,rl,rfl,HD.out,by rw [z0g,z0g];exact HZ.out.less (z6l 0 1 3 rfl rfl rfl)⟩
  ·have HZ:=zh ((HY.out.old (A:=P1) (n:=m1) (c:=e1) HPs.out (by rw [z0r];exact HPp.out.1) HPp.out.2.2 (by have:=HPp.out;omega)).old (A:=P2) (n:=m2) (c:=e2) HQs.out (by rw [z0r];exact HQq.out.1) HQq.out.2.2 (by have:=HQq.out;omega))
   have c0:=HZ.out.p0 0 rfl
   have c1:=HZ.out.p1 0 rfl
   have a0:=HZ.out.p0 2 rfl
   have a1:=HZ.out.p1 2 rfl
   have g0:=HZ.out.pf 2 rfl 0
   have g1:=HZ.out.pf 2 rfl 1
   have J0:=HZ.out.set0 2 rfl (.slice P1 m1 e1)
   have E0:=HD.out.turned HBd.out HZ.out (i:=2) rfl (z0d _ ⟨_,0,none⟩ (.slice P1 m1 e1))
   have J1:=J0.set1 2 rfl (.slice P2 m2 e2)
   have E1:=E0.turned HBd.out J0 (i:=2) rfl (z0d _ ⟨_,1,none⟩ (.slice P2 m2 e2))
   have HJ:=zh J1;have HE:=zh E1;clear J0 E0 J1 E1;go_wp2_with fail;go_meet;exact ⟨⟨(so:Int),ch,ra,ba,ro,co⟩,P1,m1,e1,P2,m2,e2,p,q,A,n,c,n*8,l,rfl,HE.out,HJ.out.less (z6l 3 4 2 rfl rfl rfl)⟩
  ·rcases zqh n with hz | hp
   ·have hd0:decide ((0:Int)<(n:Int))=false:=zn (by omega)
    have hd1:decide (0<n)=false:=zn (by omega)
    clear hz;go_wp2_with fail;go_meet;exact ⟨⟨(so:Int),ch,ra,ba,ro,co⟩,X1,k1,f1,X2,k2,f2,Na.up (Na.dig x),Na.up (Na.dig y),A,n,c,n*8,l,rfl,HD.out,by rw [z0g,z0g];exact HY.out.less (z6l 0 1 2 rfl rfl rfl)⟩
   ·have hd0:decide ((0:Int)<(n:Int))=true:=zt (by omega)
    have hd1:decide (0<n)=true:=zt (by omega)
    obtain ⟨k,hk⟩:∃ k,n - 1=k:=⟨_,rfl⟩
    obtain ⟨x0,hx0⟩:∃ z,l[k]?=some z:=⟨l[k]'(by have:=HLn.out;omega),zql _⟩
    obtain ⟨gb,cap,hA,_,hgb⟩:=(HX.out.row 0 rfl).form hp
    obtain rfl:A=some ⟨gb,0,none⟩:=by injection hA
    have HMd:=zh (z7f (what.tdiv 8) 42 w5 (by omega) (by omega))
    obtain ⟨v,hv⟩:∃ v,(what.tdiv 8) % 42=v:=⟨_,rfl⟩
    have hvb:0≤v∧v<42:=by omega
    rw [hv] at HMd;have hv1:IntKind.i64.wrap (v - 1)=v - 1:=IntWalk.i64_in _ (by omega)
    have hn1:IntKind.i64.wrap ((n:Int) - 1)=(k:Int):=by rw [IntWalk.i64_in _ (by have:=HLn.out;omega)];omega
    have hkn:k<n:=by omega
    have hki:(k:Int)<(n:Int):=by omega
    have HX0:=zh hx0;have b6:=(HX.out.row 0 rfl).frozenAt (k*8+6)
    have bc:=(HX.out.row 0 rfl).cells (g:=gb) rfl (k*8+6) _ (by rw [z4at l k 6 x0 hx0 (by omega)];rfl)
    rw [addz] at bc;have J:=HX.out.putX 0 rfl (k*8+6) (.int .i64 (v - 1))
    rw [zqd,z0ae l k 6 x0 ⟨x0.p,v - 1,x0.ti⟩ _ hx0 (by omega) rfl] at J
    have HJ:=zh (J.keepX 0 rfl (m:=n*8) rfl (by have:=HLn.out;omega) (by omega)).ow
    clear J;have HE:=zh (HD.out.turnedX HBd.out HX.out (i:=0) rfl (z0d _ ⟨gb,k*8+6,none⟩ (.int .i64 (v - 1))))
    clear hv hk hx0 hA hgb;have hw8:=HW8.out;go_wp2_with fail;refine HMd.out.mono ?_;rintro e w7 ⟨rfl,rfl⟩;go_wp2_with fail;go_meet;exact ⟨⟨(so:Int),ch,ra,ba,ro,co⟩,X1,k1,f1,X2,k2,f2,Na.up (Na.dig x),Na.up (Na.dig y),some ⟨gb,0,none⟩,n,c,n*8,l.set k ⟨x0.p,v - 1,x0.ti⟩,rfl,HE.out,by rw [z0g,z0g];exact HJ.out.less (z6l 0 1 2 rfl rfl rfl)⟩
  ·have HMd:=zh (z7f (what.tdiv 8) 9 w5 (by omega) (by omega))
   obtain ⟨v,hv⟩:∃ v,(what.tdiv 8) % 9=v:=⟨_,rfl⟩
   rw [hv] at HMd;have b4:=(HY.out.row 1 rfl).cellAt 4 (by decide)
   have g4:=(HY.out.row 1 rfl).frozenAt 4
   have HJ:=zh (HY.out.put 1 rfl 4 (.int .i64 v))
   have HE:=zh (HD.out.turned HBd.out HY.out (i:=1) rfl (z0d _ ⟨_,4,none⟩ (.int .i64 v)))
   clear hv;have hw8:=HW8.out;go_wp2_with fail;refine HMd.out.mono ?_;rintro e w7 ⟨rfl,rfl⟩;go_wp2_with fail;go_meet;exact ⟨⟨(so:Int),ch,ra,ba,v,co⟩,X1,k1,f1,X2,k2,f2,Na.up (Na.dig x),Na.up (Na.dig y),A,n,c,n*8,l,rfl,HE.out,by rw [z0g,z0g];exact HJ.out.less (z6l 0 1 2 rfl rfl rfl)⟩
  ·have HMd:=zh (z7f (what.tdiv 8) 16 w5 (by omega) (by omega))
   obtain ⟨v,hv⟩:∃ v,(what.tdiv 8) % 16=v:=⟨_,rfl⟩
   rw [hv] at HMd;clear hv HY;have hw8:=HW8.out;by_cases hv0:v=0
   ·have hb:(v == 0)=true:=by rw [hv0];rfl
    clear hv0;go_wp2_with fail;refine HMd.out.mono ?_;rintro e w7 ⟨rfl,rfl⟩;go_wp2_with fail;go_loopw [14] (fun x14 wr=>RLp w g w.heap.size 40 [⟨X1,k1,f1,z0c (Na.dig x)⟩,⟨X2,k2,f2,z0c (Na.dig y)⟩] [Rw.pair w.heap.size 27 (.slice P1 m1 e1) (.slice P2 m2 e2),⟨some ⟨w3.heap.size,0,none⟩,6,6,33,[.int .i64 so,.int .i64 ch,.int .i64 ra,.int .i64 ba,.int .i64 ro,.int .i64 co]⟩,Rw.pair (w3.heap.size+1) 27 (.slice X1 k1 f1) (.slice X2 k2 f2)] x14 wr) (fun x14 _=>42 - lenV x14)
    case atStart=>exact ⟨A,n,c,l,rfl,by have:=HLn.out;omega,HLn.out.1,HD.out,HX.out⟩
    case round=>
     obtain ⟨A',n',c',l',rfl,hn',HLn',HD',HX'⟩:=hrel;rcases zqh n' with hz | hp
     ·have hd0:decide ((0:Int)<(n':Int))=false:=zn (by omega)
      have hd1:decide (0<n')=false:=zn (by omega)
      have HY':=zh (HX'.out.keepX 0 rfl (m:=n'*8) rfl (by omega) (by omega)).ow
      clear hz;go_wp2_with fail;go_meet;exact ⟨⟨(so:Int),ch,ra,ba,ro,co⟩,X1,k1,f1,X2,k2,f2,Na.up (Na.dig x),Na.up (Na.dig y),A',n',c',n'*8,l',rfl,HD'.out,by rw [z0g,z0g];exact HY'.out.less (z6l 0 1 2 rfl rfl rfl)⟩
     ·have hd0:decide ((0:Int)<(n':Int))=true:=zt (by omega)
      have hd1:decide (0<n')=true:=zt (by omega)
      rcases zqi n' 40 with hlt | hge
      ·have hd2:decide ((n':Int)<40)=true:=zt (by omega)
       have hd3:decide (n'<40)=true:=zt (by omega)
       obtain ⟨x0,hx0⟩:∃ z,l'[0]?=some z:=⟨l'[0]'(by have:=HLn'.out;omega),zql _⟩
       obtain ⟨a,rfl,e0,e1',e2',e3,e4,e5,e6,e7⟩:=z3o (z7b (HX'.out.row 0 rfl) (by omega)) hx0
       obtain ⟨⟨x0,x1,x2,x3,x4,x5⟩,x6,x7⟩:=x0
       have q0:wr.cell? a=some (.int .i64 x0):=e0
       have q1:wr.cell? ⟨a.block,a.off+1,none⟩=some (.int .i64 x1):=e1'
       have q2:wr.cell? ⟨a.block,a.off+2,none⟩=some (.int .i64 x2):=e2'
       have q3:wr.cell? ⟨a.block,a.off+3,none⟩=some (.int .i64 x3):=e3
       have q4:wr.cell? ⟨a.block,a.off+4,none⟩=some (.int .i64 x4):=e4
       have q5:wr.cell? ⟨a.block,a.off+5,none⟩=some (.int .i64 x5):=e5
       have q6:wr.cell? ⟨a.block,a.off+6,none⟩=some (.int .i64 x6):=e6
       have q7:wr.cell? ⟨a.block,a.off+7,none⟩=some (.int .i64 x7):=e7
       clear e0 e1' e2' e3 e4 e5 e6 e7;have HXa:=zh (HX'.out.arrO #[.int .i64 x0,.int .i64 x1,.int .i64 x2,.int .i64 x3,.int .i64 x4,.int .i64 x5,.int .i64 x6,.int .i64 x7] 8 rfl (by omega) 40)
       have HDa:Hid (Dice (wr.alloc (.cells #[.int .i64 x0,.int .i64 x1,.int .i64 x2,.int .i64 x3,.int .i64 x4,.int .i64 x5,.int .i64 x6,.int .i64 x7] 40)) g w.heap.size):=HD'.out.below (z0h _ _)
       have HN':=zh hlt
       clear hlt hx0;go_wp2_with (at_builtin;refine z3y z1bg HXa.out HDa.out HBd.out 0 (.tmp 98) (.tmp 102) (m:=1) (news:=[.int .i64 x0,.int .i64 x1,.int .i64 x2,.int .i64 x3,.int .i64 x4,.int .i64 x5,.int .i64 x6,.int .i64 x7]) rfl rfl (fun j u hu=>by have:=(HXa.out.ow.row 3 rfl).cells rfl j u hu;exact this) (z1az ⟨⟨x0,x1,x2,x3,x4,x5⟩,x6,x7⟩) (by unfold maxLen;omega) (by omega) rfl rfl rfl rfl ?_;intro A2 c2 w9 how2 hd2;have HX2:=zh how2;have HD2:=zh hd2;clear how2 hd2)
       go_roundw
       case rel=>exact ⟨A2,n'+1,c2,l'++[⟨⟨x0,x1,x2,x3,x4,x5⟩,x6,x7⟩],rfl,by have:=HN'.out;omega,by unfold Hid;rw [zqm,HLn'.out];rfl,HD2.out,by unfold Hid;rw [z7i];exact HX2.out.fewO (O:=[_,_,_])⟩
       case measure=>
        have:=HN'.out
        simp [lenV]
        omega
      ·have hd2:decide ((n':Int)<40)=false:=zn (by omega)
       have hd3:decide (n'<40)=false:=zn (by omega)
       have HY':=zh (HX'.out.keepX 0 rfl (m:=n'*8) rfl (by omega) (by omega)).ow
       clear hge;go_wp2_with fail;go_meet;exact ⟨⟨(so:Int),ch,ra,ba,ro,co⟩,X1,k1,f1,X2,k2,f2,Na.up (Na.dig x),Na.up (Na.dig y),A',n',c',n'*8,l',rfl,HD'.out,by rw [z0g,z0g];exact HY'.out.less (z6l 0 1 2 rfl rfl rfl)⟩
   ·have hb:(v == 0)=false:=beq_eq_false_iff_ne.2 hv0
    clear hv0;go_wp2_with fail;refine HMd.out.mono ?_;rintro e w7 ⟨rfl,rfl⟩;go_wp2_with fail;go_loopw [14] (fun x14 wr=>RLp w g w.heap.size 41 [⟨X1,k1,f1,z0c (Na.dig x)⟩,⟨X2,k2,f2,z0c (Na.dig y)⟩] [Rw.pair w.heap.size 27 (.slice P1 m1 e1) (.slice P2 m2 e2),⟨some ⟨w3.heap.size,0,none⟩,6,6,33,[.int .i64 so,.int .i64 ch,.int .i64 ra,.int .i64 ba,.int .i64 ro,.int .i64 co]⟩,Rw.pair (w3.heap.size+1) 27 (.slice X1 k1 f1) (.slice X2 k2 f2)] x14 wr) (fun x14 _=>42 - lenV x14)
    case atStart=>exact ⟨A,n,c,l,rfl,by have:=HLn.out;omega,HLn.out.1,HD.out,HX.out⟩
    case round=>
     obtain ⟨A',n',c',l',rfl,hn',HLn',HD',HX'⟩:=hrel;rcases zqh n' with hz | hp
     ·have hd0:decide ((0:Int)<(n':Int))=false:=zn (by omega)
      have hd1:decide (0<n')=false:=zn (by omega)
      have HY':=zh (HX'.out.keepX 0 rfl (m:=n'*8) rfl (by omega) (by omega)).ow
      clear hz;go_wp2_with fail;go_meet;exact ⟨⟨(so:Int),ch,ra,ba,ro,co⟩,X1,k1,f1,X2,k2,f2,Na.up (Na.dig x),Na.up (Na.dig y),A',n',c',n'*8,l',rfl,HD'.out,by rw [z0g,z0g];exact HY'.out.less (z6l 0 1 2 rfl rfl rfl)⟩
     ·have hd0:decide ((0:Int)<(n':Int))=true:=zt (by omega)
      have hd1:decide (0<n')=true:=zt (by omega)
      rcases zqi n' 41 with hlt | hge
      ·have hd2:decide ((n':Int)<41)=true:=zt (by omega)
       have hd3:decide (n'<41)=true:=zt (by omega)
       obtain ⟨x0,hx0⟩:∃ z,l'[0]?=some z:=⟨l'[0]'(by have:=HLn'.out;omega),zql _⟩
       obtain ⟨a,rfl,e0,e1',e2',e3,e4,e5,e6,e7⟩:=z3o (z7b (HX'.out.row 0 rfl) (by omega)) hx0
       obtain ⟨⟨x0,x1,x2,x3,x4,x5⟩,x6,x7⟩:=x0
       have q0:wr.cell? a=some (.int .i64 x0):=e0
       have q1:wr.cell? ⟨a.block,a.off+1,none⟩=some (.int .i64 x1):=e1'
       have q2:wr.cell? ⟨a.block,a.off+2,none⟩=some (.int .i64 x2):=e2'
       have q3:wr.cell? ⟨a.block,a.off+3,none⟩=some (.int .i64 x3):=e3
       have q4:wr.cell? ⟨a.block,a.off+4,none⟩=some (.int .i64 x4):=e4
       have q5:wr.cell? ⟨a.block,a.off+5,none⟩=some (.int .i64 x5):=e5
       have q6:wr.cell? ⟨a.block,a.off+6,none⟩=some (.int .i64 x6):=e6
       have q7:wr.cell? ⟨a.block,a.off+7,none⟩=some (.int .i64 x7):=e7
       clear e0 e1' e2' e3 e4 e5 e6 e7;have HXa:=zh (HX'.out.arrO #[.int .i64 x0,.int .i64 x1,.int .i64 x2,.int .i64 x3,.int .i64 x4,.int .i64 x5,.int .i64 x6,.int .i64 x7] 8 rfl (by omega) 40)
       have HDa:Hid (Dice (wr.alloc (.cells #[.int .i64 x0,.int .i64 x1,.int .i64 x2,.int .i64 x3,.int .i64 x4,.int .i64 x5,.int .i64 x6,.int .i64 x7] 40)) g w.heap.size):=HD'.out.below (z0h _ _)
       have HN':=zh hlt
       clear hlt hx0;go_wp2_with (at_builtin;refine z3y z1bg HXa.out HDa.out HBd.out 0 (.tmp 98) (.tmp 102) (m:=1) (news:=[.int .i64 x0,.int .i64 x1,.int .i64 x2,.int .i64 x3,.int .i64 x4,.int .i64 x5,.int .i64 x6,.int .i64 x7]) rfl rfl (fun j u hu=>by have:=(HXa.out.ow.row 3 rfl).cells rfl j u hu;exact this) (z1az ⟨⟨x0,x1,x2,x3,x4,x5⟩,x6,x7⟩) (by unfold maxLen;omega) (by omega) rfl rfl rfl rfl ?_;intro A2 c2 w9 how2 hd2;have HX2:=zh how2;have HD2:=zh hd2;clear how2 hd2)
       go_roundw
       case rel=>exact ⟨A2,n'+1,c2,l'++[⟨⟨x0,x1,x2,x3,x4,x5⟩,x6,x7⟩],rfl,by have:=HN'.out;omega,by unfold Hid;rw [zqm,HLn'.out];rfl,HD2.out,by unfold Hid;rw [z7i];exact HX2.out.fewO (O:=[_,_,_])⟩
       case measure=>
        have:=HN'.out
        simp [lenV]
        omega
      ·have hd2:decide ((n':Int)<41)=false:=zn (by omega)
       have hd3:decide (n'<41)=false:=zn (by omega)
       have HY':=zh (HX'.out.keepX 0 rfl (m:=n'*8) rfl (by omega) (by omega)).ow
       clear hge;go_wp2_with fail;go_meet;exact ⟨⟨(so:Int),ch,ra,ba,ro,co⟩,X1,k1,f1,X2,k2,f2,Na.up (Na.dig x),Na.up (Na.dig y),A',n',c',n'*8,l',rfl,HD'.out,by rw [z0g,z0g];exact HY'.out.less (z6l 0 1 2 rfl rfl rfl)⟩
  ·go_wp2_with fail;go_meet;exact ⟨⟨(so:Int),ch,ra,ba,ro,co⟩,X1,k1,f1,X2,k2,f2,Na.up (Na.dig x),Na.up (Na.dig y),A,n,c,n*8,l,rfl,HD.out,by rw [z0g,z0g];exact HY.out.less (z6l 0 1 2 rfl rfl rfl)⟩
  ·go_wp2_with fail;go_meet;exact ⟨⟨(so:Int),ch,ra,ba,ro,co⟩,X1,k1,f1,X2,k2,f2,Na.up (Na.dig x),Na.up (Na.dig y),A,n,c,n*8,l,rfl,HD.out,by rw [z0g,z0g];exact HY.out.less (z6l 0 1 2 rfl rfl rfl)⟩
  ·go_wp2_with fail;go_meet;exact ⟨⟨(so:Int),ch,ra,ba,ro,co⟩,X1,k1,f1,X2,k2,f2,Na.up (Na.dig x),Na.up (Na.dig y),A,n,c,n*8,l,rfl,HD.out,by rw [z0g,z0g];exact HY.out.less (z6l 0 1 2 rfl rfl rfl)⟩
 case rest=>
  obtain ⟨s,Y1,u1,v1,Y2,u2,v2,pa,qa,A,n,c,e3,l,rfl,HDc,HOc⟩:=hcut;clear HX HD HLn HWh HW8 hz8 HS1 HPs HQs HPp HQq HN1;obtain ⟨s0,s1,s2,s3,s4,s5⟩:=s;obtain ⟨row,h0,back⟩:=HOc.out.diceRow HDc.out HBd.out
  unfold Pl.vs at h0;simp only [zqb,zqc] at h0;have HO:=zh h0;have HBk:=zh back;clear h0 back HOc HDc;have HJ:=zh (z2bb (n3:=n) (c3:=c) ⟨s0,s1,s2,s3,s4,s5⟩ HO.out 0 1 2 rfl rfl rfl HT.out)
  obtain ⟨V,hV⟩:∃ V,z8p ⟨s0,s1,s2,s3,s4,s5⟩ pa qa l=V:=⟨_,rfl⟩
  have HZ:Hid (V.2≠0→V.1=vdZ):=by unfold Hid;rw [← hV];exact z1ba
  rw [hV] at HJ;have HV:=zh hV;clear hV;obtain ⟨⟨vk,⟨q0,q1,q2,q3,q4,q5⟩,vc,vh,vx,vy⟩,ve⟩:=V
  unfold JdR Vd.vs Pl.vs at HJ;simp only [zqb,zqc] at HJ;have a0:=HO.out.p0 2 rfl
  have a1:=HO.out.p1 2 rfl
  obtain ⟨b0,b1,b2,b3,b4,b5⟩:=zc6 (HO.out.row 1 rfl);go_wp2_with fail;refine HJ.out.mono ?_;rintro e w7 ⟨C1,r1,t1,C2,r2,t2,rfl,G⟩;have H5:=G.arr #[.int .i64 vk,.int .i64 q0,.int .i64 q1,.int .i64 q2,.int .i64 q3,.int .i64 q4,.int .i64 q5,.int .i64 vc,.int .i64 vh,.slice C1 r1 t1,.slice C2 r2 t2] 11 rfl (by omega) 42
  simp only [zqb,zqc] at H5;have HJ2:=zh (z6bk (n3:=n) (c3:=c) ⟨s0,s1,s2,s3,s4,s5⟩ H5 0 1 2 rfl rfl rfl)
  rw [HV.out] at HJ2;unfold JdR Vd.vs Pl.vs at HJ2;simp only [zqb,zqc] at HJ2;clear HJ HO a0 a1 b0 b1 b2 b3 b4 b5;have a0:=H5.p0 2 rfl
  have a1:=H5.p1 2 rfl
  obtain ⟨b0,b1,b2,b3,b4,b5⟩:=zc6 (H5.row 1 rfl);clear G H5;go_wp2_with fail;refine HJ2.out.mono ?_;rintro e w8 ⟨D1,x1,z1,D2,x2,z2,rfl,G⟩;have H6:=G.arr #[.int .i64 vk,.int .i64 q0,.int .i64 q1,.int .i64 q2,.int .i64 q3,.int .i64 q4,.int .i64 q5,.int .i64 vc,.int .i64 vh,.slice D1 x1 z1,.slice D2 x2 z2] 11 rfl (by omega) 42
  simp only [zqb,zqc] at H6;have HO:=zh H6;clear HJ2 HV G a0 a1 b0 b1 b2 b3 b4 b5;obtain ⟨b0,b1,b2,b3,b4,b5,b6,b7,b8,b9,b10⟩:=zc11 (H6.row 4 rfl);obtain ⟨d0,d1,d2,d3,d4,d5,d6,d7,d8,d9,d10⟩:=zc11 (H6.row 5 rfl);clear H6;go_upto_region 24 with (fail)
  go_cut [17,19,145] from 104 to 144 (fun _ _ v wx=>v=.bool false∧Hid (Ow w wx none [] [⟨Y1,u1,v1,z0p pa⟩,⟨Y2,u2,v2,z0p qa⟩,⟨A,n*8,e3,fl l⟩,⟨C1,r1,t1,z0c (Na.dig vx)⟩,⟨C2,r2,t2,z0c (Na.dig vy)⟩,⟨D1,x1,z1,z0c (Na.dig vx)⟩,⟨D2,x2,z2,z0c (Na.dig vy)⟩] [Rw.pair w.heap.size 27 (.slice P1 m1 e1) (.slice P2 m2 e2),⟨some ⟨w3.heap.size,0,none⟩,6,6,33,[.int .i64 s0,.int .i64 s1,.int .i64 s2,.int .i64 s3,.int .i64 s4,.int .i64 s5]⟩,Rw.pair (w3.heap.size+1) 27 (.slice Y1 u1 v1) (.slice Y2 u2 v2),row,⟨some ⟨w7.heap.size,0,none⟩,11,11,42,[.int .i64 vk,.int .i64 q0,.int .i64 q1,.int .i64 q2,.int .i64 q3,.int .i64 q4,.int .i64 q5,.int .i64 vc,.int .i64 vh,.slice C1 r1 t1,.slice C2 r2 t2]⟩,⟨some ⟨w8.heap.size,0,none⟩,11,11,42,[.int .i64 vk,.int .i64 q0,.int .i64 q1,.int .i64 q2,.int .i64 q3,.int .i64 q4,.int .i64 q5,.int .i64 vc,.int .i64 vh,.slice D1 x1 z1,.slice D2 x2 z2]⟩]))
  case first=>
   by_cases hve:ve=0
   ·have g1:(ve == 0)=true:=beq_iff_eq.2 hve
    have g2:(ve != 0)=false:=by rw [bne,g1];rfl
    clear hve;have HS:=zh (z6bd ⟨vk,⟨q0,q1,q2,q3,q4,q5⟩,vc,vh,vx,vy⟩ HO.out 3 4 5 6 rfl rfl rfl rfl)
    unfold Vd.vs at HS;go_wp2_with fail;refine HS.out.mono ?_;rintro e w9 ⟨rfl,G⟩;have HG:=zh G;clear G HS b0 d0 b1 d1 b2 d2 b3 d3 b4 d4 b5 d5 b6 d6 b7 d7 b8 d8 b9 d9 b10 d10;go_wp2_with fail;go_meet;exact ⟨rfl,HG.out⟩
   ·have g1:(ve == 0)=false:=beq_eq_false_iff_ne.2 hve
    have g2:(ve != 0)=true:=by rw [bne,g1];rfl
    have hz:=HZ.out hve
    simp only [vdZ,Vd.mk.injEq,Pl.mk.injEq] at hz;obtain ⟨hz1,-,hz2,hz3,-,-⟩:=hz
    replace b0:=b0.trans (congrArg (fun t=>some (Value.int .i64 t)) hz1)
    replace b7:=b7.trans (congrArg (fun t=>some (Value.int .i64 t)) hz2)
    replace b8:=b8.trans (congrArg (fun t=>some (Value.int .i64 t)) hz3)
    clear hz1 hz2 hz3;clear hve;go_wp2_with fail;go_meet;exact ⟨rfl,HO.out⟩
  case rest=>
   obtain ⟨rfl,HO2⟩:=hcut;clear HO HZ b0 d0 b1 d1 b2 d2 b3 d3 b4 d4 b5 d5 b6 d6 b7 d7 b8 d8 b9 d9 b10 d10;obtain ⟨HDx,HOx⟩:=HBk.out _ _ (HO2.out.fewO (O:=[_,_,_,_]) (l:=[_,_]))
   have HO3:=zh HOx;have HD3:=zh HDx;clear HO2 HBk HDx HOx;have HC:=zh (z2aa HO3.out HD3.out HBd.out)
   go_wp2_with fail;refine HC.out.mono ?_;rintro e w9 ⟨⟨p0,p1,p2,p3,p4,p5⟩,rfl,hsh,-,h9⟩;have HSh:=zh (z6bc hsh)
   clear HC HO3 HD3 hsh;obtain ⟨y0,y1,y2,y3,y4,y5⟩:=zc6 (h9.row 1 rfl);obtain ⟨f0,f1,f2,f3,f4,f5⟩:=zf6 (h9.row 1 rfl);have hr:=z9ax h9 1 rfl (.int .i64 p0) (.int .i64 p1) (.int .i64 p2) (.int .i64 p3) (.int .i64 p4) (.int .i64 p5)
   simp only [zqe,zqd] at hr;have HR:=zh hr;clear hr h9;have H7:=HR.out.arr #[.int .i64 1,.int .i64 2,.int .i64 3,.int .i64 4,.int .i64 5,.int .i64 6,.int .i64 kind] 7 rfl (by omega) 3
   simp only [zqb,zqc] at H7;obtain ⟨OO,hOO⟩:∃ z,[Rw.pair w.heap.size 27 (.slice P1 m1 e1) (.slice P2 m2 e2),(⟨some ⟨w3.heap.size,0,none⟩,6,6,33,[.int .i64 p0,.int .i64 p1,.int .i64 p2,.int .i64 p3,.int .i64 p4,.int .i64 p5]⟩:Rw),Rw.pair (w3.heap.size+1) 27 (.slice Y1 u1 v1) (.slice Y2 u2 v2),⟨some ⟨((((((w9.setCell ⟨w3.heap.size,0,none⟩ (.int .i64 p0)).setCell ⟨w3.heap.size,1,none⟩ (.int .i64 p1)).setCell ⟨w3.heap.size,2,none⟩ (.int .i64 p2)).setCell ⟨w3.heap.size,3,none⟩ (.int .i64 p3)).setCell ⟨w3.heap.size,4,none⟩ (.int .i64 p4)).setCell ⟨w3.heap.size,5,none⟩ (.int .i64 p5)).heap.size,0,none⟩,7,7,3,[.int .i64 1,.int .i64 2,.int .i64 3,.int .i64 4,.int .i64 5,.int .i64 6,.int .i64 kind]⟩]=z:=⟨_,rfl⟩
   rw [hOO] at H7;obtain ⟨lb,hlb⟩:∃ z,w9.heap.size=z:=⟨_,rfl⟩
   have HSr:Hid (OO[1]?=some (⟨some ⟨w3.heap.size,0,none⟩,6,6,33,[.int .i64 p0,.int .i64 p1,.int .i64 p2,.int .i64 p3,.int .i64 p4,.int .i64 p5]⟩:Rw)):=by unfold Hid;rw [← hOO];rfl
   have HLr:Hid (OO[3]?=some (⟨some ⟨lb,0,none⟩,7,7,3,[.int .i64 1,.int .i64 2,.int .i64 3,.int .i64 4,.int .i64 5,.int .i64 6,.int .i64 kind]⟩:Rw)):=by unfold Hid;rw [← hOO,← hlb];simp
   have HS7:=zh H7;have HLb:=zh hlb;clear HR H7 hOO hlb;unfold Pl.vs;go_wp2_with fail;rw [HLb.out];go_loopw [151] (fun x wr=>RPt w (some g) [⟨Y1,u1,v1,z0p pa⟩,⟨Y2,u2,v2,z0p qa⟩,⟨A,n*8,e3,fl l⟩,⟨C1,r1,t1,z0c (Na.dig vx)⟩,⟨C2,r2,t2,z0c (Na.dig vy)⟩,⟨D1,x1,z1,z0c (Na.dig vx)⟩,⟨D2,x2,z2,z0c (Na.dig vy)⟩] OO x wr) (fun x _=>8 - (intOf x).toNat)
   case atStart=>exact ⟨0,by omega,rfl,HS7.out⟩
   case round=>
    clear HS7;obtain ⟨i,hi,rfl,HS7⟩:=hrel;rcases zqi i 7 with hlt | hge
    ·have hd0:decide ((i:Int)<7)=true:=zt (by omega)
     have hd1:decide (i<7)=true:=zt (by omega)
     obtain ⟨k,hk⟩:=z9ag (a:=kind) hlt
     have e0:wr.cell? ⟨lb,i,none⟩=some (.int .i64 k):=by
      have:=(HS7.out.row 3 HLr.out).cells (g:=lb) rfl i _ hk
      rwa [addz] at this
     have hli:(i:Int)<7:=by omega
     obtain ⟨r,hr⟩:∃ r,prt k ⟨p0,p1,p2,p3,p4,p5⟩=r:=⟨_,rfl⟩
     have HP1:Hid (∀ W,Calls Tryz.prog 18 #[.agg #[.int .i64 p0,.int .i64 p1,.int .i64 p2,.int .i64 p3,.int .i64 p4,.int .i64 p5],.int .i64 k] W fun e w'=>e=.returned (.int .i64 r)∧Below W.heap.size W w'):=fun W=>by rw [← hr];exact z6a k ⟨p0,p1,p2,p3,p4,p5⟩ HSh.out W
     have HP2:Hid (∀ W,Calls Tryz.prog 19 #[.agg #[.int .i64 p0,.int .i64 p1,.int .i64 p2,.int .i64 p3,.int .i64 p4,.int .i64 p5],.int .i64 k] W fun e w'=>e=.returned (.int .i64 r)∧Below W.heap.size W w'):=fun W=>by rw [← hr];exact z7r k ⟨p0,p1,p2,p3,p4,p5⟩ HSh.out W
     have HI:=zh hlt;clear hr hk hlt hi;go_wp2_with fail;refine z0u (JpI w (some g) [⟨Y1,u1,v1,z0p pa⟩,⟨Y2,u2,v2,z0p qa⟩,⟨A,n*8,e3,fl l⟩,⟨C1,r1,t1,z0c (Na.dig vx)⟩,⟨C2,r2,t2,z0c (Na.dig vy)⟩,⟨D1,x1,z1,z0c (Na.dig vx)⟩,⟨D2,x2,z2,z0c (Na.dig vy)⟩] OO w3.heap.size p0 p1 p2 p3 p4 p5 k r) (by kernel_rfl) (by kernel_rfl) ?_ ?_ ?_
     ·refine ⟨u155,u156,u157,u158,u159,u160,u161,?_,⟨HS7.out.drew,?_,?_,?_,?_,?_,?_,?_⟩⟩
      ·simp only [Act.put,zT,zZ,zS]
      all_goals (intro h;cases h)
     ·rintro jj Ld b W hj hf hcl hd ⟨u0,u1,u2,u3,u4,u5,u6,rfl,hC⟩;have hj':jj<7:=hj
      have hcase:jj=0∨jj=1∨jj=2∨jj=3∨jj=4∨jj=5∨jj=6:=by omega
      clear hj hj';simp only [Act.put,zT,zZ,zS];rcases hcase with rfl | rfl | rfl | rfl | rfl | rfl | rfl
      ·obtain ⟨y0,y1,y2,y3,y4,y5⟩:=zc6 (hC.ow.row 1 HSr.out);clear hd hcl;refine zw rfl fun K hK=>?_
       go_simp;refine hK _ _ ⟨_,_,_,_,_,_,_,?_,{hC with h0:=fun _=>rfl}⟩;simp only [Act.put,zT,zZ,zS]
      ·clear hd hcl;refine zw rfl fun K hK=>?_
       go_simp;refine hK _ _ ⟨_,_,_,_,_,_,_,?_,{hC with h1:=fun _=>rfl}⟩;simp only [Act.put,zT,zZ,zS]
      ·obtain rfl:=hC.h0 (hd 0 (by kernel_rfl));obtain rfl:=hC.h1 (hd 1 (by kernel_rfl));clear hd hcl;refine zw rfl fun K hK=>?_
       go_simp;refine (HP1.out W).mono ?_
       rintro e W' ⟨rfl,hb⟩;refine hK _ _ ⟨_,_,_,_,_,_,_,?_,{hC with ow:=hC.ow.go hb,h2:=fun _=>rfl}⟩;simp only [Act.put,zT,zZ,zS]
      ·obtain ⟨y0,y1,y2,y3,y4,y5⟩:=zc6 (hC.ow.row 1 HSr.out);clear hd hcl;refine zw rfl fun K hK=>?_
       go_simp;refine hK _ _ ⟨_,_,_,_,_,_,_,?_,{hC with h3:=fun _=>rfl}⟩;simp only [Act.put,zT,zZ,zS]
      ·clear hd hcl;refine zw rfl fun K hK=>?_
       go_simp;refine hK _ _ ⟨_,_,_,_,_,_,_,?_,{hC with h4:=fun _=>rfl}⟩;simp only [Act.put,zT,zZ,zS]
      ·obtain rfl:=hC.h3 (hd 3 (by kernel_rfl));obtain rfl:=hC.h4 (hd 4 (by kernel_rfl));clear hd hcl;refine zw rfl fun K hK=>?_
       go_simp;refine (HP2.out W).mono ?_
       rintro e W' ⟨rfl,hb⟩;refine hK _ _ ⟨_,_,_,_,_,_,_,?_,{hC with ow:=hC.ow.go hb,h5:=fun _=>rfl}⟩;simp only [Act.put,zT,zZ,zS]
      ·obtain rfl:=hC.h2 (hd 2 (by kernel_rfl));obtain rfl:=hC.h5 (hd 5 (by kernel_rfl));clear hd hcl;refine zw rfl fun K hK=>?_
       go_simp;refine hK _ _ ⟨u0,u1,_,u3,u4,_,_,?_,⟨hC.ow,hC.h0,hC.h1,hC.h2,hC.h3,hC.h4,hC.h5,fun _=>rfl⟩⟩;simp only [Act.put,zT,zZ,zS]
     ·rintro Ld b W hL ⟨u0,u1,u2,u3,u4,u5,u6,rfl,hC⟩;obtain rfl:=hC.h6 (hL 6 (by show 6<7;decide))
      have HS8:=zh hC.ow;clear hC hL;simp only [Act.put,zT,zZ,zS];go_wp2_with fail;go_roundw
      case rel=>exact ⟨i+1,by have:=HI.out;omega,by go_num,HS8.out⟩
      case measure=>
       have:=HI.out
       simp [intOf]
       omega
    ·have hd0:decide ((i:Int)<7)=false:=zn (by omega)
     have hd1:decide (i<7)=false:=zn (by omega)
     have HB:=zh HS7.out.below;have HA:=zh (z7m wr (HT.out.below HS7.out.below))
     clear hge hi;go_wp2_with fail;refine HA.out.mono ?_;rintro e w10 ⟨rfl,hb⟩;have HB2:=zh (HB.out.trans (hb.mono HB.out.size))
     clear hb;go_wp2_with fail;go_ret;exact ⟨rfl,HB2.out⟩
open Go.ChangeShapes Go.WideShapes Go.ChangeAt Go.RowKit
section
variable {H:Type}{enc:TypeId×Value→H}{P:Program}
theorem z8an (hl:laidOutB P=true){W W':World}(hb:Below W.heap.size W W'){sp:Nat→Bool}:∀ {ts:List TypeId} {vs:List Value} {ds:List (DataW H)} {ps:List MemPlace},
  (∀ t∈ts,P.readableRec t=true∧t<P.types.size)→DataW.TrodAll enc P W 0 (fun _=>true) true ts vs ds ps→(∀ x∈ps,x.block<W.heap.size)→(∀ p∈ps,sp p.block=true)→
  DataW.TrodAll enc P W' 0 sp true ts vs ds ps:=by
 intro ts
 induction ts with
 | nil=>
  intro vs ds ps _ h _ _;cases vs <;> cases ds <;> simp [DataW.TrodAll] at h ⊢
  exact h
 | cons t ts ih=>
  intro vs ds ps ht h hlt hs;obtain ⟨v,vs',d,ds',p,q,rfl,rfl,rfl,h0,h1⟩:=trodAll_cons h
  refine ⟨p,q,?_,?_,rfl⟩
  ·exact WideElems.Trod_stays hl (ht t (by simp)).1 (ht t (by simp)).2 h0 (fun x hx=>hb.same (hlt x (by simp [hx]))) (fun x hx=>hs x (by simp [hx]))
  ·exact ih (fun u hu=>ht u (by simp [hu])) h1 (fun x hx=>hlt x (by simp [hx])) (fun x hx=>hs x (by simp [hx]))
theorem z9az (hl:laidOutB P=true){f:Func}{s:ChangeSpec}{W W':World}{args:Array Value}{ds gs:List (DataW H)}{before:List MemPlace}{tb:TypeId}(hb:Below W.heap.size W W')
  (hvars:s.vars=[]) (hW:DataW.Whole enc P f.params.toList s.vars false W args.toList ds gs before)
  (hfn:s.fn H (ds++gs)={ results:=[.lit (.bool true)],args:=ds,vars:=[] }) (hres:f.resultTypes=#[tb]) (htb:P.underlying tb=some .bool)
  (hts:∀ t∈f.params.toList,P.readableRec t=true∧t<P.types.size) :
  s.post enc P f false true false false W args (.bool true) W':=by
 have hlt:∀ p∈before,p.block<W.heap.size:=fun p hp=>hW.lt p hp
 have hW':=hW
 obtain ⟨p,q,hA,hV,rfl,hz,hn⟩:=hW;rw [hvars] at hV;have hq:q=[]:=by
  cases gs with
  | nil=>exact hV
  | cons g r=>exact absurd hV (by intro h;cases h)
 subst hq
 refine ⟨ds,gs,_,[],p,[],hW',?_,?_,?_,hb.frame _,fun h=>by cases h⟩
 ·rw [hfn,hres];exact trodAll_mk1 (shut_bool htb true)
 ·rw [hfn];exact z8an hl hb hts hA (fun x hx=>hlt x (by simp [hx])) (fun x hx=>by simpa using hlt x (by simp [hx]))
 ·rw [hfn,hvars];rfl
end
set_option linter.unusedVariables false
theorem z8v {W:World}{a:Addr}{v:Value}(h:W.cell? a=some v):a.block<W.heap.size:=by
 rcases zqi a.block W.heap.size with h1 | h1
 ·exact h1
 ·have h2:W.heap[a.block]?=none:=Array.getElem?_eq_none h1
  simp [World.cell?,h2] at h
section
variable {H:Type}{enc:TypeId×Value→H}{P:Program}{W:World}
theorem z4bk {t e:TypeId}{k:IntKind}(ht:P.underlying t=some (.slice e))(he:P.underlying e=some (.int k))(hc:P.cellsOf e=1){r:Reach}{b0:Nat}{v:Value}{d:DataW H}{ps:List MemPlace}
  (hval:Value.okWide P W r b0 t v) (h:DataW.Trod enc P W 0 (fun _=>true) true t v d ps) :
  ∃ (A:Option Addr) (n c:Nat) (zs:List Int),v=.slice A n c∧zs.length=n∧n≤c∧c≤maxLen∧Sl W W.heap.size A (zs.map (Value.int k))∧∀ z∈zs,(Lit.int k z).wf=true:=by
 obtain ⟨a0,n,c,rfl⟩:=okWide_slice ht hval
 obtain ⟨fuel,hf⟩:=h;rcases Go.ChangeShapes.open_ints ht he hc hf with ⟨hcs,_⟩ | ⟨a,len,cap,zs,hcs,_,hle,hmx,hall,_,hcell,hwf⟩
 ·have e1:(Value.slice a0 n c)=.slice none 0 0:=(List.cons.inj (show [Value.slice a0 n c]=_ from hcs)).1
  injection e1 with h1 h2 h3
  subst h1 h2 h3
  exact ⟨none,0,0,[],rfl,rfl,zqj _,zqr _,Sl.nil _ _ _,fun z hz=>by cases hz⟩
 ·have e1:(Value.slice a0 n c)=.slice (some a) len cap:=(List.cons.inj (show [Value.slice a0 n c]=_ from hcs)).1
  injection e1 with h1 h2 h3
  subst h1 h2 h3
  have hz:zs.length=c:=by simpa using hall
  refine ⟨some a,n,c,zs.take n,rfl,by rw [zqw];omega,hle,hmx,fun hn=>?_,fun z hz=>hwf z (List.mem_of_mem_take hz)⟩
  rw [List.length_map,zqw] at hn;refine ⟨a,rfl,?_,fun j u hu=>?_⟩
  ·have h0:=hcell 0 (by omega)
   have:=z8v h0
   rwa [z1a] at this
  ·rw [List.getElem?_map,List.getElem?_take] at hu;by_cases hj:j<n
   ·rw [if_pos hj,zql (by omega)] at hu
    rw [hcell j (by omega),List.getD_eq_getElem?_getD,zql (by omega)]
    exact hu
   ·rw [if_neg hj] at hu;cases hu
end
section
variable {H:Type}{enc:TypeId×Value→H}{P:Program}{W:World}
theorem z2an {t ts e:TypeId}{f0:Field}{k:IntKind}(ht:P.underlying t=some (.struct #[f0]))(hts:f0.type=ts)(hoff:f0.offset=0)(hcs1:P.cellsOf ts=1)(hs:P.underlying ts=some (.slice e))(he:P.underlying e=some (.int k))(hc:P.cellsOf e=1)
  {fuel:Nat} {u:Value} {y:DataW H×List MemPlace} (hf:DataW.trod enc P W 0 (fun _=>true) true fuel t [u]=some y) :
  ∃ (A:Option Addr) (n c:Nat) (zs:List Int),u=.slice A n c∧zs.length=n∧n≤c∧c≤maxLen∧Sl W W.heap.size A (zs.map (Value.int k))∧∀ b,(∀ x∈y.1.weights P t,x≤b)→n*P.bytesOf e≤b:=by
 obtain ⟨y0,m,rfl,hl,hy⟩:=trod_struct1 ht hf
 rw [hoff,hts,hcs1,List.drop_zero] at hy;have hy':DataW.trod enc P W 0 (fun _=>true) true m ts [u]=some y0:=hy
 rcases Go.ChangeShapes.open_ints hs he hc hy' with ⟨hcs,_⟩ | ⟨a,len,cap,zs,hcs,_,hle,hmx,hall,rfl,hcell,hwf⟩
 ·obtain rfl:u=.slice none 0 0:=(List.cons.inj hcs).1
  exact ⟨none,0,0,[],rfl,rfl,zqj _,zqr _,Sl.nil _ _ _,fun b _=>by rw [Nat.zero_mul];exact zqr _⟩
 ·obtain rfl:u=.slice (some a) len cap:=(List.cons.inj hcs).1
  have hz:zs.length=cap:=by simpa using hall
  refine ⟨some a,len,cap,zs.take len,rfl,by rw [zqw];omega,hle,hmx,fun hn=>?_,fun b hb=>?_⟩
  rotate_left
  ·refine zqq (Nat.mul_le_mul_right _ (show len≤(lits (H:=H) k (zs.take len)).length+(lits (H:=H) k (zs.drop len)).length by simp [lits];omega)) (hb _ ?_)
   simp [DataW.weights,DataW.weightsEach,ht,hts,hs]
  rw [List.length_map,zqw] at hn;refine ⟨a,rfl,?_,fun j u hu=>?_⟩
  ·have h0:=hcell 0 (by omega)
   have:=z8v h0
   rwa [z1a] at this
  ·rw [List.getElem?_map,List.getElem?_take] at hu;by_cases hj:j<len
   ·rw [if_pos hj,zql (by omega)] at hu
    rw [hcell j (by omega),List.getD_eq_getElem?_getD,zql (by omega)]
    exact hu
   ·rw [if_neg hj] at hu;cases hu
theorem z4ad {tr t ts e:TypeId}{g0 g1 f0:Field}{k:IntKind}(hr:P.underlying tr=some (.struct #[g0,g1]))(hg0:g0.type=t)(hg1:g1.type=t)(ho0:g0.offset=0)(ho1:g1.offset=1)(hctr:P.cellsOf tr=2)(hct:P.cellsOf t=1)
  (ht:P.underlying t=some (.struct #[f0])) (hts:f0.type=ts) (hoff:f0.offset=0) (hcs1:P.cellsOf ts=1) (hs:P.underlying ts=some (.slice e)) (he:P.underlying e=some (.int k)) (hc:P.cellsOf e=1) {r:Reach} {b0:Nat} {v:Value} {d:DataW H} {ps:List MemPlace}
  (hval:Value.okWide P W r b0 tr v) (h:DataW.Trod enc P W 0 (fun _=>true) true tr v d ps) :
  ∃ (A:Option Addr) (n c:Nat) (zs:List Int) (A2:Option Addr) (m c2:Nat) (ys:List Int),v=.agg #[.slice A n c,.slice A2 m c2]∧zs.length=n∧n≤c∧c≤maxLen∧Sl W W.heap.size A (zs.map (Value.int k))∧ys.length=m∧m≤c2∧c2≤maxLen∧Sl W W.heap.size A2 (ys.map (Value.int k))∧∀ b,(∀ x∈d.weights P tr,x≤b)→n*P.bytesOf e≤b∧m*P.bytesOf e≤b:=by
 obtain ⟨cs,rfl,hsz⟩:=okWide_struct hr hval
 rw [hctr] at hsz;obtain ⟨fuel,hf⟩:=h;obtain ⟨y0,y1,m,hyy,hl,hy0,hy1⟩:=trod_struct2 hr hf
 obtain rfl:d=.agg [y0.1,y1.1]:=congrArg Prod.fst hyy
 rw [ho0,hg0,hct,List.drop_zero] at hy0;rw [ho1,hg1,hct] at hy1;obtain ⟨u,x,rfl⟩:∃ u x,cs=#[u,x]:=by
  obtain ⟨l⟩:=cs
  match l,hsz with
  | [u,x],_=>exact ⟨u,x,rfl⟩
 obtain ⟨A,n,c,zs,rfl,a1,a2,a3,a4,a5⟩:=z2an ht hts hoff hcs1 hs he hc (show DataW.trod enc P W 0 (fun _=>true) true m t [u]=some y0 from hy0)
 obtain ⟨A2,n2,c2,ys,rfl,b1,b2,b3,b4,b5⟩:=z2an ht hts hoff hcs1 hs he hc (show DataW.trod enc P W 0 (fun _=>true) true m t [x]=some y1 from hy1)
 exact ⟨A,n,c,zs,A2,n2,c2,ys,rfl,a1,a2,a3,a4,b1,b2,b3,b4,fun b hb=>⟨a5 b fun x hx=>hb x (by simp [DataW.weights,DataW.weightsEach,hr,hg0,hg1,hx]),b5 b fun x hx=>hb x (by simp [DataW.weights,DataW.weightsEach,hr,hg0,hg1,hx])⟩⟩
end
open Go.ChangeShapes Go.WideShapes Go.ChangeAt Go.RowKit Go.Deep
theorem z7bh:Tryz.prog.cellsOf 3=1:=by kernel_rfl
theorem z5be:Tryz.prog.cellsOf 38=6:=by kernel_rfl
theorem z7bg:Tryz.prog.cellsOf 40=8:=by kernel_rfl
theorem z6bv {n:Int}(h:(Lit.int .i64 n).wf=true): -9223372036854775808≤n∧n≤9223372036854775807:=by
 simp [Lit.wf,IntKind.min,IntKind.max,IntKind.bits,IntKind.signed] at h
 omega
section
variable {H:Type}{enc:TypeId×Value→H}{W:World}{sp:Nat→Bool}{held:Bool}{fuel:Nat}
theorem z2x {r:Value}{x:DataW H×List MemPlace}(h:DataW.trod enc Tryz.prog W 0 sp held fuel 3 [r]=some x):∃ z:Int,r=.int .i64 z:=by
 obtain ⟨n,e,_,_⟩:=DataW.trod_int Tryz.underlying3 h
 exact ⟨n,(List.cons.inj e).1⟩
theorem z4ae {r0 r1 r2 r3 r4 r5:Value}{x:DataW H×List MemPlace}(h:DataW.trod enc Tryz.prog W 0 sp held fuel 38 [r0,r1,r2,r3,r4,r5]=some x):∃ p:Pl,[r0,r1,r2,r3,r4,r5]=p.vs.toList:=by
 obtain ⟨xs,n,_,_,_,hlen,hf⟩:=DataW.trod_struct Tryz.underlying38 h
 match xs,hlen with
 | [y0,y1,y2,y3,y4,y5],_=>
  have h0:DataW.trod enc Tryz.prog W 0 sp held n 3 (([r0,r1,r2,r3,r4,r5].drop 0).take (Tryz.prog.cellsOf 3))=some y0:=hf 0 _ rfl
  have h1:DataW.trod enc Tryz.prog W 0 sp held n 3 (([r0,r1,r2,r3,r4,r5].drop 1).take (Tryz.prog.cellsOf 3))=some y1:=hf 1 _ rfl
  have h2:DataW.trod enc Tryz.prog W 0 sp held n 3 (([r0,r1,r2,r3,r4,r5].drop 2).take (Tryz.prog.cellsOf 3))=some y2:=hf 2 _ rfl
  have h3:DataW.trod enc Tryz.prog W 0 sp held n 3 (([r0,r1,r2,r3,r4,r5].drop 3).take (Tryz.prog.cellsOf 3))=some y3:=hf 3 _ rfl
  have h4:DataW.trod enc Tryz.prog W 0 sp held n 3 (([r0,r1,r2,r3,r4,r5].drop 4).take (Tryz.prog.cellsOf 3))=some y4:=hf 4 _ rfl
  have h5:DataW.trod enc Tryz.prog W 0 sp held n 3 (([r0,r1,r2,r3,r4,r5].drop 5).take (Tryz.prog.cellsOf 3))=some y5:=hf 5 _ rfl
  rw [z7bh] at h0 h1 h2 h3 h4 h5;obtain ⟨z0,rfl⟩:=z2x (show DataW.trod enc Tryz.prog W 0 sp held n 3 [r0]=some y0 from h0)
  obtain ⟨z1,rfl⟩:=z2x (show DataW.trod enc Tryz.prog W 0 sp held n 3 [r1]=some y1 from h1)
  obtain ⟨z2,rfl⟩:=z2x (show DataW.trod enc Tryz.prog W 0 sp held n 3 [r2]=some y2 from h2)
  obtain ⟨z3,rfl⟩:=z2x (show DataW.trod enc Tryz.prog W 0 sp held n 3 [r3]=some y3 from h3)
  obtain ⟨z4,rfl⟩:=z2x (show DataW.trod enc Tryz.prog W 0 sp held n 3 [r4]=some y4 from h4)
  obtain ⟨z5,rfl⟩:=z2x (show DataW.trod enc Tryz.prog W 0 sp held n 3 [r5]=some y5 from h5)
  exact ⟨⟨z0,z1,z2,z3,z4,z5⟩,rfl⟩
theorem z6au {cs:List Value}{x:DataW H×List MemPlace}(hc:cs.length=8)(h:DataW.trod enc Tryz.prog W 0 sp held fuel 40 cs=some x):∃ y:Sn,cs=y.vs.toList:=by
 obtain ⟨r0,r1,r2,r3,r4,r5,r6,r7,rfl⟩:=z8aa hc
 obtain ⟨xs,n,_,_,_,hlen,hf⟩:=DataW.trod_struct Tryz.underlying40 h
 match xs,hlen with
 | [y0,y1,y2],_=>
  have h0:DataW.trod enc Tryz.prog W 0 sp held n 38 (([r0,r1,r2,r3,r4,r5,r6,r7].drop 0).take (Tryz.prog.cellsOf 38))=some y0:=hf 0 _ rfl
  have h1:DataW.trod enc Tryz.prog W 0 sp held n 3 (([r0,r1,r2,r3,r4,r5,r6,r7].drop 6).take (Tryz.prog.cellsOf 3))=some y1:=hf 1 _ rfl
  have h2:DataW.trod enc Tryz.prog W 0 sp held n 3 (([r0,r1,r2,r3,r4,r5,r6,r7].drop 7).take (Tryz.prog.cellsOf 3))=some y2:=hf 2 _ rfl
  rw [z7bh] at h1 h2;rw [z5be] at h0;obtain ⟨p,hp⟩:=z4ae (show DataW.trod enc Tryz.prog W 0 sp held n 38 [r0,r1,r2,r3,r4,r5]=some y0 from h0)
  obtain ⟨z6,rfl⟩:=z2x (show DataW.trod enc Tryz.prog W 0 sp held n 3 [r6]=some y1 from h1)
  obtain ⟨z7,rfl⟩:=z2x (show DataW.trod enc Tryz.prog W 0 sp held n 3 [r7]=some y2 from h2)
  refine ⟨⟨p,z6,z7⟩,?_⟩
  show [r0,r1,r2,r3,r4,r5]++[.int .i64 z6,.int .i64 z7]=p.vs.toList++[.int .i64 z6,.int .i64 z7]
  rw [hp]
theorem z4ac {r:Reach}{b0:Nat}{v:Value}{d:DataW H}{ps:List MemPlace}(hval:Value.okWide Tryz.prog W r b0 23 v)(h:DataW.Trod enc Tryz.prog W 0 (fun _=>true) true 23 v d ps):
  ∃ (A:Option Addr) (n c:Nat) (zs:List Sn),v=.slice A n c∧zs.length=n∧n≤c∧c≤maxLen∧Sl W W.heap.size A (fl zs):=by
 obtain ⟨a0,n,c,rfl⟩:=okWide_slice Tryz.underlying23 hval
 obtain ⟨fuel,hf⟩:=h;rcases open_slice Tryz.underlying23 hf with ⟨hcs,_⟩ | ⟨a,len,cap,m,k,D,Pl,hcs,_,hle,hmx,hm,_,hel⟩
 ·have e1:(Value.slice a0 n c)=.slice none 0 0:=(List.cons.inj (show [Value.slice a0 n c]=_ from hcs)).1
  injection e1 with h1 h2 h3
  subst h1 h2 h3
  exact ⟨none,0,0,[],rfl,rfl,zqj _,zqr _,Sl.nil _ _ _⟩
 ·have e1:(Value.slice a0 n c)=.slice (some a) len cap:=(List.cons.inj (show [Value.slice a0 n c]=_ from hcs)).1
  injection e1 with h1 h2 h3
  subst h1 h2 h3
  rw [if_pos rfl] at hm;have key:∀ i,i<n→∃ y:Sn,∀ j u,y.vs.toList[j]?=some u→W.cell? ((a.add (i*8)).add j)=some u:=fun i hi=>by
   obtain ⟨cs',hc,ht⟩:=hel i (by omega)
   rw [z7bg] at hc;obtain ⟨_,hl,hcell⟩:=World.cells?_some hc
   obtain ⟨y,rfl⟩:=z6au hl ht
   exact ⟨y,fun j u hu=>by rw [hcell j (by have:=z0e hu;omega)];exact hu⟩
  have build:∀ k,k≤n→∃ zs:List Sn,zs.length=k∧∀ j u,(fl zs)[j]?=some u→W.cell? (a.add j)=some u:=fun k=>by
   induction k with
   | zero=>exact fun _=>⟨[],rfl,fun j u hu=>by simp [fl] at hu⟩
   | succ k ih=>
    intro hk;obtain ⟨zs,hl,hz⟩:=ih (by omega)
    obtain ⟨y,hy⟩:=key k (by omega)
    refine ⟨zs++[y],by rw [zqm,hl];rfl,fun j u hu=>?_⟩
    rw [z7i] at hu;rcases zqi j (fl zs).length with h1 | h1
    ·rw [zqn h1] at hu;exact hz j u hu
    ·rw [zqo h1,z3m,hl] at hu;have:=hy _ u hu
     rw [Go.Proofs.YtpmofjomadibmaaGreatDoor.add_add] at this;rw [z3m,hl] at h1;rwa [show k*8+(j - k*8)=j by omega] at this
  obtain ⟨zs,hl,hz⟩:=build n (zqj _)
  refine ⟨some a,n,c,zs,rfl,hl,hle,hmx,fun hn=>⟨a,rfl,?_,hz⟩⟩
  have h0:=hz 0 _ (zql hn)
  have:=z8v h0
  rwa [z1a] at this
end
theorem z5bz {W:World}(h:laidMetH Tryz.prog Rows.classifyJudgesRow.laid W):Tab W:=by
 rw [MakeChecks.laidMetH_plain _ _ _ (by kernel_rfl)] at h
 obtain ⟨ps,⟨g,t,cs,fuel,p,q,hg,ht,hv,hd,_,_⟩,_⟩:=h
 obtain rfl := zqk ((show Tryz.prog.globalNamed "math/bits.deBruijn64tab" = some 0 by kernel_rfl).symm.trans hg)
 obtain rfl:=zqk ((show (Tryz.prog.globals[0]?).map (·.type)=some 180 by kernel_rfl).symm.trans ht)
 obtain ⟨xs,m,_,ex,_,hl,hel⟩:=DataW.trod_array Tryz.underlying180 hd
 have c5:Tryz.prog.cellsOf 5=1:=by kernel_rfl
 have hlen:Lib.deBruijn64tab.length=64:=by kernel_rfl
 have e3:(xs.map (·.1))=Lib.deBruijn64tab.map fun n:Nat=>.lit (.int .u8 (n:Int)):=(DataW.agg.inj (Prod.mk.inj ex).1).symm
 have hcell:∀ k v:Nat,Lib.deBruijn64tab[k]?=some v→W.cell? ⟨0,k,none⟩=some (.int .u8 (v:Int)):=by
  intro r v hr;have hr64:r<64:=by
   rcases zqi r 64 with h | h
   ·exact h
   ·rw [List.getElem?_eq_none (by omega)] at hr;cases hr
  have hE:=hel r hr64
  rw [c5,Nat.mul_one,zql (by omega)] at hE
  obtain ⟨z,e1,e2,_⟩:=DataW.trod_int Tryz.underlying5 hE
  have e4:(xs.map (·.1))[r]?=(Lib.deBruijn64tab.map fun n:Nat=>(DataW.lit (.int .u8 (n:Int)):DataW Unit))[r]?:=by rw [e3]
  rw [List.getElem?_map,List.getElem?_map,zql (by omega:r<xs.length),hr,e2] at e4
  have hz:z=(v:Int):=by
   simp only [Option.map_some,Option.some.injEq,DataW.lit.injEq,Lit.int.injEq,true_and] at e4;exact e4
  rw [World.var?_cell hg hv r,← hz];have:cs.toList[r]?=some (.int .u8 z):=by
   have h0:((cs.toList.drop r).take 1)[0]?=some (.int .u8 z):=by rw [e1];rfl
   simpa using h0
  simpa using this
 refine ⟨?_,hcell⟩
 have h0:=hcell 0 0 (by kernel_rfl)
 rcases zqh W.heap.size with h | h
 ·exfalso
  unfold World.cell? at h0
  rw [Array.getElem?_eq_none (by simp only;omega)] at h0
  cases h0
 ·exact h
end Go.Proofs.YtpmofjomadibmaaGreatDoor
