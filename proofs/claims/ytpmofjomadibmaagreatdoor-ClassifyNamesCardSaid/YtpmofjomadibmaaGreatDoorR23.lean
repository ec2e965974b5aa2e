/- ClassifyNamesW LawSl ClsTab -/
import Derived.Test.YtpmofjomadibmaaGreatDoorR22
import Derived.ProofKit
import Derived.OpenShut
import Derived.Carry
import Derived.Test.YtpmofjomadibmaaGreatDoorRows
import Derived.LaidMore
import Derived.Lay
import Derived.SevenTiedAt
import Derived.Stop.Joined
import Derived.Lib.SmallJoins
namespace Go.Proofs.YtpmofjomadibmaaGreatDoor
set_option maxHeartbeats 16000000
open Go.RowKit Go.Sort
open Go.ChangeMaps (setBlock heap_setBlock_same heap_setBlock_other)
set_option linter.unusedVariables false
set_option maxRecDepth 100000
open Cl
theorem z5by {k:Int}{s:Pl}(hk:kd k)(hs:shV s):1≤prt k s∧prt k s≤4096:=by
 unfold prt;rw [if_pos hk];obtain ⟨⟨a1,_⟩,⟨b1,_⟩,⟨c1,_⟩,⟨d1,_⟩,⟨e1,_⟩,⟨f1,_⟩,hsum⟩:=hs
 have hb:(bt k s).toNat≤12:=by
  unfold bt
  repeat' split
  all_goals omega
 obtain ⟨m,hm⟩:∃ m,(bt k s).toNat=m:=⟨_,rfl⟩
 rw [hm] at hb ⊢
 have h1:1≤2 ^ m:=Nat.pow_pos (by omega)
 have h2:2 ^ m≤2 ^ 12:=Nat.pow_le_pow_right (by omega) hb
 have e:((2:Int) ^ m)=((2 ^ m:Nat):Int):=by simp
 rw [e];omega
theorem z7bn {x y:Nat}(h:frC x y):FrK x y∧x≤1000∧y≤1000:=by
 obtain ⟨z,den,h1,h2,h3,h4⟩:=h;have ht:(1000:Nat)<Na.top:=by decide +kernel
 obtain ⟨n,d,e,F,_,h5,h6⟩:=FrK.of (x:=z) (y:=den) (by omega) (by omega) h2
 rw [h4] at e;simp only [Prod.mk.injEq] at e;obtain ⟨rfl,rfl,_⟩:=e;exact ⟨F,by omega,by omega⟩
theorem z1an {x:Nat}(h:x≤1000):(Na.up (Na.dig x)).length≤20:=by
 rw [Na.up_length];have:=Na.dig_len_le (x:=x) (n:=1) (by omega)
 omega
theorem z9am {l:List Sn}:∀ x∈l.map Sn.one,z3p 6 x=(⟨0,0,0,0,0,0⟩,1):=fun x hx=>by
 obtain ⟨y,_,rfl⟩:=List.mem_map.1 hx
 rfl
theorem z2bh:str (rprt (Na.up (Na.dig 1)) (Na.up (Na.dig 1)))=⟨#[49,47,49]⟩:=by kernel_rfl
theorem z0bg {α:Type}{a b c d e:α}{r:List α}{o:α}(h:o∈[a,b,c,d,e]):o∈a :: b :: c :: d :: e :: r:=List.mem_append_left r h
def RNm (s:Pl)(p q:List Int)(l:List Sn)(w:World)(g:Option Nat)(L:List Ob)(O:List Rw)(x9:Value)(wr:World):Prop:=
 ∃ i:Nat,1≤i∧i≤6∧x9=.int .i64 (i:Int)∧Hid (Ow w wr g [] L O)∧Hid (jud s p q l=z9r s p q l i (6 - i))
def cntP (k:Int)(y:Sn)(l:List Sn)(j:Nat):Nat:=((l.take j).filter fun x=>decide (z3p k x=z3p k y)).length
theorem z7an {k:Int}{y x:Sn}{l:List Sn}{j:Nat}(h:l[j]?=some x):cntP k y l (j+1)=cntP k y l j+if decide (z3p k x=z3p k y)=true then 1 else 0:=by
 unfold cntP;rw [List.take_add_one,h]
 show ((l.take j++[x]).filter _).length=_
 rw [List.filter_append,zqm,List.filter_cons];split <;> rfl
def RCn (k:Int)(y:Sn)(l:List Sn)(n:Nat)(w:World)(g:Option Nat)(L:List Ob)(O:List Rw)(x16 x77:Value)(wr:World):Prop:=
 ∃ j m:Nat,j≤n∧m≤j∧x77=.int .i64 (j:Int)∧x16=.int .i64 (m:Int)∧Hid (m=cntP k y l j)∧Hid (Ow w wr g [] L O)
structure NmK (w0:World)(g:Option Nat)(L:List Ob)(OO:List Rw)(vb ng:Nat)(B1:Option Addr)(n1 d1:Nat)(B2:Option Addr)(n2 d2:Nat)(C1:Option Addr)(r1 t1:Nat)(C2:Option Addr)(r2 t2:Nat)(S:ByteArray)(Ld:Nat→Bool)(u0 u1 u2 u3 u4 u5 u6 u7 u8 u9 u10 u11 u12 u13 u14 u15 u16 u17 u18 u19 u20 u21 u22 u23:Value)(W:World):Prop where
 ow:Ow w0 W g [] L OO
 h0:Ld 0=true→u0=.bool true
 h1:Ld 1=true→u1=.bool true
 h2:Ld 2=true→u2=.int .i64 (ng:Int)
 h3:Ld 3=true→u3=.pointer (some ⟨vb,8,none⟩)
 h4:Ld 4=true→u4=.int .i64 (ng:Int)
 h5:Ld 5=true→u5=.bool true
 h6:Ld 6=true→u6=.bool true
 h7:Ld 7=true→u7=.bool true
 h8:Ld 8=true→u8=.int .i64 (ng:Int)
 h9:Ld 9=true→u9=.int .i64 (ng:Int)
 h10:Ld 10=true→u10=.bool true
 h11:Ld 11=true→u11=.bool true
 h12:Ld 12=true→u12=.bool true
 h13:Ld 13=true→u13=.agg #[.slice B1 n1 d1,.slice B2 n2 d2]
 h14:Ld 14=true→u14=.string S
 h15:Ld 15=true→u15=.pointer (some ⟨vb,9,none⟩)
 h16:Ld 16=true→u16=.agg #[.slice C1 r1 t1,.slice C2 r2 t2]
 h17:Ld 17=true→u17=.string S
 h18:Ld 18=true→u18=.bool true
 h19:Ld 19=true→u19=.bool true
 h20:Ld 20=true→u20=.bool true
 h21:Ld 21=true→u21=.bool true
 h22:Ld 22=true→u22=.bool true
 h23:Ld 23=true→u23=.bool true
def NmI (w0:World)(g:Option Nat)(L:List Ob)(OO:List Rw)(vb ng:Nat)(B1:Option Addr)(n1 d1:Nat)(B2:Option Addr)(n2 d2:Nat)(C1:Option Addr)(r1 t1:Nat)(C2:Option Addr)(r2 t2:Nat)(S:ByteArray)(A0:Act)(Ld:Nat→Bool)(a:Act)(W:World):Prop:=
 ∃ (u0 u1 u2 u3 u4 u5 u6 u7 u8 u9 u10 u11 u12 u13 u14 u15 u16 u17 u18 u19 u20 u21 u22 u23:Value),a=((((((((((((((((((((((((A0.put (some 92) u0).put (some 93) u1).put (some 94) u2).put (some 95) u3).put (some 96) u4).put (some 97) u5).put (some 98) u6).put (some 99) u7).put (some 100) u8).put (some 101) u9).put (some 102) u10).put (some 103) u11).put (some 104) u12).put (some 105) u13).put (some 106) u14).put (some 107) u15).put (some 108) u16).put (some 109) u17).put (some 110) u18).put (some 111) u19).put (some 112) u20).put (some 113) u21).put (some 114) u22).put (some 2) u23)∧NmK w0 g L OO vb ng B1 n1 d1 B2 n2 d2 C1 r1 t1 C2 r2 t2 S Ld u0 u1 u2 u3 u4 u5 u6 u7 u8 u9 u10 u11 u12 u13 u14 u15 u16 u17 u18 u19 u20 u21 u22 u23 W
theorem z5z (A0:Option Addr)(n0 c0:Nat)(ts:List Int)(w:World)(hn0:ts.length=n0)(hl0:n0≤9223372036854775807)(hs0:Sl w w.heap.size A0 (z0r ts))(ht:Tab w):
  Calls Tryz.prog 4 #[.slice A0 n0 c0] w fun e w'=>e=.returned (.bool true)∧Below w.heap.size w w':=by
 have HT:=zh ht;have HAw:=zh (z5h w ht)
 clear ht;rcases zqi 400 n0 with hbig | hsm
 ·have HLi:=zh (z0bh A0 n0 c0 w hbig hl0)
  clear hn0 hs0 hbig;go_enter Tryz.func4,Tryz.ntmps4
  go_wp2_with fail;refine HLi.out.mono ?_;rintro e w1 ⟨rfl,rfl⟩;go_wp2_with fail;refine HAw.out.mono ?_;rintro e w2 ⟨rfl,hb⟩;have HB:=zh hb;clear hb;go_wp2_with fail;go_ret;exact ⟨rfl,HB.out⟩
 have HLi:=zh (z6as A0 n0 c0 w hsm)
 have HR:=zh (z2bw (Ow.of (St.refl w)) A0 n0 c0 w.heap.size ts hn0 (by omega) (zqj _) hs0)
 clear hs0 hn0 hsm hl0;go_enter Tryz.func4,Tryz.ntmps4
 go_wp2_with fail;refine HLi.out.mono ?_;rintro e w1 ⟨rfl,rfl⟩;go_wp2_with fail;refine HR.out.mono ?_;rintro e w1 ⟨g,rfl,hd1,h1⟩;have HBd:Hid (w.heap.size≤w.heap.size):=zqj _
 have HC:=zh (z8ap h1 hd1 HBd.out)
 clear HR HLi hd1 h1;go_wp2_with fail;refine HC.out.mono ?_;rintro e w2 ⟨sh,rfl,hsh,hd2,h2⟩;obtain ⟨so,ch,ra,ba,ro,co,rfl,h12⟩:=z5ar (z5bq hsh)
 have HSm:=zh h12;have HSv:=zh (z5bq hsh)
 have HC2:=zh (z7ap h2 hd2 HBd.out)
 clear HC hd2 h2 hsh h12;go_wp2_with fail;refine HC2.out.mono ?_;rintro e w3 ⟨X1,k1,f1,X2,k2,f2,x,y,rfl,hfr,hd3,h3⟩;have HFr:=zh (z7bn hfr)
 have H4:=(h3.arr #[.int .i64 so,.int .i64 ch,.int .i64 ra,.int .i64 ba,.int .i64 ro,.int .i64 co] 6 rfl (by omega) 33).pair (.slice X1 k1 f1) (.slice X2 k2 f2) 27
 simp only [World.size_alloc,zqb,zqc] at H4;have D4:Dice ((w3.alloc (.cells #[.int .i64 so,.int .i64 ch,.int .i64 ra,.int .i64 ba,.int .i64 ro,.int .i64 co] 33)).alloc (.cells #[.slice X1 k1 f1,.slice X2 k2 f2] 27)) g w.heap.size:=(hd3.below (z0i _ _)).below (z0i _ _)
 obtain ⟨a0,a1,a2,a3,a4,a5⟩:=zc6 (H4.row 0 rfl);have HL:=zh (z4bj H4 D4 HBd.out so ch ra ba ro co HSm.out 12 (by omega))
 clear HC2 hd3 h3 H4 D4 hfr;unfold Pl.vs;go_wp2_with fail;refine HL.out.mono ?_;rintro e w5 ⟨A,n,c,l0,rfl,hl,hn,hv,-,hx5⟩;have hsp:=z9am (l:=l0)
 obtain ⟨l,hlz⟩:∃ z,l0.map Sn.one=z:=⟨_,rfl⟩
 rw [hlz] at hl hx5 hv hsp;have HLn:Hid (l.length=n∧n≤12):=⟨hl,hn⟩
 have H6:=(hx5.keepX 0 rfl (m:=n*8) rfl (by omega) (by omega)).ow
 simp only [zqb,zqc] at H6;have HJ:=zh (z1bn (p:=(Na.up (Na.dig x))) (q:=(Na.up (Na.dig y))) (l:=l) (n3:=n) (c3:=c) ⟨(so:Int),ch,ra,ba,ro,co⟩ H6 0 1 2 (by rw [z0g];rfl) (by rw [z0g];rfl) rfl HT.out)
 rw [z4bl HSv.out HFr.out.1.rv hv (by omega) (z1an HFr.out.2.1) (z1an HFr.out.2.2) (z9an hsp)] at HJ
 obtain ⟨V,hV⟩:∃ V,jud ⟨(so:Int),ch,ra,ba,ro,co⟩ (Na.up (Na.dig x)) (Na.up (Na.dig y)) l=V:=⟨_,rfl⟩
 rw [hV] at HJ;have HV:=zh hV;obtain ⟨vk,⟨q0,q1,q2,q3,q4,q5⟩,vc,vh,vx,vy⟩:=V
 unfold JdR Vd.vs Pl.vs at HJ;simp only [zqb,zqc] at HJ;have e0:=H6.p0 1 rfl
 have e1:=H6.p1 1 rfl
 clear a0 a1 a2 a3 a4 a5;obtain ⟨a0,a1,a2,a3,a4,a5⟩:=zc6 (H6.row 0 rfl);clear HL hlz hl hn hx5 hv hsp H6 hV;go_wp2_with fail;refine HJ.out.mono ?_;rintro e w6 ⟨C1,r1,t1,C2,r2,t2,rfl,G⟩;have H7:=G.arr #[.int .i64 vk,.int .i64 q0,.int .i64 q1,.int .i64 q2,.int .i64 q3,.int .i64 q4,.int .i64 q5,.int .i64 vc,.int .i64 vh,.slice C1 r1 t1,.slice C2 r2 t2] 11 rfl (by omega) 42
 simp only [zqb,zqc] at H7;have HO:=zh H7;clear HJ G H7 e0 e1 a0 a1 a2 a3 a4 a5;go_wp2_with fail;go_loopw [9] (fun x9 wr=>RNm ⟨(so:Int),ch,ra,ba,ro,co⟩ (Na.up (Na.dig x)) (Na.up (Na.dig y)) l w (some g) [⟨X1,k1,f1,z0c (Na.dig x)⟩,⟨X2,k2,f2,z0c (Na.dig y)⟩,⟨A,n*8,n*8,fl l⟩,⟨C1,r1,t1,z0c (Na.dig vx)⟩,⟨C2,r2,t2,z0c (Na.dig vy)⟩] [⟨some ⟨w3.heap.size,0,none⟩,6,6,33,[.int .i64 so,.int .i64 ch,.int .i64 ra,.int .i64 ba,.int .i64 ro,.int .i64 co]⟩,Rw.pair (w3.heap.size+1) 27 (.slice X1 k1 f1) (.slice X2 k2 f2),⟨some ⟨w6.heap.size,0,none⟩,11,11,42,[.int .i64 vk,.int .i64 q0,.int .i64 q1,.int .i64 q2,.int .i64 q3,.int .i64 q4,.int .i64 q5,.int .i64 vc,.int .i64 vh,.slice C1 r1 t1,.slice C2 r2 t2]⟩] x9 wr) (fun x9 _=>7 - (intOf x9).toNat)
 case atStart=>exact ⟨1,by omega,by omega,rfl,HO.out,rfl⟩
 case round=>
  clear HO;obtain ⟨i,h1,h6,rfl,HO,HF⟩:=hrel;rcases zqi i 6 with hlt | hge
  ·have hd0:decide ((i:Int)≤5)=true:=zt (by omega)
   have hd1:decide (i≤5)=true:=zt (by omega)
   have HKd:Hid (kd (i:Int)):=⟨by omega,by omega⟩
   have HI:Hid (1≤i∧i≤5):=⟨h1,by omega⟩
   have hw1:IntKind.i64.wrap ((i:Int)+1)=((i+1:Nat):Int):=by rw [IntWalk.i64_in _ (by omega)];omega
   have HLg:=zh (z8at (i:Int) HKd.out A n c l wr HLn.out.1 (by have:=HLn.out;omega) (HO.out.sl (i:=2) rfl).2.2.2)
   obtain ⟨gl,hgl⟩:∃ z,z6e (i:Int) l=z:=⟨_,rfl⟩
   have HGl:=zh hgl;rw [hgl] at HLg;have hn12:n≤12:=HLn.out.2
   clear hgl h1 h6 hlt;go_wp2_with fail;refine HLg.out.mono ?_;rintro e w7 ⟨Ag,ng,cg,rfl,hng,how,hb⟩;have H1:=HO.out.add how hb
   simp only [zqb,zqc] at H1;obtain ⟨a0,a1,a2,a3,a4,a5⟩:=zc6 (H1.row 0 rfl);have HP:=zh (fun W=>z5u (i:Int) ⟨(so:Int),ch,ra,ba,ro,co⟩ HSv.out W)
   unfold Pl.vs at HP;have hgn:ng≤n:=by
    have h1:=z4bi (k:=(i:Int)) (l:=l)
    have h2:=HGl.out;have h3:=HLn.out;rw [h2] at h1;omega
   clear HLg how hb;go_wp2_with fail;refine (HP.out _).mono ?_
   rintro e w8 ⟨rfl,hb⟩;have H2:=H1.go hb
   have HCl:=zh (z0am H2 (n:Int) (prt (i:Int) ⟨(so:Int),ch,ra,ba,ro,co⟩) (ng:Int))
   have hpb:=z5by HKd.out HSv.out
   obtain ⟨cx,cy,hcf,FK,bx,bY⟩:=z0bv (a:=(n:Int)) (b:=prt (i:Int) ⟨(so:Int),ch,ra,ba,ro,co⟩) (k:=(ng:Int)) (by omega) hpb
   have HT0:Hid (chc ⟨(so:Int),ch,ra,ba,ro,co⟩ l (i:Int)=(cx,cy,0)):=by unfold Hid chc;rw [HLn.out.1,HGl.out,hng];exact hcf
   rw [hcf] at HCl;unfold z8k at HCl;simp only [zqb,zqc] at HCl;have HFK:=zh (show FrK cx cy∧cx≤4096 ^ 12∧cy≤4096 ^ 12 from ⟨FK,bx,bY⟩)
   clear a0 a1 a2 a3 a4 a5 hb H1 HP H2 hcf FK bx bY hpb;go_wp2_with fail;refine HCl.out.mono ?_;rintro e w9 ⟨B1,n1,d1,B2,n2,d2,rfl,G⟩;have H4:=G.pair (.slice B1 n1 d1) (.slice B2 n2 d2) 27
   simp only [zqb,zqc] at H4;have c0:=H4.p0 4 rfl
   have c1:=H4.p1 4 rfl
   have b0:=H4.p0 1 rfl
   have b1:=H4.p1 1 rfl
   have HM:=zh (z5ah (p:=Na.up (Na.dig cx)) (q:=Na.up (Na.dig cy)) (r:=(Na.up (Na.dig x))) (s:=(Na.up (Na.dig y))) H4 5 6 0 1 (by rw [z0g];rfl) (by rw [z0g];rfl) (by rw [z0g];rfl) (by rw [z0g];rfl))
   obtain ⟨cv,hcv⟩:∃ z,cmpV (Na.up (Na.dig cx)) (Na.up (Na.dig cy)) (Na.up (Na.dig x)) (Na.up (Na.dig y))=z:=⟨_,rfl⟩
   obtain ⟨ce,hce⟩:∃ z,cmpE (Na.up (Na.dig cx)) (Na.up (Na.dig cy)) (Na.up (Na.dig x)) (Na.up (Na.dig y))=z:=⟨_,rfl⟩
   rw [hcv,hce] at HM;have HCv:=zh hcv;have hce0:ce=0:=by
    rw [← hce];refine (z4bo HFK.out.1 HFr.out.1 ?_ ?_).2
    ·have h1:cx*y≤4096 ^ 12*1000:=Nat.mul_le_mul HFK.out.2.1 HFr.out.2.2
     have h2:(4096:Nat) ^ 12*1000<Na.top:=by decide +kernel
     exact zqu h1 h2
    ·have h1:x*cy≤1000*4096 ^ 12:=Nat.mul_le_mul HFr.out.2.1 HFK.out.2.2
     have h2:1000*(4096:Nat) ^ 12<Na.top:=by decide +kernel
     exact zqu h1 h2
   have HCe:Hid (cE (cx,cy,0) (Na.up (Na.dig x)) (Na.up (Na.dig y))=0):=by unfold Hid;rw [← hce0];exact hce
   have hHng:=zh hng;clear hcv hce hce0 H4 HCl G hng;go_wp2_with fail;refine HM.out.mono ?_;rintro e w10 ⟨rfl,H5⟩;have HH:=zh H5;clear HM c0 c1 b0 b1 H5;by_cases hsm:2≤ng∧cv≤0
   ·have HRs:(⟨vk,⟨q0,q1,q2,q3,q4,q5⟩,vc,vh,vx,vy⟩:Vd)=⟨(i:Int),wh (i:Int) (fst l gl).p,(fst l gl).cp,(ng:Int),cx,cy⟩:=by
     rw [← HV.out,HF.out];refine z9p HI.out.2 ?_
     rw [z6aw (by rw [HGl.out,hHng.out];omega) (by rw [HT0.out];exact ⟨HCe.out,by show cmpV _ _ _ _≤0;rw [HCv.out];exact hsm.2⟩),HGl.out,hHng.out,HT0.out]
    simp only [Vd.mk.injEq] at HRs;obtain ⟨rfl,hpl,rfl,rfl,hx1,hy1⟩:=HRs;obtain rfl:cx=vx:=hx1.symm
    obtain rfl:cy=vy:=hy1.symm
    have HCn:Hid (cntP (i:Int) ⟨⟨q0,q1,q2,q3,q4,q5⟩,(fst l gl).cp,0⟩ l n=ng):=by
     have h1:=z0bi (k:=(i:Int)) (l:=l) (by rw [HGl.out,hHng.out];omega)
     rw [HGl.out,hHng.out] at h1;unfold Hid cntP;rw [hpl,zqp (by rw [HLn.out.1];exact zqj _),z2bo (i:Int) (fst l gl).p (fst l gl).cp 0 (fst l gl).ti]
     exact h1.symm
    obtain ⟨vc,hvc⟩:∃ z,(fst l gl).cp=z:=⟨_,rfl⟩
    rw [hvc] at HCn;have hg1:decide ((2:Int)≤(ng:Int))=true:=zt (by omega)
    have hg2:decide (2≤ng)=true:=zt hsm.1
    have hg3:decide (cv≤0)=true:=zt hsm.2
    rw [hvc] at HH;have v0:w10.cell? ⟨w6.heap.size,0,none⟩=some (.int .i64 (i:Int)):=(HH.out.row 2 rfl).cellAt 0 (by decide)
    clear hpl hvc hsm HV HF HGl hHng HCv HCe HT0;go_wp2_with fail;go_loopw [16,77] (fun x16 x77 wr=>RCn (i:Int) (⟨⟨q0,q1,q2,q3,q4,q5⟩,vc,0⟩:Sn) l n w (some g) [⟨X1,k1,f1,z0c (Na.dig x)⟩,⟨X2,k2,f2,z0c (Na.dig y)⟩,⟨A,n*8,n*8,fl l⟩,⟨C1,r1,t1,z0c (Na.dig cx)⟩,⟨C2,r2,t2,z0c (Na.dig cy)⟩,⟨B1,n1,d1,z0c (Na.dig cx)⟩,⟨B2,n2,d2,z0c (Na.dig cy)⟩] [⟨some ⟨w3.heap.size,0,none⟩,6,6,33,[.int .i64 so,.int .i64 ch,.int .i64 ra,.int .i64 ba,.int .i64 ro,.int .i64 co]⟩,Rw.pair (w3.heap.size+1) 27 (.slice X1 k1 f1) (.slice X2 k2 f2),⟨some ⟨w6.heap.size,0,none⟩,11,11,42,[.int .i64 (i:Int),.int .i64 q0,.int .i64 q1,.int .i64 q2,.int .i64 q3,.int .i64 q4,.int .i64 q5,.int .i64 vc,.int .i64 (ng:Int),.slice C1 r1 t1,.slice C2 r2 t2]⟩,⟨Ag,ng,cg,3,z0c gl⟩,Rw.pair w9.heap.size 27 (.slice B1 n1 d1) (.slice B2 n2 d2)] x16 x77 wr) (fun _ x77 _=>n+1 - (intOf x77).toNat)
    case atStart=>exact ⟨0,0,by omega,by omega,rfl,rfl,rfl,HH⟩
    case round=>
     clear HH v0;obtain ⟨j,m,hj,hmj,rfl,rfl,HCt,HH⟩:=hrel;rcases zqi j n with hlt | hge
     ·have hj0:decide ((j:Int)<(n:Int))=true:=zt (by omega)
      have hj1:decide (j<n)=true:=zt (by omega)
      obtain ⟨x0,hx0⟩:∃ z,l[j]?=some z:=⟨l[j]'(by rw [HLn.out.1];exact hlt),zql _⟩
      obtain ⟨a,rfl,e0,e1,e2,e3,e4,e5,e6,e7⟩:=z5g (HH.out.sl (i:=2) rfl).2.2.2 hx0
      have HSt:=zh (z7an (k:=(i:Int)) (y:=(⟨⟨q0,q1,q2,q3,q4,q5⟩,vc,0⟩:Sn)) hx0)
      have HSa:=zh (fun W=>z8t (i:Int) HKd.out x0 (⟨⟨q0,q1,q2,q3,q4,q5⟩,vc,0⟩:Sn) W)
      obtain ⟨⟨x0,x1,x2,x3,x4,x5⟩,x6,x7⟩:=x0
      unfold Sn.vs at HSa;simp only at e0 e1 e2 e3 e4 e5 e6 e7 HSa
      have HA:=HH.out.arr #[.int .i64 x0,.int .i64 x1,.int .i64 x2,.int .i64 x3,.int .i64 x4,.int .i64 x5,.int .i64 x6,.int .i64 x7] 8 rfl (by omega) 40
      simp only [zqb,zqc] at HA;obtain ⟨b0,b1,b2,b3,b4,b5,b6,b7⟩:=zc8 (HA.row 5 rfl);have v1:(wr.alloc (.cells #[.int .i64 x0,.int .i64 x1,.int .i64 x2,.int .i64 x3,.int .i64 x4,.int .i64 x5,.int .i64 x6,.int .i64 x7] 40)).cell? ⟨w6.heap.size,1,none⟩=some (.int .i64 q0):=(HA.row 2 rfl).cellAt 1 (by decide)
      have v2:(wr.alloc (.cells #[.int .i64 x0,.int .i64 x1,.int .i64 x2,.int .i64 x3,.int .i64 x4,.int .i64 x5,.int .i64 x6,.int .i64 x7] 40)).cell? ⟨w6.heap.size,2,none⟩=some (.int .i64 q1):=(HA.row 2 rfl).cellAt 2 (by decide)
      have v3:(wr.alloc (.cells #[.int .i64 x0,.int .i64 x1,.int .i64 x2,.int .i64 x3,.int .i64 x4,.int .i64 x5,.int .i64 x6,.int .i64 x7] 40)).cell? ⟨w6.heap.size,3,none⟩=some (.int .i64 q2):=(HA.row 2 rfl).cellAt 3 (by decide)
      have v4:(wr.alloc (.cells #[.int .i64 x0,.int .i64 x1,.int .i64 x2,.int .i64 x3,.int .i64 x4,.int .i64 x5,.int .i64 x6,.int .i64 x7] 40)).cell? ⟨w6.heap.size,4,none⟩=some (.int .i64 q3):=(HA.row 2 rfl).cellAt 4 (by decide)
      have v5:(wr.alloc (.cells #[.int .i64 x0,.int .i64 x1,.int .i64 x2,.int .i64 x3,.int .i64 x4,.int .i64 x5,.int .i64 x6,.int .i64 x7] 40)).cell? ⟨w6.heap.size,5,none⟩=some (.int .i64 q4):=(HA.row 2 rfl).cellAt 5 (by decide)
      have v6:(wr.alloc (.cells #[.int .i64 x0,.int .i64 x1,.int .i64 x2,.int .i64 x3,.int .i64 x4,.int .i64 x5,.int .i64 x6,.int .i64 x7] 40)).cell? ⟨w6.heap.size,6,none⟩=some (.int .i64 q5):=(HA.row 2 rfl).cellAt 6 (by decide)
      have v7:(wr.alloc (.cells #[.int .i64 x0,.int .i64 x1,.int .i64 x2,.int .i64 x3,.int .i64 x4,.int .i64 x5,.int .i64 x6,.int .i64 x7] 40)).cell? ⟨w6.heap.size,7,none⟩=some (.int .i64 vc):=(HA.row 2 rfl).cellAt 7 (by decide)
      have hw2:IntKind.i64.wrap ((m:Int)+1)=((m+1:Nat):Int):=by rw [IntWalk.i64_in _ (by omega)];omega
      have hw3:IntKind.i64.wrap ((j:Int)+1)=((j+1:Nat):Int):=by rw [IntWalk.i64_in _ (by omega)];omega
      have hji:(j:Int)<(n:Int):=by omega
      have HJn:Hid (j<n∧m≤j):=⟨hlt,hmj⟩
      obtain ⟨bb,hbb⟩:∃ z,decide (z3p (i:Int) ⟨⟨x0,x1,x2,x3,x4,x5⟩,x6,x7⟩=z3p (i:Int) (⟨⟨q0,q1,q2,q3,q4,q5⟩,vc,0⟩:Sn))=z:=⟨_,rfl⟩
      rw [hbb] at HSt HSa;clear hx0 hlt hmj hbb hj;go_wp2_with fail;refine (HSa.out _).mono ?_
      rintro e w11 ⟨rfl,hb⟩;have HE:=zh (Ow.fewO (O:=[_,_,_,_,_]) (l:=[_]) (HA.go hb))
      clear HSa HA hb e0 e1 e2 e3 e4 e5 e6 e7 b0 b1 b2 b3 b4 b5 b6 b7 v1 v2 v3 v4 v5 v6 v7;cases bb with
      | true=>
       go_wp2_with fail;go_roundw
       case rel=>exact ⟨j+1,m+1,by have:=HJn.out;omega,by have:=HJn.out;omega,rfl,rfl,by unfold Hid;rw [HSt.out,← HCt.out];simp,HE⟩
       case measure=>
        have:=HJn.out
        simp [intOf]
        omega
      | false=>
       go_wp2_with fail;go_roundw
       case rel=>exact ⟨j+1,m,by have:=HJn.out;omega,by have:=HJn.out;omega,rfl,rfl,by unfold Hid;rw [HSt.out,← HCt.out];simp,HE⟩
       case measure=>
        have:=HJn.out
        simp [intOf]
        omega
     ·have hj0:decide ((j:Int)<(n:Int))=false:=zn (by omega)
      have hj1:decide (j<n)=false:=zn (by omega)
      obtain rfl:n=j:=by omega
      obtain rfl:ng=m:=(HCt.out.trans HCn.out).symm
      obtain ⟨S,hS⟩:∃ S,str (rprt (Na.up (Na.dig cx)) (Na.up (Na.dig cy)))=S:=⟨_,rfl⟩
      have HP1:Hid (∀ (W:World) {O:List Rw},Ow w W (some g) [] [⟨X1,k1,f1,z0c (Na.dig x)⟩,⟨X2,k2,f2,z0c (Na.dig y)⟩,⟨A,n*8,n*8,fl l⟩,⟨C1,r1,t1,z0c (Na.dig cx)⟩,⟨C2,r2,t2,z0c (Na.dig cy)⟩,⟨B1,n1,d1,z0c (Na.dig cx)⟩,⟨B2,n2,d2,z0c (Na.dig cy)⟩] O→Calls Tryz.prog 24 #[.agg #[.slice B1 n1 d1,.slice B2 n2 d2]] W fun e w'=>e=.returned (.string S)∧Ow w w' (some g) [] [⟨X1,k1,f1,z0c (Na.dig x)⟩,⟨X2,k2,f2,z0c (Na.dig y)⟩,⟨A,n*8,n*8,fl l⟩,⟨C1,r1,t1,z0c (Na.dig cx)⟩,⟨C2,r2,t2,z0c (Na.dig cy)⟩,⟨B1,n1,d1,z0c (Na.dig cx)⟩,⟨B2,n2,d2,z0c (Na.dig cy)⟩] O):=fun W O how=>by
       have:=z3w (p:=Na.up (Na.dig cx)) (q:=Na.up (Na.dig cy)) how 5 6 (by rw [z0g];rfl) (by rw [z0g];rfl)
       rwa [hS] at this
      have HP2:Hid (∀ (W:World) {O:List Rw},Ow w W (some g) [] [⟨X1,k1,f1,z0c (Na.dig x)⟩,⟨X2,k2,f2,z0c (Na.dig y)⟩,⟨A,n*8,n*8,fl l⟩,⟨C1,r1,t1,z0c (Na.dig cx)⟩,⟨C2,r2,t2,z0c (Na.dig cy)⟩,⟨B1,n1,d1,z0c (Na.dig cx)⟩,⟨B2,n2,d2,z0c (Na.dig cy)⟩] O→Calls Tryz.prog 24 #[.agg #[.slice C1 r1 t1,.slice C2 r2 t2]] W fun e w'=>e=.returned (.string S)∧Ow w w' (some g) [] [⟨X1,k1,f1,z0c (Na.dig x)⟩,⟨X2,k2,f2,z0c (Na.dig y)⟩,⟨A,n*8,n*8,fl l⟩,⟨C1,r1,t1,z0c (Na.dig cx)⟩,⟨C2,r2,t2,z0c (Na.dig cy)⟩,⟨B1,n1,d1,z0c (Na.dig cx)⟩,⟨B2,n2,d2,z0c (Na.dig cy)⟩] O):=fun W O how=>by
       have:=z3w (p:=Na.up (Na.dig cx)) (q:=Na.up (Na.dig cy)) how 3 4 (by rw [z0g];rfl) (by rw [z0g];rfl)
       rwa [hS] at this
      obtain ⟨OO,hOO⟩:∃ z,[⟨some ⟨w3.heap.size,0,none⟩,6,6,33,[.int .i64 so,.int .i64 ch,.int .i64 ra,.int .i64 ba,.int .i64 ro,.int .i64 co]⟩,Rw.pair (w3.heap.size+1) 27 (.slice X1 k1 f1) (.slice X2 k2 f2),⟨some ⟨w6.heap.size,0,none⟩,11,11,42,[.int .i64 (i:Int),.int .i64 q0,.int .i64 q1,.int .i64 q2,.int .i64 q3,.int .i64 q4,.int .i64 q5,.int .i64 vc,.int .i64 (ng:Int),.slice C1 r1 t1,.slice C2 r2 t2]⟩,⟨Ag,ng,cg,3,z0c gl⟩,Rw.pair w9.heap.size 27 (.slice B1 n1 d1) (.slice B2 n2 d2)]=z:=⟨_,rfl⟩
      have HVr:Hid (OO[2]?=some (⟨some ⟨w6.heap.size,0,none⟩,11,11,42,[.int .i64 (i:Int),.int .i64 q0,.int .i64 q1,.int .i64 q2,.int .i64 q3,.int .i64 q4,.int .i64 q5,.int .i64 vc,.int .i64 (ng:Int),.slice C1 r1 t1,.slice C2 r2 t2]⟩:Rw)):=by unfold Hid;rw [← hOO];rfl
      have HCr:Hid (OO[4]?=some (Rw.pair w9.heap.size 27 (.slice B1 n1 d1) (.slice B2 n2 d2))):=by unfold Hid;rw [← hOO];rfl
      rw [hOO] at HH;clear hge hS hOO hj hmj HCt;go_wp2_with fail;refine z1e (NmI w (some g) [⟨X1,k1,f1,z0c (Na.dig x)⟩,⟨X2,k2,f2,z0c (Na.dig y)⟩,⟨A,n*8,n*8,fl l⟩,⟨C1,r1,t1,z0c (Na.dig cx)⟩,⟨C2,r2,t2,z0c (Na.dig cy)⟩,⟨B1,n1,d1,z0c (Na.dig cx)⟩,⟨B2,n2,d2,z0c (Na.dig cy)⟩] OO w6.heap.size ng B1 n1 d1 B2 n2 d2 C1 r1 t1 C2 r2 t2 S) (by kernel_rfl) (by kernel_rfl) ?_ ?_ ?_
      ·refine ⟨u92,u93,u94,u95,u96,u97,u98,u99,u100,u101,u102,u103,u104,u105,u106,u107,u108,u109,u110,u111,u112,u113,u114,u2,?_,⟨HH.out.drew,?_,?_,?_,?_,?_,?_,?_,?_,?_,?_,?_,?_,?_,?_,?_,?_,?_,?_,?_,?_,?_,?_,?_,?_⟩⟩
       ·simp only [Act.put,zT,zZ,zS]
       all_goals (intro h;cases h)
      ·rintro jj Ld b W hj hf hcl hd ⟨u0,u1,u2,u3,u4,u5,u6,u7,u8,u9,u10,u11,u12,u13,u14,u15,u16,u17,u18,u19,u20,u21,u22,u23,rfl,hC⟩;have hj':jj<24:=hj
       have hcase:jj=0∨jj=1∨jj=2∨jj=3∨jj=4∨jj=5∨jj=6∨jj=7∨jj=8∨jj=9∨jj=10∨jj=11∨jj=12∨jj=13∨jj=14∨jj=15∨jj=16∨jj=17∨jj=18∨jj=19∨jj=20∨jj=21∨jj=22∨jj=23:=by omega
       clear hj hj';simp only [Act.put,zT,zZ,zS];rcases hcase with rfl | rfl | rfl | rfl | rfl | rfl | rfl | rfl | rfl | rfl | rfl | rfl | rfl | rfl | rfl | rfl | rfl | rfl | rfl | rfl | rfl | rfl | rfl | rfl
       ·clear hd hcl;refine zw rfl fun K hK=>?_
        go_simp;refine hK _ _ ⟨_,_,_,_,_,_,_,_,_,_,_,_,_,_,_,_,_,_,_,_,_,_,_,_,?_,{hC with h0:=fun _=>rfl}⟩;simp only [Act.put,zT,zZ,zS]
       ·obtain rfl:=hC.h0 (hd 0 (by kernel_rfl));clear hd hcl;refine zw rfl fun K hK=>?_
        go_simp;refine hK _ _ ⟨_,_,_,_,_,_,_,_,_,_,_,_,_,_,_,_,_,_,_,_,_,_,_,_,?_,{hC with h1:=fun _=>rfl}⟩;simp only [Act.put,zT,zZ,zS]
       ·obtain rfl:=hC.h1 (hd 1 (by kernel_rfl));clear hd hcl;refine zw rfl fun K hK=>?_
        go_simp;refine hK _ _ ⟨_,_,_,_,_,_,_,_,_,_,_,_,_,_,_,_,_,_,_,_,_,_,_,_,?_,{hC with h2:=fun _=>rfl}⟩;simp only [Act.put,zT,zZ,zS]
       ·obtain rfl:=hC.h1 (hd 1 (by kernel_rfl));clear hd hcl;refine zw rfl fun K hK=>?_
        go_simp;refine hK _ _ ⟨_,_,_,_,_,_,_,_,_,_,_,_,_,_,_,_,_,_,_,_,_,_,_,_,?_,{hC with h3:=fun _=>rfl}⟩;simp only [Act.put,zT,zZ,zS]
       ·obtain rfl:=hC.h1 (hd 1 (by kernel_rfl));obtain rfl:=hC.h3 (hd 3 (by kernel_rfl));have y8:W.cell? ⟨w6.heap.size,8,none⟩=some (.int .i64 (ng:Int)):=(hC.ow.row 2 HVr.out).cellAt 8 (by decide)
        clear hd hcl;refine zw rfl fun K hK=>?_
        go_simp;refine hK _ _ ⟨_,_,_,_,_,_,_,_,_,_,_,_,_,_,_,_,_,_,_,_,_,_,_,_,?_,{hC with h4:=fun _=>rfl}⟩;simp only [Act.put,zT,zZ,zS]
       ·obtain rfl:=hC.h1 (hd 1 (by kernel_rfl));obtain rfl:=hC.h2 (hd 2 (by kernel_rfl));obtain rfl:=hC.h4 (hd 4 (by kernel_rfl));clear hd hcl;refine zw rfl fun K hK=>?_
        go_simp;refine hK _ _ ⟨_,_,_,_,_,_,_,_,_,_,_,_,_,_,_,_,_,_,_,_,_,_,_,_,?_,{hC with h5:=fun _=>rfl}⟩;simp only [Act.put,zT,zZ,zS]
       ·obtain rfl:=hC.h1 (hd 1 (by kernel_rfl));obtain rfl:=hC.h5 (hd 5 (by kernel_rfl));clear hd hcl;refine zw rfl fun K hK=>?_
        go_simp;refine hK _ _ ⟨_,_,_,_,_,_,_,_,_,_,_,_,_,_,_,_,_,_,_,_,_,_,_,_,?_,{hC with h6:=fun _=>rfl}⟩;simp only [Act.put,zT,zZ,zS]
       ·obtain rfl:=hC.h6 (hd 6 (by kernel_rfl));clear hd hcl;refine zw rfl fun K hK=>?_
        go_simp;refine hK _ _ ⟨_,_,_,_,_,_,_,_,_,_,_,_,_,_,_,_,_,_,_,_,_,_,_,_,?_,{hC with h7:=fun _=>rfl}⟩;simp only [Act.put,zT,zZ,zS]
       ·obtain rfl:=hC.h7 (hd 7 (by kernel_rfl));clear hd hcl;refine zw rfl fun K hK=>?_
        go_simp;refine hK _ _ ⟨_,_,_,_,_,_,_,_,_,_,_,_,_,_,_,_,_,_,_,_,_,_,_,_,?_,{hC with h8:=fun _=>rfl}⟩;simp only [Act.put,zT,zZ,zS]
       ·obtain rfl:=hC.h7 (hd 7 (by kernel_rfl));clear hd hcl;refine zw rfl fun K hK=>?_
        go_simp;refine hK _ _ ⟨_,_,_,_,_,_,_,_,_,_,_,_,_,_,_,_,_,_,_,_,_,_,_,_,?_,{hC with h9:=fun _=>rfl}⟩;simp only [Act.put,zT,zZ,zS]
       ·obtain rfl:=hC.h7 (hd 7 (by kernel_rfl));obtain rfl:=hC.h8 (hd 8 (by kernel_rfl));obtain rfl:=hC.h9 (hd 9 (by kernel_rfl));clear hd hcl;refine zw rfl fun K hK=>?_
        go_simp;refine hK _ _ ⟨_,_,_,_,_,_,_,_,_,_,_,_,_,_,_,_,_,_,_,_,_,_,_,_,?_,{hC with h10:=fun _=>rfl}⟩;simp only [Act.put,zT,zZ,zS]
       ·obtain rfl:=hC.h7 (hd 7 (by kernel_rfl));obtain rfl:=hC.h10 (hd 10 (by kernel_rfl));clear hd hcl;refine zw rfl fun K hK=>?_
        go_simp;refine hK _ _ ⟨_,_,_,_,_,_,_,_,_,_,_,_,_,_,_,_,_,_,_,_,_,_,_,_,?_,{hC with h11:=fun _=>rfl}⟩;simp only [Act.put,zT,zZ,zS]
       ·obtain rfl:=hC.h11 (hd 11 (by kernel_rfl));clear hd hcl;refine zw rfl fun K hK=>?_
        go_simp;refine hK _ _ ⟨_,_,_,_,_,_,_,_,_,_,_,_,_,_,_,_,_,_,_,_,_,_,_,_,?_,{hC with h12:=fun _=>rfl}⟩;simp only [Act.put,zT,zZ,zS]
       ·obtain rfl:=hC.h12 (hd 12 (by kernel_rfl));have y0:=hC.ow.p0 4 HCr.out
        have y1:=hC.ow.p1 4 HCr.out
        clear hd hcl;refine zw rfl fun K hK=>?_
        go_simp;refine hK _ _ ⟨_,_,_,_,_,_,_,_,_,_,_,_,_,_,_,_,_,_,_,_,_,_,_,_,?_,{hC with h13:=fun _=>rfl}⟩;simp only [Act.put,zT,zZ,zS]
       ·obtain rfl:=hC.h12 (hd 12 (by kernel_rfl));obtain rfl:=hC.h13 (hd 13 (by kernel_rfl));have hcall:=HP1.out W hC.ow
        clear hd hcl;refine zw rfl fun K hK=>?_
        go_simp;refine (hcall).mono ?_
        rintro e W' ⟨rfl,how⟩;refine hK _ _ ⟨_,_,_,_,_,_,_,_,_,_,_,_,_,_,_,_,_,_,_,_,_,_,_,_,?_,{hC with ow:=how,h14:=fun _=>rfl}⟩;simp only [Act.put,zT,zZ,zS]
       ·obtain rfl:=hC.h12 (hd 12 (by kernel_rfl));clear hd hcl;refine zw rfl fun K hK=>?_
        go_simp;refine hK _ _ ⟨_,_,_,_,_,_,_,_,_,_,_,_,_,_,_,_,_,_,_,_,_,_,_,_,?_,{hC with h15:=fun _=>rfl}⟩;simp only [Act.put,zT,zZ,zS]
       ·obtain rfl:=hC.h12 (hd 12 (by kernel_rfl));obtain rfl:=hC.h15 (hd 15 (by kernel_rfl));have y9:W.cell? ⟨w6.heap.size,9,none⟩=some (.slice C1 r1 t1):=(hC.ow.row 2 HVr.out).cellAt 9 (by decide)
        have y10:W.cell? ⟨w6.heap.size,10,none⟩=some (.slice C2 r2 t2):=(hC.ow.row 2 HVr.out).cellAt 10 (by decide)
        clear hd hcl;refine zw rfl fun K hK=>?_
        go_simp;refine hK _ _ ⟨_,_,_,_,_,_,_,_,_,_,_,_,_,_,_,_,_,_,_,_,_,_,_,_,?_,{hC with h16:=fun _=>rfl}⟩;simp only [Act.put,zT,zZ,zS]
       ·obtain rfl:=hC.h12 (hd 12 (by kernel_rfl));obtain rfl:=hC.h16 (hd 16 (by kernel_rfl));have hcall:=HP2.out W hC.ow
        clear hd hcl;refine zw rfl fun K hK=>?_
        go_simp;refine (hcall).mono ?_
        rintro e W' ⟨rfl,how⟩;refine hK _ _ ⟨_,_,_,_,_,_,_,_,_,_,_,_,_,_,_,_,_,_,_,_,_,_,_,_,?_,{hC with ow:=how,h17:=fun _=>rfl}⟩;simp only [Act.put,zT,zZ,zS]
       ·obtain rfl:=hC.h12 (hd 12 (by kernel_rfl));obtain rfl:=hC.h14 (hd 14 (by kernel_rfl));obtain rfl:=hC.h17 (hd 17 (by kernel_rfl));clear hd hcl;refine zw rfl fun K hK=>?_
        go_simp;refine hK _ _ ⟨_,_,_,_,_,_,_,_,_,_,_,_,_,_,_,_,_,_,_,_,_,_,_,_,?_,{hC with h18:=fun _=>rfl}⟩;simp only [Act.put,zT,zZ,zS]
       ·obtain rfl:=hC.h12 (hd 12 (by kernel_rfl));obtain rfl:=hC.h18 (hd 18 (by kernel_rfl));clear hd hcl;refine zw rfl fun K hK=>?_
        go_simp;refine hK _ _ ⟨_,_,_,_,_,_,_,_,_,_,_,_,_,_,_,_,_,_,_,_,_,_,_,_,?_,{hC with h19:=fun _=>rfl}⟩;simp only [Act.put,zT,zZ,zS]
       ·obtain rfl:=hC.h19 (hd 19 (by kernel_rfl));clear hd hcl;refine zw rfl fun K hK=>?_
        go_simp;refine hK _ _ ⟨_,_,_,_,_,_,_,_,_,_,_,_,_,_,_,_,_,_,_,_,_,_,_,_,?_,{hC with h20:=fun _=>rfl}⟩;simp only [Act.put,zT,zZ,zS]
       ·obtain rfl:=hC.h20 (hd 20 (by kernel_rfl));have hcall:=z5h W (HT.out.below hC.ow.below)
        clear hd hcl;refine zw rfl fun K hK=>?_
        go_simp;refine (hcall).mono ?_
        rintro e W' ⟨rfl,hb⟩;refine hK _ _ ⟨_,_,_,_,_,_,_,_,_,_,_,_,_,_,_,_,_,_,_,_,_,_,_,_,?_,{hC with ow:=hC.ow.go hb,h21:=fun _=>rfl}⟩;simp only [Act.put,zT,zZ,zS]
       ·obtain rfl:=hC.h20 (hd 20 (by kernel_rfl));obtain rfl:=hC.h21 (hd 21 (by kernel_rfl));clear hd hcl;refine zw rfl fun K hK=>?_
        go_simp;refine hK _ _ ⟨_,_,_,_,_,_,_,_,_,_,_,_,_,_,_,_,_,_,_,_,_,_,_,_,?_,{hC with h22:=fun _=>rfl}⟩;simp only [Act.put,zT,zZ,zS]
       ·obtain rfl:=hC.h22 (hd 22 (by kernel_rfl));clear hd hcl;refine zw rfl fun K hK=>?_
        go_simp;refine hK _ _ ⟨_,_,_,_,_,_,_,_,_,_,_,_,_,_,_,_,_,_,_,_,_,_,_,_,?_,{hC with h23:=fun _=>rfl}⟩;simp only [Act.put,zT,zZ,zS]
      ·rintro Ld b W hL ⟨u0,u1,u2,u3,u4,u5,u6,u7,u8,u9,u10,u11,u12,u13,u14,u15,u16,u17,u18,u19,u20,u21,u22,u23,rfl,hC⟩;obtain rfl:=hC.h23 (hL 23 (by show 23<24;decide))
       have HB:=zh hC.ow.below;clear hC hL;simp only [Act.put,zT,zZ,zS];go_wp2_with fail;go_ret;exact ⟨rfl,HB.out⟩
   ·have HN:Hid (jud ⟨(so:Int),ch,ra,ba,ro,co⟩ (Na.up (Na.dig x)) (Na.up (Na.dig y)) l=z9r ⟨(so:Int),ch,ra,ba,ro,co⟩ (Na.up (Na.dig x)) (Na.up (Na.dig y)) l (i+1) (6 - (i+1))):=by
     unfold Hid;rw [HF.out];refine z4h HI.out.2 ?_
     by_cases h2:ng<2
     ·exact z6ax (by rw [HGl.out,hHng.out];exact h2)
     ·exact z2ai (by rw [HT0.out];rintro ⟨_,h⟩;exact hsm ⟨by omega,by rw [← HCv.out];exact h⟩)
    have hkn:((i:Int) == vk)=false:=by
     have h1:=z9q ⟨(so:Int),ch,ra,ba,ro,co⟩ (Na.up (Na.dig x)) (Na.up (Na.dig y)) l (6 - (i+1)) (i+1)
     rw [← HN.out,HV.out] at h1;simp only at h1
     have h2:=HI.out;rw [beq_eq_false_iff_ne];omega
    have HE:Hid (Ow w w10 (some g) [] [⟨X1,k1,f1,z0c (Na.dig x)⟩,⟨X2,k2,f2,z0c (Na.dig y)⟩,⟨A,n*8,n*8,fl l⟩,⟨C1,r1,t1,z0c (Na.dig vx)⟩,⟨C2,r2,t2,z0c (Na.dig vy)⟩] [⟨some ⟨w3.heap.size,0,none⟩,6,6,33,[.int .i64 so,.int .i64 ch,.int .i64 ra,.int .i64 ba,.int .i64 ro,.int .i64 co]⟩,Rw.pair (w3.heap.size+1) 27 (.slice X1 k1 f1) (.slice X2 k2 f2),⟨some ⟨w6.heap.size,0,none⟩,11,11,42,[.int .i64 vk,.int .i64 q0,.int .i64 q1,.int .i64 q2,.int .i64 q3,.int .i64 q4,.int .i64 q5,.int .i64 vc,.int .i64 vh,.slice C1 r1 t1,.slice C2 r2 t2]⟩]):=(Ow.fewO (O:=[_,_,_]) (l:=[_,_]) HH.out).less (fun o ho=>z0bg ho)
    have v0:w10.cell? ⟨w6.heap.size,0,none⟩=some (.int .i64 vk):=(HH.out.row 2 rfl).cellAt 0 (by decide)
    have HNg:=zh hsm;clear HH hsm hgn hn12;rcases zqi ng 2 with h2 | h2
    ·have hg1:decide ((2:Int)≤(ng:Int))=false:=zn (by omega)
     have hg2:decide (2≤ng)=false:=zn (by omega)
     clear h2;go_wp2_with fail;go_roundw
     case rel=>exact ⟨i+1,by omega,by have:=HI.out;omega,rfl,HE,HN⟩
     case measure=>
      have:=HI.out
      simp [intOf]
      omega
    ·have hg1:decide ((2:Int)≤(ng:Int))=true:=zt (by omega)
     have hg2:decide (2≤ng)=true:=zt (by omega)
     have hg3:decide (cv≤0)=false:=zn (fun h=>HNg.out ⟨h2,h⟩)
     clear h2;go_wp2_with fail;go_roundw
     case rel=>exact ⟨i+1,by omega,by have:=HI.out;omega,rfl,HE,HN⟩
     case measure=>
      have:=HI.out
      simp [intOf]
      omega
  ·obtain rfl:i=6:=by omega
   have HRs:(⟨vk,⟨q0,q1,q2,q3,q4,q5⟩,vc,vh,vx,vy⟩:Vd)=vd0:=by rw [← HV.out,HF.out];rfl
   simp only [vd0,Vd.mk.injEq] at HRs;obtain ⟨rfl,_,rfl,rfl,hx1,hy1⟩:=HRs;have HP:=zh (z3w (p:=Na.up (Na.dig vx)) (q:=Na.up (Na.dig vy)) HO.out 3 4 (by rw [z0g];rfl) (by rw [z0g];rfl))
   rw [hx1,hy1,z2bh] at HP;have b0:wr.cell? ⟨w6.heap.size,0,none⟩=some (.int .i64 0):=(HO.out.row 2 rfl).cellAt 0 (by decide)
   have b8:wr.cell? ⟨w6.heap.size,8,none⟩=some (.int .i64 0):=(HO.out.row 2 rfl).cellAt 8 (by decide)
   have b9:wr.cell? ⟨w6.heap.size,9,none⟩=some (.slice C1 r1 t1):=(HO.out.row 2 rfl).cellAt 9 (by decide)
   have b10:wr.cell? ⟨w6.heap.size,10,none⟩=some (.slice C2 r2 t2):=(HO.out.row 2 rfl).cellAt 10 (by decide)
   clear HO HF HV hge hx1 hy1 h1 h6;go_wp2_with fail;refine HP.out.mono ?_;rintro e w7 ⟨rfl,G⟩;have HA:=zh (z5h w7 (HT.out.below G.below))
   have HB:=zh G.below;clear HP G b0 b8 b9 b10;go_wp2_with fail;refine HA.out.mono ?_;rintro e w8 ⟨rfl,hb⟩;have HB2:=zh (HB.out.trans (hb.mono HB.out.size))
   clear hb;go_wp2_with fail;go_ret;exact ⟨rfl,HB2.out⟩
open Go.ChangeShapes Go.WideShapes Go.ChangeAt Go.RowKit
section
variable {H:Type}{enc:TypeId×Value→H}{P:Program}
theorem z7at (hl:laidOutB P=true){W W':World}(hb:Below W.heap.size W W'){sp:Nat→Bool}:∀ {ts:List TypeId} {vs:List Value} {ds:List (DataW H)} {ps:List MemPlace},
  (∀ t∈ts,P.readableRec t=true∧t<P.types.size)→DataW.TrodAll enc P W 0 (fun _=>true) true ts vs ds ps→(∀ x∈ps,x.block<W.heap.size)→(∀ p∈ps,sp p.block=true)→
  DataW.TrodAll enc P W' 0 sp true ts vs ds ps:=by
 intro ts
 induction ts with
 | nil=>
  intro vs ds ps _ h _ _;cases vs <;> cases ds <;> simp [DataW.TrodAll] at h ⊢
  exact h
 | cons t ts ih=>
  intro vs ds ps ht h hlt hs;obtain ⟨v,vs',d,ds',p,q,rfl,rfl,rfl,h0,h1⟩:=trodAll_cons h
  refine ⟨p,q,?_,?_,rfl⟩
  ·exact WideElems.Trod_stays hl (ht t (by simp)).1 (ht t (by simp)).2 h0 (fun x hx=>hb.same (hlt x (by simp [hx]))) (fun x hx=>hs x (by simp [hx]))
  ·exact ih (fun u hu=>ht u (by simp [hu])) h1 (fun x hx=>hlt x (by simp [hx])) (fun x hx=>hs x (by simp [hx]))
theorem z9af (hl:laidOutB P=true){f:Func}{s:ChangeSpec}{W W':World}{args:Array Value}{ds gs:List (DataW H)}{before:List MemPlace}{tb:TypeId}(hb:Below W.heap.size W W')
  (hvars:s.vars=[]) (hW:DataW.Whole enc P f.params.toList s.vars false W args.toList ds gs before)
  (hfn:s.fn H (ds++gs)={ results:=[.lit (.bool true)],args:=ds,vars:=[] }) (hres:f.resultTypes=#[tb]) (htb:P.underlying tb=some .bool)
  (hts:∀ t∈f.params.toList,P.readableRec t=true∧t<P.types.size) :
  s.post enc P f false true false false W args (.bool true) W':=by
 have hlt:∀ p∈before,p.block<W.heap.size:=fun p hp=>hW.lt p hp
 have hW':=hW
 obtain ⟨p,q,hA,hV,rfl,hz,hn⟩:=hW;rw [hvars] at hV;have hq:q=[]:=by
  cases gs with
  | nil=>exact hV
  | cons g r=>exact absurd hV (by intro h;cases h)
 subst hq
 refine ⟨ds,gs,_,[],p,[],hW',?_,?_,?_,hb.frame _,fun h=>by cases h⟩
 ·rw [hfn,hres];exact trodAll_mk1 (shut_bool htb true)
 ·rw [hfn];exact z7at hl hb hts hA (fun x hx=>hlt x (by simp [hx])) (fun x hx=>by simpa using hlt x (by simp [hx]))
 ·rw [hfn,hvars];rfl
end
set_option linter.unusedVariables false
theorem z0bw {W:World}{a:Addr}{v:Value}(h:W.cell? a=some v):a.block<W.heap.size:=by
 rcases zqi a.block W.heap.size with h1 | h1
 ·exact h1
 ·have h2:W.heap[a.block]?=none:=Array.getElem?_eq_none h1
  simp [World.cell?,h2] at h
section
variable {H:Type}{enc:TypeId×Value→H}{P:Program}{W:World}
theorem z3bu {t e:TypeId}{k:IntKind}(ht:P.underlying t=some (.slice e))(he:P.underlying e=some (.int k))(hc:P.cellsOf e=1){r:Reach}{b0:Nat}{v:Value}{d:DataW H}{ps:List MemPlace}
  (hval:Value.okWide P W r b0 t v) (h:DataW.Trod enc P W 0 (fun _=>true) true t v d ps) :
  ∃ (A:Option Addr) (n c:Nat) (zs:List Int),v=.slice A n c∧zs.length=n∧n≤c∧c≤maxLen∧Sl W W.heap.size A (zs.map (Value.int k))∧∀ z∈zs,(Lit.int k z).wf=true:=by
 obtain ⟨a0,n,c,rfl⟩:=okWide_slice ht hval
 obtain ⟨fuel,hf⟩:=h;rcases Go.ChangeShapes.open_ints ht he hc hf with ⟨hcs,_⟩ | ⟨a,len,cap,zs,hcs,_,hle,hmx,hall,_,hcell,hwf⟩
 ·have e1:(Value.slice a0 n c)=.slice none 0 0:=(List.cons.inj (show [Value.slice a0 n c]=_ from hcs)).1
  injection e1 with h1 h2 h3
  subst h1 h2 h3
  exact ⟨none,0,0,[],rfl,rfl,zqj _,zqr _,Sl.nil _ _ _,fun z hz=>by cases hz⟩
 ·have e1:(Value.slice a0 n c)=.slice (some a) len cap:=(List.cons.inj (show [Value.slice a0 n c]=_ from hcs)).1
  injection e1 with h1 h2 h3
  subst h1 h2 h3
  have hz:zs.length=c:=by simpa using hall
  refine ⟨some a,n,c,zs.take n,rfl,by rw [zqw];omega,hle,hmx,fun hn=>?_,fun z hz=>hwf z (List.mem_of_mem_take hz)⟩
  rw [List.length_map,zqw] at hn;refine ⟨a,rfl,?_,fun j u hu=>?_⟩
  ·have h0:=hcell 0 (by omega)
   have:=z0bw h0
   rwa [z1g] at this
  ·rw [List.getElem?_map,List.getElem?_take] at hu;by_cases hj:j<n
   ·rw [if_pos hj,zql (by omega)] at hu
    rw [hcell j (by omega),List.getD_eq_getElem?_getD,zql (by omega)]
    exact hu
   ·rw [if_neg hj] at hu;cases hu
end
set_option maxRecDepth 100000
theorem z5bn {W:World}(h:laidMetH Tryz.prog Rows.classifyJudgesRow.laid W):Tab W:=by
 rw [MakeChecks.laidMetH_plain _ _ _ (by kernel_rfl)] at h
 obtain ⟨ps,⟨g,t,cs,fuel,p,q,hg,ht,hv,hd,_,_⟩,_⟩:=h
 obtain rfl := zqk ((show Tryz.prog.globalNamed "math/bits.deBruijn64tab" = some 0 by kernel_rfl).symm.trans hg)
 obtain rfl:=zqk ((show (Tryz.prog.globals[0]?).map (·.type)=some 180 by kernel_rfl).symm.trans ht)
 obtain ⟨xs,m,_,ex,_,hl,hel⟩:=DataW.trod_array Tryz.underlying180 hd
 have c5:Tryz.prog.cellsOf 5=1:=by kernel_rfl
 have hlen:Lib.deBruijn64tab.length=64:=by kernel_rfl
 have e3:(xs.map (·.1))=Lib.deBruijn64tab.map fun n:Nat=>.lit (.int .u8 (n:Int)):=(DataW.agg.inj (Prod.mk.inj ex).1).symm
 have hcell:∀ k v:Nat,Lib.deBruijn64tab[k]?=some v→W.cell? ⟨0,k,none⟩=some (.int .u8 (v:Int)):=by
  intro r v hr;have hr64:r<64:=by
   rcases zqi r 64 with h | h
   ·exact h
   ·rw [List.getElem?_eq_none (by omega)] at hr;cases hr
  have hE:=hel r hr64
  rw [c5,Nat.mul_one,zql (by omega)] at hE
  obtain ⟨z,e1,e2,_⟩:=DataW.trod_int Tryz.underlying5 hE
  have e4:(xs.map (·.1))[r]?=(Lib.deBruijn64tab.map fun n:Nat=>(DataW.lit (.int .u8 (n:Int)):DataW Unit))[r]?:=by rw [e3]
  rw [List.getElem?_map,List.getElem?_map,zql (by omega:r<xs.length),hr,e2] at e4
  have hz:z=(v:Int):=by
   simp only [Option.map_some,Option.some.injEq,DataW.lit.injEq,Lit.int.injEq,true_and] at e4;exact e4
  rw [World.var?_cell hg hv r,← hz];have:cs.toList[r]?=some (.int .u8 z):=by
   have h0:((cs.toList.drop r).take 1)[0]?=some (.int .u8 z):=by rw [e1];rfl
   simpa using h0
  simpa using this
 refine ⟨?_,hcell⟩
 have h0:=hcell 0 0 (by kernel_rfl)
 rcases zqh W.heap.size with h | h
 ·exfalso
  unfold World.cell? at h0
  rw [Array.getElem?_eq_none (by simp only;omega)] at h0
  cases h0
 ·exact h
end Go.Proofs.YtpmofjomadibmaaGreatDoor
