/- Xr Xs -/
import Derived.Test.YtpmofjomadibmaaGreatDoorQ19
namespace Go.Proofs.YtpmofjomadibmaaGreatDoor
set_option maxHeartbeats 8000000
open Go.RowKit Go.Sort
open Go.ChangeMaps (setBlock heap_setBlock_same heap_setBlock_other)
set_option linter.unusedVariables false
set_option maxRecDepth 100000
open Cl
namespace Cl
set_option maxHeartbeats 8000000
theorem zy6 {w:World}{B b n c s:Nat}{e:TypeId}{v0 v1 v2 v3 v4 v5:Value}{r:List Value}(h:w.ownsRow B e s (.slice (some ⟨b,0,none⟩) n c) n (v0::v1::v2::v3::v4::v5::r)):w.cell? ⟨b,0,none⟩=some v0∧w.cell? ⟨b,1,none⟩=some v1∧w.cell? ⟨b,2,none⟩=some v2∧w.cell? ⟨b,3,none⟩=some v3∧w.cell? ⟨b,4,none⟩=some v4∧w.cell? ⟨b,5,none⟩=some v5:=by
 have k:n*s=r.length+6:=h.1.symm
 exact ⟨h.cellAt 0 (by omega),h.cellAt 1 (by omega),h.cellAt 2 (by omega),h.cellAt 3 (by omega),h.cellAt 4 (by omega),h.cellAt 5 (by omega)⟩
def VdR (w0:World)(g:Option Nat)(M:List (Nat×Value))(L:List Ob)(O:List Rw)(v:Vd)(en:Ending)(w':World):Prop:=
 ∃ (A1:Option Addr) (n1 c1:Nat) (A2:Option Addr) (n2 c2:Nat),en=.returned (.agg (v.vs A1 n1 c1 A2 n2 c2))∧Ow w0 w' g M (L++[⟨A1,n1,c1,z0c (Na.dig v.x)⟩]++[⟨A2,n2,c2,z0c (Na.dig v.y)⟩]) O
end Cl
theorem of11:ofF 1 1=(1,1,0):=by decide +kernel
theorem z6y {w0 w:World}{g:Option Nat}{M:List (Nat×Value)}{L:List Ob}{O:List Rw}(h:Ow w0 w g M L O)(i:Nat){gb n c:Nat}{e:TypeId}{z0 z1 z2 z3 z4 z5 z6 z7 z8 z9 z10:Value}(hi:O[i]?=some ⟨some ⟨gb,0,none⟩,n,c,e,[z0,z1,z2,z3,z4,z5,z6,z7,z8,z9,z10]⟩)(v0 v1 v2 v3 v4 v5 v6 v7 v8 v9 v10:Value):Ow w0 (((((((((((w.setCell ⟨gb,0,none⟩ v0).setCell ⟨gb,1,none⟩ v1).setCell ⟨gb,2,none⟩ v2).setCell ⟨gb,3,none⟩ v3).setCell ⟨gb,4,none⟩ v4).setCell ⟨gb,5,none⟩ v5).setCell ⟨gb,6,none⟩ v6).setCell ⟨gb,7,none⟩ v7).setCell ⟨gb,8,none⟩ v8).setCell ⟨gb,9,none⟩ v9).setCell ⟨gb,10,none⟩ v10) g M L (O.set i ⟨some ⟨gb,0,none⟩,n,c,e,[v0,v1,v2,v3,v4,v5,v6,v7,v8,v9,v10]⟩):=by
 have h0:=h.put i hi 0 v0
 have h1:=h0.put i (z0b hi) 1 v1
 have h2:=h1.put i (z0b (z0b hi)) 2 v2
 have h3:=h2.put i (z0b (z0b (z0b hi))) 3 v3
 have h4:=h3.put i (z0b (z0b (z0b (z0b hi)))) 4 v4
 have h5:=h4.put i (z0b (z0b (z0b (z0b (z0b hi))))) 5 v5
 have h6:=h5.put i (z0b (z0b (z0b (z0b (z0b (z0b hi)))))) 6 v6
 have h7:=h6.put i (z0b (z0b (z0b (z0b (z0b (z0b (z0b hi))))))) 7 v7
 have h8:=h7.put i (z0b (z0b (z0b (z0b (z0b (z0b (z0b (z0b hi)))))))) 8 v8
 have h9:=h8.put i (z0b (z0b (z0b (z0b (z0b (z0b (z0b (z0b (z0b hi))))))))) 9 v9
 have h10:=h9.put i (z0b (z0b (z0b (z0b (z0b (z0b (z0b (z0b (z0b (z0b hi)))))))))) 10 v10
 simp only [List.set_set,zqd,zqe] at h10;exact h10
def z1bq (s:Pl)(p q:List Int)(l:List Sn)(w0:World)(g:Option Nat)(M:List (Nat×Value))(L:List Ob)(O:List Rw)(x:Value)(wr:World):Prop:=
 ∃ i:Nat,1≤i∧i≤6∧x=.int .i64 (i:Int)∧Hid (Ow w0 wr g M L O)∧Hid (jud s p q l=judF s p q l i (6 - i))
theorem z6bn {w0 w:World}{g:Option Nat}{M:List (Nat×Value)}{L:List Ob}{O:List Rw}{A A2 A3:Option Addr}{n c m c2 n3 c3 e3:Nat}{p q:List Int}{l:List Sn}(s:Pl)(hs:shV s)(h:Ow w0 w g M L O)(i j k:Nat)(hi:L[i]?=some ⟨A,n,c,z0p p⟩)(hj:L[j]?=some ⟨A2,m,c2,z0p q⟩)(hk:L[k]?=some ⟨A3,n3*8,e3,fl l⟩)(hn3:n3≤100)(ht:Tab w0):
  Calls Tryz.prog 35 #[.agg s.vs,.agg #[.slice A n c,.slice A2 m c2],.slice A3 n3 c3] w (VdR w0 g M L O (jud s p q l)):=by
 have H0:=((h.arr s.vs 6 rfl (by omega) 33).pair (.slice A n c) (.slice A2 m c2) 27).arr #[.int .i64 0,.int .i64 0,.int .i64 0,.int .i64 0,.int .i64 0,.int .i64 0,.int .i64 0,.int .i64 0,.int .i64 0,.slice none 0 0,.slice none 0 0] 11 rfl (by omega) 42
 simp only [World.size_alloc,zqa,zqb,zqc] at H0;have HLn:l.length=n3:=by
  have a:=(h.sl hk).1
  rw [z3m] at a;omega
 have HS:=zh hs;have HK:=zh hk;have HI:=zh hi;have HJ:=zh hj;have HNl:=zh HLn;have HT:=zh ht;obtain ⟨so,ch,ra,ba,ro,co⟩:=s;unfold Pl.vs at *
 have HO:Hid (Ow w0 (((w.alloc (.cells #[.int .i64 so,.int .i64 ch,.int .i64 ra,.int .i64 ba,.int .i64 ro,.int .i64 co] 33)).alloc (.cells #[.slice A n c,.slice A2 m c2] 27)).alloc (.cells #[.int .i64 0,.int .i64 0,.int .i64 0,.int .i64 0,.int .i64 0,.int .i64 0,.int .i64 0,.int .i64 0,.int .i64 0,.slice none 0 0,.slice none 0 0] 42)) g M L (O++[(⟨some ⟨w.heap.size,0,none⟩,6,6,33,[.int .i64 so,.int .i64 ch,.int .i64 ra,.int .i64 ba,.int .i64 ro,.int .i64 co]⟩:Rw),Rw.pair (w.heap.size+1) 27 (.slice A n c) (.slice A2 m c2),(⟨some ⟨w.heap.size+1+1,0,none⟩,11,11,42,[.int .i64 0,.int .i64 0,.int .i64 0,.int .i64 0,.int .i64 0,.int .i64 0,.int .i64 0,.int .i64 0,.int .i64 0,.slice none 0 0,.slice none 0 0]⟩:Rw)])):=H0
 clear H0 hs hi hj hk HLn h ht;go_enter Tryz.func35,Tryz.ntmps35
 go_wp2_with fail;go_loopw [7] (fun x wr=>z1bq ⟨so,ch,ra,ba,ro,co⟩ p q l w0 g M L (O++[(⟨some ⟨w.heap.size,0,none⟩,6,6,33,[.int .i64 so,.int .i64 ch,.int .i64 ra,.int .i64 ba,.int .i64 ro,.int .i64 co]⟩:Rw),Rw.pair (w.heap.size+1) 27 (.slice A n c) (.slice A2 m c2),(⟨some ⟨w.heap.size+1+1,0,none⟩,11,11,42,[.int .i64 0,.int .i64 0,.int .i64 0,.int .i64 0,.int .i64 0,.int .i64 0,.int .i64 0,.int .i64 0,.int .i64 0,.slice none 0 0,.slice none 0 0]⟩:Rw)]) x wr) (fun x _=>7 - (intOf x).toNat)
 case atStart=>exact ⟨1,by omega,by omega,rfl,HO,rfl⟩
 case round=>
  clear HO;obtain ⟨kk,h1,h6,rfl,HO,HF⟩:=hrel;rcases zqi 5 kk with h5 | h5
  ·obtain rfl:kk=6:=by omega
   clear h1 h6 h5;have HR:Hid (jud ⟨so,ch,ra,ba,ro,co⟩ p q l=vd0):=HF.out
   have HC:=zh (z6ah HO.out 1 1 (by omega) (by omega) HT.out)
   rw [of11] at HC;clear HF HO;go_wp2_with fail;refine HC.out.mono ?_;rintro e w3 ⟨B1,n1,d1,B2,n2,d2,rfl,G⟩;have H7:=G.pair (.slice B1 n1 d1) (.slice B2 n2 d2) 27
   simp only [zqa,zqb,zqc] at H7;clear HC G;have c0:=H7.p0 (O.length+3) (zk rfl)
   have c1:=H7.p1 (O.length+3) (zk rfl)
   obtain ⟨v0,v1,v2,v3,v4,v5,v6,v7,v8,v9,v10⟩:=zc11 (H7.row (O.length+2) (zk rfl));obtain ⟨f0,f1,f2,f3,f4,f5,f6,f7,f8,f9,f10⟩:=zf11 (H7.row (O.length+2) (zk rfl));have H8:=z6y H7 (O.length+2) (zk rfl) (.int .i64 0) (.int .i64 0) (.int .i64 0) (.int .i64 0) (.int .i64 0) (.int .i64 0) (.int .i64 0) (.int .i64 0) (.int .i64 0) (.slice B1 n1 d1) (.slice B2 n2 d2)
   rw [z0n] at H8;simp only [zqe,zqd] at H8;obtain ⟨z0,z1,z2,z3,z4,z5,z6,z7,z8,z9,z10⟩:=zc11 (H8.row (O.length+2) (zk rfl));have HE:=zh H8.fewO;clear H7 H8;go_wp2_with fail;refine bodyPost_ret (v:=.agg #[.int .i64 0,.int .i64 0,.int .i64 0,.int .i64 0,.int .i64 0,.int .i64 0,.int .i64 0,.int .i64 0,.int .i64 0,.slice B1 n1 d1,.slice B2 n2 d2]) (by simp [results,Tryz.results35,go_sem,z0,z1,z2,z3,z4,z5,z6,z7,z8,z9,z10]) rfl ?_
   rw [HR.out];exact ⟨B1,n1,d1,B2,n2,d2,rfl,by rw [zqa];exact HE.out⟩
  ·have hd:decide ((kk:Int)≤5)=true:=zt (by omega)
   have HKd:Hid (kd (kk:Int)):=⟨by omega,by omega⟩
   have HK5:=zh h5;have hw1:IntKind.i64.wrap ((kk:Int)+1)=((kk+1:Nat):Int):=by rw [IntWalk.i64_in _ (by omega)];omega
   have HLg:=zh (z0ba (kk:Int) HKd.out A3 n3 c3 l wr HNl.out hn3 (HO.out.sl HK.out).2.2.2)
   obtain ⟨gl,hgl⟩:∃ z,z8o (kk:Int) l=z:=⟨_,rfl⟩
   have HGl:=zh hgl;rw [hgl] at HLg;clear hgl h1 h6 h5;go_wp2_with fail;refine HLg.out.mono ?_;rintro e w1 ⟨Ag,ng,cg,rfl,hng,how,hb⟩;have H1:=HO.out.add how hb
   clear HLg how hb HO;rcases zqi ng 2 with h2 | h2
   ·have hd2:decide ((ng:Int)<2)=true:=zt (by omega)
    have HN:Hid (jud ⟨so,ch,ra,ba,ro,co⟩ p q l=judF ⟨so,ch,ra,ba,ro,co⟩ p q l (kk+1) (6 - (kk+1))):=by
     unfold Hid;rw [HF.out];exact z3h HK5.out (z7av (by rw [HGl.out,hng];exact h2))
    have HE:=zh H1.fewO;clear H1 h2 hng;go_wp2_with fail;go_roundw
    case rel=>exact ⟨kk+1,by omega,Nat.succ_le_succ HK5.out,rfl,HE,HN⟩
    case measure=>
     have:=HK5.out
     simp [intOf]
     omega
   ·have hd2:decide ((ng:Int)<2)=false:=zn (by omega)
    simp only [zqa,zqb,zqc] at H1;obtain ⟨a0,a1,a2,a3,a4,a5⟩:=zc6 (H1.row (O.length+0) (zk rfl));have HP:=zh (fun W=>z6a (kk:Int) ⟨so,ch,ra,ba,ro,co⟩ HS.out W)
    unfold Pl.vs at HP;have HT0:Hid (chc ⟨so,ch,ra,ba,ro,co⟩ l (kk:Int)=z7l (n3:Int) (prt (kk:Int) ⟨so,ch,ra,ba,ro,co⟩) (ng:Int)):=by unfold Hid chc;rw [HNl.out,HGl.out,hng]
    go_wp2_with fail;refine (HP.out _).mono ?_
    rintro e w2 ⟨rfl,hb⟩;have H2:=H1.go hb
    clear a0 a1 a2 a3 a4 a5 hb H1 HP;have HC:=zh (z0ap H2 (n3:Int) (prt (kk:Int) ⟨so,ch,ra,ba,ro,co⟩) (ng:Int) HT.out)
    rw [← HT0.out] at HC;obtain ⟨t,ht⟩:∃ t,chc ⟨so,ch,ra,ba,ro,co⟩ l (kk:Int)=t:=⟨_,rfl⟩
    rw [ht] at HC;have HTt:=zh ht;clear ht;skip
    go_wp2_with fail;refine HC.out.mono ?_;rintro e w3 ⟨B1,n1,d1,B2,n2,d2,rfl,G⟩;have H4:=G.pair (.slice B1 n1 d1) (.slice B2 n2 d2) 27
    simp only [zqa,zqb,zqc] at H4;clear H2 HC G;have c0:=H4.p0 (O.length+4) (zk rfl)
    have c1:=H4.p1 (O.length+4) (zk rfl)
    have b0:=H4.p0 (O.length+1) (zk rfl)
    have b1:=H4.p1 (O.length+1) (zk rfl)
    have HM:=zh (z9au (p:=Na.up (Na.dig t.1)) (q:=Na.up (Na.dig t.2.1)) H4 (L.length+0) (L.length+1) i j (by rw [z0a,z0g];rfl) (by rw [z0a,z0g];rfl) (by rw [z0v _ _ (z0e HI.out)];exact HI.out) (by rw [z0v _ _ (z0e HJ.out)];exact HJ.out) HT.out)
    obtain ⟨er,her⟩:∃ z,t.2.2=z:=⟨_,rfl⟩
    obtain ⟨cv,hcv⟩:∃ z,cmpV (Na.up (Na.dig t.1)) (Na.up (Na.dig t.2.1)) p q=z:=⟨_,rfl⟩
    obtain ⟨ce,hce⟩:∃ z,cmpE (Na.up (Na.dig t.1)) (Na.up (Na.dig t.2.1)) p q=z:=⟨_,rfl⟩
    rw [hcv,hce] at HM;rw [her];have HEr:=zh her;have HCv:Hid (cV t p q=cv):=hcv
    have HCe:Hid (cE t p q=ce):=hce
    clear her hcv hce H4;go_wp2_with fail;refine HM.out.mono ?_;rintro e w4 ⟨rfl,H5⟩;clear HM c0 c1 b0 b1;by_cases he:er=0
    ·subst he
     by_cases hc:ce=0
     ·subst hc
      rcases Int.lt_or_le 0 cv with h | h
      ·have g1:decide (0<cv)=true:=zt h
       have HN:Hid (jud ⟨so,ch,ra,ba,ro,co⟩ p q l=judF ⟨so,ch,ra,ba,ro,co⟩ p q l (kk+1) (6 - (kk+1))):=by
        unfold Hid;rw [HF.out];exact z3h HK5.out (z0ab (by rw [HTt.out];rw [HCv.out];omega))
       have HE:Hid (Ow w0 w4 g M L (O++[(⟨some ⟨w.heap.size,0,none⟩,6,6,33,[.int .i64 so,.int .i64 ch,.int .i64 ra,.int .i64 ba,.int .i64 ro,.int .i64 co]⟩:Rw),Rw.pair (w.heap.size+1) 27 (.slice A n c) (.slice A2 m c2),(⟨some ⟨w.heap.size+1+1,0,none⟩,11,11,42,[.int .i64 0,.int .i64 0,.int .i64 0,.int .i64 0,.int .i64 0,.int .i64 0,.int .i64 0,.int .i64 0,.int .i64 0,.slice none 0 0,.slice none 0 0]⟩:Rw)])):=(Ow.fewO (O:=O++[(⟨some ⟨w.heap.size,0,none⟩,6,6,33,[.int .i64 so,.int .i64 ch,.int .i64 ra,.int .i64 ba,.int .i64 ro,.int .i64 co]⟩:Rw),Rw.pair (w.heap.size+1) 27 (.slice A n c) (.slice A2 m c2),(⟨some ⟨w.heap.size+1+1,0,none⟩,11,11,42,[.int .i64 0,.int .i64 0,.int .i64 0,.int .i64 0,.int .i64 0,.int .i64 0,.int .i64 0,.int .i64 0,.int .i64 0,.slice none 0 0,.slice none 0 0]⟩:Rw)]) (by simpa only [zqa,zqb,zqc] using H5)).less (fun o ho=>List.mem_append_left _ ho)
       clear H5;go_wp2_with fail;go_roundw
       case rel=>exact ⟨kk+1,by omega,Nat.succ_le_succ HK5.out,rfl,HE,HN⟩
       case measure=>
        have:=HK5.out
        simp [intOf]
        omega
      ·have g1:decide (0<cv)=false:=zn (by omega)
       obtain ⟨hh,tl,hgt⟩:∃ hh tl,gl=hh :: tl:=by
        cases gl with
        | nil=>simp at hng;omega
        | cons a b=>exact ⟨a,b,rfl⟩
       obtain ⟨x,hx,hfx⟩:=z9z (HGl.out.trans hgt)
       have hR:=H5.row (O.length+3) (zk rfl)
       obtain ⟨gb,hgb,_,_⟩:=z0y hR (by omega)
       obtain rfl:=hgb
       have y0:=hR.cells (g:=gb) rfl 0 (.int .i64 (hh:Int)) (by rw [hgt];rfl)
       rw [addz] at y0;obtain ⟨a,rfl,e0,e1,e2,e3,e4,e5,e6,e7⟩:=z3o (H5.sl (i:=k) (by rw [z0v _ _ (z0e HK.out)];exact HK.out)).2.2.2 hx
       have hhl:hh<n3:=by have:=z0e hx;have:=HNl.out;omega
       have hhI:(hh:Int)<(n3:Int):=by omega
       have hgI:(0:Int)<(ng:Int):=by omega
       have HWh:=zh (fun W=>z6u (kk:Int) x.p W)
       rw [zt HKd.out,z1bs HKd.out] at HWh;have HRs:Hid (jud ⟨so,ch,ra,ba,ro,co⟩ p q l=⟨(kk:Int),wh (kk:Int) x.p,x.cp,(ng:Int),t.1,t.2.1⟩):=by
        unfold Hid;rw [HF.out];refine z0aa HK5.out ?_
        rw [z7au (by rw [HGl.out,hng];omega) (by rw [HTt.out];exact ⟨HCe.out,by rw [HCv.out];exact h⟩),hfx,HGl.out,hng,HTt.out]
       obtain ⟨⟨x0,x1,x2,x3,x4,x5⟩,x6,x7⟩:=x
       simp only at e0 e1 e2 e3 e4 e5 e6 e7 HWh HRs
       obtain ⟨⟨q0,q1,q2,q3,q4,q5⟩,hq⟩:∃ z,wh (kk:Int) ⟨x0,x1,x2,x3,x4,x5⟩=z:=⟨_,rfl⟩
       rw [hq] at HWh HRs;unfold Pl.vs at HWh;have H6:=H5.arr #[.int .i64 x0,.int .i64 x1,.int .i64 x2,.int .i64 x3,.int .i64 x4,.int .i64 x5,.int .i64 x6,.int .i64 x7] 8 rfl (by omega) 40
       simp only [zqa,zqb,zqc] at H6;clear hR hx hfx hgt hq h hng H5;go_wp2_with fail;refine (HWh.out _).mono ?_
       rintro e w5 ⟨rfl,hb⟩;have H7:=(H6.go hb).arr #[.int .i64 q0,.int .i64 q1,.int .i64 q2,.int .i64 q3,.int .i64 q4,.int .i64 q5] 6 rfl (by omega) 38
       simp only [zqa,zqb,zqc] at H7;clear H6 hb HWh y0 e0 e1 e2 e3 e4 e5 e6 e7;obtain ⟨p0,p1,p2,p3,p4,p5⟩:=zc6 (H7.row (O.length+6) (zk rfl));have x6c:=(H7.row (O.length+5) (zk rfl)).cellAt 6 (by decide)
       have c0:=H7.p0 (O.length+4) (zk rfl)
       have c1:=H7.p1 (O.length+4) (zk rfl)
       obtain ⟨v0,v1,v2,v3,v4,v5,v6,v7,v8,v9,v10⟩:=zc11 (H7.row (O.length+2) (zk rfl));obtain ⟨f0,f1,f2,f3,f4,f5,f6,f7,f8,f9,f10⟩:=zf11 (H7.row (O.length+2) (zk rfl));have H8:=z6y H7 (O.length+2) (zk rfl) (.int .i64 (kk:Int)) (.int .i64 q0) (.int .i64 q1) (.int .i64 q2) (.int .i64 q3) (.int .i64 q4) (.int .i64 q5) (.int .i64 x6) (.int .i64 (ng:Int)) (.slice B1 n1 d1) (.slice B2 n2 d2)
       rw [z0n] at H8;simp only [zqe,zqd] at H8;obtain ⟨z0,z1,z2,z3,z4,z5,z6,z7,z8,z9,z10⟩:=zc11 (H8.row (O.length+2) (zk rfl));have HE:=zh H8.fewO;clear H7 H8;go_wp2_with fail;refine bodyPost_ret (v:=.agg #[.int .i64 (kk:Int),.int .i64 q0,.int .i64 q1,.int .i64 q2,.int .i64 q3,.int .i64 q4,.int .i64 q5,.int .i64 x6,.int .i64 (ng:Int),.slice B1 n1 d1,.slice B2 n2 d2]) (by simp [results,Tryz.results35,go_sem,z0,z1,z2,z3,z4,z5,z6,z7,z8,z9,z10]) rfl ?_
       rw [HRs.out];exact ⟨B1,n1,d1,B2,n2,d2,rfl,by rw [zqa];exact HE.out⟩
     ·have g1:(ce == 0)=false:=z1n hc
      have g2:(ce != 0)=true:=by rw [bne,g1];rfl
      have HN:Hid (jud ⟨so,ch,ra,ba,ro,co⟩ p q l=judF ⟨so,ch,ra,ba,ro,co⟩ p q l (kk+1) (6 - (kk+1))):=by
       unfold Hid;rw [HF.out];exact z3h HK5.out (z0ab (by rw [HTt.out];rw [HCe.out];omega))
      have HE:Hid (Ow w0 w4 g M L (O++[(⟨some ⟨w.heap.size,0,none⟩,6,6,33,[.int .i64 so,.int .i64 ch,.int .i64 ra,.int .i64 ba,.int .i64 ro,.int .i64 co]⟩:Rw),Rw.pair (w.heap.size+1) 27 (.slice A n c) (.slice A2 m c2),(⟨some ⟨w.heap.size+1+1,0,none⟩,11,11,42,[.int .i64 0,.int .i64 0,.int .i64 0,.int .i64 0,.int .i64 0,.int .i64 0,.int .i64 0,.int .i64 0,.int .i64 0,.slice none 0 0,.slice none 0 0]⟩:Rw)])):=(Ow.fewO (O:=O++[(⟨some ⟨w.heap.size,0,none⟩,6,6,33,[.int .i64 so,.int .i64 ch,.int .i64 ra,.int .i64 ba,.int .i64 ro,.int .i64 co]⟩:Rw),Rw.pair (w.heap.size+1) 27 (.slice A n c) (.slice A2 m c2),(⟨some ⟨w.heap.size+1+1,0,none⟩,11,11,42,[.int .i64 0,.int .i64 0,.int .i64 0,.int .i64 0,.int .i64 0,.int .i64 0,.int .i64 0,.int .i64 0,.int .i64 0,.slice none 0 0,.slice none 0 0]⟩:Rw)]) (by simpa only [zqa,zqb,zqc] using H5)).less (fun o ho=>List.mem_append_left _ ho)
      clear H5;go_wp2_with fail;go_roundw
      case rel=>exact ⟨kk+1,by omega,Nat.succ_le_succ HK5.out,rfl,HE,HN⟩
      case measure=>
       have:=HK5.out
       simp [intOf]
       omega
    ·have g1:(er == 0)=false:=z1n he
     have g2:(er != 0)=true:=by rw [bne,g1];rfl
     have HN:Hid (jud ⟨so,ch,ra,ba,ro,co⟩ p q l=judF ⟨so,ch,ra,ba,ro,co⟩ p q l (kk+1) (6 - (kk+1))):=by
      unfold Hid;rw [HF.out];exact z3h HK5.out (z0ab (by rw [HTt.out];exact fun h=>z5bc (p:=p) (q:=q) (by rw [HTt.out,HEr.out];exact he) (by rw [HTt.out];exact h.1)))
     have HE:Hid (Ow w0 w4 g M L (O++[(⟨some ⟨w.heap.size,0,none⟩,6,6,33,[.int .i64 so,.int .i64 ch,.int .i64 ra,.int .i64 ba,.int .i64 ro,.int .i64 co]⟩:Rw),Rw.pair (w.heap.size+1) 27 (.slice A n c) (.slice A2 m c2),(⟨some ⟨w.heap.size+1+1,0,none⟩,11,11,42,[.int .i64 0,.int .i64 0,.int .i64 0,.int .i64 0,.int .i64 0,.int .i64 0,.int .i64 0,.int .i64 0,.int .i64 0,.slice none 0 0,.slice none 0 0]⟩:Rw)])):=(Ow.fewO (O:=O++[(⟨some ⟨w.heap.size,0,none⟩,6,6,33,[.int .i64 so,.int .i64 ch,.int .i64 ra,.int .i64 ba,.int .i64 ro,.int .i64 co]⟩:Rw),Rw.pair (w.heap.size+1) 27 (.slice A n c) (.slice A2 m c2),(⟨some ⟨w.heap.size+1+1,0,none⟩,11,11,42,[.int .i64 0,.int .i64 0,.int .i64 0,.int .i64 0,.int .i64 0,.int .i64 0,.int .i64 0,.int .i64 0,.int .i64 0,.slice none 0 0,.slice none 0 0]⟩:Rw)]) (by simpa only [zqa,zqb,zqc] using H5)).less (fun o ho=>List.mem_append_left _ ho)
     clear H5;go_wp2_with fail;go_roundw
     case rel=>exact ⟨kk+1,by omega,Nat.succ_le_succ HK5.out,rfl,HE,HN⟩
     case measure=>
      have:=HK5.out
      simp [intOf]
      omega
theorem z7bx {w0 w:World}{g:Option Nat}{M:List (Nat×Value)}{L:List Ob}{O:List Rw}(h:Ow w0 w g M L O):
  Calls Tryz.prog 68 #[] w (VdR w0 g M L O vd0):=by
 have H0:=h.arr #[.int .i64 0,.int .i64 0,.int .i64 0,.int .i64 0,.int .i64 0,.int .i64 0,.int .i64 0,.int .i64 0,.int .i64 0,.slice none 0 0,.slice none 0 0] 11 rfl (by omega) 42
 have HC:=zh (z8c H0 1 1 (by omega) (by omega))
 rw [of11] at HC;clear h H0;go_enter Tryz.func68,Tryz.ntmps68
 go_wp2_with fail;refine HC.out.mono ?_;rintro e w3 ⟨B1,n1,d1,B2,n2,d2,rfl,G⟩;have H7:=G.pair (.slice B1 n1 d1) (.slice B2 n2 d2) 27
 simp only [zqa,zqb,zqc] at H7;clear HC G;have c0:=H7.p0 (O.length+1) (zk rfl)
 have c1:=H7.p1 (O.length+1) (zk rfl)
 obtain ⟨v0,v1,v2,v3,v4,v5,v6,v7,v8,v9,v10⟩:=zc11 (H7.row (O.length+0) (zk rfl));obtain ⟨f0,f1,f2,f3,f4,f5,f6,f7,f8,f9,f10⟩:=zf11 (H7.row (O.length+0) (zk rfl));have H8:=z6y H7 (O.length+0) (zk rfl) (.int .i64 0) (.int .i64 0) (.int .i64 0) (.int .i64 0) (.int .i64 0) (.int .i64 0) (.int .i64 0) (.int .i64 0) (.int .i64 0) (.slice B1 n1 d1) (.slice B2 n2 d2)
 rw [z0n] at H8;simp only [zqd] at H8;obtain ⟨z0,z1,z2,z3,z4,z5,z6,z7,z8,z9,z10⟩:=zc11 (H8.row (O.length+0) (zk rfl));have HE:=zh H8.fewO;clear H7 H8;go_wp2_with fail;refine bodyPost_ret (v:=.agg #[.int .i64 0,.int .i64 0,.int .i64 0,.int .i64 0,.int .i64 0,.int .i64 0,.int .i64 0,.int .i64 0,.int .i64 0,.slice B1 n1 d1,.slice B2 n2 d2]) (by simp [results,Tryz.results68,go_sem,z0,z1,z2,z3,z4,z5,z6,z7,z8,z9,z10]) rfl ?_
 exact ⟨B1,n1,d1,B2,n2,d2,rfl,by rw [zqa];exact HE.out⟩
structure VjK (w0:World)(g:Option Nat)(M:List (Nat×Value))(LL:List Ob)(OO:List Rw)(vb vi sb cb kk ng cg:Nat)(Ag B1:Option Addr)(n1 d1:Nat)(B2:Option Addr)(n2 d2:Nat)(x0 x1 x2 x3 x4 x5 x6 x7 q0 q1 q2 q3 q4 q5:Int)(Ld:Nat→Bool)(u0 u1 u2 u3 u4 u5 u6 u7 u8 u9 u10:Value)(W:World):Prop where
 ow:Ow w0 W g M LL (if Ld 11=true then OO.set vi (⟨some ⟨vb,0,none⟩,11,11,42,[.int .i64 (kk:Int),.int .i64 q0,.int .i64 q1,.int .i64 q2,.int .i64 q3,.int .i64 q4,.int .i64 q5,.int .i64 x6,.int .i64 (ng:Int),.slice B1 n1 d1,.slice B2 n2 d2]⟩:Rw) else OO)
 h0:Ld 0=true→u0=.int .i64 (kk:Int)
 h1:Ld 1=true→u1=.int .i64 (kk:Int)
 h2:Ld 2=true→u2=.pointer (some ⟨sb,0,none⟩)
 h3:Ld 3=true→u3=.agg #[.int .i64 x0,.int .i64 x1,.int .i64 x2,.int .i64 x3,.int .i64 x4,.int .i64 x5]
 h4:Ld 4=true→u4=.agg #[.int .i64 q0,.int .i64 q1,.int .i64 q2,.int .i64 q3,.int .i64 q4,.int .i64 q5]
 h5:Ld 5=true→u5=.pointer (some ⟨sb,6,none⟩)
 h6:Ld 6=true→u6=.int .i64 x6
 h7:Ld 7=true→u7=.slice Ag ng cg
 h8:Ld 8=true→u8=.int .i64 (ng:Int)
 h9:Ld 9=true→u9=.agg #[.slice B1 n1 d1,.slice B2 n2 d2]
 h10:Ld 10=true→u10=.agg #[.int .i64 (kk:Int),.int .i64 q0,.int .i64 q1,.int .i64 q2,.int .i64 q3,.int .i64 q4,.int .i64 q5,.int .i64 x6,.int .i64 (ng:Int),.slice B1 n1 d1,.slice B2 n2 d2]
def VjI (w0:World)(g:Option Nat)(M:List (Nat×Value))(LL:List Ob)(OO:List Rw)(vb vi sb cb kk ng cg:Nat)(Ag B1:Option Addr)(n1 d1:Nat)(B2:Option Addr)(n2 d2:Nat)(x0 x1 x2 x3 x4 x5 x6 x7 q0 q1 q2 q3 q4 q5:Int)(A0:Act)(Ld:Nat→Bool)(a:Act)(W:World):Prop:=
 ∃ (u0 u1 u2 u3 u4 u5 u6 u7 u8 u9 u10:Value),a=(((((((((((A0.put (some 53) u0).put (some 54) u1).put (some 55) u2).put (some 56) u3).put (some 57) u4).put (some 58) u5).put (some 59) u6).put (some 60) u7).put (some 61) u8).put (some 62) u9).put (some 63) u10)∧VjK w0 g M LL OO vb vi sb cb kk ng cg Ag B1 n1 d1 B2 n2 d2 x0 x1 x2 x3 x4 x5 x6 x7 q0 q1 q2 q3 q4 q5 Ld u0 u1 u2 u3 u4 u5 u6 u7 u8 u9 u10 W
theorem z2aw {OO:List Rw}{b:Bool}{vi si:Nat}{R S:Rw}(hne:vi≠si)(h:OO[si]?=some S):(if b=true then OO.set vi R else OO)[si]?=some S:=by
 split
 ·rw [zqf hne];exact h
 ·exact h
def z1bp (s:Pl)(p q:List Int)(l:List Sn)(w0:World)(g:Option Nat)(M:List (Nat×Value))(L:List Ob)(O:List Rw)(x:Value)(wr:World):Prop:=
 ∃ i:Nat,1≤i∧i≤6∧x=.int .i64 (i:Int)∧Hid (Ow w0 wr g M L O)∧Hid (jud s p q l=judF s p q l i (6 - i))
theorem z6bi {w0 w:World}{g:Option Nat}{M:List (Nat×Value)}{L:List Ob}{O:List Rw}{A A2 A3:Option Addr}{n c m c2 n3 c3 e3:Nat}{p q:List Int}{l:List Sn}(s:Pl)(hs:shV s)(h:Ow w0 w g M L O)(i j k:Nat)(hi:L[i]?=some ⟨A,n,c,z0p p⟩)(hj:L[j]?=some ⟨A2,m,c2,z0p q⟩)(hk:L[k]?=some ⟨A3,n3*8,e3,fl l⟩)(hn3:n3≤100):
  Calls Tryz.prog 37 #[.agg s.vs,.agg #[.slice A n c,.slice A2 m c2],.slice A3 n3 c3] w (VdR w0 g M L O (jud s p q l)):=by
 have H0:=((h.arr s.vs 6 rfl (by omega) 33).pair (.slice A n c) (.slice A2 m c2) 27).arr #[.int .i64 0,.int .i64 0,.int .i64 0,.int .i64 0,.int .i64 0,.int .i64 0,.int .i64 0,.int .i64 0,.int .i64 0,.slice none 0 0,.slice none 0 0] 11 rfl (by omega) 42
 simp only [World.size_alloc,zqa,zqb,zqc] at H0;have HLn:l.length=n3:=by
  have a:=(h.sl hk).1
  rw [z3m] at a;omega
 have HS:=zh hs;have HK:=zh hk;have HI:=zh hi;have HJ:=zh hj;have HNl:=zh HLn
 obtain ⟨so,ch,ra,ba,ro,co⟩:=s;unfold Pl.vs at *
 have HO:Hid (Ow w0 (((w.alloc (.cells #[.int .i64 so,.int .i64 ch,.int .i64 ra,.int .i64 ba,.int .i64 ro,.int .i64 co] 33)).alloc (.cells #[.slice A n c,.slice A2 m c2] 27)).alloc (.cells #[.int .i64 0,.int .i64 0,.int .i64 0,.int .i64 0,.int .i64 0,.int .i64 0,.int .i64 0,.int .i64 0,.int .i64 0,.slice none 0 0,.slice none 0 0] 42)) g M L (O++[(⟨some ⟨w.heap.size,0,none⟩,6,6,33,[.int .i64 so,.int .i64 ch,.int .i64 ra,.int .i64 ba,.int .i64 ro,.int .i64 co]⟩:Rw),Rw.pair (w.heap.size+1) 27 (.slice A n c) (.slice A2 m c2),(⟨some ⟨w.heap.size+1+1,0,none⟩,11,11,42,[.int .i64 0,.int .i64 0,.int .i64 0,.int .i64 0,.int .i64 0,.int .i64 0,.int .i64 0,.int .i64 0,.int .i64 0,.slice none 0 0,.slice none 0 0]⟩:Rw)])):=H0
 clear H0 hs hi hj hk HLn h;go_enter Tryz.func37,Tryz.ntmps37
 go_wp2_with fail;go_loopw [7] (fun x wr=>z1bp ⟨so,ch,ra,ba,ro,co⟩ p q l w0 g M L (O++[(⟨some ⟨w.heap.size,0,none⟩,6,6,33,[.int .i64 so,.int .i64 ch,.int .i64 ra,.int .i64 ba,.int .i64 ro,.int .i64 co]⟩:Rw),Rw.pair (w.heap.size+1) 27 (.slice A n c) (.slice A2 m c2),(⟨some ⟨w.heap.size+1+1,0,none⟩,11,11,42,[.int .i64 0,.int .i64 0,.int .i64 0,.int .i64 0,.int .i64 0,.int .i64 0,.int .i64 0,.int .i64 0,.int .i64 0,.slice none 0 0,.slice none 0 0]⟩:Rw)]) x wr) (fun x _=>7 - (intOf x).toNat)
 case atStart=>exact ⟨1,by omega,by omega,rfl,HO,rfl⟩
 case round=>
  clear HO;obtain ⟨kk,h1,h6,rfl,HO,HF⟩:=hrel;rcases zqi 5 kk with h5 | h5
  ·obtain rfl:kk=6:=by omega
   clear h1 h6 h5;have HR:Hid (jud ⟨so,ch,ra,ba,ro,co⟩ p q l=vd0):=HF.out
   have HC:=zh (z7bx HO.out)
   clear HF HO;go_wp2_with fail;refine HC.out.mono ?_;rintro e w3 ⟨B1,n1,d1,B2,n2,d2,rfl,H7⟩;unfold Vd.vs vd0;simp only [zqa,zqb,zqc] at H7;clear HC;obtain ⟨v0,v1,v2,v3,v4,v5,v6,v7,v8,v9,v10⟩:=zc11 (H7.row (O.length+2) (zk rfl));obtain ⟨f0,f1,f2,f3,f4,f5,f6,f7,f8,f9,f10⟩:=zf11 (H7.row (O.length+2) (zk rfl));have H8:=z6y H7 (O.length+2) (zk rfl) (.int .i64 0) (.int .i64 0) (.int .i64 0) (.int .i64 0) (.int .i64 0) (.int .i64 0) (.int .i64 0) (.int .i64 0) (.int .i64 0) (.slice B1 n1 d1) (.slice B2 n2 d2)
   rw [z0n] at H8;simp only [zqe,zqd] at H8;obtain ⟨z0,z1,z2,z3,z4,z5,z6,z7,z8,z9,z10⟩:=zc11 (H8.row (O.length+2) (zk rfl));have HE:=zh H8.fewO;clear H7 H8;go_wp2_with fail;refine bodyPost_ret (v:=.agg #[.int .i64 0,.int .i64 0,.int .i64 0,.int .i64 0,.int .i64 0,.int .i64 0,.int .i64 0,.int .i64 0,.int .i64 0,.slice B1 n1 d1,.slice B2 n2 d2]) (by simp [results,Tryz.results37,go_sem,z0,z1,z2,z3,z4,z5,z6,z7,z8,z9,z10]) rfl ?_
   rw [HR.out];exact ⟨B1,n1,d1,B2,n2,d2,rfl,by rw [zqa];exact HE.out⟩
  ·have hd:decide ((kk:Int)≤5)=true:=zt (by omega)
   have HKd:Hid (kd (kk:Int)):=⟨by omega,by omega⟩
   have HK5:=zh h5;have hw1:IntKind.i64.wrap ((kk:Int)+1)=((kk+1:Nat):Int):=by rw [IntWalk.i64_in _ (by omega)];omega
   have HLg:=zh (z9ak (kk:Int) HKd.out A3 n3 c3 l wr HNl.out hn3 (HO.out.sl HK.out).2.2.2)
   obtain ⟨gl,hgl⟩:∃ z,z8o (kk:Int) l=z:=⟨_,rfl⟩
   have HGl:=zh hgl;rw [hgl] at HLg;clear hgl h1 h6 h5;go_wp2_with fail;refine HLg.out.mono ?_;rintro e w1 ⟨Ag,ng,cg,rfl,hng,how,hb⟩;have H1:=HO.out.add how hb
   clear HLg how hb HO;rcases zqi ng 2 with h2 | h2
   ·have hd2:decide ((ng:Int)<2)=true:=zt (by omega)
    have HN:Hid (jud ⟨so,ch,ra,ba,ro,co⟩ p q l=judF ⟨so,ch,ra,ba,ro,co⟩ p q l (kk+1) (6 - (kk+1))):=by
     unfold Hid;rw [HF.out];exact z3h HK5.out (z7av (by rw [HGl.out,hng];exact h2))
    have HE:=zh H1.fewO;clear H1 h2 hng;go_wp2_with fail;go_roundw
    case rel=>exact ⟨kk+1,by omega,Nat.succ_le_succ HK5.out,rfl,HE,HN⟩
    case measure=>
     have:=HK5.out
     simp [intOf]
     omega
   ·have hd2:decide ((ng:Int)<2)=false:=zn (by omega)
    simp only [zqa,zqb,zqc] at H1;obtain ⟨a0,a1,a2,a3,a4,a5⟩:=zc6 (H1.row (O.length+0) (zk rfl));have HP:=zh (fun W=>z7r (kk:Int) ⟨so,ch,ra,ba,ro,co⟩ HS.out W)
    unfold Pl.vs at HP;have HT0:Hid (chc ⟨so,ch,ra,ba,ro,co⟩ l (kk:Int)=z7l (n3:Int) (prt (kk:Int) ⟨so,ch,ra,ba,ro,co⟩) (ng:Int)):=by unfold Hid chc;rw [HNl.out,HGl.out,hng]
    go_wp2_with fail;refine (HP.out _).mono ?_
    rintro e w2 ⟨rfl,hb⟩;have H2:=H1.go hb
    clear a0 a1 a2 a3 a4 a5 hb H1 HP;have HC:=zh (z1aa H2 (n3:Int) (prt (kk:Int) ⟨so,ch,ra,ba,ro,co⟩) (ng:Int))
    rw [← HT0.out] at HC;obtain ⟨t,ht⟩:∃ t,chc ⟨so,ch,ra,ba,ro,co⟩ l (kk:Int)=t:=⟨_,rfl⟩
    rw [ht] at HC;have HTt:=zh ht;clear ht;skip
    go_wp2_with fail;refine HC.out.mono ?_;rintro e w3 ⟨B1,n1,d1,B2,n2,d2,rfl,G⟩;have H4:=G.pair (.slice B1 n1 d1) (.slice B2 n2 d2) 27
    simp only [zqa,zqb,zqc] at H4;clear H2 HC G;have c0:=H4.p0 (O.length+4) (zk rfl)
    have c1:=H4.p1 (O.length+4) (zk rfl)
    have b0:=H4.p0 (O.length+1) (zk rfl)
    have b1:=H4.p1 (O.length+1) (zk rfl)
    have HM:=zh (z6ag (p:=Na.up (Na.dig t.1)) (q:=Na.up (Na.dig t.2.1)) H4 (L.length+0) (L.length+1) i j (by rw [z0a,z0g];rfl) (by rw [z0a,z0g];rfl) (by rw [z0v _ _ (z0e HI.out)];exact HI.out) (by rw [z0v _ _ (z0e HJ.out)];exact HJ.out))
    obtain ⟨er,her⟩:∃ z,t.2.2=z:=⟨_,rfl⟩
    obtain ⟨cv,hcv⟩:∃ z,cmpV (Na.up (Na.dig t.1)) (Na.up (Na.dig t.2.1)) p q=z:=⟨_,rfl⟩
    obtain ⟨ce,hce⟩:∃ z,cmpE (Na.up (Na.dig t.1)) (Na.up (Na.dig t.2.1)) p q=z:=⟨_,rfl⟩
    rw [hcv,hce] at HM;rw [her];have HEr:=zh her;have HCv:Hid (cV t p q=cv):=hcv
    have HCe:Hid (cE t p q=ce):=hce
    clear her hcv hce H4;go_wp2_with fail;refine HM.out.mono ?_;rintro e w4 ⟨rfl,H5⟩;clear HM c0 c1 b0 b1;by_cases hc:ce=0
    ·subst hc
     rcases Int.lt_or_le 0 cv with h | h
     ·have g1:decide (cv≤0)=false:=zn (by omega)
      have HN:Hid (jud ⟨so,ch,ra,ba,ro,co⟩ p q l=judF ⟨so,ch,ra,ba,ro,co⟩ p q l (kk+1) (6 - (kk+1))):=by
       unfold Hid;rw [HF.out];exact z3h HK5.out (z0ab (by rw [HTt.out];rw [HCv.out];omega))
      have HE:Hid (Ow w0 w4 g M L (O++[(⟨some ⟨w.heap.size,0,none⟩,6,6,33,[.int .i64 so,.int .i64 ch,.int .i64 ra,.int .i64 ba,.int .i64 ro,.int .i64 co]⟩:Rw),Rw.pair (w.heap.size+1) 27 (.slice A n c) (.slice A2 m c2),(⟨some ⟨w.heap.size+1+1,0,none⟩,11,11,42,[.int .i64 0,.int .i64 0,.int .i64 0,.int .i64 0,.int .i64 0,.int .i64 0,.int .i64 0,.int .i64 0,.int .i64 0,.slice none 0 0,.slice none 0 0]⟩:Rw)])):=(Ow.fewO (O:=O++[(⟨some ⟨w.heap.size,0,none⟩,6,6,33,[.int .i64 so,.int .i64 ch,.int .i64 ra,.int .i64 ba,.int .i64 ro,.int .i64 co]⟩:Rw),Rw.pair (w.heap.size+1) 27 (.slice A n c) (.slice A2 m c2),(⟨some ⟨w.heap.size+1+1,0,none⟩,11,11,42,[.int .i64 0,.int .i64 0,.int .i64 0,.int .i64 0,.int .i64 0,.int .i64 0,.int .i64 0,.int .i64 0,.int .i64 0,.slice none 0 0,.slice none 0 0]⟩:Rw)]) (by simpa only [zqa,zqb,zqc] using H5)).less (fun o ho=>List.mem_append_left _ ho)
      clear H5;go_wp2_with fail;go_roundw
      case rel=>exact ⟨kk+1,by omega,Nat.succ_le_succ HK5.out,rfl,HE,HN⟩
      case measure=>
       have:=HK5.out
       simp [intOf]
       omega
     ·have g1:decide (cv≤0)=true:=zt h
      obtain ⟨hh,tl,hgt⟩:∃ hh tl,gl=hh :: tl:=by
       cases gl with
       | nil=>simp at hng;omega
       | cons a b=>exact ⟨a,b,rfl⟩
      obtain ⟨x,hx,hfx⟩:=z9z (HGl.out.trans hgt)
      have hR:=H5.row (O.length+3) (zk rfl)
      obtain ⟨gb,hgb,_,_⟩:=z0y hR (by omega)
      obtain rfl:=hgb
      have y0:=hR.cells (g:=gb) rfl 0 (.int .i64 (hh:Int)) (by rw [hgt];rfl)
      rw [addz] at y0;obtain ⟨a,rfl,e0,e1,e2,e3,e4,e5,e6,e7⟩:=z3o (H5.sl (i:=k) (by rw [z0v _ _ (z0e HK.out)];exact HK.out)).2.2.2 hx
      have hhl:hh<n3:=by have:=z0e hx;have:=HNl.out;omega
      have hhI:(hh:Int)<(n3:Int):=by omega
      have hgI:(0:Int)<(ng:Int):=by omega
      have HWh:=zh (fun W=>z5n (kk:Int) HKd.out x.p W)
      have HRs:Hid (jud ⟨so,ch,ra,ba,ro,co⟩ p q l=⟨(kk:Int),wh (kk:Int) x.p,x.cp,(ng:Int),t.1,t.2.1⟩):=by
       unfold Hid;rw [HF.out];refine z0aa HK5.out ?_
       rw [z7au (by rw [HGl.out,hng];omega) (by rw [HTt.out];exact ⟨HCe.out,by rw [HCv.out];exact h⟩),hfx,HGl.out,hng,HTt.out]
      obtain ⟨⟨x0,x1,x2,x3,x4,x5⟩,x6,x7⟩:=x
      simp only at e0 e1 e2 e3 e4 e5 e6 e7 HWh HRs
      obtain ⟨⟨q0,q1,q2,q3,q4,q5⟩,hq⟩:∃ z,wh (kk:Int) ⟨x0,x1,x2,x3,x4,x5⟩=z:=⟨_,rfl⟩
      rw [hq] at HWh HRs;unfold Pl.vs at HWh;have H6:=H5.arr #[.int .i64 x0,.int .i64 x1,.int .i64 x2,.int .i64 x3,.int .i64 x4,.int .i64 x5,.int .i64 x6,.int .i64 x7] 8 rfl (by omega) 40
      simp only [zqa,zqb,zqc] at H6;obtain ⟨LL,hLL⟩:∃ z,L++[(⟨B1,n1,d1,z0c (Na.dig t.1)⟩:Ob),⟨B2,n2,d2,z0c (Na.dig t.2.1)⟩]=z:=⟨_,rfl⟩
      have HLe:=zh hLL;have HQ6:Hid (∃ l6:List Rw,Ow w0 (w4.alloc (.cells #[.int .i64 x0,.int .i64 x1,.int .i64 x2,.int .i64 x3,.int .i64 x4,.int .i64 x5,.int .i64 x6,.int .i64 x7] 40)) g M LL (O++l6)∧(O++l6)[O.length+2]?=some ⟨some ⟨w.heap.size+1+1,0,none⟩,11,11,42,[.int .i64 0,.int .i64 0,.int .i64 0,.int .i64 0,.int .i64 0,.int .i64 0,.int .i64 0,.int .i64 0,.int .i64 0,.slice none 0 0,.slice none 0 0]⟩∧(O++l6)[O.length+5]?=some ⟨some ⟨w4.heap.size,0,none⟩,8,8,40,[.int .i64 x0,.int .i64 x1,.int .i64 x2,.int .i64 x3,.int .i64 x4,.int .i64 x5,.int .i64 x6,.int .i64 x7]⟩∧(O++l6)[O.length+4]?=some (Rw.pair w3.heap.size 27 (.slice B1 n1 d1) (.slice B2 n2 d2))):=⟨_,by rw [← hLL];exact H6,by rw [z0a];rfl,by rw [z0a];rfl,by rw [z0a];rfl⟩
      obtain ⟨l6,HO6,r1,r2,r3⟩:=HQ6.out;obtain ⟨vi,hvi⟩:∃ z,O.length+2=z:=⟨_,rfl⟩
      obtain ⟨si,hsi⟩:∃ z,O.length+5=z:=⟨_,rfl⟩
      obtain ⟨ci,hci⟩:∃ z,O.length+4=z:=⟨_,rfl⟩
      have HNs:Hid (vi≠si):=by unfold Hid;omega
      have HNc:Hid (vi≠ci):=by unfold Hid;omega
      have HVi:=zh hvi;rw [hvi] at r1;rw [hsi] at r2;rw [hci] at r3;obtain ⟨OO,hOO⟩:∃ z,O++l6=z:=⟨_,rfl⟩
      rw [hOO] at r1 r2 r3 HO6;have HOe:=zh hOO;have HVr:=zh r1;have HSr:=zh r2;have HCr:=zh r3;have HOO:=zh HO6;clear hR hx hfx hgt hq h hng H5 H6 HQ6 hLL hOO hvi hsi hci r1 r2 r3 HO6;go_wp2_with fail;refine z0u (VjI w0 g M LL OO (w.heap.size+1+1) vi w4.heap.size w3.heap.size kk ng cg (some ⟨gb,0,none⟩) B1 n1 d1 B2 n2 d2 x0 x1 x2 x3 x4 x5 x6 x7 q0 q1 q2 q3 q4 q5) (by kernel_rfl) (by kernel_rfl) ?_ ?_ ?_
      ·refine ⟨u53,u54,u55,u56,u57,u58,u59,u60,u61,u62,u63,?_,⟨HOO.out.drew,?_,?_,?_,?_,?_,?_,?_,?_,?_,?_,?_⟩⟩
       ·simp only [Act.put,zT,zZ,zS]
       all_goals (intro h;cases h)
      ·rintro jj Ld b W hj hf hcl hd ⟨u0,u1,u2,u3,u4,u5,u6,u7,u8,u9,u10,rfl,hC⟩;have hj':jj<12:=hj
       have hcase:jj=0∨jj=1∨jj=2∨jj=3∨jj=4∨jj=5∨jj=6∨jj=7∨jj=8∨jj=9∨jj=10∨jj=11:=by omega
       clear hj hj';simp only [Act.put,zT,zZ,zS];rcases hcase with rfl | rfl | rfl | rfl | rfl | rfl | rfl | rfl | rfl | rfl | rfl | rfl
       ·clear hd hcl;refine zw rfl fun K hK=>?_
        go_simp;refine hK _ _ ⟨_,_,_,_,_,_,_,_,_,_,_,?_,{hC with h0:=fun _=>rfl}⟩;simp only [Act.put,zT,zZ,zS]
       ·clear hd hcl;refine zw rfl fun K hK=>?_
        go_simp;refine hK _ _ ⟨_,_,_,_,_,_,_,_,_,_,_,?_,{hC with h1:=fun _=>rfl}⟩;simp only [Act.put,zT,zZ,zS]
       ·clear hd hcl;refine zw rfl fun K hK=>?_
        go_simp;refine hK _ _ ⟨_,_,_,_,_,_,_,_,_,_,_,?_,{hC with h2:=fun _=>rfl}⟩;simp only [Act.put,zT,zZ,zS]
       ·obtain rfl:=hC.h2 (hd 2 (by kernel_rfl));obtain ⟨y0,y1,y2,y3,y4,y5⟩:=zy6 (hC.ow.row si (z2aw HNs.out HSr.out));clear hd hcl;refine zw rfl fun K hK=>?_
        go_simp;refine hK _ _ ⟨_,_,_,_,_,_,_,_,_,_,_,?_,{hC with h3:=fun _=>rfl}⟩;simp only [Act.put,zT,zZ,zS]
       ·obtain rfl:=hC.h1 (hd 1 (by kernel_rfl));obtain rfl:=hC.h3 (hd 3 (by kernel_rfl));have hcall:=HWh.out W
        clear hd hcl;refine zw rfl fun K hK=>?_
        go_simp;refine hcall.mono ?_;rintro e W' ⟨rfl,hb⟩;refine hK _ _ ⟨_,_,_,_,_,_,_,_,_,_,_,?_,{hC with ow:=hC.ow.go hb,h4:=fun _=>rfl}⟩;simp only [Act.put,zT,zZ,zS]
       ·clear hd hcl;refine zw rfl fun K hK=>?_
        go_simp;refine hK _ _ ⟨_,_,_,_,_,_,_,_,_,_,_,?_,{hC with h5:=fun _=>rfl}⟩;simp only [Act.put,zT,zZ,zS]
       ·obtain rfl:=hC.h5 (hd 5 (by kernel_rfl));have y6:=(hC.ow.row si (z2aw HNs.out HSr.out)).cellAt 6 (by decide)
        clear hd hcl;refine zw rfl fun K hK=>?_
        go_simp;refine hK _ _ ⟨_,_,_,_,_,_,_,_,_,_,_,?_,{hC with h6:=fun _=>rfl}⟩;simp only [Act.put,zT,zZ,zS]
       ·clear hd hcl;refine zw rfl fun K hK=>?_
        go_simp;refine hK _ _ ⟨_,_,_,_,_,_,_,_,_,_,_,?_,{hC with h7:=fun _=>rfl}⟩;simp only [Act.put,zT,zZ,zS]
       ·obtain rfl:=hC.h7 (hd 7 (by kernel_rfl));clear hd hcl;refine zw rfl fun K hK=>?_
        go_simp;refine hK _ _ ⟨_,_,_,_,_,_,_,_,_,_,_,?_,{hC with h8:=fun _=>rfl}⟩;simp only [Act.put,zT,zZ,zS]
       ·have y0:=hC.ow.p0 ci (z2aw HNc.out HCr.out)
        have y1:=hC.ow.p1 ci (z2aw HNc.out HCr.out)
        clear hd hcl;refine zw rfl fun K hK=>?_
        go_simp;refine hK _ _ ⟨_,_,_,_,_,_,_,_,_,_,_,?_,{hC with h9:=fun _=>rfl}⟩;simp only [Act.put,zT,zZ,zS]
       ·obtain rfl:=hC.h0 (hd 0 (by kernel_rfl));obtain rfl:=hC.h4 (hd 4 (by kernel_rfl));obtain rfl:=hC.h6 (hd 6 (by kernel_rfl));obtain rfl:=hC.h8 (hd 8 (by kernel_rfl));obtain rfl:=hC.h9 (hd 9 (by kernel_rfl));clear hd hcl;refine zw rfl fun K hK=>?_
        go_simp;refine hK _ _ ⟨_,_,_,_,_,_,_,_,_,_,_,?_,{hC with h10:=fun _=>rfl}⟩;simp only [Act.put,zT,zZ,zS]
       ·obtain rfl:=hC.h10 (hd 10 (by kernel_rfl));have how:=hC.ow;rw [if_neg (show ¬ Ld 11=true by rw [hf];decide)] at how
        obtain ⟨v0,v1,v2,v3,v4,v5,v6,v7,v8,v9,v10⟩:=zc11 (how.row vi HVr.out);obtain ⟨f0,f1,f2,f3,f4,f5,f6,f7,f8,f9,f10⟩:=zf11 (how.row vi HVr.out);have HZ:=zh (z6y how vi HVr.out (.int .i64 (kk:Int)) (.int .i64 q0) (.int .i64 q1) (.int .i64 q2) (.int .i64 q3) (.int .i64 q4) (.int .i64 q5) (.int .i64 x6) (.int .i64 (ng:Int)) (.slice B1 n1 d1) (.slice B2 n2 d2))
        clear how;clear hd hcl;refine zw rfl fun K hK=>?_
        go_simp;refine hK _ _ ⟨_,_,_,_,_,_,_,_,_,_,_,?_,{hC with ow:=by rw [if_pos (show z2k Ld 11 11=true by simp [z2k])];exact HZ.out}⟩
        simp only [Act.put,zT,zZ,zS]
      ·rintro Ld b W hL ⟨u0,u1,u2,u3,u4,u5,u6,u7,u8,u9,u10,rfl,hC⟩;have how:=hC.ow;rw [if_pos (hL 11 (by show 11<12;decide))] at how
       obtain ⟨z0,z1,z2,z3,z4,z5,z6,z7,z8,z9,z10⟩:=zc11 (how.row vi (z0b HVr.out));have HE:Hid (Ow w0 W g M LL O):=by
        unfold Hid;rw [← HOe.out,← HVi.out,z0n] at how;exact how.fewO
       clear hL hC how;simp only [Act.put,zT,zZ,zS];go_wp2_with fail;refine bodyPost_ret (v:=.agg #[.int .i64 (kk:Int),.int .i64 q0,.int .i64 q1,.int .i64 q2,.int .i64 q3,.int .i64 q4,.int .i64 q5,.int .i64 x6,.int .i64 (ng:Int),.slice B1 n1 d1,.slice B2 n2 d2]) (by simp [results,Tryz.results37,go_sem,z0,z1,z2,z3,z4,z5,z6,z7,z8,z9,z10]) rfl ?_
       rw [HRs.out];exact ⟨B1,n1,d1,B2,n2,d2,rfl,by rw [zqa];rw [← HLe.out] at HE;exact HE.out⟩
    ·have g1:(ce == 0)=false:=z1n hc
     have g2:(ce != 0)=true:=by rw [bne,g1];rfl
     have HN:Hid (jud ⟨so,ch,ra,ba,ro,co⟩ p q l=judF ⟨so,ch,ra,ba,ro,co⟩ p q l (kk+1) (6 - (kk+1))):=by
      unfold Hid;rw [HF.out];exact z3h HK5.out (z0ab (by rw [HTt.out];rw [HCe.out];omega))
     have HE:Hid (Ow w0 w4 g M L (O++[(⟨some ⟨w.heap.size,0,none⟩,6,6,33,[.int .i64 so,.int .i64 ch,.int .i64 ra,.int .i64 ba,.int .i64 ro,.int .i64 co]⟩:Rw),Rw.pair (w.heap.size+1) 27 (.slice A n c) (.slice A2 m c2),(⟨some ⟨w.heap.size+1+1,0,none⟩,11,11,42,[.int .i64 0,.int .i64 0,.int .i64 0,.int .i64 0,.int .i64 0,.int .i64 0,.int .i64 0,.int .i64 0,.int .i64 0,.slice none 0 0,.slice none 0 0]⟩:Rw)])):=(Ow.fewO (O:=O++[(⟨some ⟨w.heap.size,0,none⟩,6,6,33,[.int .i64 so,.int .i64 ch,.int .i64 ra,.int .i64 ba,.int .i64 ro,.int .i64 co]⟩:Rw),Rw.pair (w.heap.size+1) 27 (.slice A n c) (.slice A2 m c2),(⟨some ⟨w.heap.size+1+1,0,none⟩,11,11,42,[.int .i64 0,.int .i64 0,.int .i64 0,.int .i64 0,.int .i64 0,.int .i64 0,.int .i64 0,.int .i64 0,.int .i64 0,.slice none 0 0,.slice none 0 0]⟩:Rw)]) (by simpa only [zqa,zqb,zqc] using H5)).less (fun o ho=>List.mem_append_left _ ho)
     clear H5;go_wp2_with fail;go_roundw
     case rel=>exact ⟨kk+1,by omega,Nat.succ_le_succ HK5.out,rfl,HE,HN⟩
     case measure=>
      have:=HK5.out
      simp [intOf]
      omega
end Go.Proofs.YtpmofjomadibmaaGreatDoor
