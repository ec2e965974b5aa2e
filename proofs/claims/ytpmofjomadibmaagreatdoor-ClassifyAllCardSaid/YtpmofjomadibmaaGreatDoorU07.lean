/- Xj Xk Xl -/
import Derived.Test.YtpmofjomadibmaaGreatDoorU06
namespace Go.Proofs.YtpmofjomadibmaaGreatDoor
set_option maxHeartbeats 8000000
open Go.RowKit Go.Sort
open Go.ChangeMaps (setBlock heap_setBlock_same heap_setBlock_other)
set_option linter.unusedVariables false
set_option maxRecDepth 100000
open Cl
def SumOk (l:List Int)(i:Nat)(s:Int):Prop:=s=(l.take i).sum/\∀ x∈l.take i,0<=x/\x<=12
theorem z6aj {l:List Int}{i:Nat}{x:Int}(hx:l[i]?=some x):l.take (i+1)=l.take i++[x]:=by rw [List.take_add_one,hx];rfl
theorem SumOk.step {l:List Int}{i:Nat}{s x:Int}(h:SumOk l i s)(hx:l[i]?=some x)(h0:0<=x)(h1:x<=12):SumOk l (i+1) (s+x):=by
 unfold SumOk;rw [z6aj hx];refine ⟨by rw [List.sum_append,<- h.1];simp,fun y hy=>?_⟩
 rcases List.mem_append.1 hy with h2|h2
 ·exact h.2 y h2
 ·rw [List.mem_singleton] at h2;rw [h2];exact ⟨h0,h1⟩
theorem z9j:∀ (l:List Int),(∀ x∈l,0<=x/\x<=12)->0<=l.sum/\l.sum<=12*(l.length:Int)
 | [],_=>by simp
 | x :: l,h=>by
  obtain ⟨h1,h2⟩:=z9j l fun y hy=>h y (List.mem_cons_of_mem _ hy)
  have h3:=h x List.mem_cons_self
  rw [List.sum_cons,List.length_cons];omega
theorem SumOk.range {l:List Int}{i:Nat}{s:Int}(h:SumOk l i s)(hi:i<=6):0<=s/\s<=72:=by
 have h1:=z9j _ h.2
 rw [<- h.1] at h1;have h2:(l.take i).length<=i:=by rw [zqw];omega
 omega
namespace Cl
set_option maxHeartbeats 8000000
def shV (s:Pl):Prop:=(0<=s.so/\s.so<=12)/\(0<=s.ch/\s.ch<=12)/\(0<=s.ra/\s.ra<=12)/\(0<=s.ba/\s.ba<=12)/\(0<=s.ro/\s.ro<=12)/\(0<=s.co/\s.co<=12)/\s.so+s.ch+s.ra+s.ba+s.ro+s.co<=12
instance (s:Pl):Decidable (shV s):=inferInstanceAs (Decidable (_/\_))
theorem z1l {s:Pl}{i:Nat}{x:Int}(hx:s.l[i]?=some x)(h:x<0∨12<x):decide (shV s)=false:=by
 refine zn fun e=>?_
 have hm:=List.mem_of_getElem? hx
 obtain ⟨⟨a1,a2⟩,⟨b1,b2⟩,⟨c1,c2⟩,⟨d1,d2⟩,⟨e1,e2⟩,⟨f1,f2⟩,_⟩:=e
 unfold Pl.l at hm;simp only [List.mem_cons,List.mem_nil_iff,or_false] at hm;rcases hm with rfl|rfl|rfl|rfl|rfl|rfl <;> omega
theorem z6ao {s:Pl}{z:Int}(h:SumOk s.l 6 z):decide (shV s)=decide (z<=12):=by
 obtain ⟨so,ch,ra,ba,ro,co⟩:=s;obtain ⟨h1,h2⟩:=h;have e:(Pl.l ⟨so,ch,ra,ba,ro,co⟩).take 6=[so,ch,ra,ba,ro,co]:=rfl
 rw [e] at h1 h2;simp only [List.sum_cons,List.sum_nil] at h1;have a1:=h2 so (by simp)
 have a2:=h2 ch (by simp)
 have a3:=h2 ra (by simp)
 have a4:=h2 ba (by simp)
 have a5:=h2 ro (by simp)
 have a6:=h2 co (by simp)
 by_cases hz:z<=12
 ·rw [zt hz];exact zt ⟨a1,a2,a3,a4,a5,a6,by show so+ch+ra+ba+ro+co<=12;omega⟩
 ·rw [zn hz];exact zn fun ⟨_,_,_,_,_,_,e⟩=>by
   have e':so+ch+ra+ba+ro+co<=12:=e
   omega
end Cl
theorem z7z (s:Pl)(w:World):
  Calls Tryz.prog 69 #[.agg s.vs] w fun e w'=>e=.returned (.agg s.vs)/\Below w.heap.size w w':=by
 obtain ⟨so,ch,ra,ba,ro,co⟩:=s;unfold Pl.vs;have H:=((Ow.of (St.refl w)).arr #[.int .i64 so,.int .i64 ch,.int .i64 ra,.int .i64 ba,.int .i64 ro,.int .i64 co] 6 rfl (by omega) 33).arr #[.int .i64 so,.int .i64 ch,.int .i64 ra,.int .i64 ba,.int .i64 ro,.int .i64 co] 6 rfl (by omega) 103
 simp only [zqc,zqb,World.size_alloc] at H;obtain ⟨c0,c1,c2,c3,c4,c5⟩:=zc6 (H.row 1 rfl);go_enter Tryz.func69,Tryz.ntmps69
 go_wp2_with fail;refine bodyPost_ret (v:=.agg #[.int .i64 so,.int .i64 ch,.int .i64 ra,.int .i64 ba,.int .i64 ro,.int .i64 co]) (by simp [results,Tryz.results69,go_sem,c0,c1,c2,c3,c4,c5]) rfl ?_
 exact ⟨rfl,H.below⟩
theorem z1ar (s:Pl)(w:World):
  Calls Tryz.prog 116 #[.agg s.vs] w fun e w'=>e=.returned (.agg s.vs)/\Below w.heap.size w w':=by
 obtain ⟨so,ch,ra,ba,ro,co⟩:=s;unfold Pl.vs;have H:=((Ow.of (St.refl w)).arr #[.int .i64 so,.int .i64 ch,.int .i64 ra,.int .i64 ba,.int .i64 ro,.int .i64 co] 6 rfl (by omega) 38).arr #[.int .i64 so,.int .i64 ch,.int .i64 ra,.int .i64 ba,.int .i64 ro,.int .i64 co] 6 rfl (by omega) 103
 simp only [zqc,zqb,World.size_alloc] at H;obtain ⟨c0,c1,c2,c3,c4,c5⟩:=zc6 (H.row 1 rfl);go_enter Tryz.func116,Tryz.ntmps116
 go_wp2_with fail;refine bodyPost_ret (v:=.agg #[.int .i64 so,.int .i64 ch,.int .i64 ra,.int .i64 ba,.int .i64 ro,.int .i64 co]) (by simp [results,Tryz.results116,go_sem,c0,c1,c2,c3,c4,c5]) rfl ?_
 exact ⟨rfl,H.below⟩
theorem z4af (s:Pl)(w:World):
  Calls Tryz.prog 100 #[.agg s.vs] w fun e w'=>e=.returned (.agg s.vs)/\Below w.heap.size w w':=by
 obtain ⟨so,ch,ra,ba,ro,co⟩:=s;unfold Pl.vs;have H:=((Ow.of (St.refl w)).arr #[.int .i64 so,.int .i64 ch,.int .i64 ra,.int .i64 ba,.int .i64 ro,.int .i64 co] 6 rfl (by omega) 33).arr #[.int .i64 so,.int .i64 ch,.int .i64 ra,.int .i64 ba,.int .i64 ro,.int .i64 co] 6 rfl (by omega) 103
 simp only [zqc,zqb,World.size_alloc] at H;obtain ⟨c0,c1,c2,c3,c4,c5⟩:=zc6 (H.row 1 rfl);go_enter Tryz.func100,Tryz.ntmps100
 go_wp2_with fail;refine bodyPost_ret (v:=.agg #[.int .i64 so,.int .i64 ch,.int .i64 ra,.int .i64 ba,.int .i64 ro,.int .i64 co]) (by simp [results,Tryz.results100,go_sem,c0,c1,c2,c3,c4,c5]) rfl ?_
 exact ⟨rfl,H.below⟩
theorem z9p (s:Pl)(w:World):
  Calls Tryz.prog 130 #[.agg s.vs] w fun e w'=>e=.returned (.agg s.vs)/\Below w.heap.size w w':=by
 obtain ⟨so,ch,ra,ba,ro,co⟩:=s;unfold Pl.vs;have H:=((Ow.of (St.refl w)).arr #[.int .i64 so,.int .i64 ch,.int .i64 ra,.int .i64 ba,.int .i64 ro,.int .i64 co] 6 rfl (by omega) 38).arr #[.int .i64 so,.int .i64 ch,.int .i64 ra,.int .i64 ba,.int .i64 ro,.int .i64 co] 6 rfl (by omega) 103
 simp only [zqc,zqb,World.size_alloc] at H;obtain ⟨c0,c1,c2,c3,c4,c5⟩:=zc6 (H.row 1 rfl);go_enter Tryz.func130,Tryz.ntmps130
 go_wp2_with fail;refine bodyPost_ret (v:=.agg #[.int .i64 so,.int .i64 ch,.int .i64 ra,.int .i64 ba,.int .i64 ro,.int .i64 co]) (by simp [results,Tryz.results130,go_sem,c0,c1,c2,c3,c4,c5]) rfl ?_
 exact ⟨rfl,H.below⟩
theorem z4i (xs:List Value)(k:Nat)(v:Value)(hk:k<6)(hv:xs[k]?=some v)(w:World):(Instr.index 103 (.agg xs.toArray) (.int .i64 k)).run Tryz.prog w=.ok v w:=by
 have h0:(0:Int)<=(k:Int)/\(k:Int)<6:=by omega
 simp [Instr.index,run_underlying Tryz.underlying103,asIntOf,h0,hv,go_sem]
 intro h;omega
def z7bz (p:Pl)(w1:World)(y x:Value)(wr:World):Prop:=
 ∃ (i:Nat) (s:Int),i<=6/\x=.int .i64 i/\y=.int .i64 s/\w1=wr/\Hid (SumOk p.l i s)
theorem z5a (s:Pl)(w:World):
  Calls Tryz.prog 38 #[.agg s.vs] w fun e w'=>e=.returned (.bool (decide (shV s)))/\Below w.heap.size w w':=by
 have HW:=zh (z7z s)
 obtain ⟨res,hres⟩:∃ r,decide (shV s)=r:=⟨_,rfl⟩
 have HR:=zh hres;rw [hres];clear hres;obtain ⟨so,ch,ra,ba,ro,co⟩:=s;unfold Pl.vs at *
 go_enter Tryz.func38,Tryz.ntmps38
 go_wp2_with fail;refine (HW.out _).mono ?_
 rintro e w1 ⟨rfl,hb⟩;have H:=((Ow.of (St.refl w)).arr #[.int .i64 so,.int .i64 ch,.int .i64 ra,.int .i64 ba,.int .i64 ro,.int .i64 co] 6 rfl (by omega) 33).go hb
 have HB:=zh H.below;clear H hb HW;go_wp2_with fail;go_loopw [3,8] (fun y x wr=>z7bz ⟨so,ch,ra,ba,ro,co⟩ w1 y x wr) (fun _ x _=>6 - (intOf x).toNat)
 case atStart=>exact ⟨0,0,by omega,rfl,rfl,rfl,rfl,fun x hx=>by cases hx⟩
 case round=>
  obtain ⟨i,s,hi,rfl,rfl,rfl,hI⟩:=hrel;have hI0:=hI.out;have hcase:i=0∨i=1∨i=2∨i=3∨i=4∨i=5∨i=6:=by omega
  clear hI hi;rcases hcase with rfl|rfl|rfl|rfl|rfl|rfl|rfl
  ·have HI:=zh hI0;have hs:0<=s/\s<=72:=hI0.range (by omega)
   have hidx:∀ W:World,(Instr.index 103 (.agg #[.int .i64 so,.int .i64 ch,.int .i64 ra,.int .i64 ba,.int .i64 ro,.int .i64 co]) (.int .i64 0)).run Tryz.prog W=.ok (.int .i64 so) W:=fun W=>z4i [.int .i64 so,.int .i64 ch,.int .i64 ra,.int .i64 ba,.int .i64 ro,.int .i64 co] 0 _ (by omega) rfl W
   clear hI0;rcases Int.lt_or_le so 0 with h|h
   ·have t1:decide (so<0)=true:=zt h
    have hf:res=false:=by rw [<- HR.out];exact z1l (i:=0) rfl (.inl h)
    have HF:=zh hf;clear h hf;go_wp2_with fail;go_ret;exact ⟨by rw [HF.out];rfl,HB.out⟩
   ·have t1:decide (so<0)=false:=zn (by omega)
    rcases Int.lt_or_le 12 so with h2|h2
    ·have t2:decide (12<so)=true:=zt h2
     have hf:res=false:=by rw [<- HR.out];exact z1l (i:=0) rfl (.inr h2)
     have HF:=zh hf;clear h h2 hf;go_wp2_with fail;go_ret;exact ⟨by rw [HF.out];rfl,HB.out⟩
    ·have t2:decide (12<so)=false:=zn (by omega)
     have HP:=zh (And.intro h h2)
     have tw:IntKind.i64.wrap (s+so)=s+so:=IntWalk.i64_in _ (by omega)
     clear h h2;go_wp2_with fail;go_roundw
     case rel=>exact ⟨1,s+so,by omega,rfl,rfl,rfl,HI.out.step rfl HP.out.1 HP.out.2⟩
     case measure=>simp [intOf]
  ·have HI:=zh hI0;have hs:0<=s/\s<=72:=hI0.range (by omega)
   have hidx:∀ W:World,(Instr.index 103 (.agg #[.int .i64 so,.int .i64 ch,.int .i64 ra,.int .i64 ba,.int .i64 ro,.int .i64 co]) (.int .i64 1)).run Tryz.prog W=.ok (.int .i64 ch) W:=fun W=>z4i [.int .i64 so,.int .i64 ch,.int .i64 ra,.int .i64 ba,.int .i64 ro,.int .i64 co] 1 _ (by omega) rfl W
   clear hI0;rcases Int.lt_or_le ch 0 with h|h
   ·have t1:decide (ch<0)=true:=zt h
    have hf:res=false:=by rw [<- HR.out];exact z1l (i:=1) rfl (.inl h)
    have HF:=zh hf;clear h hf;go_wp2_with fail;go_ret;exact ⟨by rw [HF.out];rfl,HB.out⟩
   ·have t1:decide (ch<0)=false:=zn (by omega)
    rcases Int.lt_or_le 12 ch with h2|h2
    ·have t2:decide (12<ch)=true:=zt h2
     have hf:res=false:=by rw [<- HR.out];exact z1l (i:=1) rfl (.inr h2)
     have HF:=zh hf;clear h h2 hf;go_wp2_with fail;go_ret;exact ⟨by rw [HF.out];rfl,HB.out⟩
    ·have t2:decide (12<ch)=false:=zn (by omega)
     have HP:=zh (And.intro h h2)
     have tw:IntKind.i64.wrap (s+ch)=s+ch:=IntWalk.i64_in _ (by omega)
     clear h h2;go_wp2_with fail;go_roundw
     case rel=>exact ⟨2,s+ch,by omega,rfl,rfl,rfl,HI.out.step rfl HP.out.1 HP.out.2⟩
     case measure=>simp [intOf]
  ·have HI:=zh hI0;have hs:0<=s/\s<=72:=hI0.range (by omega)
   have hidx:∀ W:World,(Instr.index 103 (.agg #[.int .i64 so,.int .i64 ch,.int .i64 ra,.int .i64 ba,.int .i64 ro,.int .i64 co]) (.int .i64 2)).run Tryz.prog W=.ok (.int .i64 ra) W:=fun W=>z4i [.int .i64 so,.int .i64 ch,.int .i64 ra,.int .i64 ba,.int .i64 ro,.int .i64 co] 2 _ (by omega) rfl W
   clear hI0;rcases Int.lt_or_le ra 0 with h|h
   ·have t1:decide (ra<0)=true:=zt h
    have hf:res=false:=by rw [<- HR.out];exact z1l (i:=2) rfl (.inl h)
    have HF:=zh hf;clear h hf;go_wp2_with fail;go_ret;exact ⟨by rw [HF.out];rfl,HB.out⟩
   ·have t1:decide (ra<0)=false:=zn (by omega)
    rcases Int.lt_or_le 12 ra with h2|h2
    ·have t2:decide (12<ra)=true:=zt h2
     have hf:res=false:=by rw [<- HR.out];exact z1l (i:=2) rfl (.inr h2)
     have HF:=zh hf;clear h h2 hf;go_wp2_with fail;go_ret;exact ⟨by rw [HF.out];rfl,HB.out⟩
    ·have t2:decide (12<ra)=false:=zn (by omega)
     have HP:=zh (And.intro h h2)
     have tw:IntKind.i64.wrap (s+ra)=s+ra:=IntWalk.i64_in _ (by omega)
     clear h h2;go_wp2_with fail;go_roundw
     case rel=>exact ⟨3,s+ra,by omega,rfl,rfl,rfl,HI.out.step rfl HP.out.1 HP.out.2⟩
     case measure=>simp [intOf]
  ·have HI:=zh hI0;have hs:0<=s/\s<=72:=hI0.range (by omega)
   have hidx:∀ W:World,(Instr.index 103 (.agg #[.int .i64 so,.int .i64 ch,.int .i64 ra,.int .i64 ba,.int .i64 ro,.int .i64 co]) (.int .i64 3)).run Tryz.prog W=.ok (.int .i64 ba) W:=fun W=>z4i [.int .i64 so,.int .i64 ch,.int .i64 ra,.int .i64 ba,.int .i64 ro,.int .i64 co] 3 _ (by omega) rfl W
   clear hI0;rcases Int.lt_or_le ba 0 with h|h
   ·have t1:decide (ba<0)=true:=zt h
    have hf:res=false:=by rw [<- HR.out];exact z1l (i:=3) rfl (.inl h)
    have HF:=zh hf;clear h hf;go_wp2_with fail;go_ret;exact ⟨by rw [HF.out];rfl,HB.out⟩
   ·have t1:decide (ba<0)=false:=zn (by omega)
    rcases Int.lt_or_le 12 ba with h2|h2
    ·have t2:decide (12<ba)=true:=zt h2
     have hf:res=false:=by rw [<- HR.out];exact z1l (i:=3) rfl (.inr h2)
     have HF:=zh hf;clear h h2 hf;go_wp2_with fail;go_ret;exact ⟨by rw [HF.out];rfl,HB.out⟩
    ·have t2:decide (12<ba)=false:=zn (by omega)
     have HP:=zh (And.intro h h2)
     have tw:IntKind.i64.wrap (s+ba)=s+ba:=IntWalk.i64_in _ (by omega)
     clear h h2;go_wp2_with fail;go_roundw
     case rel=>exact ⟨4,s+ba,by omega,rfl,rfl,rfl,HI.out.step rfl HP.out.1 HP.out.2⟩
     case measure=>simp [intOf]
  ·have HI:=zh hI0;have hs:0<=s/\s<=72:=hI0.range (by omega)
   have hidx:∀ W:World,(Instr.index 103 (.agg #[.int .i64 so,.int .i64 ch,.int .i64 ra,.int .i64 ba,.int .i64 ro,.int .i64 co]) (.int .i64 4)).run Tryz.prog W=.ok (.int .i64 ro) W:=fun W=>z4i [.int .i64 so,.int .i64 ch,.int .i64 ra,.int .i64 ba,.int .i64 ro,.int .i64 co] 4 _ (by omega) rfl W
   clear hI0;rcases Int.lt_or_le ro 0 with h|h
   ·have t1:decide (ro<0)=true:=zt h
    have hf:res=false:=by rw [<- HR.out];exact z1l (i:=4) rfl (.inl h)
    have HF:=zh hf;clear h hf;go_wp2_with fail;go_ret;exact ⟨by rw [HF.out];rfl,HB.out⟩
   ·have t1:decide (ro<0)=false:=zn (by omega)
    rcases Int.lt_or_le 12 ro with h2|h2
    ·have t2:decide (12<ro)=true:=zt h2
     have hf:res=false:=by rw [<- HR.out];exact z1l (i:=4) rfl (.inr h2)
     have HF:=zh hf;clear h h2 hf;go_wp2_with fail;go_ret;exact ⟨by rw [HF.out];rfl,HB.out⟩
    ·have t2:decide (12<ro)=false:=zn (by omega)
     have HP:=zh (And.intro h h2)
     have tw:IntKind.i64.wrap (s+ro)=s+ro:=IntWalk.i64_in _ (by omega)
     clear h h2;go_wp2_with fail;go_roundw
     case rel=>exact ⟨5,s+ro,by omega,rfl,rfl,rfl,HI.out.step rfl HP.out.1 HP.out.2⟩
     case measure=>simp [intOf]
  ·have HI:=zh hI0;have hs:0<=s/\s<=72:=hI0.range (by omega)
   have hidx:∀ W:World,(Instr.index 103 (.agg #[.int .i64 so,.int .i64 ch,.int .i64 ra,.int .i64 ba,.int .i64 ro,.int .i64 co]) (.int .i64 5)).run Tryz.prog W=.ok (.int .i64 co) W:=fun W=>z4i [.int .i64 so,.int .i64 ch,.int .i64 ra,.int .i64 ba,.int .i64 ro,.int .i64 co] 5 _ (by omega) rfl W
   clear hI0;rcases Int.lt_or_le co 0 with h|h
   ·have t1:decide (co<0)=true:=zt h
    have hf:res=false:=by rw [<- HR.out];exact z1l (i:=5) rfl (.inl h)
    have HF:=zh hf;clear h hf;go_wp2_with fail;go_ret;exact ⟨by rw [HF.out];rfl,HB.out⟩
   ·have t1:decide (co<0)=false:=zn (by omega)
    rcases Int.lt_or_le 12 co with h2|h2
    ·have t2:decide (12<co)=true:=zt h2
     have hf:res=false:=by rw [<- HR.out];exact z1l (i:=5) rfl (.inr h2)
     have HF:=zh hf;clear h h2 hf;go_wp2_with fail;go_ret;exact ⟨by rw [HF.out];rfl,HB.out⟩
    ·have t2:decide (12<co)=false:=zn (by omega)
     have HP:=zh (And.intro h h2)
     have tw:IntKind.i64.wrap (s+co)=s+co:=IntWalk.i64_in _ (by omega)
     clear h h2;go_wp2_with fail;go_roundw
     case rel=>exact ⟨6,s+co,by omega,rfl,rfl,rfl,HI.out.step rfl HP.out.1 HP.out.2⟩
     case measure=>simp [intOf]
  ·have HI:=zh hI0;have he:res=decide (s<=12):=by rw [<- HR.out];exact z6ao hI0
   have HF:=zh he;clear hI0 he;go_wp2_with fail;go_ret;exact ⟨by rw [HF.out];rfl,HB.out⟩
def z7by (p:Pl)(w1:World)(y x:Value)(wr:World):Prop:=
 ∃ (i:Nat) (s:Int),i<=6/\x=.int .i64 i/\y=.int .i64 s/\w1=wr/\Hid (SumOk p.l i s)
theorem z2ar (s:Pl)(w:World):
  Calls Tryz.prog 66 #[.agg s.vs] w fun e w'=>e=.returned (.bool (decide (shV s)))/\Below w.heap.size w w':=by
 have HW:=zh (z4af s)
 obtain ⟨res,hres⟩:∃ r,decide (shV s)=r:=⟨_,rfl⟩
 have HR:=zh hres;rw [hres];clear hres;obtain ⟨so,ch,ra,ba,ro,co⟩:=s;unfold Pl.vs at *
 go_enter Tryz.func66,Tryz.ntmps66
 go_wp2_with fail;refine (HW.out _).mono ?_
 rintro e w1 ⟨rfl,hb⟩;have H:=(((Ow.of (St.refl w)).arr #[.int .i64 so,.int .i64 ch,.int .i64 ra,.int .i64 ba,.int .i64 ro,.int .i64 co] 6 rfl (by omega) 33).go hb).arr #[.int .i64 so,.int .i64 ch,.int .i64 ra,.int .i64 ba,.int .i64 ro,.int .i64 co] 6 rfl (by omega) 103
 simp only [zqc,zqb] at H;obtain ⟨c0,c1,c2,c3,c4,c5⟩:=zc6 (H.row 1 rfl);have HB:=zh H.below;clear H hb HW;go_wp2_with fail;go_loopw [4,5] (fun y x wr=>z7by ⟨so,ch,ra,ba,ro,co⟩ (w1.alloc (.cells #[.int .i64 so,.int .i64 ch,.int .i64 ra,.int .i64 ba,.int .i64 ro,.int .i64 co] 103)) y x wr) (fun _ x _=>6 - (intOf x).toNat)
 case atStart=>exact ⟨0,0,by omega,rfl,rfl,rfl,rfl,fun x hx=>by cases hx⟩
 case round=>
  obtain ⟨i,s,hi,rfl,rfl,rfl,hI⟩:=hrel;have hI0:=hI.out;have hcase:i=0∨i=1∨i=2∨i=3∨i=4∨i=5∨i=6:=by omega
  clear hI hi;rcases hcase with rfl|rfl|rfl|rfl|rfl|rfl|rfl
  ·have HI:=zh hI0;have hs:0<=s/\s<=72:=hI0.range (by omega)
   clear hI0;rcases Int.lt_or_le so 0 with h|h
   ·have t1:decide (so<0)=true:=zt h
    have hf:res=false:=by rw [<- HR.out];exact z1l (i:=0) rfl (.inl h)
    have HF:=zh hf;clear h hf;go_wp2_with fail;go_ret;exact ⟨by rw [HF.out];rfl,HB.out⟩
   ·have t1:decide (so<0)=false:=zn (by omega)
    rcases Int.lt_or_le 12 so with h2|h2
    ·have t2:decide (12<so)=true:=zt h2
     have hf:res=false:=by rw [<- HR.out];exact z1l (i:=0) rfl (.inr h2)
     have HF:=zh hf;clear h h2 hf;go_wp2_with fail;go_ret;exact ⟨by rw [HF.out];rfl,HB.out⟩
    ·have t2:decide (12<so)=false:=zn (by omega)
     have HP:=zh (And.intro h h2)
     have tw:IntKind.i64.wrap (s+so)=s+so:=IntWalk.i64_in _ (by omega)
     clear h h2;go_wp2_with fail;go_roundw
     case rel=>exact ⟨1,s+so,by omega,rfl,rfl,rfl,HI.out.step rfl HP.out.1 HP.out.2⟩
     case measure=>simp [intOf]
  ·have HI:=zh hI0;have hs:0<=s/\s<=72:=hI0.range (by omega)
   clear hI0;rcases Int.lt_or_le ch 0 with h|h
   ·have t1:decide (ch<0)=true:=zt h
    have hf:res=false:=by rw [<- HR.out];exact z1l (i:=1) rfl (.inl h)
    have HF:=zh hf;clear h hf;go_wp2_with fail;go_ret;exact ⟨by rw [HF.out];rfl,HB.out⟩
   ·have t1:decide (ch<0)=false:=zn (by omega)
    rcases Int.lt_or_le 12 ch with h2|h2
    ·have t2:decide (12<ch)=true:=zt h2
     have hf:res=false:=by rw [<- HR.out];exact z1l (i:=1) rfl (.inr h2)
     have HF:=zh hf;clear h h2 hf;go_wp2_with fail;go_ret;exact ⟨by rw [HF.out];rfl,HB.out⟩
    ·have t2:decide (12<ch)=false:=zn (by omega)
     have HP:=zh (And.intro h h2)
     have tw:IntKind.i64.wrap (s+ch)=s+ch:=IntWalk.i64_in _ (by omega)
     clear h h2;go_wp2_with fail;go_roundw
     case rel=>exact ⟨2,s+ch,by omega,rfl,rfl,rfl,HI.out.step rfl HP.out.1 HP.out.2⟩
     case measure=>simp [intOf]
  ·have HI:=zh hI0;have hs:0<=s/\s<=72:=hI0.range (by omega)
   clear hI0;rcases Int.lt_or_le ra 0 with h|h
   ·have t1:decide (ra<0)=true:=zt h
    have hf:res=false:=by rw [<- HR.out];exact z1l (i:=2) rfl (.inl h)
    have HF:=zh hf;clear h hf;go_wp2_with fail;go_ret;exact ⟨by rw [HF.out];rfl,HB.out⟩
   ·have t1:decide (ra<0)=false:=zn (by omega)
    rcases Int.lt_or_le 12 ra with h2|h2
    ·have t2:decide (12<ra)=true:=zt h2
     have hf:res=false:=by rw [<- HR.out];exact z1l (i:=2) rfl (.inr h2)
     have HF:=zh hf;clear h h2 hf;go_wp2_with fail;go_ret;exact ⟨by rw [HF.out];rfl,HB.out⟩
    ·have t2:decide (12<ra)=false:=zn (by omega)
     have HP:=zh (And.intro h h2)
     have tw:IntKind.i64.wrap (s+ra)=s+ra:=IntWalk.i64_in _ (by omega)
     clear h h2;go_wp2_with fail;go_roundw
     case rel=>exact ⟨3,s+ra,by omega,rfl,rfl,rfl,HI.out.step rfl HP.out.1 HP.out.2⟩
     case measure=>simp [intOf]
  ·have HI:=zh hI0;have hs:0<=s/\s<=72:=hI0.range (by omega)
   clear hI0;rcases Int.lt_or_le ba 0 with h|h
   ·have t1:decide (ba<0)=true:=zt h
    have hf:res=false:=by rw [<- HR.out];exact z1l (i:=3) rfl (.inl h)
    have HF:=zh hf;clear h hf;go_wp2_with fail;go_ret;exact ⟨by rw [HF.out];rfl,HB.out⟩
   ·have t1:decide (ba<0)=false:=zn (by omega)
    rcases Int.lt_or_le 12 ba with h2|h2
    ·have t2:decide (12<ba)=true:=zt h2
     have hf:res=false:=by rw [<- HR.out];exact z1l (i:=3) rfl (.inr h2)
     have HF:=zh hf;clear h h2 hf;go_wp2_with fail;go_ret;exact ⟨by rw [HF.out];rfl,HB.out⟩
    ·have t2:decide (12<ba)=false:=zn (by omega)
     have HP:=zh (And.intro h h2)
     have tw:IntKind.i64.wrap (s+ba)=s+ba:=IntWalk.i64_in _ (by omega)
     clear h h2;go_wp2_with fail;go_roundw
     case rel=>exact ⟨4,s+ba,by omega,rfl,rfl,rfl,HI.out.step rfl HP.out.1 HP.out.2⟩
     case measure=>simp [intOf]
  ·have HI:=zh hI0;have hs:0<=s/\s<=72:=hI0.range (by omega)
   clear hI0;rcases Int.lt_or_le ro 0 with h|h
   ·have t1:decide (ro<0)=true:=zt h
    have hf:res=false:=by rw [<- HR.out];exact z1l (i:=4) rfl (.inl h)
    have HF:=zh hf;clear h hf;go_wp2_with fail;go_ret;exact ⟨by rw [HF.out];rfl,HB.out⟩
   ·have t1:decide (ro<0)=false:=zn (by omega)
    rcases Int.lt_or_le 12 ro with h2|h2
    ·have t2:decide (12<ro)=true:=zt h2
     have hf:res=false:=by rw [<- HR.out];exact z1l (i:=4) rfl (.inr h2)
     have HF:=zh hf;clear h h2 hf;go_wp2_with fail;go_ret;exact ⟨by rw [HF.out];rfl,HB.out⟩
    ·have t2:decide (12<ro)=false:=zn (by omega)
     have HP:=zh (And.intro h h2)
     have tw:IntKind.i64.wrap (s+ro)=s+ro:=IntWalk.i64_in _ (by omega)
     clear h h2;go_wp2_with fail;go_roundw
     case rel=>exact ⟨5,s+ro,by omega,rfl,rfl,rfl,HI.out.step rfl HP.out.1 HP.out.2⟩
     case measure=>simp [intOf]
  ·have HI:=zh hI0;have hs:0<=s/\s<=72:=hI0.range (by omega)
   clear hI0;rcases Int.lt_or_le co 0 with h|h
   ·have t1:decide (co<0)=true:=zt h
    have hf:res=false:=by rw [<- HR.out];exact z1l (i:=5) rfl (.inl h)
    have HF:=zh hf;clear h hf;go_wp2_with fail;go_ret;exact ⟨by rw [HF.out];rfl,HB.out⟩
   ·have t1:decide (co<0)=false:=zn (by omega)
    rcases Int.lt_or_le 12 co with h2|h2
    ·have t2:decide (12<co)=true:=zt h2
     have hf:res=false:=by rw [<- HR.out];exact z1l (i:=5) rfl (.inr h2)
     have HF:=zh hf;clear h h2 hf;go_wp2_with fail;go_ret;exact ⟨by rw [HF.out];rfl,HB.out⟩
    ·have t2:decide (12<co)=false:=zn (by omega)
     have HP:=zh (And.intro h h2)
     have tw:IntKind.i64.wrap (s+co)=s+co:=IntWalk.i64_in _ (by omega)
     clear h h2;go_wp2_with fail;go_roundw
     case rel=>exact ⟨6,s+co,by omega,rfl,rfl,rfl,HI.out.step rfl HP.out.1 HP.out.2⟩
     case measure=>simp [intOf]
  ·have HI:=zh hI0;have he:res=decide (s<=12):=by rw [<- HR.out];exact z6ao hI0
   have HF:=zh he;clear hI0 he;go_wp2_with fail;go_ret;exact ⟨by rw [HF.out];rfl,HB.out⟩
theorem z2w {b:Nat}(h:b<=12):wrap64 (2 ^ b)=(2:Int) ^ b:=by
 have:b=0∨b=1∨b=2∨b=3∨b=4∨b=5∨b=6∨b=7∨b=8∨b=9∨b=10∨b=11∨b=12:=by omega
 rcases this with rfl|rfl|rfl|rfl|rfl|rfl|rfl|rfl|rfl|rfl|rfl|rfl|rfl <;> decide +kernel
namespace Cl
set_option maxHeartbeats 8000000
def bt (k:Int)(s:Pl):Int:=if k=1 then s.ra+s.ba+s.ro+s.co else if k=2 then s.ra+s.ba+s.ro else if k=3 then s.ra+s.ba+s.co else if k=4 then s.ra+s.ba else if k=5 then s.ra else 0
def prt (k:Int)(s:Pl):Int:=if kd k then 2 ^ (bt k s).toNat else 0
theorem z5b {k:Int}{s:Pl}{b:Nat}(hk:kd k)(h:bt k s=(b:Int)):prt k s=2 ^ b:=by
 unfold prt;rw [if_pos hk,h];rfl
end Cl
theorem z2r {so ch ra ba ro co:Nat}(h:so+ch+ra+ba+ro+co<=12):shV ⟨(so:Int),ch,ra,ba,ro,co⟩:=
 ⟨⟨Int.natCast_nonneg so,by show (so:Int)<=12;omega⟩,⟨Int.natCast_nonneg ch,by show (ch:Int)<=12;omega⟩,⟨Int.natCast_nonneg ra,by show (ra:Int)<=12;omega⟩,⟨Int.natCast_nonneg ba,by show (ba:Int)<=12;omega⟩,⟨Int.natCast_nonneg ro,by show (ro:Int)<=12;omega⟩,⟨Int.natCast_nonneg co,by show (co:Int)<=12;omega⟩,by show (so:Int)+ch+ra+ba+ro+co<=12;omega⟩
theorem z9z {s:Pl}(h:shV s):∃ so ch ra ba ro co:Nat,s=⟨(so:Int),ch,ra,ba,ro,co⟩/\so+ch+ra+ba+ro+co<=12:=by
 obtain ⟨so,ch,ra,ba,ro,co⟩:=s;obtain ⟨⟨a1,_⟩,⟨b1,_⟩,⟨c1,_⟩,⟨d1,_⟩,⟨e1,_⟩,⟨f1,_⟩,hs⟩:=h
 simp only at a1 b1 c1 d1 e1 f1 hs
 obtain ⟨a,rfl⟩:=Int.eq_ofNat_of_zero_le a1
 obtain ⟨b,rfl⟩:=Int.eq_ofNat_of_zero_le b1
 obtain ⟨c,rfl⟩:=Int.eq_ofNat_of_zero_le c1
 obtain ⟨d,rfl⟩:=Int.eq_ofNat_of_zero_le d1
 obtain ⟨e,rfl⟩:=Int.eq_ofNat_of_zero_le e1
 obtain ⟨f,rfl⟩:=Int.eq_ofNat_of_zero_le f1
 exact ⟨a,b,c,d,e,f,rfl,by omega⟩
theorem z6bn (so ch ra ba ro co:Nat)(hs:so+ch+ra+ba+ro+co<=12)(b:Nat)(hb:ra+ba+ro+co=b)(w:World):
  Calls Tryz.prog 18 #[.agg #[.int .i64 so,.int .i64 ch,.int .i64 ra,.int .i64 ba,.int .i64 ro,.int .i64 co],.int .i64 1] w fun e w'=>e=.returned (.int .i64 (2 ^ b))/\Below w.heap.size w w':=by
 have hb12:b<=12:=by omega
 have HW2:=zh (z2w hb12)
 have t2:IntKind.i64.wrap ((ra:Int)+(ba:Int))=(ra:Int)+(ba:Int):=IntWalk.i64_in _ (by omega)
 have t3:IntKind.i64.wrap ((ra:Int)+(ba:Int)+(ro:Int))=(ra:Int)+(ba:Int)+(ro:Int):=IntWalk.i64_in _ (by omega)
 have t4:IntKind.i64.wrap ((ra:Int)+(ba:Int)+(ro:Int)+(co:Int))=(b:Int):=by rw [IntWalk.i64_in _ (by omega)];omega
 have t9:IntKind.u64.wrap (b:Int)=(b:Int):=IntWalk.u64_in _ (by omega)
 have H:=(Ow.of (St.refl w)).arr #[.int .i64 so,.int .i64 ch,.int .i64 ra,.int .i64 ba,.int .i64 ro,.int .i64 co] 6 rfl (by omega) 33
 simp only [zqc] at H;have HV:=zh (fun W=>z5a ⟨(so:Int),ch,ra,ba,ro,co⟩ W)
 rw [zt (z2r hs)] at HV
 unfold Pl.vs at HV;obtain ⟨a0,a1,a2,a3,a4,a5⟩:=zc6 (H.row 0 rfl);clear hb hs;go_enter Tryz.func18,Tryz.ntmps18
 go_wp2_with fail;refine (HV.out _).mono ?_
 rintro e w1 ⟨rfl,hb⟩;clear a0 a1 a2 a3 a4 a5;have H1:=H.go hb
 obtain ⟨a0,a1,a2,a3,a4,a5⟩:=zc6 (H1.row 0 rfl);go_wp2_with fail;go_ret;exact ⟨congrArg (fun z=>Ending.returned (.int .i64 z)) HW2.out,H1.below⟩
theorem z6bm (so ch ra ba ro co:Nat)(hs:so+ch+ra+ba+ro+co<=12)(b:Nat)(hb:ra+ba+ro=b)(w:World):
  Calls Tryz.prog 18 #[.agg #[.int .i64 so,.int .i64 ch,.int .i64 ra,.int .i64 ba,.int .i64 ro,.int .i64 co],.int .i64 2] w fun e w'=>e=.returned (.int .i64 (2 ^ b))/\Below w.heap.size w w':=by
 have hb12:b<=12:=by omega
 have HW2:=zh (z2w hb12)
 have t2:IntKind.i64.wrap ((ra:Int)+(ba:Int))=(ra:Int)+(ba:Int):=IntWalk.i64_in _ (by omega)
 have t3:IntKind.i64.wrap ((ra:Int)+(ba:Int)+(ro:Int))=(b:Int):=by rw [IntWalk.i64_in _ (by omega)];omega
 have t9:IntKind.u64.wrap (b:Int)=(b:Int):=IntWalk.u64_in _ (by omega)
 have H:=(Ow.of (St.refl w)).arr #[.int .i64 so,.int .i64 ch,.int .i64 ra,.int .i64 ba,.int .i64 ro,.int .i64 co] 6 rfl (by omega) 33
 simp only [zqc] at H;have HV:=zh (fun W=>z5a ⟨(so:Int),ch,ra,ba,ro,co⟩ W)
 rw [zt (z2r hs)] at HV
 unfold Pl.vs at HV;obtain ⟨a0,a1,a2,a3,a4,a5⟩:=zc6 (H.row 0 rfl);clear hb hs;go_enter Tryz.func18,Tryz.ntmps18
 go_wp2_with fail;refine (HV.out _).mono ?_
 rintro e w1 ⟨rfl,hb⟩;clear a0 a1 a2 a3 a4 a5;have H1:=H.go hb
 obtain ⟨a0,a1,a2,a3,a4,a5⟩:=zc6 (H1.row 0 rfl);go_wp2_with fail;go_ret;exact ⟨congrArg (fun z=>Ending.returned (.int .i64 z)) HW2.out,H1.below⟩
theorem z6bl (so ch ra ba ro co:Nat)(hs:so+ch+ra+ba+ro+co<=12)(b:Nat)(hb:ra+ba+co=b)(w:World):
  Calls Tryz.prog 18 #[.agg #[.int .i64 so,.int .i64 ch,.int .i64 ra,.int .i64 ba,.int .i64 ro,.int .i64 co],.int .i64 3] w fun e w'=>e=.returned (.int .i64 (2 ^ b))/\Below w.heap.size w w':=by
 have hb12:b<=12:=by omega
 have HW2:=zh (z2w hb12)
 have t2:IntKind.i64.wrap ((ra:Int)+(ba:Int))=(ra:Int)+(ba:Int):=IntWalk.i64_in _ (by omega)
 have t3:IntKind.i64.wrap ((ra:Int)+(ba:Int)+(co:Int))=(b:Int):=by rw [IntWalk.i64_in _ (by omega)];omega
 have t9:IntKind.u64.wrap (b:Int)=(b:Int):=IntWalk.u64_in _ (by omega)
 have H:=(Ow.of (St.refl w)).arr #[.int .i64 so,.int .i64 ch,.int .i64 ra,.int .i64 ba,.int .i64 ro,.int .i64 co] 6 rfl (by omega) 33
 simp only [zqc] at H;have HV:=zh (fun W=>z5a ⟨(so:Int),ch,ra,ba,ro,co⟩ W)
 rw [zt (z2r hs)] at HV
 unfold Pl.vs at HV;obtain ⟨a0,a1,a2,a3,a4,a5⟩:=zc6 (H.row 0 rfl);clear hb hs;go_enter Tryz.func18,Tryz.ntmps18
 go_wp2_with fail;refine (HV.out _).mono ?_
 rintro e w1 ⟨rfl,hb⟩;clear a0 a1 a2 a3 a4 a5;have H1:=H.go hb
 obtain ⟨a0,a1,a2,a3,a4,a5⟩:=zc6 (H1.row 0 rfl);go_wp2_with fail;go_ret;exact ⟨congrArg (fun z=>Ending.returned (.int .i64 z)) HW2.out,H1.below⟩
theorem z6bk (so ch ra ba ro co:Nat)(hs:so+ch+ra+ba+ro+co<=12)(b:Nat)(hb:ra+ba=b)(w:World):
  Calls Tryz.prog 18 #[.agg #[.int .i64 so,.int .i64 ch,.int .i64 ra,.int .i64 ba,.int .i64 ro,.int .i64 co],.int .i64 4] w fun e w'=>e=.returned (.int .i64 (2 ^ b))/\Below w.heap.size w w':=by
 have hb12:b<=12:=by omega
 have HW2:=zh (z2w hb12)
 have t2:IntKind.i64.wrap ((ra:Int)+(ba:Int))=(b:Int):=by rw [IntWalk.i64_in _ (by omega)];omega
 have t9:IntKind.u64.wrap (b:Int)=(b:Int):=IntWalk.u64_in _ (by omega)
 have H:=(Ow.of (St.refl w)).arr #[.int .i64 so,.int .i64 ch,.int .i64 ra,.int .i64 ba,.int .i64 ro,.int .i64 co] 6 rfl (by omega) 33
 simp only [zqc] at H;have HV:=zh (fun W=>z5a ⟨(so:Int),ch,ra,ba,ro,co⟩ W)
 rw [zt (z2r hs)] at HV
 unfold Pl.vs at HV;obtain ⟨a0,a1,a2,a3,a4,a5⟩:=zc6 (H.row 0 rfl);clear hb hs;go_enter Tryz.func18,Tryz.ntmps18
 go_wp2_with fail;refine (HV.out _).mono ?_
 rintro e w1 ⟨rfl,hb⟩;clear a0 a1 a2 a3 a4 a5;have H1:=H.go hb
 obtain ⟨a0,a1,a2,a3,a4,a5⟩:=zc6 (H1.row 0 rfl);go_wp2_with fail;go_ret;exact ⟨congrArg (fun z=>Ending.returned (.int .i64 z)) HW2.out,H1.below⟩
theorem z6bj (so ch ra ba ro co:Nat)(hs:so+ch+ra+ba+ro+co<=12)(b:Nat)(hb:ra=b)(w:World):
  Calls Tryz.prog 18 #[.agg #[.int .i64 so,.int .i64 ch,.int .i64 ra,.int .i64 ba,.int .i64 ro,.int .i64 co],.int .i64 5] w fun e w'=>e=.returned (.int .i64 (2 ^ b))/\Below w.heap.size w w':=by
 have hb12:b<=12:=by omega
 have HW2:=zh (z2w hb12)
 have t9:IntKind.u64.wrap (b:Int)=(b:Int):=IntWalk.u64_in _ (by omega)
 subst hb
 have H:=(Ow.of (St.refl w)).arr #[.int .i64 so,.int .i64 ch,.int .i64 ra,.int .i64 ba,.int .i64 ro,.int .i64 co] 6 rfl (by omega) 33
 simp only [zqc] at H;have HV:=zh (fun W=>z5a ⟨(so:Int),ch,ra,ba,ro,co⟩ W)
 rw [zt (z2r hs)] at HV
 unfold Pl.vs at HV;obtain ⟨a0,a1,a2,a3,a4,a5⟩:=zc6 (H.row 0 rfl);clear hs;go_enter Tryz.func18,Tryz.ntmps18
 go_wp2_with fail;refine (HV.out _).mono ?_
 rintro e w1 ⟨rfl,hb⟩;clear a0 a1 a2 a3 a4 a5;have H1:=H.go hb
 obtain ⟨a0,a1,a2,a3,a4,a5⟩:=zc6 (H1.row 0 rfl);go_wp2_with fail;go_ret;exact ⟨congrArg (fun z=>Ending.returned (.int .i64 z)) HW2.out,H1.below⟩
theorem z6bi (so ch ra ba ro co:Nat)(hs:so+ch+ra+ba+ro+co<=12)(w:World):
  Calls Tryz.prog 18 #[.agg #[.int .i64 so,.int .i64 ch,.int .i64 ra,.int .i64 ba,.int .i64 ro,.int .i64 co],.int .i64 6] w fun e w'=>e=.returned (.int .i64 (1))/\Below w.heap.size w w':=by
 have H:=(Ow.of (St.refl w)).arr #[.int .i64 so,.int .i64 ch,.int .i64 ra,.int .i64 ba,.int .i64 ro,.int .i64 co] 6 rfl (by omega) 33
 simp only [zqc] at H;have HV:=zh (fun W=>z5a ⟨(so:Int),ch,ra,ba,ro,co⟩ W)
 rw [zt (z2r hs)] at HV
 unfold Pl.vs at HV;obtain ⟨a0,a1,a2,a3,a4,a5⟩:=zc6 (H.row 0 rfl);clear hs;go_enter Tryz.func18,Tryz.ntmps18
 go_wp2_with fail;refine (HV.out _).mono ?_
 rintro e w1 ⟨rfl,hb⟩;clear a0 a1 a2 a3 a4 a5;have H1:=H.go hb
 obtain ⟨a0,a1,a2,a3,a4,a5⟩:=zc6 (H1.row 0 rfl);go_wp2_with fail;go_ret;exact ⟨rfl,H1.below⟩
theorem z6bh (so ch ra ba ro co:Nat)(hs:so+ch+ra+ba+ro+co<=12)(k:Int)(hk:¬ kd k)(w:World):
  Calls Tryz.prog 18 #[.agg #[.int .i64 so,.int .i64 ch,.int .i64 ra,.int .i64 ba,.int .i64 ro,.int .i64 co],.int .i64 k] w fun e w'=>e=.returned (.int .i64 (0))/\Below w.heap.size w w':=by
 unfold kd at hk;have b1:(k == 1)=false:=z1n (by omega)
 have b2:(k == 2)=false:=z1n (by omega)
 have b3:(k == 3)=false:=z1n (by omega)
 have b4:(k == 4)=false:=z1n (by omega)
 have b5:(k == 5)=false:=z1n (by omega)
 have b6:(k == 6)=false:=z1n (by omega)
 clear hk;have H:=(Ow.of (St.refl w)).arr #[.int .i64 so,.int .i64 ch,.int .i64 ra,.int .i64 ba,.int .i64 ro,.int .i64 co] 6 rfl (by omega) 33
 simp only [zqc] at H;have HV:=zh (fun W=>z5a ⟨(so:Int),ch,ra,ba,ro,co⟩ W)
 rw [zt (z2r hs)] at HV
 unfold Pl.vs at HV;obtain ⟨a0,a1,a2,a3,a4,a5⟩:=zc6 (H.row 0 rfl);clear hs;go_enter Tryz.func18,Tryz.ntmps18
 go_wp2_with fail;refine (HV.out _).mono ?_
 rintro e w1 ⟨rfl,hb⟩;clear a0 a1 a2 a3 a4 a5;have H1:=H.go hb
 obtain ⟨a0,a1,a2,a3,a4,a5⟩:=zc6 (H1.row 0 rfl);go_wp2_with fail;go_ret;exact ⟨rfl,H1.below⟩
theorem z8f (k:Int)(s:Pl)(hs:shV s)(w:World):
  Calls Tryz.prog 18 #[.agg s.vs,.int .i64 k] w fun e w'=>e=.returned (.int .i64 (prt k s))/\Below w.heap.size w w':=by
 obtain ⟨so,ch,ra,ba,ro,co,rfl,h12⟩:=z9z hs
 by_cases hk:kd k
 ·rcases z6t hk with rfl|rfl|rfl|rfl|rfl|rfl
  ·rw [z5b (b:=ra+ba+ro+co) hk (by show (ra:Int)+(ba:Int)+(ro:Int)+(co:Int)=_;omega)];exact z6bn so ch ra ba ro co h12 _ rfl w
  ·rw [z5b (b:=ra+ba+ro) hk (by show (ra:Int)+(ba:Int)+(ro:Int)=_;omega)];exact z6bm so ch ra ba ro co h12 _ rfl w
  ·rw [z5b (b:=ra+ba+co) hk (by show (ra:Int)+(ba:Int)+(co:Int)=_;omega)];exact z6bl so ch ra ba ro co h12 _ rfl w
  ·rw [z5b (b:=ra+ba) hk (by show (ra:Int)+(ba:Int)=_;omega)];exact z6bk so ch ra ba ro co h12 _ rfl w
  ·rw [z5b (b:=ra) hk (by show (ra:Int)=_;omega)];exact z6bj so ch ra ba ro co h12 _ rfl w
  ·exact z6bi so ch ra ba ro co h12 w
 ·rw [show prt k ⟨(so:Int),ch,ra,ba,ro,co⟩=0 from if_neg hk]
  exact z6bh so ch ra ba ro co h12 k hk w
theorem z5bq (so ch ra ba ro co:Nat)(hs:so+ch+ra+ba+ro+co<=12)(b:Nat)(hb:ra+ba+ro+co=b)(w:World):
  Calls Tryz.prog 19 #[.agg #[.int .i64 so,.int .i64 ch,.int .i64 ra,.int .i64 ba,.int .i64 ro,.int .i64 co],.int .i64 1] w fun e w'=>e=.returned (.int .i64 (2 ^ b))/\Below w.heap.size w w':=by
 have hb12:b<=12:=by omega
 have HW2:=zh (z2w hb12)
 have t2:IntKind.i64.wrap ((ra:Int)+(ba:Int))=(ra:Int)+(ba:Int):=IntWalk.i64_in _ (by omega)
 have t3:IntKind.i64.wrap ((ra:Int)+(ba:Int)+(ro:Int))=(ra:Int)+(ba:Int)+(ro:Int):=IntWalk.i64_in _ (by omega)
 have t4:IntKind.i64.wrap ((ra:Int)+(ba:Int)+(ro:Int)+(co:Int))=(b:Int):=by rw [IntWalk.i64_in _ (by omega)];omega
 have t9:IntKind.u64.wrap (b:Int)=(b:Int):=IntWalk.u64_in _ (by omega)
 have H:=(Ow.of (St.refl w)).arr #[.int .i64 so,.int .i64 ch,.int .i64 ra,.int .i64 ba,.int .i64 ro,.int .i64 co] 6 rfl (by omega) 33
 simp only [zqc] at H;clear hb hs;go_enter Tryz.func19,Tryz.ntmps19
 go_wp2_with fail;go_ret;exact ⟨congrArg (fun z=>Ending.returned (.int .i64 z)) HW2.out,H.below⟩
theorem z5bp (so ch ra ba ro co:Nat)(hs:so+ch+ra+ba+ro+co<=12)(b:Nat)(hb:ra+ba+ro=b)(w:World):
  Calls Tryz.prog 19 #[.agg #[.int .i64 so,.int .i64 ch,.int .i64 ra,.int .i64 ba,.int .i64 ro,.int .i64 co],.int .i64 2] w fun e w'=>e=.returned (.int .i64 (2 ^ b))/\Below w.heap.size w w':=by
 have hb12:b<=12:=by omega
 have HW2:=zh (z2w hb12)
 have t2:IntKind.i64.wrap ((ra:Int)+(ba:Int))=(ra:Int)+(ba:Int):=IntWalk.i64_in _ (by omega)
 have t3:IntKind.i64.wrap ((ra:Int)+(ba:Int)+(ro:Int))=(b:Int):=by rw [IntWalk.i64_in _ (by omega)];omega
 have t9:IntKind.u64.wrap (b:Int)=(b:Int):=IntWalk.u64_in _ (by omega)
 have H:=(Ow.of (St.refl w)).arr #[.int .i64 so,.int .i64 ch,.int .i64 ra,.int .i64 ba,.int .i64 ro,.int .i64 co] 6 rfl (by omega) 33
 simp only [zqc] at H;clear hb hs;go_enter Tryz.func19,Tryz.ntmps19
 go_wp2_with fail;go_ret;exact ⟨congrArg (fun z=>Ending.returned (.int .i64 z)) HW2.out,H.below⟩
theorem z5bo (so ch ra ba ro co:Nat)(hs:so+ch+ra+ba+ro+co<=12)(b:Nat)(hb:ra+ba+co=b)(w:World):
  Calls Tryz.prog 19 #[.agg #[.int .i64 so,.int .i64 ch,.int .i64 ra,.int .i64 ba,.int .i64 ro,.int .i64 co],.int .i64 3] w fun e w'=>e=.returned (.int .i64 (2 ^ b))/\Below w.heap.size w w':=by
 have hb12:b<=12:=by omega
 have HW2:=zh (z2w hb12)
 have t2:IntKind.i64.wrap ((ra:Int)+(ba:Int))=(ra:Int)+(ba:Int):=IntWalk.i64_in _ (by omega)
 have t3:IntKind.i64.wrap ((ra:Int)+(ba:Int)+(co:Int))=(b:Int):=by rw [IntWalk.i64_in _ (by omega)];omega
 have t9:IntKind.u64.wrap (b:Int)=(b:Int):=IntWalk.u64_in _ (by omega)
 have H:=(Ow.of (St.refl w)).arr #[.int .i64 so,.int .i64 ch,.int .i64 ra,.int .i64 ba,.int .i64 ro,.int .i64 co] 6 rfl (by omega) 33
 simp only [zqc] at H;clear hb hs;go_enter Tryz.func19,Tryz.ntmps19
 go_wp2_with fail;go_ret;exact ⟨congrArg (fun z=>Ending.returned (.int .i64 z)) HW2.out,H.below⟩
theorem z5bn (so ch ra ba ro co:Nat)(hs:so+ch+ra+ba+ro+co<=12)(b:Nat)(hb:ra+ba=b)(w:World):
  Calls Tryz.prog 19 #[.agg #[.int .i64 so,.int .i64 ch,.int .i64 ra,.int .i64 ba,.int .i64 ro,.int .i64 co],.int .i64 4] w fun e w'=>e=.returned (.int .i64 (2 ^ b))/\Below w.heap.size w w':=by
 have hb12:b<=12:=by omega
 have HW2:=zh (z2w hb12)
 have t2:IntKind.i64.wrap ((ra:Int)+(ba:Int))=(b:Int):=by rw [IntWalk.i64_in _ (by omega)];omega
 have t9:IntKind.u64.wrap (b:Int)=(b:Int):=IntWalk.u64_in _ (by omega)
 have H:=(Ow.of (St.refl w)).arr #[.int .i64 so,.int .i64 ch,.int .i64 ra,.int .i64 ba,.int .i64 ro,.int .i64 co] 6 rfl (by omega) 33
 simp only [zqc] at H;clear hb hs;go_enter Tryz.func19,Tryz.ntmps19
 go_wp2_with fail;go_ret;exact ⟨congrArg (fun z=>Ending.returned (.int .i64 z)) HW2.out,H.below⟩
theorem z5bm (so ch ra ba ro co:Nat)(hs:so+ch+ra+ba+ro+co<=12)(b:Nat)(hb:ra=b)(w:World):
  Calls Tryz.prog 19 #[.agg #[.int .i64 so,.int .i64 ch,.int .i64 ra,.int .i64 ba,.int .i64 ro,.int .i64 co],.int .i64 5] w fun e w'=>e=.returned (.int .i64 (2 ^ b))/\Below w.heap.size w w':=by
 have hb12:b<=12:=by omega
 have HW2:=zh (z2w hb12)
 have t9:IntKind.u64.wrap (b:Int)=(b:Int):=IntWalk.u64_in _ (by omega)
 subst hb
 have H:=(Ow.of (St.refl w)).arr #[.int .i64 so,.int .i64 ch,.int .i64 ra,.int .i64 ba,.int .i64 ro,.int .i64 co] 6 rfl (by omega) 33
 simp only [zqc] at H;clear hs;go_enter Tryz.func19,Tryz.ntmps19
 go_wp2_with fail;go_ret;exact ⟨congrArg (fun z=>Ending.returned (.int .i64 z)) HW2.out,H.below⟩
theorem z5bl (so ch ra ba ro co:Nat)(hs:so+ch+ra+ba+ro+co<=12)(w:World):
  Calls Tryz.prog 19 #[.agg #[.int .i64 so,.int .i64 ch,.int .i64 ra,.int .i64 ba,.int .i64 ro,.int .i64 co],.int .i64 6] w fun e w'=>e=.returned (.int .i64 (1))/\Below w.heap.size w w':=by
 have H:=(Ow.of (St.refl w)).arr #[.int .i64 so,.int .i64 ch,.int .i64 ra,.int .i64 ba,.int .i64 ro,.int .i64 co] 6 rfl (by omega) 33
 simp only [zqc] at H;clear hs;go_enter Tryz.func19,Tryz.ntmps19
 go_wp2_with fail;go_ret;exact ⟨rfl,H.below⟩
theorem z5bk (so ch ra ba ro co:Nat)(hs:so+ch+ra+ba+ro+co<=12)(k:Int)(hk:¬ kd k)(w:World):
  Calls Tryz.prog 19 #[.agg #[.int .i64 so,.int .i64 ch,.int .i64 ra,.int .i64 ba,.int .i64 ro,.int .i64 co],.int .i64 k] w fun e w'=>e=.returned (.int .i64 (0))/\Below w.heap.size w w':=by
 unfold kd at hk;have b1:(k == 1)=false:=z1n (by omega)
 have b2:(k == 2)=false:=z1n (by omega)
 have b3:(k == 3)=false:=z1n (by omega)
 have b4:(k == 4)=false:=z1n (by omega)
 have b5:(k == 5)=false:=z1n (by omega)
 have b6:(k == 6)=false:=z1n (by omega)
 clear hk;have H:=(Ow.of (St.refl w)).arr #[.int .i64 so,.int .i64 ch,.int .i64 ra,.int .i64 ba,.int .i64 ro,.int .i64 co] 6 rfl (by omega) 33
 simp only [zqc] at H;clear hs;go_enter Tryz.func19,Tryz.ntmps19
 go_wp2_with fail;go_ret;exact ⟨rfl,H.below⟩
theorem z4as (k:Int)(s:Pl)(hs:shV s)(w:World):
  Calls Tryz.prog 19 #[.agg s.vs,.int .i64 k] w fun e w'=>e=.returned (.int .i64 (prt k s))/\Below w.heap.size w w':=by
 obtain ⟨so,ch,ra,ba,ro,co,rfl,h12⟩:=z9z hs
 by_cases hk:kd k
 ·rcases z6t hk with rfl|rfl|rfl|rfl|rfl|rfl
  ·rw [z5b (b:=ra+ba+ro+co) hk (by show (ra:Int)+(ba:Int)+(ro:Int)+(co:Int)=_;omega)];exact z5bq so ch ra ba ro co h12 _ rfl w
  ·rw [z5b (b:=ra+ba+ro) hk (by show (ra:Int)+(ba:Int)+(ro:Int)=_;omega)];exact z5bp so ch ra ba ro co h12 _ rfl w
  ·rw [z5b (b:=ra+ba+co) hk (by show (ra:Int)+(ba:Int)+(co:Int)=_;omega)];exact z5bo so ch ra ba ro co h12 _ rfl w
  ·rw [z5b (b:=ra+ba) hk (by show (ra:Int)+(ba:Int)=_;omega)];exact z5bn so ch ra ba ro co h12 _ rfl w
  ·rw [z5b (b:=ra) hk (by show (ra:Int)=_;omega)];exact z5bm so ch ra ba ro co h12 _ rfl w
  ·exact z5bl so ch ra ba ro co h12 w
 ·rw [show prt k ⟨(so:Int),ch,ra,ba,ro,co⟩=0 from if_neg hk]
  exact z5bk so ch ra ba ro co h12 k hk w
namespace Cl
set_option maxHeartbeats 8000000
def plT (s p:Pl)(j:Nat):Bool:=match s.l[j]?,p.l[j]? with
 | some b,some n=>decide (0<=n) && decide (n<2 ^ b.toNat)
 | _,_=>true
def plV (s p:Pl):Bool:=decide (shV s) && (List.range 6).all (plT s p)
theorem z2n {s p:Pl}{j:Nat}(hj:j<6)(h:plT s p j=false):plV s p=false:=by
 unfold plV;rw [Bool.and_eq_false_iff];refine .inr ?_
 rw [Bool.eq_false_iff];intro e;have:=List.all_eq_true.1 e j (List.mem_range.2 hj)
 rw [h] at this;cases this
theorem z7d {s p:Pl}(hs:shV s)(h:∀ j,j<6->plT s p j=true):plV s p=true:=by
 unfold plV;rw [zt hs,Bool.true_and];exact List.all_eq_true.2 fun j hj=>h j (List.mem_range.1 hj)
theorem z7ar {s p:Pl}(hs:¬ shV s):plV s p=false:=by
 unfold plV;rw [zn hs,Bool.false_and]
theorem z2o {s p:Pl}{j:Nat}{b n:Int}(hb:s.l[j]?=some b)(hn:p.l[j]?=some n):plT s p j=(decide (0<=n) && decide (n<2 ^ b.toNat)):=by
 unfold plT;rw [hb,hn]
end Cl
theorem z3g (b:Nat):(0:Int)<2 ^ b:=Int.pow_pos (by omega)
def RVp (s p:Pl)(w1:World)(x:Value)(wr:World):Prop:=
 ∃ i:Nat,i<=6/\x=.int .i64 i/\w1=wr/\Hid (∀ j,j<i->plT s p j=true)
theorem z7al (so ch ra ba ro co:Nat)(hs:so+ch+ra+ba+ro+co<=12)(n0 n1 n2 n3 n4 n5:Int)(w:World):
  Calls Tryz.prog 83 #[.agg #[.int .i64 so,.int .i64 ch,.int .i64 ra,.int .i64 ba,.int .i64 ro,.int .i64 co],.agg #[.int .i64 n0,.int .i64 n1,.int .i64 n2,.int .i64 n3,.int .i64 n4,.int .i64 n5]] w fun e w'=>e=.returned (.bool (plV ⟨(so:Int),ch,ra,ba,ro,co⟩ ⟨n0,n1,n2,n3,n4,n5⟩))/\Below w.heap.size w w':=by
 have HV:=zh (fun W=>z5a ⟨(so:Int),ch,ra,ba,ro,co⟩ W)
 rw [zt (z2r hs)] at HV
 have HSv:=zh (z2r hs)
 have HW:=zh (fun W=>z7z ⟨(so:Int),ch,ra,ba,ro,co⟩ W)
 have HNu:=zh (fun W=>z1ar ⟨n0,n1,n2,n3,n4,n5⟩ W)
 obtain ⟨res,hres⟩:∃ r,plV ⟨(so:Int),ch,ra,ba,ro,co⟩ ⟨n0,n1,n2,n3,n4,n5⟩=r:=⟨_,rfl⟩
 have HR:=zh hres;rw [hres];unfold Pl.vs at HV HW HNu;have H0:=((Ow.of (St.refl w)).arr #[.int .i64 so,.int .i64 ch,.int .i64 ra,.int .i64 ba,.int .i64 ro,.int .i64 co] 6 rfl (by omega) 33).arr #[.int .i64 n0,.int .i64 n1,.int .i64 n2,.int .i64 n3,.int .i64 n4,.int .i64 n5] 6 rfl (by omega) 38
 simp only [zqc,zqb,World.size_alloc] at H0;obtain ⟨a0,a1,a2,a3,a4,a5⟩:=zc6 (H0.row 0 rfl);have hso:so<=12:=by omega
 have hch:ch<=12:=by omega
 have hra:ra<=12:=by omega
 have hba:ba<=12:=by omega
 have hro:ro<=12:=by omega
 have hco:co<=12:=by omega
 clear hs hres;go_enter Tryz.func83,Tryz.ntmps83
 go_wp2_with fail;refine (HV.out _).mono ?_
 rintro e w1 ⟨rfl,hb⟩;clear a0 a1 a2 a3 a4 a5;have H1:=H0.go hb
 obtain ⟨a0,a1,a2,a3,a4,a5⟩:=zc6 (H1.row 0 rfl);clear H0 hb HV;go_wp2_with fail;refine (HW.out _).mono ?_
 rintro e w2 ⟨rfl,hb⟩;clear a0 a1 a2 a3 a4 a5;have H2:=(H1.go hb).arr #[.int .i64 so,.int .i64 ch,.int .i64 ra,.int .i64 ba,.int .i64 ro,.int .i64 co] 6 rfl (by omega) 103
 simp only [zqc,zqb] at H2;obtain ⟨p0,p1,p2,p3,p4,p5⟩:=zc6 (H2.row 1 rfl);clear H1 hb HW;go_wp2_with fail;refine (HNu.out _).mono ?_
 rintro e w3 ⟨rfl,hb⟩;clear p0 p1 p2 p3 p4 p5;have H3:=H2.go hb
 obtain ⟨c0,c1,c2,c3,c4,c5⟩:=zc6 (H3.row 2 rfl);have HB:=zh H3.below;clear H2 hb HNu H3;go_wp2_with fail;go_loopw [15] (fun x wr=>RVp ⟨(so:Int),ch,ra,ba,ro,co⟩ ⟨n0,n1,n2,n3,n4,n5⟩ w3 x wr) (fun x _=>6 - (intOf x).toNat)
 case atStart=>exact ⟨0,by omega,rfl,rfl,fun j hj=>absurd hj (Nat.not_lt_zero _)⟩
 case round=>
  obtain ⟨i,hi,rfl,rfl,hI⟩:=hrel;have hcase:i=0∨i=1∨i=2∨i=3∨i=4∨i=5∨i=6:=by omega
  clear hi;rcases hcase with rfl|rfl|rfl|rfl|rfl|rfl|rfl
  ·have hidx:∀ W:World,(Instr.index 103 (.agg #[.int .i64 n0,.int .i64 n1,.int .i64 n2,.int .i64 n3,.int .i64 n4,.int .i64 n5]) (.int .i64 0)).run Tryz.prog W=.ok (.int .i64 n0) W:=fun W=>z4i [.int .i64 n0,.int .i64 n1,.int .i64 n2,.int .i64 n3,.int .i64 n4,.int .i64 n5] 0 _ (by omega) rfl W
   have HT:=zh (z2o (s:=⟨(so:Int),ch,ra,ba,ro,co⟩) (p:=⟨n0,n1,n2,n3,n4,n5⟩) (j:=0) rfl rfl)
   rcases Int.lt_or_le n0 0 with h|h
   ·have t1:decide (n0<0)=true:=zt h
    have HF:Hid (res=false):=by unfold Hid;rw [<- HR.out];exact z2n (j:=0) (by omega) (by rw [HT.out,zn (show ¬ 0<=n0 by omega)];rfl)
    clear h;go_wp2_with fail;go_ret;exact ⟨by rw [HF.out];rfl,HB.out⟩
   ·have t1:decide (n0<0)=false:=zn (by omega)
    rcases Int.lt_or_le n0 (2 ^ so) with h2|h2
    ·have HP:Hid (plT ⟨(so:Int),ch,ra,ba,ro,co⟩ ⟨n0,n1,n2,n3,n4,n5⟩ 0=true):=by unfold Hid;rw [HT.out,zt h,zt (show n0<2 ^ (so:Int).toNat from h2)];rfl
     have t2:(n0 / 2 ^ so == 0)=true:=by rw [beq_iff_eq];exact Int.ediv_eq_zero_of_lt h h2
     have t3:(n0 / 2 ^ so != 0)=false:=by rw [bne,t2];rfl
     clear h h2;go_wp2_with fail;go_roundw
     case rel=>exact ⟨1,by omega,rfl,rfl,fun z hz=>by
      rcases zqi z 0 with h|h
      ·exact hI.out z h
      ·obtain rfl:z=0:=by omega
       exact HP.out⟩
     case measure=>simp [intOf]
    ·have HF:Hid (res=false):=by unfold Hid;rw [<- HR.out];exact z2n (j:=0) (by omega) (by rw [HT.out,zn (show ¬ n0<2 ^ (so:Int).toNat from by show ¬ n0<2 ^ so;omega),Bool.and_false])
     have t2:(n0 / 2 ^ so == 0)=false:=z1n (by
      have h3:1<=n0 / 2 ^ so:=Int.le_ediv_of_mul_le (z3g _) (by omega)
      omega)
     have t3:(n0 / 2 ^ so != 0)=true:=by rw [bne,t2];rfl
     clear h h2;go_wp2_with fail;go_ret;exact ⟨by rw [HF.out];rfl,HB.out⟩
  ·have hidx:∀ W:World,(Instr.index 103 (.agg #[.int .i64 n0,.int .i64 n1,.int .i64 n2,.int .i64 n3,.int .i64 n4,.int .i64 n5]) (.int .i64 1)).run Tryz.prog W=.ok (.int .i64 n1) W:=fun W=>z4i [.int .i64 n0,.int .i64 n1,.int .i64 n2,.int .i64 n3,.int .i64 n4,.int .i64 n5] 1 _ (by omega) rfl W
   have HT:=zh (z2o (s:=⟨(so:Int),ch,ra,ba,ro,co⟩) (p:=⟨n0,n1,n2,n3,n4,n5⟩) (j:=1) rfl rfl)
   rcases Int.lt_or_le n1 0 with h|h
   ·have t1:decide (n1<0)=true:=zt h
    have HF:Hid (res=false):=by unfold Hid;rw [<- HR.out];exact z2n (j:=1) (by omega) (by rw [HT.out,zn (show ¬ 0<=n1 by omega)];rfl)
    clear h;go_wp2_with fail;go_ret;exact ⟨by rw [HF.out];rfl,HB.out⟩
   ·have t1:decide (n1<0)=false:=zn (by omega)
    rcases Int.lt_or_le n1 (2 ^ ch) with h2|h2
    ·have HP:Hid (plT ⟨(so:Int),ch,ra,ba,ro,co⟩ ⟨n0,n1,n2,n3,n4,n5⟩ 1=true):=by unfold Hid;rw [HT.out,zt h,zt (show n1<2 ^ (ch:Int).toNat from h2)];rfl
     have t2:(n1 / 2 ^ ch == 0)=true:=by rw [beq_iff_eq];exact Int.ediv_eq_zero_of_lt h h2
     have t3:(n1 / 2 ^ ch != 0)=false:=by rw [bne,t2];rfl
     clear h h2;go_wp2_with fail;go_roundw
     case rel=>exact ⟨2,by omega,rfl,rfl,fun z hz=>by
      rcases zqi z 1 with h|h
      ·exact hI.out z h
      ·obtain rfl:z=1:=by omega
       exact HP.out⟩
     case measure=>simp [intOf]
    ·have HF:Hid (res=false):=by unfold Hid;rw [<- HR.out];exact z2n (j:=1) (by omega) (by rw [HT.out,zn (show ¬ n1<2 ^ (ch:Int).toNat from by show ¬ n1<2 ^ ch;omega),Bool.and_false])
     have t2:(n1 / 2 ^ ch == 0)=false:=z1n (by
      have h3:1<=n1 / 2 ^ ch:=Int.le_ediv_of_mul_le (z3g _) (by omega)
      omega)
     have t3:(n1 / 2 ^ ch != 0)=true:=by rw [bne,t2];rfl
     clear h h2;go_wp2_with fail;go_ret;exact ⟨by rw [HF.out];rfl,HB.out⟩
  ·have hidx:∀ W:World,(Instr.index 103 (.agg #[.int .i64 n0,.int .i64 n1,.int .i64 n2,.int .i64 n3,.int .i64 n4,.int .i64 n5]) (.int .i64 2)).run Tryz.prog W=.ok (.int .i64 n2) W:=fun W=>z4i [.int .i64 n0,.int .i64 n1,.int .i64 n2,.int .i64 n3,.int .i64 n4,.int .i64 n5] 2 _ (by omega) rfl W
   have HT:=zh (z2o (s:=⟨(so:Int),ch,ra,ba,ro,co⟩) (p:=⟨n0,n1,n2,n3,n4,n5⟩) (j:=2) rfl rfl)
   rcases Int.lt_or_le n2 0 with h|h
   ·have t1:decide (n2<0)=true:=zt h
    have HF:Hid (res=false):=by unfold Hid;rw [<- HR.out];exact z2n (j:=2) (by omega) (by rw [HT.out,zn (show ¬ 0<=n2 by omega)];rfl)
    clear h;go_wp2_with fail;go_ret;exact ⟨by rw [HF.out];rfl,HB.out⟩
   ·have t1:decide (n2<0)=false:=zn (by omega)
    rcases Int.lt_or_le n2 (2 ^ ra) with h2|h2
    ·have HP:Hid (plT ⟨(so:Int),ch,ra,ba,ro,co⟩ ⟨n0,n1,n2,n3,n4,n5⟩ 2=true):=by unfold Hid;rw [HT.out,zt h,zt (show n2<2 ^ (ra:Int).toNat from h2)];rfl
     have t2:(n2 / 2 ^ ra == 0)=true:=by rw [beq_iff_eq];exact Int.ediv_eq_zero_of_lt h h2
     have t3:(n2 / 2 ^ ra != 0)=false:=by rw [bne,t2];rfl
     clear h h2;go_wp2_with fail;go_roundw
     case rel=>exact ⟨3,by omega,rfl,rfl,fun z hz=>by
      rcases zqi z 2 with h|h
      ·exact hI.out z h
      ·obtain rfl:z=2:=by omega
       exact HP.out⟩
     case measure=>simp [intOf]
    ·have HF:Hid (res=false):=by unfold Hid;rw [<- HR.out];exact z2n (j:=2) (by omega) (by rw [HT.out,zn (show ¬ n2<2 ^ (ra:Int).toNat from by show ¬ n2<2 ^ ra;omega),Bool.and_false])
     have t2:(n2 / 2 ^ ra == 0)=false:=z1n (by
      have h3:1<=n2 / 2 ^ ra:=Int.le_ediv_of_mul_le (z3g _) (by omega)
      omega)
     have t3:(n2 / 2 ^ ra != 0)=true:=by rw [bne,t2];rfl
     clear h h2;go_wp2_with fail;go_ret;exact ⟨by rw [HF.out];rfl,HB.out⟩
  ·have hidx:∀ W:World,(Instr.index 103 (.agg #[.int .i64 n0,.int .i64 n1,.int .i64 n2,.int .i64 n3,.int .i64 n4,.int .i64 n5]) (.int .i64 3)).run Tryz.prog W=.ok (.int .i64 n3) W:=fun W=>z4i [.int .i64 n0,.int .i64 n1,.int .i64 n2,.int .i64 n3,.int .i64 n4,.int .i64 n5] 3 _ (by omega) rfl W
   have HT:=zh (z2o (s:=⟨(so:Int),ch,ra,ba,ro,co⟩) (p:=⟨n0,n1,n2,n3,n4,n5⟩) (j:=3) rfl rfl)
   rcases Int.lt_or_le n3 0 with h|h
   ·have t1:decide (n3<0)=true:=zt h
    have HF:Hid (res=false):=by unfold Hid;rw [<- HR.out];exact z2n (j:=3) (by omega) (by rw [HT.out,zn (show ¬ 0<=n3 by omega)];rfl)
    clear h;go_wp2_with fail;go_ret;exact ⟨by rw [HF.out];rfl,HB.out⟩
   ·have t1:decide (n3<0)=false:=zn (by omega)
    rcases Int.lt_or_le n3 (2 ^ ba) with h2|h2
    ·have HP:Hid (plT ⟨(so:Int),ch,ra,ba,ro,co⟩ ⟨n0,n1,n2,n3,n4,n5⟩ 3=true):=by unfold Hid;rw [HT.out,zt h,zt (show n3<2 ^ (ba:Int).toNat from h2)];rfl
     have t2:(n3 / 2 ^ ba == 0)=true:=by rw [beq_iff_eq];exact Int.ediv_eq_zero_of_lt h h2
     have t3:(n3 / 2 ^ ba != 0)=false:=by rw [bne,t2];rfl
     clear h h2;go_wp2_with fail;go_roundw
     case rel=>exact ⟨4,by omega,rfl,rfl,fun z hz=>by
      rcases zqi z 3 with h|h
      ·exact hI.out z h
      ·obtain rfl:z=3:=by omega
       exact HP.out⟩
     case measure=>simp [intOf]
    ·have HF:Hid (res=false):=by unfold Hid;rw [<- HR.out];exact z2n (j:=3) (by omega) (by rw [HT.out,zn (show ¬ n3<2 ^ (ba:Int).toNat from by show ¬ n3<2 ^ ba;omega),Bool.and_false])
     have t2:(n3 / 2 ^ ba == 0)=false:=z1n (by
      have h3:1<=n3 / 2 ^ ba:=Int.le_ediv_of_mul_le (z3g _) (by omega)
      omega)
     have t3:(n3 / 2 ^ ba != 0)=true:=by rw [bne,t2];rfl
     clear h h2;go_wp2_with fail;go_ret;exact ⟨by rw [HF.out];rfl,HB.out⟩
  ·have hidx:∀ W:World,(Instr.index 103 (.agg #[.int .i64 n0,.int .i64 n1,.int .i64 n2,.int .i64 n3,.int .i64 n4,.int .i64 n5]) (.int .i64 4)).run Tryz.prog W=.ok (.int .i64 n4) W:=fun W=>z4i [.int .i64 n0,.int .i64 n1,.int .i64 n2,.int .i64 n3,.int .i64 n4,.int .i64 n5] 4 _ (by omega) rfl W
   have HT:=zh (z2o (s:=⟨(so:Int),ch,ra,ba,ro,co⟩) (p:=⟨n0,n1,n2,n3,n4,n5⟩) (j:=4) rfl rfl)
   rcases Int.lt_or_le n4 0 with h|h
   ·have t1:decide (n4<0)=true:=zt h
    have HF:Hid (res=false):=by unfold Hid;rw [<- HR.out];exact z2n (j:=4) (by omega) (by rw [HT.out,zn (show ¬ 0<=n4 by omega)];rfl)
    clear h;go_wp2_with fail;go_ret;exact ⟨by rw [HF.out];rfl,HB.out⟩
   ·have t1:decide (n4<0)=false:=zn (by omega)
    rcases Int.lt_or_le n4 (2 ^ ro) with h2|h2
    ·have HP:Hid (plT ⟨(so:Int),ch,ra,ba,ro,co⟩ ⟨n0,n1,n2,n3,n4,n5⟩ 4=true):=by unfold Hid;rw [HT.out,zt h,zt (show n4<2 ^ (ro:Int).toNat from h2)];rfl
     have t2:(n4 / 2 ^ ro == 0)=true:=by rw [beq_iff_eq];exact Int.ediv_eq_zero_of_lt h h2
     have t3:(n4 / 2 ^ ro != 0)=false:=by rw [bne,t2];rfl
     clear h h2;go_wp2_with fail;go_roundw
     case rel=>exact ⟨5,by omega,rfl,rfl,fun z hz=>by
      rcases zqi z 4 with h|h
      ·exact hI.out z h
      ·obtain rfl:z=4:=by omega
       exact HP.out⟩
     case measure=>simp [intOf]
    ·have HF:Hid (res=false):=by unfold Hid;rw [<- HR.out];exact z2n (j:=4) (by omega) (by rw [HT.out,zn (show ¬ n4<2 ^ (ro:Int).toNat from by show ¬ n4<2 ^ ro;omega),Bool.and_false])
     have t2:(n4 / 2 ^ ro == 0)=false:=z1n (by
      have h3:1<=n4 / 2 ^ ro:=Int.le_ediv_of_mul_le (z3g _) (by omega)
      omega)
     have t3:(n4 / 2 ^ ro != 0)=true:=by rw [bne,t2];rfl
     clear h h2;go_wp2_with fail;go_ret;exact ⟨by rw [HF.out];rfl,HB.out⟩
  ·have hidx:∀ W:World,(Instr.index 103 (.agg #[.int .i64 n0,.int .i64 n1,.int .i64 n2,.int .i64 n3,.int .i64 n4,.int .i64 n5]) (.int .i64 5)).run Tryz.prog W=.ok (.int .i64 n5) W:=fun W=>z4i [.int .i64 n0,.int .i64 n1,.int .i64 n2,.int .i64 n3,.int .i64 n4,.int .i64 n5] 5 _ (by omega) rfl W
   have HT:=zh (z2o (s:=⟨(so:Int),ch,ra,ba,ro,co⟩) (p:=⟨n0,n1,n2,n3,n4,n5⟩) (j:=5) rfl rfl)
   rcases Int.lt_or_le n5 0 with h|h
   ·have t1:decide (n5<0)=true:=zt h
    have HF:Hid (res=false):=by unfold Hid;rw [<- HR.out];exact z2n (j:=5) (by omega) (by rw [HT.out,zn (show ¬ 0<=n5 by omega)];rfl)
    clear h;go_wp2_with fail;go_ret;exact ⟨by rw [HF.out];rfl,HB.out⟩
   ·have t1:decide (n5<0)=false:=zn (by omega)
    rcases Int.lt_or_le n5 (2 ^ co) with h2|h2
    ·have HP:Hid (plT ⟨(so:Int),ch,ra,ba,ro,co⟩ ⟨n0,n1,n2,n3,n4,n5⟩ 5=true):=by unfold Hid;rw [HT.out,zt h,zt (show n5<2 ^ (co:Int).toNat from h2)];rfl
     have t2:(n5 / 2 ^ co == 0)=true:=by rw [beq_iff_eq];exact Int.ediv_eq_zero_of_lt h h2
     have t3:(n5 / 2 ^ co != 0)=false:=by rw [bne,t2];rfl
     clear h h2;go_wp2_with fail;go_roundw
     case rel=>exact ⟨6,by omega,rfl,rfl,fun z hz=>by
      rcases zqi z 5 with h|h
      ·exact hI.out z h
      ·obtain rfl:z=5:=by omega
       exact HP.out⟩
     case measure=>simp [intOf]
    ·have HF:Hid (res=false):=by unfold Hid;rw [<- HR.out];exact z2n (j:=5) (by omega) (by rw [HT.out,zn (show ¬ n5<2 ^ (co:Int).toNat from by show ¬ n5<2 ^ co;omega),Bool.and_false])
     have t2:(n5 / 2 ^ co == 0)=false:=z1n (by
      have h3:1<=n5 / 2 ^ co:=Int.le_ediv_of_mul_le (z3g _) (by omega)
      omega)
     have t3:(n5 / 2 ^ co != 0)=true:=by rw [bne,t2];rfl
     clear h h2;go_wp2_with fail;go_ret;exact ⟨by rw [HF.out];rfl,HB.out⟩
  ·have HF:Hid (res=true):=by unfold Hid;rw [<- HR.out];exact z7d HSv.out hI.out
   go_wp2_with fail;go_ret;exact ⟨by rw [HF.out];rfl,HB.out⟩
end Go.Proofs.YtpmofjomadibmaaGreatDoor
