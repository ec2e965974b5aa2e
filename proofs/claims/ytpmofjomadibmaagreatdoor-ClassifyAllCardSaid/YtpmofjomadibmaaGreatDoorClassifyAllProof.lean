import Derived.Test.YtpmofjomadibmaaGreatDoorU25
import Derived.Test.YtpmofjomadibmaaGreatDoorCards
import Derived.Test.YtpmofjomadibmaaGreatDoorTie
namespace Go.Proofs.YtpmofjomadibmaaGreatDoor.classifyAll
open Go.ChangeShapes Go.WideShapes Go.ChangeAt Go.RowKit
set_option linter.unusedVariables false
theorem own:ownKnob Tryz.prog.godebug=none:=by kernel_rfl
theorem laid:laidOutB Tryz.prog=true:=by kernel_rfl
theorem cellsI:Tryz.prog.cellsOf 3=1:=by kernel_rfl
set_option maxRecDepth 100000 in
theorem lifted (os:Os)(started:os.Started)(H:Type)(enc:TypeId×Value→H):
  ReturnsInHanded {} Tryz.checked os 5 .any (fun w args=>(Rows.classifyAllSpec.pre enc Tryz.prog Tryz.f5 Rows.classifyAllRow.domain false w args∧laidMetH Tryz.prog Rows.classifyAllRow.laid w)∧sizedMet enc Tryz.prog Tryz.f5 (OpenSpec.ofChange Rows.classifyAllSpec) false w args)
   (Rows.classifyAllSpec.post enc Tryz.prog Tryz.f5 false true false false):=by
 refine returnsInHanded_of_change_and (C:=Tryz.checked) (X:=fun w _=>laidMetH Tryz.prog Rows.classifyAllRow.laid w) (fun _ _ _ hh h=>h.of_heap hh) own started (by kernel_rfl) Tryz.func5
  (ChangeSpec.witness_shaped (enc:=enc) (C:=Tryz.checked) (os:=os) (X:=fun w _=>laidMetH Tryz.prog Rows.classifyAllRow.laid w) false (World.laidAll Tryz.prog os Rows.classifyAllRow.laid) #[.slice none 0 0,.slice none 0 0,.int .i64 0] 8 (World.laidAll_os _ _ _)
   (World.shaped_of_ZipB (by kernel_rfl) (by kernel_rfl)) (by kernel_rfl) (by kernel_rfl) (by kernel_rfl)
   (by rw [MakeChecks.laidMetH_plain _ _ _ (by kernel_rfl)];exact laidMet_laidAll _ (by kernel_rfl) (by kernel_rfl))) ?_
 intro W base args ds gs before hval0 hW hcnd hsz hL _
 have hval:∀ (j:Nat) t v,Tryz.f5.params[j]?=some t→args[j]?=some v→Value.okWide Tryz.prog W .any base t v:=hval0
 have hW':=hW
 obtain ⟨p,q,hA0,hV,rfl,hfz,hnd⟩:=hW
 have hA:DataW.TrodAll enc Tryz.prog W 0 (fun _=>true) true Tryz.f5.params.toList args.toList ds p:=hA0
 rw [Tryz.params5] at hA hval
 obtain ⟨v0,vs0,d0,ds0,p0,q0,hargs,rfl,rfl,h0,r0⟩:=trodAll_cons hA
 obtain ⟨v1,vs1,d1,ds1,p1,q1,rfl,rfl,rfl,h1,r1⟩:=trodAll_cons r0
 obtain ⟨v2,vs2,d2,ds2,p2,q2,rfl,rfl,rfl,h2,r2⟩:=trodAll_cons r1
 obtain ⟨rfl,rfl,rfl⟩:=trodAll_nil r2
 obtain rfl:args=#[v0,v1,v2]:=by cases args;simp_all
 obtain ⟨rfl,rfl⟩:=trodVars_none hV
 obtain ⟨A0,n0,c0,zs0,rfl,hn0,hnc0,hc0,hs0,hw0⟩:=z6bp Tryz.underlying22 Tryz.underlying3 cellsI (hval 0 22 v0 rfl rfl) h0
 obtain ⟨A1,n1,c1,zs1,rfl,hn1,hnc1,hc1,hs1⟩:=z5ae (hval 1 23 v1 rfl rfl) h1
 obtain ⟨a2,rfl,e2,_,w2⟩:=open_int Tryz.underlying3 (hval 2 3 v2 rfl rfl) h2
 have hm0:n0≤9223372036854775807:=Nat.le_trans hnc0 (Nat.le_trans hc0 (by decide))
 have hm1:n1≤9223372036854775807:=Nat.le_trans hnc1 (Nat.le_trans hc1 (by decide))
 clear hA0 hval0
 refine (z7t A0 n0 c0 zs0 A1 n1 c1 zs1 a2 W hn0 hm0 hs0 hn1 hm1 hs1 (z8bn hL)).mono fun e W' ⟨he,hb⟩=>?_
 subst he
 exact ⟨_,rfl,z1bp laid hb rfl hW' rfl (by kernel_rfl) Tryz.underlying4 (by
  intro t ht
  have ht':t∈[22,23,3]:=by rw [Tryz.params5] at ht;exact ht
  simp only [List.mem_cons,List.mem_nil_iff,or_false] at ht'
  rcases ht' with rfl | rfl | rfl<;>exact ⟨by kernel_rfl,of_decide_eq_true (by kernel_rfl)⟩)⟩
theorem holds:Rows.ClassifyAllSaid:=
 OpenClaim.holds_of_wide 5 Tryz.f5 rfl rfl rfl rfl rfl rfl rfl ⟨rfl,rfl,rfl,rfl,rfl⟩ rfl rfl rfl rfl rfl (by kernel_rfl) Tryz.func5 (by kernel_rfl)
  (of_decide_eq_true (by kernel_rfl)) (by unfold Func.isWrapper;first | (rw [if_pos (by decide +kernel)];kernel_rfl) | (rw [if_neg (by decide +kernel)];exact ⟨rfl,rfl⟩))
  (fun os started H enc _=>lifted os started H enc)
theorem proved:Rows.ClassifyAllCardSaid:=
 Claim7.holds_tied_plain_at .later [] [.data] true (true, "1a70fb94dc7147906da291618bf887db84f7c44571836d12158d48fec8f283c0") false holds (fun _ h => by cases h) (by kernel_rfl) (fun _ h => by cases h) classifyAll_row_tie rfl ⟨rfl, rfl⟩ (by kernel_rfl) rfl
  (fun f fn hf hfn=>by
   obtain rfl : f = 5 := Option.some.inj ((show Tryz.prog.funcNamed "memfault/memfaultlaw25.ClassifyAll" = some 5 by kernel_rfl).symm.trans hf) |>.symm
   obtain rfl:fn=Tryz.f5:=(Option.some.inj (Tryz.func5.symm.trans hfn)).symm
   exact ⟨by kernel_rfl,fun j t ht=>by
    rw [Tryz.params5] at ht
    have hm:t∈[22,23,3]:=by simpa using Array.mem_of_getElem? ht
    have hall:([22,23,3].all fun u=>!Tryz.prog.wantsStandIn u)=true:=by kernel_rfl
    exact (show Tryz.prog.wantsStandIn t=false by simpa using List.all_eq_true.1 hall t hm)⟩)
  (by kernel_rfl)
#print axioms proved
end Go.Proofs.YtpmofjomadibmaaGreatDoor.classifyAll
