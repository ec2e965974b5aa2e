import Derived.Test.YtpmofjomadibmaaGreatDoorQ25
import Derived.Test.YtpmofjomadibmaaGreatDoorCards
import Derived.Test.YtpmofjomadibmaaGreatDoorTie
namespace Go.Proofs.YtpmofjomadibmaaGreatDoor.classifyJudges
open Go.ChangeShapes Go.WideShapes Go.ChangeAt Go.RowKit
set_option linter.unusedVariables false
theorem own:ownKnob Tryz.prog.godebug=none:=by kernel_rfl
theorem laid:laidOutB Tryz.prog=true:=by kernel_rfl
theorem cellsI:Tryz.prog.cellsOf 3=1:=by kernel_rfl
theorem bytesI:Tryz.prog.bytesOf 3=8:=by kernel_rfl
set_option maxRecDepth 100000 in
theorem lifted (os:Os)(started:os.Started)(H:Type)(enc:TypeId×Value→H):
  ReturnsInHanded {} Tryz.checked os 3 .any (fun w args=>(Rows.classifyJudgesSpec.pre enc Tryz.prog Tryz.f3 Rows.classifyJudgesRow.domain false w args∧laidMetH Tryz.prog Rows.classifyJudgesRow.laid w)∧sizedMet enc Tryz.prog Tryz.f3 (OpenSpec.ofChange Rows.classifyJudgesSpec) false w args)
   (Rows.classifyJudgesSpec.post enc Tryz.prog Tryz.f3 false true false false):=by
 refine returnsInHanded_of_change_and (C:=Tryz.checked) (X:=fun w _=>laidMetH Tryz.prog Rows.classifyJudgesRow.laid w) (fun _ _ _ hh h=>h.of_heap hh) own started (by kernel_rfl) Tryz.func3
  (ChangeSpec.witness_shaped (enc:=enc) (C:=Tryz.checked) (os:=os) (X:=fun w _=>laidMetH Tryz.prog Rows.classifyJudgesRow.laid w) false (World.laidAll Tryz.prog os Rows.classifyJudgesRow.laid) #[.slice none 0 0,.slice none 0 0,.agg #[.slice none 0 0,.slice none 0 0],.int .i64 0,.int .i64 0] 8 (World.laidAll_os _ _ _)
   (World.shaped_of_ZipB (by kernel_rfl) (by kernel_rfl)) (by kernel_rfl) (by kernel_rfl) (by kernel_rfl)
   (by rw [MakeChecks.laidMetH_plain _ _ _ (by kernel_rfl)];exact laidMet_laidAll _ (by kernel_rfl) (by kernel_rfl))) ?_
 intro W base args ds gs before hval0 hW hcnd hsz hL _
 have hval:∀ (j:Nat) t v,Tryz.f3.params[j]?=some t→args[j]?=some v→Value.okWide Tryz.prog W .any base t v:=hval0
 have hW':=hW
 obtain ⟨p,q,hA0,hV,rfl,hfz,hnd⟩:=hW
 have hA:DataW.TrodAll enc Tryz.prog W 0 (fun _=>true) true Tryz.f3.params.toList args.toList ds p:=hA0
 rw [Tryz.params3] at hA hval
 obtain ⟨v0,vs0,d0,ds0,p0,q0,hargs,rfl,rfl,h0,r0⟩:=trodAll_cons hA
 obtain ⟨v1,vs1,d1,ds1,p1,q1,rfl,rfl,rfl,h1,r1⟩:=trodAll_cons r0
 obtain ⟨v2,vs2,d2,ds2,p2,q2,rfl,rfl,rfl,h2,r2⟩:=trodAll_cons r1
 obtain ⟨v3,vs3,d3,ds3,p3,q3,rfl,rfl,rfl,h3,r3⟩:=trodAll_cons r2
 obtain ⟨v4,vs4,d4,ds4,p4,q4,rfl,rfl,rfl,h4,r4⟩:=trodAll_cons r3
 obtain ⟨rfl,rfl,rfl⟩:=trodAll_nil r4
 obtain rfl:args=#[v0,v1,v2,v3,v4]:=by cases args;simp_all
 obtain ⟨rfl,rfl⟩:=trodVars_none hV
 obtain ⟨A0,n0,c0,zs0,rfl,hn0,hnc0,hc0,hs0,hw0⟩:=z4bk Tryz.underlying22 Tryz.underlying3 cellsI (hval 0 22 v0 rfl rfl) h0
 obtain ⟨A1,n1,c1,zs1,rfl,hn1,hnc1,hc1,hs1⟩:=z4ac (hval 1 23 v1 rfl rfl) h1
 obtain ⟨A2,n2,c2,zs2,B2,m2,e2,ys2,rfl,hn2,hnc2,hc2,hs2,hm2,hmc2,hd2,ht2,hz2⟩:=z4ad (t:=25) (ts:=22) Tryz.underlying27 rfl rfl rfl rfl (by kernel_rfl) (by kernel_rfl) Tryz.underlying25 rfl rfl (by kernel_rfl) Tryz.underlying22 Tryz.underlying3 cellsI (hval 2 27 v2 rfl rfl) h2
 have hq2:=hz2 reachBytes (fun x hx=>of_decide_eq_true (List.all_eq_true.1 hsz x (DataW.weights_mem_each (j:=2) (t:=27) (by rw [Tryz.params3];rfl) rfl x hx)))
 rw [bytesI] at hq2
 have hl2:n2≤281474976710656:=by have:=hq2.1;unfold reachBytes at this;omega
 have hk2:m2≤281474976710656:=by have:=hq2.2;unfold reachBytes at this;omega
 obtain ⟨a3,rfl,e3,_,w3⟩:=open_int Tryz.underlying3 (hval 3 3 v3 rfl rfl) h3
 obtain ⟨a4,rfl,e4,_,w4⟩:=open_int Tryz.underlying3 (hval 4 3 v4 rfl rfl) h4
 have hm0:n0≤9223372036854775807:=Nat.le_trans hnc0 (Nat.le_trans hc0 (by decide))
 have hm1:n1≤9223372036854775807:=Nat.le_trans hnc1 (Nat.le_trans hc1 (by decide))
 clear hA0 hval0
 refine (z5u A0 n0 c0 zs0 A1 n1 c1 zs1 A2 n2 c2 zs2 B2 m2 e2 ys2 a3 a4 W hn0 hm0 hs0 hn1 hm1 hs1 hn2 hnc2 hl2 hs2 hm2 hmc2 hk2 ht2 (z6bv w3) (z5bz hL)).mono fun e W' ⟨he,hb⟩=>?_
 subst he
 exact ⟨_,rfl,z9az laid hb rfl hW' rfl (by kernel_rfl) Tryz.underlying4 (by
  intro t ht
  have ht':t∈[22,23,27,3,3]:=by rw [Tryz.params3] at ht;exact ht
  simp only [List.mem_cons,List.mem_nil_iff,or_false] at ht'
  rcases ht' with rfl | rfl | rfl | rfl | rfl<;>exact ⟨by kernel_rfl,of_decide_eq_true (by kernel_rfl)⟩)⟩
theorem holds:Rows.ClassifyJudgesSaid:=
 OpenClaim.holds_of_wide 3 Tryz.f3 rfl rfl rfl rfl rfl rfl rfl ⟨rfl,rfl,rfl,rfl,rfl⟩ rfl rfl rfl rfl rfl (by kernel_rfl) Tryz.func3 (by kernel_rfl)
  (of_decide_eq_true (by kernel_rfl)) (by unfold Func.isWrapper;first | (rw [if_pos (by decide +kernel)];kernel_rfl) | (rw [if_neg (by decide +kernel)];exact ⟨rfl,rfl⟩))
  (fun os started H enc _=>lifted os started H enc)
theorem proved:Rows.ClassifyJudgesCardSaid:=
 Claim7.holds_tied_plain_at .later [] [.data] true (true, "1a70fb94dc7147906da291618bf887db84f7c44571836d12158d48fec8f283c0") false holds (fun _ h => by cases h) (by kernel_rfl) (fun _ h => by cases h) classifyJudges_row_tie rfl ⟨rfl, rfl⟩ (by kernel_rfl) rfl
  (fun f fn hf hfn=>by
   obtain rfl : f = 3 := Option.some.inj ((show Tryz.prog.funcNamed "memfault/memfaultlaw25.ClassifyJudges" = some 3 by kernel_rfl).symm.trans hf) |>.symm
   obtain rfl:fn=Tryz.f3:=(Option.some.inj (Tryz.func3.symm.trans hfn)).symm
   exact ⟨by kernel_rfl,fun j t ht=>by
    rw [Tryz.params3] at ht
    have hm:t∈[22,23,27,3,3]:=by simpa using Array.mem_of_getElem? ht
    have hall:([22,23,27,3,3].all fun u=>!Tryz.prog.wantsStandIn u)=true:=by kernel_rfl
    exact (show Tryz.prog.wantsStandIn t=false by simpa using List.all_eq_true.1 hall t hm)⟩)
  (by kernel_rfl)
#print axioms proved
end Go.Proofs.YtpmofjomadibmaaGreatDoor.classifyJudges
