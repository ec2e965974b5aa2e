/- script.Format at some lists. -/
import Derived.Test.YtpcmbmabmfghkaaDoorScQ
import Derived.Deep.MidRow
namespace Go.Proofs.YtpcmbmabmfghkaaDoor
open Go.RowKit
set_option linter.unusedVariables false
set_option maxRecDepth 100000
theorem builder_go {T e : TypeId} {B b : Nat} {bs : List Value} {w w' : World} (h : Lib.IsBuilder T e B b bs w) (hb : Below w.heap.size w w') : Lib.IsBuilder T e B b bs w' := by
  have key : ∀ p, Lib.BuilderAt T e B b p bs w → Lib.BuilderAt T e B b p bs w' := by
    rintro p ⟨h1, v, h2, h3⟩
    exact ⟨h1, v, (hb.block b (Array.getElem?_eq_some_iff.1 h2).1).trans h2, ⟨h3.1.kept (row := none) ⟨hb.os, hb.tape, hb.output, hb.size, fun k hk _ => hb.block k hk⟩ (by
      by_cases he : v.ownBlock = none
      · exact .inl he
      · exact .inr he), h3.2⟩⟩
  exact h.imp (key _) (key _)
set_option maxHeartbeats 4000000 in
/-- a time -/
theorem fmt_time (w : World) (n : Int) (lb lc : Nat) (hlb : lb < w.heap.size) (hl : ∀ j v, ([.int .i64 3, .int .i64 n, .int .i64 0, .int .i64 0, .int .i64 0, .int .i64 0, .int .i64 0, .int .i64 0, .slice none 0 0, .int .i64 0, .int .i64 0, .int .i64 0, .int .i64 0, .int .i64 0, .int .i64 0, .int .i64 0, .int .i64 0, .int .u8 0, .int .u8 0, .bool false, .int .i64 0, .int .i64 0, .int .i64 0, .int .i64 0, .bool false, .bool false] : List Value)[j]? = some v → w.cell? ⟨lb, j, none⟩ = some v) (d : ByteArray) (h0 : 0 ≤ n) (h1 : n ≤ 1099511627776) (hd : d.size ≤ 1000)
    (HI : ∀ W, Below w.heap.size w W → Calls Tryd.prog 24 #[.int .i64 n] W fun e W' => e = .returned (.string d) ∧ Below W.heap.size W W') :
    Calls Tryd.prog 6 #[.int .i64 1, .slice (some ⟨lb, 0, none⟩) 1 lc] w fun e w' => e = .returned (.tuple #[.string ((⟨#[116, 105, 109, 101]⟩ ++ (⟨#[32]⟩ ++ d)) ++ ⟨#[10]⟩), .int .i64 0]) ∧ Below w.heap.size w w' := by
  have HL := Lib.hid (And.intro hlb hl)
  have HB0 := Lib.hid (Lib.fresh_isBuilder 48 5 w)
  have HW0 := Lib.hid (below_allocX (Below.refl w.heap.size w) (.cells #[.pointer none, .slice none 0 0] 48))
  have f1 : (9223372036854775807 < 4 + (1 + d.size) + 1) = False := by simp; omega
  clear hlb hl
  go_enter Tryd.func6, Tryd.ntmps6
  go_wp2_with (first | (go_at_call 11; refine (sized_any _ _).mono ?_; rintro e w' ⟨rfl, hw⟩; have hw := hw.symm; subst hw) | (with_reducible refine upon_id ?_; go_simp))
  generalize hV0 : w.alloc (.cells #[.pointer none, .slice none 0 0] 48) = V0 at *
  clear hV0
  refine wp_loop_rounds 2 ?_
  rw [rounds_succ]
  go_upto_region 8 with (with_reducible refine upon_id ?_; go_simp)
  have hc : World.rangeAt V0 lb 0 [.int .i64 3, .int .i64 n, .int .i64 0, .int .i64 0, .int .i64 0, .int .i64 0, .int .i64 0, .int .i64 0, .slice none 0 0, .int .i64 0, .int .i64 0, .int .i64 0, .int .i64 0, .int .i64 0, .int .i64 0, .int .i64 0, .int .i64 0, .int .u8 0, .int .u8 0, .bool false, .int .i64 0, .int .i64 0, .int .i64 0, .int .i64 0, .bool false, .bool false] := fun j v hj => (HW0.out.cell HL.out.1).trans (HL.out.2 (0 + j) v (by rw [Nat.zero_add]; exact hj))
  have h1 := (Ow.of (St.refl V0)).arr #[.int .i64 0, .int .i64 0, .int .i64 0, .int .i64 0, .int .i64 0, .int .i64 0, .int .i64 0, .int .i64 0, .slice none 0 0, .int .i64 0, .int .i64 0, .int .i64 0, .int .i64 0, .int .i64 0, .int .i64 0, .int .i64 0, .int .i64 0, .int .u8 0, .int .u8 0, .bool false, .int .i64 0, .int .i64 0, .int .i64 0, .int .i64 0, .bool false, .bool false] 26 rfl (by omega) 37
  simp only [List.nil_append] at h1
  have hg := (h1.rowHeap 0 rfl).1
  have h3 := h1.putRow (k := 26) 0 rfl #[.int .i64 3, .int .i64 n, .int .i64 0, .int .i64 0, .int .i64 0, .int .i64 0, .int .i64 0, .int .i64 0, .slice none 0 0, .int .i64 0, .int .i64 0, .int .i64 0, .int .i64 0, .int .i64 0, .int .i64 0, .int .i64 0, .int .i64 0, .int .u8 0, .int .u8 0, .bool false, .int .i64 0, .int .i64 0, .int .i64 0, .int .i64 0, .bool false, .bool false] rfl (by omega)
  simp only [List.set_cons_zero] at h3
  have hg2 := (h3.rowHeap 0 rfl).1
  have HC := Lib.hid hc
  have HG := Lib.hid hg
  have HG2 := Lib.hid hg2
  have HE := Lib.hid h3.below
  clear h1 h3 hg hg2 hc
  repeat (first | refine wpList_load_mid rfl 37 (.tmp 23) rfl lb 0 rfl [.int .i64 3, .int .i64 n, .int .i64 0, .int .i64 0, .int .i64 0, .int .i64 0, .int .i64 0, .int .i64 0, .slice none 0 0, .int .i64 0, .int .i64 0, .int .i64 0, .int .i64 0, .int .i64 0, .int .i64 0, .int .i64 0, .int .i64 0, .int .u8 0, .int .u8 0, .bool false, .int .i64 0, .int .i64 0, .int .i64 0, .int .i64 0, .bool false, .bool false] _ HC.out Tryd.underlying37 rfl sizeEv ?_ | refine wpList_store_row rfl 37 (.tmp 8) (.tmp 24) rfl V0.heap.size #[.int .i64 3, .int .i64 n, .int .i64 0, .int .i64 0, .int .i64 0, .int .i64 0, .int .i64 0, .int .i64 0, .slice none 0 0, .int .i64 0, .int .i64 0, .int .i64 0, .int .i64 0, .int .i64 0, .int .i64 0, .int .i64 0, .int .i64 0, .int .u8 0, .int .u8 0, .bool false, .int .i64 0, .int .i64 0, .int .i64 0, .int .i64 0, .bool false, .bool false] rfl rfl 37 _ HG.out sizeEv rfl (by simp [Value.oneCell']) ?_ | refine wpList_load_row rfl 37 (.tmp 8) rfl V0.heap.size rfl 37 #[.int .i64 3, .int .i64 n, .int .i64 0, .int .i64 0, .int .i64 0, .int .i64 0, .int .i64 0, .int .i64 0, .slice none 0 0, .int .i64 0, .int .i64 0, .int .i64 0, .int .i64 0, .int .i64 0, .int .i64 0, .int .i64 0, .int .i64 0, .int .u8 0, .int .u8 0, .bool false, .int .i64 0, .int .i64 0, .int .i64 0, .int .i64 0, .bool false, .bool false] (0, 0) _ HG2.out Tryd.underlying37 rfl sizeEv ?_ | go_step)
  clear HG HG2 HC
  refine (format_time 1 _ n d h0 h1 hd (fun w2 h2 => HI w2 ((HW0.out.trans (below_less HE.out HW0.out.size)).trans (below_less h2 (Nat.le_trans HW0.out.size HE.out.size))))).mono ?_
  rintro e wd ⟨rfl, hb4⟩
  have HV := Lib.hid (HE.out.trans (below_less hb4 HE.out.size))
  clear hb4 HE
  have hbb := builder_go HB0.out HV.out
  have HBn := Lib.hid hbb
  clear hbb
  go_wp2_with (with_reducible refine upon_id ?_; go_simp)
  refine (bwrite_any w.heap.size w.heap.size _ _ _ HBn.out (by rw [ByteArray.size_append, ByteArray.size_append, ByteArray.size_append]; show 0 + (4 + (1 + d.size) + 1) ≤ 140737488355328; omega) (Nat.le_trans HW0.out.size HV.out.size)).mono ?_
  rintro e V1 ⟨rfl, hbn, hwn⟩
  have HB1 := Lib.hid hbn
  have HW1 := Lib.hid ((HW0.out.trans (below_less HV.out HW0.out.size)).trans hwn)
  clear hbn hwn HV HBn
  go_wp2_with (with_reducible refine upon_id ?_; go_simp)
  rw [rounds_succ]
  go_wp2_with (with_reducible refine upon_id ?_; go_simp)
  have hsx : [] ++ Lib.strCells ((⟨#[116, 105, 109, 101]⟩ ++ (⟨#[32]⟩ ++ d)) ++ ⟨#[10]⟩) = Lib.byteCells ((⟨#[116, 105, 109, 101]⟩ ++ (⟨#[32]⟩ ++ d)) ++ ⟨#[10]⟩ : ByteArray).data.toList := rfl
  have hfin : (⟨((⟨#[116, 105, 109, 101]⟩ ++ (⟨#[32]⟩ ++ d)) ++ ⟨#[10]⟩ : ByteArray).data.toList.toArray⟩ : ByteArray) = (⟨#[116, 105, 109, 101]⟩ ++ (⟨#[32]⟩ ++ d)) ++ ⟨#[10]⟩ := by rw [Array.toArray_toList]
  have hst := Tryd.Builder_String_any w.heap.size w.heap.size ((⟨#[116, 105, 109, 101]⟩ ++ (⟨#[32]⟩ ++ d)) ++ ⟨#[10]⟩ : ByteArray).data.toList V1 (hsx ▸ HB1.out) HW1.out.size
  rw [hfin] at hst
  clear hfin hsx
  refine hst.mono ?_
  rintro e V2 ⟨rfl, hb2⟩
  have HF := Lib.hid (HW1.out.trans hb2)
  clear hb2
  go_wp2_with (with_reducible refine upon_id ?_; go_simp)
  refine bodyPost_ret (v := .tuple #[.string ((⟨#[116, 105, 109, 101]⟩ ++ (⟨#[32]⟩ ++ d)) ++ ⟨#[10]⟩), .int .i64 0]) (by simp [results, Tryd.results6]) rfl ?_
  exact ⟨rfl, HF.out⟩
set_option maxHeartbeats 4000000 in
/-- a time that no line holds -/
theorem fmt_neg (w : World) (n : Int) (lb lc : Nat) (hlb : lb < w.heap.size) (hl : ∀ j v, ([.int .i64 3, .int .i64 n, .int .i64 0, .int .i64 0, .int .i64 0, .int .i64 0, .int .i64 0, .int .i64 0, .slice none 0 0, .int .i64 0, .int .i64 0, .int .i64 0, .int .i64 0, .int .i64 0, .int .i64 0, .int .i64 0, .int .i64 0, .int .u8 0, .int .u8 0, .bool false, .int .i64 0, .int .i64 0, .int .i64 0, .int .i64 0, .bool false, .bool false] : List Value)[j]? = some v → w.cell? ⟨lb, j, none⟩ = some v) (h0 : decide (n < 0) = true) :
    Calls Tryd.prog 6 #[.int .i64 1, .slice (some ⟨lb, 0, none⟩) 1 lc] w fun e w' => e = .returned (.tuple #[.string ⟨#[]⟩, .int .i64 47]) ∧ Below w.heap.size w w' := by
  have HL := Lib.hid (And.intro hlb hl)
  have HB0 := Lib.hid (Lib.fresh_isBuilder 48 5 w)
  have HW0 := Lib.hid (below_allocX (Below.refl w.heap.size w) (.cells #[.pointer none, .slice none 0 0] 48))
  clear hlb hl
  go_enter Tryd.func6, Tryd.ntmps6
  go_wp2_with (first | (go_at_call 11; refine (sized_any _ _).mono ?_; rintro e w' ⟨rfl, hw⟩; have hw := hw.symm; subst hw) | (with_reducible refine upon_id ?_; go_simp))
  generalize hV0 : w.alloc (.cells #[.pointer none, .slice none 0 0] 48) = V0 at *
  clear hV0
  refine wp_loop_rounds 2 ?_
  rw [rounds_succ]
  go_upto_region 8 with (with_reducible refine upon_id ?_; go_simp)
  have hc : World.rangeAt V0 lb 0 [.int .i64 3, .int .i64 n, .int .i64 0, .int .i64 0, .int .i64 0, .int .i64 0, .int .i64 0, .int .i64 0, .slice none 0 0, .int .i64 0, .int .i64 0, .int .i64 0, .int .i64 0, .int .i64 0, .int .i64 0, .int .i64 0, .int .i64 0, .int .u8 0, .int .u8 0, .bool false, .int .i64 0, .int .i64 0, .int .i64 0, .int .i64 0, .bool false, .bool false] := fun j v hj => (HW0.out.cell HL.out.1).trans (HL.out.2 (0 + j) v (by rw [Nat.zero_add]; exact hj))
  have h1 := (Ow.of (St.refl V0)).arr #[.int .i64 0, .int .i64 0, .int .i64 0, .int .i64 0, .int .i64 0, .int .i64 0, .int .i64 0, .int .i64 0, .slice none 0 0, .int .i64 0, .int .i64 0, .int .i64 0, .int .i64 0, .int .i64 0, .int .i64 0, .int .i64 0, .int .i64 0, .int .u8 0, .int .u8 0, .bool false, .int .i64 0, .int .i64 0, .int .i64 0, .int .i64 0, .bool false, .bool false] 26 rfl (by omega) 37
  simp only [List.nil_append] at h1
  have hg := (h1.rowHeap 0 rfl).1
  have h3 := h1.putRow (k := 26) 0 rfl #[.int .i64 3, .int .i64 n, .int .i64 0, .int .i64 0, .int .i64 0, .int .i64 0, .int .i64 0, .int .i64 0, .slice none 0 0, .int .i64 0, .int .i64 0, .int .i64 0, .int .i64 0, .int .i64 0, .int .i64 0, .int .i64 0, .int .i64 0, .int .u8 0, .int .u8 0, .bool false, .int .i64 0, .int .i64 0, .int .i64 0, .int .i64 0, .bool false, .bool false] rfl (by omega)
  simp only [List.set_cons_zero] at h3
  have hg2 := (h3.rowHeap 0 rfl).1
  have HC := Lib.hid hc
  have HG := Lib.hid hg
  have HG2 := Lib.hid hg2
  have HE := Lib.hid h3.below
  clear h1 h3 hg hg2 hc
  repeat (first | refine wpList_load_mid rfl 37 (.tmp 23) rfl lb 0 rfl [.int .i64 3, .int .i64 n, .int .i64 0, .int .i64 0, .int .i64 0, .int .i64 0, .int .i64 0, .int .i64 0, .slice none 0 0, .int .i64 0, .int .i64 0, .int .i64 0, .int .i64 0, .int .i64 0, .int .i64 0, .int .i64 0, .int .i64 0, .int .u8 0, .int .u8 0, .bool false, .int .i64 0, .int .i64 0, .int .i64 0, .int .i64 0, .bool false, .bool false] _ HC.out Tryd.underlying37 rfl sizeEv ?_ | refine wpList_store_row rfl 37 (.tmp 8) (.tmp 24) rfl V0.heap.size #[.int .i64 3, .int .i64 n, .int .i64 0, .int .i64 0, .int .i64 0, .int .i64 0, .int .i64 0, .int .i64 0, .slice none 0 0, .int .i64 0, .int .i64 0, .int .i64 0, .int .i64 0, .int .i64 0, .int .i64 0, .int .i64 0, .int .i64 0, .int .u8 0, .int .u8 0, .bool false, .int .i64 0, .int .i64 0, .int .i64 0, .int .i64 0, .bool false, .bool false] rfl rfl 37 _ HG.out sizeEv rfl (by simp [Value.oneCell']) ?_ | refine wpList_load_row rfl 37 (.tmp 8) rfl V0.heap.size rfl 37 #[.int .i64 3, .int .i64 n, .int .i64 0, .int .i64 0, .int .i64 0, .int .i64 0, .int .i64 0, .int .i64 0, .slice none 0 0, .int .i64 0, .int .i64 0, .int .i64 0, .int .i64 0, .int .i64 0, .int .i64 0, .int .i64 0, .int .i64 0, .int .u8 0, .int .u8 0, .bool false, .int .i64 0, .int .i64 0, .int .i64 0, .int .i64 0, .bool false, .bool false] (0, 0) _ HG2.out Tryd.underlying37 rfl sizeEv ?_ | go_step)
  clear HG HG2 HC
  refine (format_neg 1 _ n h0).mono ?_
  rintro e wd ⟨rfl, hb4⟩
  have HV := Lib.hid (HE.out.trans (below_less hb4 HE.out.size))
  clear hb4 HE
  go_wp2_with (with_reducible refine upon_id ?_; go_simp)
  have HF := Lib.hid (HW0.out.trans (below_less HV.out HW0.out.size))
  refine bodyPost_ret (v := .tuple #[.string ⟨#[]⟩, .int .i64 47]) (by simp [results, Tryd.results6]) rfl ?_
  exact ⟨rfl, HF.out⟩
set_option maxHeartbeats 4000000 in
/-- a time that no line holds -/
theorem fmt_late (w : World) (n : Int) (lb lc : Nat) (hlb : lb < w.heap.size) (hl : ∀ j v, ([.int .i64 3, .int .i64 n, .int .i64 0, .int .i64 0, .int .i64 0, .int .i64 0, .int .i64 0, .int .i64 0, .slice none 0 0, .int .i64 0, .int .i64 0, .int .i64 0, .int .i64 0, .int .i64 0, .int .i64 0, .int .i64 0, .int .i64 0, .int .u8 0, .int .u8 0, .bool false, .int .i64 0, .int .i64 0, .int .i64 0, .int .i64 0, .bool false, .bool false] : List Value)[j]? = some v → w.cell? ⟨lb, j, none⟩ = some v) (h0 : decide (n < 0) = false) (h1 : decide (1099511627776 < n) = true) :
    Calls Tryd.prog 6 #[.int .i64 1, .slice (some ⟨lb, 0, none⟩) 1 lc] w fun e w' => e = .returned (.tuple #[.string ⟨#[]⟩, .int .i64 47]) ∧ Below w.heap.size w w' := by
  have HL := Lib.hid (And.intro hlb hl)
  have HB0 := Lib.hid (Lib.fresh_isBuilder 48 5 w)
  have HW0 := Lib.hid (below_allocX (Below.refl w.heap.size w) (.cells #[.pointer none, .slice none 0 0] 48))
  clear hlb hl
  go_enter Tryd.func6, Tryd.ntmps6
  go_wp2_with (first | (go_at_call 11; refine (sized_any _ _).mono ?_; rintro e w' ⟨rfl, hw⟩; have hw := hw.symm; subst hw) | (with_reducible refine upon_id ?_; go_simp))
  generalize hV0 : w.alloc (.cells #[.pointer none, .slice none 0 0] 48) = V0 at *
  clear hV0
  refine wp_loop_rounds 2 ?_
  rw [rounds_succ]
  go_upto_region 8 with (with_reducible refine upon_id ?_; go_simp)
  have hc : World.rangeAt V0 lb 0 [.int .i64 3, .int .i64 n, .int .i64 0, .int .i64 0, .int .i64 0, .int .i64 0, .int .i64 0, .int .i64 0, .slice none 0 0, .int .i64 0, .int .i64 0, .int .i64 0, .int .i64 0, .int .i64 0, .int .i64 0, .int .i64 0, .int .i64 0, .int .u8 0, .int .u8 0, .bool false, .int .i64 0, .int .i64 0, .int .i64 0, .int .i64 0, .bool false, .bool false] := fun j v hj => (HW0.out.cell HL.out.1).trans (HL.out.2 (0 + j) v (by rw [Nat.zero_add]; exact hj))
  have h1 := (Ow.of (St.refl V0)).arr #[.int .i64 0, .int .i64 0, .int .i64 0, .int .i64 0, .int .i64 0, .int .i64 0, .int .i64 0, .int .i64 0, .slice none 0 0, .int .i64 0, .int .i64 0, .int .i64 0, .int .i64 0, .int .i64 0, .int .i64 0, .int .i64 0, .int .i64 0, .int .u8 0, .int .u8 0, .bool false, .int .i64 0, .int .i64 0, .int .i64 0, .int .i64 0, .bool false, .bool false] 26 rfl (by omega) 37
  simp only [List.nil_append] at h1
  have hg := (h1.rowHeap 0 rfl).1
  have h3 := h1.putRow (k := 26) 0 rfl #[.int .i64 3, .int .i64 n, .int .i64 0, .int .i64 0, .int .i64 0, .int .i64 0, .int .i64 0, .int .i64 0, .slice none 0 0, .int .i64 0, .int .i64 0, .int .i64 0, .int .i64 0, .int .i64 0, .int .i64 0, .int .i64 0, .int .i64 0, .int .u8 0, .int .u8 0, .bool false, .int .i64 0, .int .i64 0, .int .i64 0, .int .i64 0, .bool false, .bool false] rfl (by omega)
  simp only [List.set_cons_zero] at h3
  have hg2 := (h3.rowHeap 0 rfl).1
  have HC := Lib.hid hc
  have HG := Lib.hid hg
  have HG2 := Lib.hid hg2
  have HE := Lib.hid h3.below
  clear h1 h3 hg hg2 hc
  repeat (first | refine wpList_load_mid rfl 37 (.tmp 23) rfl lb 0 rfl [.int .i64 3, .int .i64 n, .int .i64 0, .int .i64 0, .int .i64 0, .int .i64 0, .int .i64 0, .int .i64 0, .slice none 0 0, .int .i64 0, .int .i64 0, .int .i64 0, .int .i64 0, .int .i64 0, .int .i64 0, .int .i64 0, .int .i64 0, .int .u8 0, .int .u8 0, .bool false, .int .i64 0, .int .i64 0, .int .i64 0, .int .i64 0, .bool false, .bool false] _ HC.out Tryd.underlying37 rfl sizeEv ?_ | refine wpList_store_row rfl 37 (.tmp 8) (.tmp 24) rfl V0.heap.size #[.int .i64 3, .int .i64 n, .int .i64 0, .int .i64 0, .int .i64 0, .int .i64 0, .int .i64 0, .int .i64 0, .slice none 0 0, .int .i64 0, .int .i64 0, .int .i64 0, .int .i64 0, .int .i64 0, .int .i64 0, .int .i64 0, .int .i64 0, .int .u8 0, .int .u8 0, .bool false, .int .i64 0, .int .i64 0, .int .i64 0, .int .i64 0, .bool false, .bool false] rfl rfl 37 _ HG.out sizeEv rfl (by simp [Value.oneCell']) ?_ | refine wpList_load_row rfl 37 (.tmp 8) rfl V0.heap.size rfl 37 #[.int .i64 3, .int .i64 n, .int .i64 0, .int .i64 0, .int .i64 0, .int .i64 0, .int .i64 0, .int .i64 0, .slice none 0 0, .int .i64 0, .int .i64 0, .int .i64 0, .int .i64 0, .int .i64 0, .int .i64 0, .int .i64 0, .int .i64 0, .int .u8 0, .int .u8 0, .bool false, .int .i64 0, .int .i64 0, .int .i64 0, .int .i64 0, .bool false, .bool false] (0, 0) _ HG2.out Tryd.underlying37 rfl sizeEv ?_ | go_step)
  clear HG HG2 HC
  refine (format_late 1 _ n h0 h1).mono ?_
  rintro e wd ⟨rfl, hb4⟩
  have HV := Lib.hid (HE.out.trans (below_less hb4 HE.out.size))
  clear hb4 HE
  go_wp2_with (with_reducible refine upon_id ?_; go_simp)
  have HF := Lib.hid (HW0.out.trans (below_less HV.out HW0.out.size))
  refine bodyPost_ret (v := .tuple #[.string ⟨#[]⟩, .int .i64 47]) (by simp [results, Tryd.results6]) rfl ?_
  exact ⟨rfl, HF.out⟩
set_option maxHeartbeats 4000000 in
/-- a write and a flush -/
theorem fmt_two (w : World) (db c : Nat) (lb lc : Nat) (hlb : lb < w.heap.size) (hl : ∀ j v, ([.int .i64 1, .int .i64 0, .int .i64 0, .int .i64 2, .int .i64 1, .int .i64 0, .int .i64 3, .int .i64 0, .slice (some ⟨db, 0, none⟩) 2 c, .int .i64 0, .int .i64 0, .int .i64 0, .int .i64 0, .int .i64 0, .int .i64 0, .int .i64 0, .int .i64 0, .int .u8 0, .int .u8 0, .bool false, .int .i64 0, .int .i64 0, .int .i64 0, .int .i64 0, .bool false, .bool false, .int .i64 6, .int .i64 0, .int .i64 0, .int .i64 0, .int .i64 0, .int .i64 0, .int .i64 0, .int .i64 0, .slice none 0 0, .int .i64 0, .int .i64 0, .int .i64 0, .int .i64 0, .int .i64 0, .int .i64 0, .int .i64 0, .int .i64 0, .int .u8 0, .int .u8 0, .bool false, .int .i64 0, .int .i64 0, .int .i64 0, .int .i64 0, .bool false, .bool false] : List Value)[j]? = some v → w.cell? ⟨lb, j, none⟩ = some v) (hdb : db < w.heap.size) (c0 : w.cell? ⟨db, 0, none⟩ = some (.int .u8 0)) (c1 : w.cell? ⟨db, 1, none⟩ = some (.int .u8 255)) :
    Calls Tryd.prog 6 #[.int .i64 2, .slice (some ⟨lb, 0, none⟩) 2 lc] w fun e w' => e = .returned (.tuple #[.string ⟨#[119, 114, 105, 116, 101, 32, 49, 32, 48, 32, 51, 32, 48, 48, 102, 102, 10, 102, 108, 117, 115, 104, 10]⟩, .int .i64 0]) ∧ Below w.heap.size w w' := by
  have HL := Lib.hid (And.intro hlb hl)
  have HB0 := Lib.hid (Lib.fresh_isBuilder 48 5 w)
  have HW0 := Lib.hid (below_allocX (Below.refl w.heap.size w) (.cells #[.pointer none, .slice none 0 0] 48))
  have HD := Lib.hid (And.intro hdb (And.intro c0 c1))
  clear hlb hl hdb c0 c1
  go_enter Tryd.func6, Tryd.ntmps6
  go_wp2_with (first | (go_at_call 11; refine (sized_any _ _).mono ?_; rintro e w' ⟨rfl, hw⟩; have hw := hw.symm; subst hw) | (with_reducible refine upon_id ?_; go_simp))
  generalize hV0 : w.alloc (.cells #[.pointer none, .slice none 0 0] 48) = V0 at *
  clear hV0
  refine wp_loop_rounds 3 ?_
  rw [rounds_succ]
  go_upto_region 8 with (with_reducible refine upon_id ?_; go_simp)
  have hc : World.rangeAt V0 lb 0 [.int .i64 1, .int .i64 0, .int .i64 0, .int .i64 2, .int .i64 1, .int .i64 0, .int .i64 3, .int .i64 0, .slice (some ⟨db, 0, none⟩) 2 c, .int .i64 0, .int .i64 0, .int .i64 0, .int .i64 0, .int .i64 0, .int .i64 0, .int .i64 0, .int .i64 0, .int .u8 0, .int .u8 0, .bool false, .int .i64 0, .int .i64 0, .int .i64 0, .int .i64 0, .bool false, .bool false] := fun j v hj => (HW0.out.cell HL.out.1).trans (HL.out.2 (0 + j) v (by rw [Nat.zero_add]; exact (List.getElem?_append_left (l₂ := ([.int .i64 6, .int .i64 0, .int .i64 0, .int .i64 0, .int .i64 0, .int .i64 0, .int .i64 0, .int .i64 0, .slice none 0 0, .int .i64 0, .int .i64 0, .int .i64 0, .int .i64 0, .int .i64 0, .int .i64 0, .int .i64 0, .int .i64 0, .int .u8 0, .int .u8 0, .bool false, .int .i64 0, .int .i64 0, .int .i64 0, .int .i64 0, .bool false, .bool false] : List Value)) (get_lt hj)).trans hj))
  have h1 := (Ow.of (St.refl V0)).arr #[.int .i64 0, .int .i64 0, .int .i64 0, .int .i64 0, .int .i64 0, .int .i64 0, .int .i64 0, .int .i64 0, .slice none 0 0, .int .i64 0, .int .i64 0, .int .i64 0, .int .i64 0, .int .i64 0, .int .i64 0, .int .i64 0, .int .i64 0, .int .u8 0, .int .u8 0, .bool false, .int .i64 0, .int .i64 0, .int .i64 0, .int .i64 0, .bool false, .bool false] 26 rfl (by omega) 37
  simp only [List.nil_append] at h1
  have hg := (h1.rowHeap 0 rfl).1
  have h3 := h1.putRow (k := 26) 0 rfl #[.int .i64 1, .int .i64 0, .int .i64 0, .int .i64 2, .int .i64 1, .int .i64 0, .int .i64 3, .int .i64 0, .slice (some ⟨db, 0, none⟩) 2 c, .int .i64 0, .int .i64 0, .int .i64 0, .int .i64 0, .int .i64 0, .int .i64 0, .int .i64 0, .int .i64 0, .int .u8 0, .int .u8 0, .bool false, .int .i64 0, .int .i64 0, .int .i64 0, .int .i64 0, .bool false, .bool false] rfl (by omega)
  simp only [List.set_cons_zero] at h3
  have hg2 := (h3.rowHeap 0 rfl).1
  have HC := Lib.hid hc
  have HG := Lib.hid hg
  have HG2 := Lib.hid hg2
  have HE := Lib.hid h3.below
  clear h1 h3 hg hg2 hc
  repeat (first | refine wpList_load_mid rfl 37 (.tmp 23) rfl lb 0 rfl [.int .i64 1, .int .i64 0, .int .i64 0, .int .i64 2, .int .i64 1, .int .i64 0, .int .i64 3, .int .i64 0, .slice (some ⟨db, 0, none⟩) 2 c, .int .i64 0, .int .i64 0, .int .i64 0, .int .i64 0, .int .i64 0, .int .i64 0, .int .i64 0, .int .i64 0, .int .u8 0, .int .u8 0, .bool false, .int .i64 0, .int .i64 0, .int .i64 0, .int .i64 0, .bool false, .bool false] _ HC.out Tryd.underlying37 rfl sizeEv ?_ | refine wpList_store_row rfl 37 (.tmp 8) (.tmp 24) rfl V0.heap.size #[.int .i64 1, .int .i64 0, .int .i64 0, .int .i64 2, .int .i64 1, .int .i64 0, .int .i64 3, .int .i64 0, .slice (some ⟨db, 0, none⟩) 2 c, .int .i64 0, .int .i64 0, .int .i64 0, .int .i64 0, .int .i64 0, .int .i64 0, .int .i64 0, .int .i64 0, .int .u8 0, .int .u8 0, .bool false, .int .i64 0, .int .i64 0, .int .i64 0, .int .i64 0, .bool false, .bool false] rfl rfl 37 _ HG.out sizeEv rfl (by simp [Value.oneCell']) ?_ | refine wpList_load_row rfl 37 (.tmp 8) rfl V0.heap.size rfl 37 #[.int .i64 1, .int .i64 0, .int .i64 0, .int .i64 2, .int .i64 1, .int .i64 0, .int .i64 3, .int .i64 0, .slice (some ⟨db, 0, none⟩) 2 c, .int .i64 0, .int .i64 0, .int .i64 0, .int .i64 0, .int .i64 0, .int .i64 0, .int .i64 0, .int .i64 0, .int .u8 0, .int .u8 0, .bool false, .int .i64 0, .int .i64 0, .int .i64 0, .int .i64 0, .bool false, .bool false] (0, 0) _ HG2.out Tryd.underlying37 rfl sizeEv ?_ | go_step)
  clear HG HG2 HC
  refine (format_two _ db c (Nat.lt_of_lt_of_le HD.out.1 (HW0.out.trans (below_less HE.out HW0.out.size)).size) (((HW0.out.trans (below_less HE.out HW0.out.size)).cell HD.out.1).trans HD.out.2.1) (((HW0.out.trans (below_less HE.out HW0.out.size)).cell HD.out.1).trans HD.out.2.2)).mono ?_
  rintro e wd ⟨rfl, hb4⟩
  have HV := Lib.hid (HE.out.trans (below_less hb4 HE.out.size))
  clear hb4 HE
  have hbb := builder_go HB0.out HV.out
  have HBn := Lib.hid hbb
  clear hbb
  go_wp2_with (with_reducible refine upon_id ?_; go_simp)
  refine (bwrite_any w.heap.size w.heap.size _ _ _ HBn.out (by decide +kernel) (Nat.le_trans HW0.out.size HV.out.size)).mono ?_
  rintro e V1 ⟨rfl, hbn, hwn⟩
  have HB1 := Lib.hid hbn
  have HW1 := Lib.hid ((HW0.out.trans (below_less HV.out HW0.out.size)).trans hwn)
  clear hbn hwn HV HBn
  go_wp2_with (with_reducible refine upon_id ?_; go_simp)
  rw [rounds_succ]
  go_upto_region 8 with (with_reducible refine upon_id ?_; go_simp)
  have hc : World.rangeAt V1 lb 26 [.int .i64 6, .int .i64 0, .int .i64 0, .int .i64 0, .int .i64 0, .int .i64 0, .int .i64 0, .int .i64 0, .slice none 0 0, .int .i64 0, .int .i64 0, .int .i64 0, .int .i64 0, .int .i64 0, .int .i64 0, .int .i64 0, .int .i64 0, .int .u8 0, .int .u8 0, .bool false, .int .i64 0, .int .i64 0, .int .i64 0, .int .i64 0, .bool false, .bool false] := fun j v hj => (HW1.out.cell HL.out.1).trans (HL.out.2 (26 + j) v ((get_r (α := Value) [.int .i64 1, .int .i64 0, .int .i64 0, .int .i64 2, .int .i64 1, .int .i64 0, .int .i64 3, .int .i64 0, .slice (some ⟨db, 0, none⟩) 2 c, .int .i64 0, .int .i64 0, .int .i64 0, .int .i64 0, .int .i64 0, .int .i64 0, .int .i64 0, .int .i64 0, .int .u8 0, .int .u8 0, .bool false, .int .i64 0, .int .i64 0, .int .i64 0, .int .i64 0, .bool false, .bool false] [.int .i64 6, .int .i64 0, .int .i64 0, .int .i64 0, .int .i64 0, .int .i64 0, .int .i64 0, .int .i64 0, .slice none 0 0, .int .i64 0, .int .i64 0, .int .i64 0, .int .i64 0, .int .i64 0, .int .i64 0, .int .i64 0, .int .i64 0, .int .u8 0, .int .u8 0, .bool false, .int .i64 0, .int .i64 0, .int .i64 0, .int .i64 0, .bool false, .bool false] j).trans hj))
  have h1 := (Ow.of (St.refl V1)).arr #[.int .i64 0, .int .i64 0, .int .i64 0, .int .i64 0, .int .i64 0, .int .i64 0, .int .i64 0, .int .i64 0, .slice none 0 0, .int .i64 0, .int .i64 0, .int .i64 0, .int .i64 0, .int .i64 0, .int .i64 0, .int .i64 0, .int .i64 0, .int .u8 0, .int .u8 0, .bool false, .int .i64 0, .int .i64 0, .int .i64 0, .int .i64 0, .bool false, .bool false] 26 rfl (by omega) 37
  simp only [List.nil_append] at h1
  have hg := (h1.rowHeap 0 rfl).1
  have h3 := h1.putRow (k := 26) 0 rfl #[.int .i64 6, .int .i64 0, .int .i64 0, .int .i64 0, .int .i64 0, .int .i64 0, .int .i64 0, .int .i64 0, .slice none 0 0, .int .i64 0, .int .i64 0, .int .i64 0, .int .i64 0, .int .i64 0, .int .i64 0, .int .i64 0, .int .i64 0, .int .u8 0, .int .u8 0, .bool false, .int .i64 0, .int .i64 0, .int .i64 0, .int .i64 0, .bool false, .bool false] rfl (by omega)
  simp only [List.set_cons_zero] at h3
  have hg2 := (h3.rowHeap 0 rfl).1
  have HC := Lib.hid hc
  have HG := Lib.hid hg
  have HG2 := Lib.hid hg2
  have HE := Lib.hid h3.below
  clear h1 h3 hg hg2 hc
  repeat (first | refine wpList_load_mid rfl 37 (.tmp 23) rfl lb 26 rfl [.int .i64 6, .int .i64 0, .int .i64 0, .int .i64 0, .int .i64 0, .int .i64 0, .int .i64 0, .int .i64 0, .slice none 0 0, .int .i64 0, .int .i64 0, .int .i64 0, .int .i64 0, .int .i64 0, .int .i64 0, .int .i64 0, .int .i64 0, .int .u8 0, .int .u8 0, .bool false, .int .i64 0, .int .i64 0, .int .i64 0, .int .i64 0, .bool false, .bool false] _ HC.out Tryd.underlying37 rfl sizeEv ?_ | refine wpList_store_row rfl 37 (.tmp 8) (.tmp 24) rfl V1.heap.size #[.int .i64 6, .int .i64 0, .int .i64 0, .int .i64 0, .int .i64 0, .int .i64 0, .int .i64 0, .int .i64 0, .slice none 0 0, .int .i64 0, .int .i64 0, .int .i64 0, .int .i64 0, .int .i64 0, .int .i64 0, .int .i64 0, .int .i64 0, .int .u8 0, .int .u8 0, .bool false, .int .i64 0, .int .i64 0, .int .i64 0, .int .i64 0, .bool false, .bool false] rfl rfl 37 _ HG.out sizeEv rfl (by simp [Value.oneCell']) ?_ | refine wpList_load_row rfl 37 (.tmp 8) rfl V1.heap.size rfl 37 #[.int .i64 6, .int .i64 0, .int .i64 0, .int .i64 0, .int .i64 0, .int .i64 0, .int .i64 0, .int .i64 0, .slice none 0 0, .int .i64 0, .int .i64 0, .int .i64 0, .int .i64 0, .int .i64 0, .int .i64 0, .int .i64 0, .int .i64 0, .int .u8 0, .int .u8 0, .bool false, .int .i64 0, .int .i64 0, .int .i64 0, .int .i64 0, .bool false, .bool false] (0, 0) _ HG2.out Tryd.underlying37 rfl sizeEv ?_ | go_step)
  clear HG HG2 HC
  refine (format_flush 2 _).mono ?_
  rintro e wd ⟨rfl, hb4⟩
  have HV := Lib.hid (HE.out.trans (below_less hb4 HE.out.size))
  clear hb4 HE
  have hbb := builder_go HB1.out HV.out
  have HBn := Lib.hid hbb
  clear hbb
  go_wp2_with (with_reducible refine upon_id ?_; go_simp)
  refine (bwrite_any w.heap.size w.heap.size _ _ _ HBn.out (by decide +kernel) (Nat.le_trans HW1.out.size HV.out.size)).mono ?_
  rintro e V2 ⟨rfl, hbn, hwn⟩
  have HB2 := Lib.hid hbn
  have HW2 := Lib.hid ((HW1.out.trans (below_less HV.out HW1.out.size)).trans hwn)
  clear hbn hwn HV HBn
  go_wp2_with (with_reducible refine upon_id ?_; go_simp)
  rw [rounds_succ]
  go_wp2_with (with_reducible refine upon_id ?_; go_simp)
  have hst := Tryd.Builder_String_any w.heap.size w.heap.size (⟨#[119, 114, 105, 116, 101, 32, 49, 32, 48, 32, 51, 32, 48, 48, 102, 102, 10, 102, 108, 117, 115, 104, 10]⟩ : ByteArray).data.toList V2 HB2.out HW2.out.size
  refine hst.mono ?_
  rintro e V3 ⟨rfl, hb2⟩
  have HF := Lib.hid (HW2.out.trans hb2)
  clear hb2
  go_wp2_with (with_reducible refine upon_id ?_; go_simp)
  refine bodyPost_ret (v := .tuple #[.string ⟨#[119, 114, 105, 116, 101, 32, 49, 32, 48, 32, 51, 32, 48, 48, 102, 102, 10, 102, 108, 117, 115, 104, 10]⟩, .int .i64 0]) (by simp [results, Tryd.results6]) rfl ?_
  exact ⟨rfl, HF.out⟩
end Go.Proofs.YtpcmbmabmfghkaaDoor
