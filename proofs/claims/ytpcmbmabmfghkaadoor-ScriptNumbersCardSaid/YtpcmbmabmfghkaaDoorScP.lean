/- script.Parse at some texts. -/
import Derived.Test.YtpcmbmabmfghkaaDoorScO
namespace Go.Proofs.YtpcmbmabmfghkaaDoor
open Go.RowKit
set_option linter.unusedVariables false
set_option maxRecDepth 100000
theorem infoEv : (Tryd.prog.info? 37).map (fun i => (i.zero.map (fun z => z.cells.size), i.size, i.bytes)) = some (some 26, 26, 200) := by kernel_rfl
theorem elemEv : ElemX Tryd.prog 38 37 26 200 := by
  have h := infoEv
  obtain ⟨i, hi⟩ : ∃ i, Tryd.prog.info? 37 = some i := by
    cases e : Tryd.prog.info? 37 with
    | none => rw [e] at h; cases h
    | some i => exact ⟨i, rfl⟩
  rw [hi] at h
  simp only [Option.map_some, Option.some.injEq, Prod.mk.injEq] at h
  obtain ⟨h1, h2, h3⟩ := h
  obtain ⟨z, hz⟩ : ∃ z, i.zero = some z := by
    cases e : i.zero with
    | none => rw [e] at h1; cases h1
    | some z => exact ⟨z, rfl⟩
  rw [hz] at h1
  exact ⟨Tryd.underlying38, by omega, i, z, hi, hz, h2, h3, by simpa using h1⟩
theorem below_less {B B' : Nat} {w w' : World} (h : Below B w w') (hB : B' ≤ B) : Below B' w w' := ⟨h.os, h.tape, h.output, h.size, fun k hk => h.block k (Nat.lt_of_lt_of_le hk hB)⟩
theorem Ox.addO {w0 w w' : World} {g : Option Nat} {M : List (Nat × Value)} {L : List Ob} {O : List Rw} {X : List Rx} (h : Ox w0 w g M L O X) {A : Option Addr} {n c : Nat} {e : TypeId} {vs : List Value} (ho : w'.ownsRow w.heap.size e 1 (.slice A n c) n vs) (hb : Below w.heap.size w w') : Ox w0 w' g M L (O ++ [⟨A, n, c, e, vs⟩]) X := by
  have h' := h.go hb
  refine ⟨h.ow.add ho hb, h'.own, fun i r hi b hbk => ?_, h'.two⟩
  obtain ⟨a1, a2, a3, a4⟩ := h'.ap i r hi b hbk
  refine ⟨a1, a2, a3, fun j q hj hq => ?_⟩
  by_cases hlt : j < O.length
  · exact a4 j q (by rw [List.getElem?_append_left hlt] at hj; exact hj) hq
  · have h1 := (h.lt hi hbk).1
    have hjk : j - O.length = 0 := by
      have := get_lt hj
      rw [List.length_append, List.length_singleton] at this
      omega
    rw [List.getElem?_append_right (by omega), hjk] at hj
    injection hj with hj
    subst hj
    have h2 := (ho.lt b hq).1
    omega
set_option maxHeartbeats 4000000 in
/-- the script of one time -/
theorem parse_time (w : World) (n : Int) (d s : ByteArray) (h0 : 0 ≤ n) (h1 : n ≤ 1099511627776) (hd : d.size ≤ 1000) (hne : (s.toList == []) = false) (hsz : decide (65536 < (s.size : Int)) = false)
    (HC : ∀ W, Below w.heap.size w W → Calls Tryd.prog 15 #[.string s, .string ⟨#[10]⟩] W fun e W' => e = .returned (.tuple #[.string (⟨#[116, 105, 109, 101]⟩ ++ (⟨#[32]⟩ ++ d)), .string ⟨#[]⟩, .bool true]) ∧ Below W.heap.size W W')
    (HS : ∀ W, Below w.heap.size w W → Calls Tryd.prog 16 #[.string (⟨#[116, 105, 109, 101]⟩ ++ (⟨#[32]⟩ ++ d)), .string ⟨#[32]⟩] W fun e W' => e = .returned (.slice (some ⟨W.heap.size, 0, none⟩) 2 2) ∧ W' = W.alloc (.cells #[.string ⟨#[116, 105, 109, 101]⟩, .string d] 9))
    (HA : ∀ W, Calls Tryd.prog 52 #[.string d] W fun e W' => e = .returned (.tuple #[.int .i64 n, .nilIface]) ∧ Below W.heap.size W W')
    (HI : ∀ W, Below w.heap.size w W → Calls Tryd.prog 24 #[.int .i64 n] W fun e W' => e = .returned (.string d) ∧ Below W.heap.size W W') :
    Calls Tryd.prog 8 #[.int .i64 1, .string s] w fun e w' => ∃ (A : Option Addr) (c : Nat), e = .returned (.tuple #[.slice A 1 c, .int .i64 0]) ∧ Ox w w' none [] [] [] [⟨A, 1, c, 37, 26, [.int .i64 3, .int .i64 n, .int .i64 0, .int .i64 0, .int .i64 0, .int .i64 0, .int .i64 0, .int .i64 0, .slice none 0 0, .int .i64 0, .int .i64 0, .int .i64 0, .int .i64 0, .int .i64 0, .int .i64 0, .int .i64 0, .int .i64 0, .int .u8 0, .int .u8 0, .bool false, .int .i64 0, .int .i64 0, .int .i64 0, .int .i64 0, .bool false, .bool false]⟩] := by
  have HX0 := Lib.hid ((Ox.of (Ow.of (St.refl w))).nilX 37 26)
  go_enter Tryd.func8, Tryd.ntmps8
  go_wp2_with (first | (go_at_call 11; refine (sized_any _ _).mono ?_; rintro e w' ⟨rfl, rfl⟩) | (with_reducible refine upon_id ?_; go_simp))
  refine wp_loop_rounds 2 ?_
  rw [rounds_succ]
  go_wp2_with (with_reducible refine upon_id ?_; go_simp)
  refine (HC _ (HX0.out.ow.below)).mono ?_
  rintro e wa0 ⟨rfl, hba⟩
  have HY0 := Lib.hid (HX0.out.go hba)
  clear hba
  go_wp2_with (with_reducible refine upon_id ?_; go_simp)
  refine (HS _ (HY0.out.ow.below)).mono ?_
  rintro e wb ⟨rfl, rfl⟩
  have h1 := ((Ow.of (St.refl wa0)).arr #[.string ⟨#[116, 105, 109, 101]⟩, .string d] 2 rfl (by omega) 9).arr #[.slice (some ⟨wa0.heap.size, 0, none⟩) 2 2, .bool false] 2 rfl (by omega) 62
  simp only [World.size_alloc, List.cons_append, List.nil_append] at h1
  have HR := Lib.hid h1
  clear h1
  go_wp2_with (with_reducible refine upon_id ?_; go_simp)
  refine (event_time (wa0.heap.size + 1) n HR.out (O' := [(⟨some ⟨wa0.heap.size, 0, none⟩, 2, 2, 9, [.string ⟨#[116, 105, 109, 101]⟩, .string d]⟩ : Rw), (⟨some ⟨(wa0.heap.size + 1), 0, none⟩, 2, 2, 62, [.slice (some ⟨wa0.heap.size, 1, none⟩) 1 1, .bool false]⟩ : Rw)]) (O'' := [(⟨some ⟨wa0.heap.size, 0, none⟩, 2, 2, 9, [.string ⟨#[116, 105, 109, 101]⟩, .string d]⟩ : Rw), (⟨some ⟨(wa0.heap.size + 1), 0, none⟩, 2, 2, 62, [.slice (some ⟨wa0.heap.size, 1, none⟩) 0 0, .bool false]⟩ : Rw)]) (fun w1 r hr => next_more hr 1 0 (wa0.heap.size + 1) wa0.heap.size 0 0 2 2 _ _ _ rfl rfl rfl (by omega)) (fun w1 r hr => number_ok (wa0.heap.size + 1) d n h0 h1 (next_last hr 1 0 (wa0.heap.size + 1) wa0.heap.size 1 2 2 _ _ _ rfl rfl rfl) (fun w2 _ => HA w2) (fun w2 h2 => HI w2 (HY0.out.ow.below.trans (below_less h2.below HY0.out.size))))).mono ?_
  rintro e wc0 ⟨rfl, ho⟩
  have h2 := ho.arr #[.int .i64 0, .int .i64 0, .int .i64 0, .int .i64 0, .int .i64 0, .int .i64 0, .int .i64 0, .int .i64 0, .slice none 0 0, .int .i64 0, .int .i64 0, .int .i64 0, .int .i64 0, .int .i64 0, .int .i64 0, .int .i64 0, .int .i64 0, .int .u8 0, .int .u8 0, .bool false, .int .i64 0, .int .i64 0, .int .i64 0, .int .i64 0, .bool false, .bool false] 26 rfl (by omega) 37
  simp only [List.cons_append, List.nil_append] at h2
  have hg := (h2.rowHeap 2 rfl).1
  have h3 := h2.putRow (k := 26) 2 rfl #[.int .i64 3, .int .i64 n, .int .i64 0, .int .i64 0, .int .i64 0, .int .i64 0, .int .i64 0, .int .i64 0, .slice none 0 0, .int .i64 0, .int .i64 0, .int .i64 0, .int .i64 0, .int .i64 0, .int .i64 0, .int .i64 0, .int .i64 0, .int .u8 0, .int .u8 0, .bool false, .int .i64 0, .int .i64 0, .int .i64 0, .int .i64 0, .bool false, .bool false] rfl (by omega)
  simp only [List.set_cons_zero, List.set_cons_succ] at h3
  have hg2 := (h3.rowHeap 2 rfl).1
  have HG := Lib.hid hg
  have HG2 := Lib.hid hg2
  have HE := Lib.hid h3
  clear h2 h3 hg hg2 ho HR
  dsimp only
  repeat (first | refine wpList_store_row rfl 37 (.tmp 11) (.tmp 35) rfl wc0.heap.size #[.int .i64 3, .int .i64 n, .int .i64 0, .int .i64 0, .int .i64 0, .int .i64 0, .int .i64 0, .int .i64 0, .slice none 0 0, .int .i64 0, .int .i64 0, .int .i64 0, .int .i64 0, .int .i64 0, .int .i64 0, .int .i64 0, .int .i64 0, .int .u8 0, .int .u8 0, .bool false, .int .i64 0, .int .i64 0, .int .i64 0, .int .i64 0, .bool false, .bool false] rfl rfl 37 _ HG.out sizeEv rfl (by simp [Value.oneCell']) ?_ | refine wpList_load_row rfl 37 (.tmp 11) rfl wc0.heap.size rfl 37 #[.int .i64 3, .int .i64 n, .int .i64 0, .int .i64 0, .int .i64 0, .int .i64 0, .int .i64 0, .int .i64 0, .slice none 0 0, .int .i64 0, .int .i64 0, .int .i64 0, .int .i64 0, .int .i64 0, .int .i64 0, .int .i64 0, .int .i64 0, .int .u8 0, .int .u8 0, .bool false, .int .i64 0, .int .i64 0, .int .i64 0, .int .i64 0, .bool false, .bool false] (0, 0) _ HG2.out Tryd.underlying37 rfl sizeEv ?_ | go_step)
  clear HG HG2
  refine (format_time 1 _ n d h0 h1 hd (fun w2 h2 => HI w2 ((HY0.out.ow.below.trans (below_less HE.out.below HY0.out.size)).trans (below_less h2 (Nat.le_trans HY0.out.size HE.out.size))))).mono ?_
  rintro e wd0 ⟨rfl, hb4⟩
  have HF := Lib.hid (HE.out.go hb4)
  clear hb4 HE
  have yb : wd0.cell? ⟨(wa0.heap.size + 1), 1, none⟩ = some (.bool false) := (HF.out.row 1 rfl).cellAt 1 (by decide)
  have HZ := Lib.hid ((HY0.out.go HF.out.below))
  have hg := (HF.out.rowHeap 2 rfl).1
  have HG := Lib.hid hg
  clear hg
  go_upto_region 13 with (with_reducible refine upon_id ?_; go_simp)
  have h5 := HF.out.arr #[.int .i64 3, .int .i64 n, .int .i64 0, .int .i64 0, .int .i64 0, .int .i64 0, .int .i64 0, .int .i64 0, .slice none 0 0, .int .i64 0, .int .i64 0, .int .i64 0, .int .i64 0, .int .i64 0, .int .i64 0, .int .i64 0, .int .i64 0, .int .u8 0, .int .u8 0, .bool false, .int .i64 0, .int .i64 0, .int .i64 0, .int .i64 0, .bool false, .bool false] 26 rfl (by omega) 37
  have hz := HZ.out.go (w' := wd0.alloc (.cells #[.int .i64 3, .int .i64 n, .int .i64 0, .int .i64 0, .int .i64 0, .int .i64 0, .int .i64 0, .int .i64 0, .slice none 0 0, .int .i64 0, .int .i64 0, .int .i64 0, .int .i64 0, .int .i64 0, .int .i64 0, .int .i64 0, .int .i64 0, .int .u8 0, .int .u8 0, .bool false, .int .i64 0, .int .i64 0, .int .i64 0, .int .i64 0, .bool false, .bool false] 37)) (below_allocX (Below.refl _ _) _)
  have H5 := Lib.hid h5
  have H6 := Lib.hid hz
  clear h5 hz
  repeat (first | refine wpList_load_row rfl 37 (.tmp 11) rfl wc0.heap.size rfl 37 #[.int .i64 3, .int .i64 n, .int .i64 0, .int .i64 0, .int .i64 0, .int .i64 0, .int .i64 0, .int .i64 0, .slice none 0 0, .int .i64 0, .int .i64 0, .int .i64 0, .int .i64 0, .int .i64 0, .int .i64 0, .int .i64 0, .int .i64 0, .int .u8 0, .int .u8 0, .bool false, .int .i64 0, .int .i64 0, .int .i64 0, .int .i64 0, .bool false, .bool false] (0, 0) _ HG.out Tryd.underlying37 rfl sizeEv ?_ | refine ox_append elemEv H6.out 0 (.tmp 59) (.tmp 61) (m := 1) (news := [.int .i64 3, .int .i64 n, .int .i64 0, .int .i64 0, .int .i64 0, .int .i64 0, .int .i64 0, .int .i64 0, .slice none 0 0, .int .i64 0, .int .i64 0, .int .i64 0, .int .i64 0, .int .i64 0, .int .i64 0, .int .i64 0, .int .i64 0, .int .u8 0, .int .u8 0, .bool false, .int .i64 0, .int .i64 0, .int .i64 0, .int .i64 0, .bool false, .bool false]) rfl rfl (fun j u hu => (H5.out.row 3 rfl).cells rfl j u hu) (by intro u hu; simp at hu; rcases hu with rfl | rfl | rfl | rfl | rfl | rfl | rfl | rfl | rfl | rfl | rfl | rfl | rfl | rfl | rfl | rfl | rfl | rfl | rfl | rfl | rfl | rfl | rfl | rfl | rfl | rfl <;> rfl) (by unfold maxLen; omega) (by omega) rfl rfl rfl rfl ?_; intro A1 c1 w1 how; have HX1 := Lib.hid how; clear how | go_step)
  rw [rounds_succ]
  go_wp2_with (with_reducible refine upon_id ?_; go_simp)
  refine bodyPost_ret (v := .tuple #[.slice A1 1 c1, .int .i64 0]) (by simp [results, Tryd.results8]) rfl ?_
  exact ⟨A1, c1, rfl, HX1.out⟩
set_option maxHeartbeats 4000000 in
/-- a time that is not written as it should be -/
theorem parse_late (w : World) (n : Int) (d t s T : ByteArray) (htd : (t.toList == d.toList) = false) (hne : (s.toList == []) = false) (hsz : decide (65536 < (s.size : Int)) = false)
    (HC : ∀ W, Below w.heap.size w W → Calls Tryd.prog 15 #[.string s, .string ⟨#[10]⟩] W fun e W' => e = .returned (.tuple #[.string T, .string ⟨#[]⟩, .bool true]) ∧ Below W.heap.size W W')
    (HS : ∀ W, Below w.heap.size w W → Calls Tryd.prog 16 #[.string T, .string ⟨#[32]⟩] W fun e W' => e = .returned (.slice (some ⟨W.heap.size, 0, none⟩) 2 2) ∧ W' = W.alloc (.cells #[.string ⟨#[116, 105, 109, 101]⟩, .string d] 9))
    (HA : ∀ W, Calls Tryd.prog 52 #[.string d] W fun e W' => e = .returned (.tuple #[.int .i64 n, .nilIface]) ∧ Below W.heap.size W W')
    (HI : ∀ W, Below w.heap.size w W → Calls Tryd.prog 24 #[.int .i64 n] W fun e W' => e = .returned (.string t) ∧ Below W.heap.size W W') :
    Calls Tryd.prog 8 #[.int .i64 1, .string s] w fun e w' => e = .returned (.tuple #[.slice none 0 0, .int .i64 49]) ∧ Below w.heap.size w w' := by
  have HX0 := Lib.hid ((Ox.of (Ow.of (St.refl w))).nilX 37 26)
  go_enter Tryd.func8, Tryd.ntmps8
  go_wp2_with (first | (go_at_call 11; refine (sized_any _ _).mono ?_; rintro e w' ⟨rfl, rfl⟩) | (with_reducible refine upon_id ?_; go_simp))
  refine wp_loop_rounds 2 ?_
  rw [rounds_succ]
  go_wp2_with (with_reducible refine upon_id ?_; go_simp)
  refine (HC _ (HX0.out.ow.below)).mono ?_
  rintro e wa0 ⟨rfl, hba⟩
  have HY0 := Lib.hid (HX0.out.go hba)
  clear hba
  go_wp2_with (with_reducible refine upon_id ?_; go_simp)
  refine (HS _ (HY0.out.ow.below)).mono ?_
  rintro e wb ⟨rfl, rfl⟩
  have h1 := ((Ow.of (St.refl wa0)).arr #[.string ⟨#[116, 105, 109, 101]⟩, .string d] 2 rfl (by omega) 9).arr #[.slice (some ⟨wa0.heap.size, 0, none⟩) 2 2, .bool false] 2 rfl (by omega) 62
  simp only [World.size_alloc, List.cons_append, List.nil_append] at h1
  have HR := Lib.hid h1
  clear h1
  go_wp2_with (with_reducible refine upon_id ?_; go_simp)
  refine (event_time (wa0.heap.size + 1) 0 HR.out (O' := [(⟨some ⟨wa0.heap.size, 0, none⟩, 2, 2, 9, [(.string ⟨#[116, 105, 109, 101]⟩), (.string d)]⟩ : Rw), (⟨some ⟨(wa0.heap.size + 1), 0, none⟩, 2, 2, 62, [.slice (some ⟨wa0.heap.size, 1, none⟩) 1 1, .bool false]⟩ : Rw)]) (O'' := [(⟨some ⟨wa0.heap.size, 0, none⟩, 2, 2, 9, [(.string ⟨#[116, 105, 109, 101]⟩), (.string d)]⟩ : Rw), (⟨some ⟨(wa0.heap.size + 1), 0, none⟩, 2, 2, 62, [.slice (some ⟨wa0.heap.size, 1, none⟩) 0 0, .bool true]⟩ : Rw)]) (fun w1 r hr => (next_more hr 1 0 (wa0.heap.size + 1) wa0.heap.size 0 0 2 2 _ _ _ rfl rfl rfl (by omega))) (fun w1 r hr => number_bad (wa0.heap.size + 1) 1 d t n (.slice (some ⟨wa0.heap.size, 1, none⟩) 0 0) (.bool false) (.inr (.inr htd)) (O' := [(⟨some ⟨wa0.heap.size, 0, none⟩, 2, 2, 9, [(.string ⟨#[116, 105, 109, 101]⟩), (.string d)]⟩ : Rw), (⟨some ⟨(wa0.heap.size + 1), 0, none⟩, 2, 2, 62, [.slice (some ⟨wa0.heap.size, 1, none⟩) 0 0, .bool false]⟩ : Rw), r]) rfl (next_last hr 1 0 (wa0.heap.size + 1) wa0.heap.size 1 2 2 _ _ _ rfl rfl rfl) (fun w2 _ => HA w2) (fun w2 h2 => HI w2 (HY0.out.ow.below.trans (below_less h2.below HY0.out.size))))).mono ?_
  rintro e wc0 ⟨rfl, ho⟩
  have h2 := ho.arr #[.int .i64 0, .int .i64 0, .int .i64 0, .int .i64 0, .int .i64 0, .int .i64 0, .int .i64 0, .int .i64 0, .slice none 0 0, .int .i64 0, .int .i64 0, .int .i64 0, .int .i64 0, .int .i64 0, .int .i64 0, .int .i64 0, .int .i64 0, .int .u8 0, .int .u8 0, .bool false, .int .i64 0, .int .i64 0, .int .i64 0, .int .i64 0, .bool false, .bool false] 26 rfl (by omega) 37
  simp only [List.cons_append, List.nil_append] at h2
  have hg := (h2.rowHeap 2 rfl).1
  have h3 := h2.putRow (k := 26) 2 rfl #[.int .i64 3, .int .i64 0, .int .i64 0, .int .i64 0, .int .i64 0, .int .i64 0, .int .i64 0, .int .i64 0, .slice none 0 0, .int .i64 0, .int .i64 0, .int .i64 0, .int .i64 0, .int .i64 0, .int .i64 0, .int .i64 0, .int .i64 0, .int .u8 0, .int .u8 0, .bool false, .int .i64 0, .int .i64 0, .int .i64 0, .int .i64 0, .bool false, .bool false] rfl (by omega)
  simp only [List.set_cons_zero, List.set_cons_succ] at h3
  have hg2 := (h3.rowHeap 2 rfl).1
  have HG := Lib.hid hg
  have HG2 := Lib.hid hg2
  have HE := Lib.hid h3
  clear h2 h3 hg hg2 ho HR
  dsimp only
  repeat (first | refine wpList_store_row rfl 37 (.tmp 11) (.tmp 35) rfl wc0.heap.size #[.int .i64 3, .int .i64 0, .int .i64 0, .int .i64 0, .int .i64 0, .int .i64 0, .int .i64 0, .int .i64 0, .slice none 0 0, .int .i64 0, .int .i64 0, .int .i64 0, .int .i64 0, .int .i64 0, .int .i64 0, .int .i64 0, .int .i64 0, .int .u8 0, .int .u8 0, .bool false, .int .i64 0, .int .i64 0, .int .i64 0, .int .i64 0, .bool false, .bool false] rfl rfl 37 _ HG.out sizeEv rfl (by simp [Value.oneCell']) ?_ | refine wpList_load_row rfl 37 (.tmp 11) rfl wc0.heap.size rfl 37 #[.int .i64 3, .int .i64 0, .int .i64 0, .int .i64 0, .int .i64 0, .int .i64 0, .int .i64 0, .int .i64 0, .slice none 0 0, .int .i64 0, .int .i64 0, .int .i64 0, .int .i64 0, .int .i64 0, .int .i64 0, .int .i64 0, .int .i64 0, .int .u8 0, .int .u8 0, .bool false, .int .i64 0, .int .i64 0, .int .i64 0, .int .i64 0, .bool false, .bool false] (0, 0) _ HG2.out Tryd.underlying37 rfl sizeEv ?_ | go_step)
  clear HG HG2
  refine (format_time 1 _ 0 ⟨#[48]⟩ (by omega) (by omega) (by decide) (fun w2 h2 => (itoa_0 w2).mono (fun e w3 h => ⟨h.1, by rw [h.2]; exact Below.refl _ _⟩))).mono ?_
  rintro e wd0 ⟨rfl, hb4⟩
  have HF := Lib.hid (HE.out.go hb4)
  clear hb4 HE
  have yb : wd0.cell? ⟨(wa0.heap.size + 1), 1, none⟩ = some (.bool true) := (HF.out.row 1 rfl).cellAt 1 (by decide)
  go_wp2_with (with_reducible refine upon_id ?_; go_simp)
  refine bodyPost_ret (v := .tuple #[.slice none 0 0, .int .i64 49]) (by simp [results, Tryd.results8]) rfl ?_
  exact ⟨rfl, HY0.out.ow.below.trans (below_less HF.out.below HY0.out.size)⟩
end Go.Proofs.YtpcmbmabmfghkaaDoor
