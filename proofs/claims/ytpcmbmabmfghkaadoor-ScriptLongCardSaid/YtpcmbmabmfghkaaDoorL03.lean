/- ScI -/
import Derived.Test.YtpcmbmabmfghkaaDoorL02
import Derived.Laws.CopyOwn
namespace Go.Proofs.YtpcmbmabmfghkaaDoor
open Go.RowKit
set_option linter.unusedVariables false
set_option maxRecDepth 100000
theorem sizeFa : (Tryd.prog.info? 33).map (·.size) = some 11 := by kernel_rfl
theorem sizeTr : (Tryd.prog.info? 35).map (·.size) = some 6 := by kernel_rfl
theorem sizePl : (Tryd.prog.info? 31).map (·.size) = some 6 := by kernel_rfl
theorem sizeOp : (Tryd.prog.info? 29).map (·.size) = some 6 := by kernel_rfl
/-- a block of k cells -/
def Cel (W : World) (b : Nat) (t : TypeId) (k : Nat) : Prop := ∃ old, W.heap[b]? = some (.cells old t (0, 0)) ∧ old.size = k
theorem Cel.lt {W : World} {b k : Nat} {t : TypeId} (h : Cel W b t k) : b < W.heap.size := by
  obtain ⟨old, h, -⟩ := h
  exact (Array.getElem?_eq_some_iff.1 h).1
theorem Cel.alloc {W : World} {b k : Nat} {t : TypeId} (h : Cel W b t k) (o : Obj) : Cel (W.alloc o) b t k := by
  have hl := h.lt
  obtain ⟨old, h, hk⟩ := h
  exact ⟨old, by rw [(MapKept.heap_alloc W o).2 b hl]; exact h, hk⟩
theorem Cel.new (W : World) (xs : Array Value) (t : TypeId) : Cel (W.alloc (.cells xs t)) W.heap.size t xs.size := ⟨xs, (MapKept.heap_alloc W _).1, rfl⟩
theorem Cel.row {W : World} {b c k : Nat} {t u : TypeId} {ys : Array Value} (h : Cel W b t k) (hc : Cel W c u ys.size) : Cel (W.setRow c ys) b t k := by
  obtain ⟨old, h, hk⟩ := h
  obtain ⟨old2, h2, hk2⟩ := hc
  by_cases e : b = c
  · subst e
    rw [h] at h2
    injection h2 with h2
    injection h2 with e1 e2 e3
    subst e1 e2
    exact ⟨ys, setRow_heap W b _ ys t (0, 0) h, by omega⟩
  · exact ⟨old, by rw [setRow_other W c b ys e]; exact h, hk⟩
theorem below_allocX {w0 w : World} (h : Below w0.heap.size w0 w) (o : Obj) : Below w0.heap.size w0 (w.alloc o) :=
  ⟨h.os, h.tape, h.output, by rw [World.size_alloc]; have := h.size; omega, fun k hk => ((MapKept.heap_alloc w o).2 k (by have := h.size; omega)).trans (h.block k hk)⟩
structure L1K (base : World) (eb : Nat) (Ld : Nat → Bool) (u0 u1 u2 u3 u4 u5 u6 u7 u8 u9 : Value) (W : World) : Prop where
  bw : Below base.heap.size base W
  h0 : Ld 0 = true → u0 = .pointer (some ⟨eb, 9, none⟩)
  h1 : Ld 1 = true → u1 = .agg #[.int .i64 0, .int .i64 0, .int .i64 0, .int .i64 0, .int .i64 0, .int .i64 0, .int .i64 0, .int .i64 0, .int .u8 0, .int .u8 0, .bool false]
  h2 : Ld 2 = true → u2 = .pointer (some ⟨eb, 20, none⟩)
  h3 : Ld 3 = true → u3 = .agg #[.int .i64 0, .int .i64 0, .int .i64 0, .int .i64 0, .bool false, .bool false]
  h4 : Ld 4 = true → u4 = .pointer (some ⟨eb, 9, none⟩)
  h5 : Ld 5 = true → u5 = .pointer (some ⟨eb, 10, none⟩)
  h6 : Ld 6 = true → u6 = .agg #[.int .i64 0, .int .i64 0, .int .i64 0, .int .i64 0, .int .i64 0, .int .i64 0]
  h7 : Ld 7 = true → ∃ b : Nat, (base.heap.size ≤ b ∧ Cel W b 33 11) ∧ u7 = .pointer (some ⟨b, 0, none⟩)
  h8 : Ld 8 = true → ∃ b : Nat, (base.heap.size ≤ b ∧ Cel W b 35 6) ∧ u8 = .pointer (some ⟨b, 0, none⟩)
  h9 : Ld 9 = true → ∃ b : Nat, (base.heap.size ≤ b ∧ Cel W b 31 6) ∧ u9 = .pointer (some ⟨b, 0, none⟩)
def L1I (base : World) (eb : Nat) (A0 : Act) (Ld : Nat → Bool) (a : Act) (W : World) : Prop :=
  ∃ (u0 u1 u2 u3 u4 u5 u6 u7 u8 u9 : Value), a = ((((((((((A0.put (some 10) u0).put (some 11) u1).put (some 12) u2).put (some 13) u3).put (some 14) u4).put (some 15) u5).put (some 16) u6).put (some 4) u7).put (some 5) u8).put (some 6) u9) ∧ L1K base eb Ld u0 u1 u2 u3 u4 u5 u6 u7 u8 u9 W
structure LSyncK (w0 : World) (eb : Nat) (Ld : Nat → Bool) (u0 u1 u2 u3 : Value) (W : World) : Prop where
  ow : Ow w0 W none [] [] [(⟨some ⟨eb, 0, none⟩, 26, 26, 37, [.int .i64 8, .int .i64 0, .int .i64 0, .int .i64 0, .int .i64 0, .int .i64 0, .int .i64 0, .int .i64 0, .slice none 0 0, .int .i64 0, .int .i64 0, .int .i64 0, .int .i64 0, .int .i64 0, .int .i64 0, .int .i64 0, .int .i64 0, .int .u8 0, .int .u8 0, .bool false, .int .i64 0, .int .i64 0, .int .i64 0, .int .i64 0, .bool false, .bool false]⟩ : Rw), (⟨some ⟨(eb + 1), 0, none⟩, 3, 3, 69, (cond (Ld 4) [.string ⟨#[115, 121, 110, 99]⟩, .slice none 0 0, .string ⟨#[]⟩] [.string ⟨#[]⟩, .slice none 0 0, .string ⟨#[]⟩])⟩ : Rw), (⟨some ⟨(eb + 1 + 1), 0, none⟩, 26, 26, 37, (cond (Ld 5) [.int .i64 8, .int .i64 0, .int .i64 0, .int .i64 0, .int .i64 0, .int .i64 0, .int .i64 0, .int .i64 0, .slice none 0 0, .int .i64 0, .int .i64 0, .int .i64 0, .int .i64 0, .int .i64 0, .int .i64 0, .int .i64 0, .int .i64 0, .int .u8 0, .int .u8 0, .bool false, .int .i64 0, .int .i64 0, .int .i64 0, .int .i64 0, .bool false, .bool false] [.int .i64 0, .int .i64 0, .int .i64 0, .int .i64 0, .int .i64 0, .int .i64 0, .int .i64 0, .int .i64 0, .slice none 0 0, .int .i64 0, .int .i64 0, .int .i64 0, .int .i64 0, .int .i64 0, .int .i64 0, .int .i64 0, .int .i64 0, .int .u8 0, .int .u8 0, .bool false, .int .i64 0, .int .i64 0, .int .i64 0, .int .i64 0, .bool false, .bool false])⟩ : Rw)]
  h0 : Ld 0 = true → u0 = .agg #[.string ⟨#[115, 121, 110, 99]⟩, .slice none 0 0, .string ⟨#[]⟩]
  h1 : Ld 1 = true → u1 = .pointer (some ⟨eb, 0, none⟩)
  h2 : Ld 2 = true → u2 = .int .i64 8
  h3 : Ld 3 = true → u3 = .agg #[.int .i64 8, .int .i64 0, .int .i64 0, .int .i64 0, .int .i64 0, .int .i64 0, .int .i64 0, .int .i64 0, .slice none 0 0, .int .i64 0, .int .i64 0, .int .i64 0, .int .i64 0, .int .i64 0, .int .i64 0, .int .i64 0, .int .i64 0, .int .u8 0, .int .u8 0, .bool false, .int .i64 0, .int .i64 0, .int .i64 0, .int .i64 0, .bool false, .bool false]
def LSyncI (w0 : World) (eb : Nat) (A0 : Act) (Ld : Nat → Bool) (a : Act) (W : World) : Prop :=
  ∃ (u0 u1 u2 u3 : Value), a = ((((A0.put (some 137) u0).put (some 138) u1).put (some 139) u2).put (some 140) u3) ∧ LSyncK w0 eb Ld u0 u1 u2 u3 W
set_option maxHeartbeats 2000000 in
theorem line_sync (w : World) :
    Calls Tryd.prog 21 #[.agg #[.int .i64 8, .int .i64 0, .int .i64 0, .int .i64 0, .int .i64 0, .int .i64 0, .int .i64 0, .int .i64 0, .slice none 0 0, .int .i64 0, .int .i64 0, .int .i64 0, .int .i64 0, .int .i64 0, .int .i64 0, .int .i64 0, .int .i64 0, .int .u8 0, .int .u8 0, .bool false, .int .i64 0, .int .i64 0, .int .i64 0, .int .i64 0, .bool false, .bool false]] w fun e w' => e = .returned (.tuple #[.agg #[.string ⟨#[115, 121, 110, 99]⟩, .slice none 0 0, .string ⟨#[]⟩], .agg #[.int .i64 8, .int .i64 0, .int .i64 0, .int .i64 0, .int .i64 0, .int .i64 0, .int .i64 0, .int .i64 0, .slice none 0 0, .int .i64 0, .int .i64 0, .int .i64 0, .int .i64 0, .int .i64 0, .int .i64 0, .int .i64 0, .int .i64 0, .int .u8 0, .int .u8 0, .bool false, .int .i64 0, .int .i64 0, .int .i64 0, .int .i64 0, .bool false, .bool false]]) ∧ Below w.heap.size w w' := by
  have H0 := (((Ow.of (St.refl w)).arr #[.int .i64 8, .int .i64 0, .int .i64 0, .int .i64 0, .int .i64 0, .int .i64 0, .int .i64 0, .int .i64 0, .slice none 0 0, .int .i64 0, .int .i64 0, .int .i64 0, .int .i64 0, .int .i64 0, .int .i64 0, .int .i64 0, .int .i64 0, .int .u8 0, .int .u8 0, .bool false, .int .i64 0, .int .i64 0, .int .i64 0, .int .i64 0, .bool false, .bool false] 26 rfl (by omega) 37).arr #[.string ⟨#[]⟩, .slice none 0 0, .string ⟨#[]⟩] 3 rfl (by omega) 69).arr #[.int .i64 0, .int .i64 0, .int .i64 0, .int .i64 0, .int .i64 0, .int .i64 0, .int .i64 0, .int .i64 0, .slice none 0 0, .int .i64 0, .int .i64 0, .int .i64 0, .int .i64 0, .int .i64 0, .int .i64 0, .int .i64 0, .int .i64 0, .int .u8 0, .int .u8 0, .bool false, .int .i64 0, .int .i64 0, .int .i64 0, .int .i64 0, .bool false, .bool false] 26 rfl (by omega) 37
  simp only [World.size_alloc, List.cons_append, List.nil_append] at H0
  have HO0 := Lib.hid H0
  clear H0
  go_enter Tryd.func21, Tryd.ntmps21
  go_wp2_with fail
  refine reg_inv34 (L1I (((w.alloc (.cells #[.int .i64 8, .int .i64 0, .int .i64 0, .int .i64 0, .int .i64 0, .int .i64 0, .int .i64 0, .int .i64 0, .slice none 0 0, .int .i64 0, .int .i64 0, .int .i64 0, .int .i64 0, .int .i64 0, .int .i64 0, .int .i64 0, .int .i64 0, .int .u8 0, .int .u8 0, .bool false, .int .i64 0, .int .i64 0, .int .i64 0, .int .i64 0, .bool false, .bool false] 37)).alloc (.cells #[.string ⟨#[]⟩, .slice none 0 0, .string ⟨#[]⟩] 69)).alloc (.cells #[.int .i64 0, .int .i64 0, .int .i64 0, .int .i64 0, .int .i64 0, .int .i64 0, .int .i64 0, .int .i64 0, .slice none 0 0, .int .i64 0, .int .i64 0, .int .i64 0, .int .i64 0, .int .i64 0, .int .i64 0, .int .i64 0, .int .i64 0, .int .u8 0, .int .u8 0, .bool false, .int .i64 0, .int .i64 0, .int .i64 0, .int .i64 0, .bool false, .bool false] 37)) w.heap.size) (by kernel_rfl) (by kernel_rfl) ?_ ?_ ?_
  · refine ⟨undef, undef, undef, undef, undef, undef, undef, undef, undef, undef, ?_, ⟨(Below.refl _ _).drew, ?_, ?_, ?_, ?_, ?_, ?_, ?_, ?_, ?_, ?_⟩⟩
    · simp only [Act.put, List.setIfInBounds_toArray, List.set_cons_zero, List.set_cons_succ]
    all_goals (intro h; cases h)
  · rintro jj Ld b W hj hf hcl hd ⟨u0, u1, u2, u3, u4, u5, u6, u7, u8, u9, rfl, hC⟩
    have hj' : jj < 13 := hj
    have hcase : jj = 0 ∨ jj = 1 ∨ jj = 2 ∨ jj = 3 ∨ jj = 4 ∨ jj = 5 ∨ jj = 6 ∨ jj = 7 ∨ jj = 8 ∨ jj = 9 ∨ jj = 10 ∨ jj = 11 ∨ jj = 12 := by omega
    clear hj hj'
    simp only [Act.put, List.setIfInBounds_toArray, List.set_cons_zero, List.set_cons_succ]
    rcases hcase with rfl | rfl | rfl | rfl | rfl | rfl | rfl | rfl | rfl | rfl | rfl | rfl | rfl
    · clear hd hcl
      refine wpOp_step rfl (fun K hK => ?_)
      go_simp
      refine hK _ _ ⟨_, u1, u2, u3, u4, u5, u6, u7, u8, u9, ?_, ⟨hC.bw, fun _ => rfl, hC.h1, hC.h2, hC.h3, hC.h4, hC.h5, hC.h6, hC.h7, hC.h8, hC.h9⟩⟩
      simp only [Act.put, List.setIfInBounds_toArray, List.set_cons_zero, List.set_cons_succ]
    · obtain rfl := hC.h0 (hd 0 (by kernel_rfl))
      have her := (HO0.out.go hC.bw).row 0 rfl
      have y9 := her.cellAt 9 (by decide)
      have y10 := her.cellAt 10 (by decide)
      have y11 := her.cellAt 11 (by decide)
      have y12 := her.cellAt 12 (by decide)
      have y13 := her.cellAt 13 (by decide)
      have y14 := her.cellAt 14 (by decide)
      have y15 := her.cellAt 15 (by decide)
      have y16 := her.cellAt 16 (by decide)
      have y17 := her.cellAt 17 (by decide)
      have y18 := her.cellAt 18 (by decide)
      have y19 := her.cellAt 19 (by decide)
      clear hd hcl
      refine wpOp_step rfl (fun K hK => ?_)
      go_simp
      refine hK _ _ ⟨_, _, u2, u3, u4, u5, u6, u7, u8, u9, ?_, ⟨hC.bw, hC.h0, fun _ => rfl, hC.h2, hC.h3, hC.h4, hC.h5, hC.h6, hC.h7, hC.h8, hC.h9⟩⟩
      simp only [Act.put, List.setIfInBounds_toArray, List.set_cons_zero, List.set_cons_succ]
    · clear hd hcl
      refine wpOp_step rfl (fun K hK => ?_)
      go_simp
      refine hK _ _ ⟨u0, u1, _, u3, u4, u5, u6, u7, u8, u9, ?_, ⟨hC.bw, hC.h0, hC.h1, fun _ => rfl, hC.h3, hC.h4, hC.h5, hC.h6, hC.h7, hC.h8, hC.h9⟩⟩
      simp only [Act.put, List.setIfInBounds_toArray, List.set_cons_zero, List.set_cons_succ]
    · obtain rfl := hC.h2 (hd 2 (by kernel_rfl))
      have her := (HO0.out.go hC.bw).row 0 rfl
      have y20 := her.cellAt 20 (by decide)
      have y21 := her.cellAt 21 (by decide)
      have y22 := her.cellAt 22 (by decide)
      have y23 := her.cellAt 23 (by decide)
      have y24 := her.cellAt 24 (by decide)
      have y25 := her.cellAt 25 (by decide)
      clear hd hcl
      refine wpOp_step rfl (fun K hK => ?_)
      go_simp
      refine hK _ _ ⟨u0, u1, _, _, u4, u5, u6, u7, u8, u9, ?_, ⟨hC.bw, hC.h0, hC.h1, hC.h2, fun _ => rfl, hC.h4, hC.h5, hC.h6, hC.h7, hC.h8, hC.h9⟩⟩
      simp only [Act.put, List.setIfInBounds_toArray, List.set_cons_zero, List.set_cons_succ]
    · clear hd hcl
      refine wpOp_step rfl (fun K hK => ?_)
      go_simp
      refine hK _ _ ⟨u0, u1, u2, u3, _, u5, u6, u7, u8, u9, ?_, ⟨hC.bw, hC.h0, hC.h1, hC.h2, hC.h3, fun _ => rfl, hC.h5, hC.h6, hC.h7, hC.h8, hC.h9⟩⟩
      simp only [Act.put, List.setIfInBounds_toArray, List.set_cons_zero, List.set_cons_succ]
    · obtain rfl := hC.h4 (hd 4 (by kernel_rfl))
      clear hd hcl
      refine wpOp_step rfl (fun K hK => ?_)
      go_simp
      refine hK _ _ ⟨u0, u1, u2, u3, _, _, u6, u7, u8, u9, ?_, ⟨hC.bw, hC.h0, hC.h1, hC.h2, hC.h3, hC.h4, fun _ => rfl, hC.h6, hC.h7, hC.h8, hC.h9⟩⟩
      simp only [Act.put, List.setIfInBounds_toArray, List.set_cons_zero, List.set_cons_succ]
    · obtain rfl := hC.h5 (hd 5 (by kernel_rfl))
      have her := (HO0.out.go hC.bw).row 0 rfl
      have y10 := her.cellAt 10 (by decide)
      have y11 := her.cellAt 11 (by decide)
      have y12 := her.cellAt 12 (by decide)
      have y13 := her.cellAt 13 (by decide)
      have y14 := her.cellAt 14 (by decide)
      have y15 := her.cellAt 15 (by decide)
      clear hd hcl
      refine wpOp_step rfl (fun K hK => ?_)
      go_simp
      refine hK _ _ ⟨u0, u1, u2, u3, u4, _, _, u7, u8, u9, ?_, ⟨hC.bw, hC.h0, hC.h1, hC.h2, hC.h3, hC.h4, hC.h5, fun _ => rfl, hC.h7, hC.h8, hC.h9⟩⟩
      simp only [Act.put, List.setIfInBounds_toArray, List.set_cons_zero, List.set_cons_succ]
    · clear hd hcl
      refine wpOp_step rfl (fun K hK => ?_)
      go_simp
      refine hK _ _ ⟨u0, u1, u2, u3, u4, u5, u6, _, u8, u9, ?_, ⟨(below_allocX hC.bw _), hC.h0, hC.h1, hC.h2, hC.h3, hC.h4, hC.h5, hC.h6, fun _ => ⟨_, ⟨hC.bw.size, Cel.new _ _ _⟩, rfl⟩, fun h => by obtain ⟨b, hb, e⟩ := hC.h8 h; exact ⟨b, ⟨hb.1, hb.2.alloc _⟩, e⟩, fun h => by obtain ⟨b, hb, e⟩ := hC.h9 h; exact ⟨b, ⟨hb.1, hb.2.alloc _⟩, e⟩⟩⟩
      simp only [Act.put, List.setIfInBounds_toArray, List.set_cons_zero, List.set_cons_succ]
    · clear hd hcl
      refine wpOp_step rfl (fun K hK => ?_)
      go_simp
      refine hK _ _ ⟨u0, u1, u2, u3, u4, u5, u6, u7, _, u9, ?_, ⟨(below_allocX hC.bw _), hC.h0, hC.h1, hC.h2, hC.h3, hC.h4, hC.h5, hC.h6, fun h => by obtain ⟨b, hb, e⟩ := hC.h7 h; exact ⟨b, ⟨hb.1, hb.2.alloc _⟩, e⟩, fun _ => ⟨_, ⟨hC.bw.size, Cel.new _ _ _⟩, rfl⟩, fun h => by obtain ⟨b, hb, e⟩ := hC.h9 h; exact ⟨b, ⟨hb.1, hb.2.alloc _⟩, e⟩⟩⟩
      simp only [Act.put, List.setIfInBounds_toArray, List.set_cons_zero, List.set_cons_succ]
    · clear hd hcl
      refine wpOp_step rfl (fun K hK => ?_)
      go_simp
      refine hK _ _ ⟨u0, u1, u2, u3, u4, u5, u6, u7, u8, _, ?_, ⟨(below_allocX hC.bw _), hC.h0, hC.h1, hC.h2, hC.h3, hC.h4, hC.h5, hC.h6, fun h => by obtain ⟨b, hb, e⟩ := hC.h7 h; exact ⟨b, ⟨hb.1, hb.2.alloc _⟩, e⟩, fun h => by obtain ⟨b, hb, e⟩ := hC.h8 h; exact ⟨b, ⟨hb.1, hb.2.alloc _⟩, e⟩, fun _ => ⟨_, ⟨hC.bw.size, Cel.new _ _ _⟩, rfl⟩⟩⟩
      simp only [Act.put, List.setIfInBounds_toArray, List.set_cons_zero, List.set_cons_succ]
    · obtain ⟨z, ⟨hzB, hzC⟩, rfl⟩ := hC.h7 (hd 7 (by kernel_rfl))
      obtain rfl := hC.h1 (hd 1 (by kernel_rfl))
      have hzC2 := hzC
      obtain ⟨old, hg, ho⟩ := hzC
      clear hd hcl
      refine wpOp_step rfl (fun K hK => ?_)
      rw [if_pos (by rfl)]
      refine wp_store_row 33 (.tmp 4) (.tmp 11) rfl z #[.int .i64 0, .int .i64 0, .int .i64 0, .int .i64 0, .int .i64 0, .int .i64 0, .int .i64 0, .int .i64 0, .int .u8 0, .int .u8 0, .bool false] rfl rfl 33 _ hg sizeFa ho (by simp [Value.oneCell']) ?_
      refine hK _ _ ⟨u0, (.agg #[.int .i64 0, .int .i64 0, .int .i64 0, .int .i64 0, .int .i64 0, .int .i64 0, .int .i64 0, .int .i64 0, .int .u8 0, .int .u8 0, .bool false]), u2, u3, u4, u5, u6, (.pointer (some ⟨z, 0, none⟩)), u8, u9, ?_, ⟨(below_setRow hC.bw hzB _), hC.h0, hC.h1, hC.h2, hC.h3, hC.h4, hC.h5, hC.h6, fun h => by obtain ⟨b, hb, e⟩ := hC.h7 h; exact ⟨b, ⟨hb.1, hb.2.row hzC2⟩, e⟩, fun h => by obtain ⟨b, hb, e⟩ := hC.h8 h; exact ⟨b, ⟨hb.1, hb.2.row hzC2⟩, e⟩, fun h => by obtain ⟨b, hb, e⟩ := hC.h9 h; exact ⟨b, ⟨hb.1, hb.2.row hzC2⟩, e⟩⟩⟩
      simp only [Act.put, List.setIfInBounds_toArray, List.set_cons_zero, List.set_cons_succ]
      rfl
    · obtain ⟨z, ⟨hzB, hzC⟩, rfl⟩ := hC.h8 (hd 8 (by kernel_rfl))
      obtain rfl := hC.h3 (hd 3 (by kernel_rfl))
      have hzC2 := hzC
      obtain ⟨old, hg, ho⟩ := hzC
      clear hd hcl
      refine wpOp_step rfl (fun K hK => ?_)
      rw [if_pos (by rfl)]
      refine wp_store_row 35 (.tmp 5) (.tmp 13) rfl z #[.int .i64 0, .int .i64 0, .int .i64 0, .int .i64 0, .bool false, .bool false] rfl rfl 35 _ hg sizeTr ho (by simp [Value.oneCell']) ?_
      refine hK _ _ ⟨u0, u1, u2, (.agg #[.int .i64 0, .int .i64 0, .int .i64 0, .int .i64 0, .bool false, .bool false]), u4, u5, u6, u7, (.pointer (some ⟨z, 0, none⟩)), u9, ?_, ⟨(below_setRow hC.bw hzB _), hC.h0, hC.h1, hC.h2, hC.h3, hC.h4, hC.h5, hC.h6, fun h => by obtain ⟨b, hb, e⟩ := hC.h7 h; exact ⟨b, ⟨hb.1, hb.2.row hzC2⟩, e⟩, fun h => by obtain ⟨b, hb, e⟩ := hC.h8 h; exact ⟨b, ⟨hb.1, hb.2.row hzC2⟩, e⟩, fun h => by obtain ⟨b, hb, e⟩ := hC.h9 h; exact ⟨b, ⟨hb.1, hb.2.row hzC2⟩, e⟩⟩⟩
      simp only [Act.put, List.setIfInBounds_toArray, List.set_cons_zero, List.set_cons_succ]
      rfl
    · obtain ⟨z, ⟨hzB, hzC⟩, rfl⟩ := hC.h9 (hd 9 (by kernel_rfl))
      obtain rfl := hC.h6 (hd 6 (by kernel_rfl))
      have hzC2 := hzC
      obtain ⟨old, hg, ho⟩ := hzC
      clear hd hcl
      refine wpOp_step rfl (fun K hK => ?_)
      rw [if_pos (by rfl)]
      refine wp_store_row 31 (.tmp 6) (.tmp 16) rfl z #[.int .i64 0, .int .i64 0, .int .i64 0, .int .i64 0, .int .i64 0, .int .i64 0] rfl rfl 31 _ hg sizePl ho (by simp [Value.oneCell']) ?_
      refine hK _ _ ⟨u0, u1, u2, u3, u4, u5, (.agg #[.int .i64 0, .int .i64 0, .int .i64 0, .int .i64 0, .int .i64 0, .int .i64 0]), u7, u8, (.pointer (some ⟨z, 0, none⟩)), ?_, ⟨(below_setRow hC.bw hzB _), hC.h0, hC.h1, hC.h2, hC.h3, hC.h4, hC.h5, hC.h6, fun h => by obtain ⟨b, hb, e⟩ := hC.h7 h; exact ⟨b, ⟨hb.1, hb.2.row hzC2⟩, e⟩, fun h => by obtain ⟨b, hb, e⟩ := hC.h8 h; exact ⟨b, ⟨hb.1, hb.2.row hzC2⟩, e⟩, fun h => by obtain ⟨b, hb, e⟩ := hC.h9 h; exact ⟨b, ⟨hb.1, hb.2.row hzC2⟩, e⟩⟩⟩
      simp only [Act.put, List.setIfInBounds_toArray, List.set_cons_zero, List.set_cons_succ]
      rfl
  · rintro Ld b W hL ⟨u0, u1, u2, u3, u4, u5, u6, u7, u8, u9, rfl, hC⟩
    obtain ⟨fb, -, rfl⟩ := hC.h7 (hL 7 (by show 7 < 13; decide))
    obtain ⟨tb, -, rfl⟩ := hC.h8 (hL 8 (by show 8 < 13; decide))
    obtain ⟨pb, -, rfl⟩ := hC.h9 (hL 9 (by show 9 < 13; decide))
    have HO1 := Lib.hid (HO0.out.go hC.bw)
    have her := HO1.out.row 0 rfl
    have y0 := her.cellAt 0 (by decide)
    clear hC hL her HO0
    simp only [Act.put, List.setIfInBounds_toArray, List.set_cons_zero, List.set_cons_succ]
    go_wp2_with fail
    refine reg_inv34 (LSyncI w w.heap.size) (by kernel_rfl) (by kernel_rfl) ?_ ?_ ?_
    · refine ⟨undef, undef, undef, undef, ?_, ⟨HO1.out.drew, ?_, ?_, ?_, ?_⟩⟩
      · simp only [Act.put, List.setIfInBounds_toArray, List.set_cons_zero, List.set_cons_succ]
      all_goals (intro h; cases h)
    · rintro jj Ld b W hj hf hcl hd ⟨u0, u1, u2, u3, rfl, hC⟩
      have hj' : jj < 6 := hj
      have hcase : jj = 0 ∨ jj = 1 ∨ jj = 2 ∨ jj = 3 ∨ jj = 4 ∨ jj = 5 := by omega
      clear hj hj'
      simp only [Act.put, List.setIfInBounds_toArray, List.set_cons_zero, List.set_cons_succ]
      rcases hcase with rfl | rfl | rfl | rfl | rfl | rfl
      · clear hd hcl
        refine wpOp_step rfl (fun K hK => ?_)
        go_simp
        refine hK _ _ ⟨_, u1, u2, u3, ?_, ⟨hC.ow, fun _ => rfl, hC.h1, hC.h2, hC.h3⟩⟩
        simp only [Act.put, List.setIfInBounds_toArray, List.set_cons_zero, List.set_cons_succ]
      · clear hd hcl
        refine wpOp_step rfl (fun K hK => ?_)
        go_simp
        refine hK _ _ ⟨u0, _, u2, u3, ?_, ⟨hC.ow, hC.h0, fun _ => rfl, hC.h2, hC.h3⟩⟩
        simp only [Act.put, List.setIfInBounds_toArray, List.set_cons_zero, List.set_cons_succ]
      · obtain rfl := hC.h1 (hd 1 (by kernel_rfl))
        have her := hC.ow.row 0 rfl
        have y0 := her.cellAt 0 (by decide)
        clear hd hcl
        refine wpOp_step rfl (fun K hK => ?_)
        go_simp
        refine hK _ _ ⟨u0, _, _, u3, ?_, ⟨hC.ow, hC.h0, hC.h1, fun _ => rfl, hC.h3⟩⟩
        simp only [Act.put, List.setIfInBounds_toArray, List.set_cons_zero, List.set_cons_succ]
      · obtain rfl := hC.h2 (hd 2 (by kernel_rfl))
        clear hd hcl
        refine wpOp_step rfl (fun K hK => ?_)
        go_simp
        refine hK _ _ ⟨u0, u1, _, _, ?_, ⟨hC.ow, hC.h0, hC.h1, hC.h2, fun _ => rfl⟩⟩
        simp only [Act.put, List.setIfInBounds_toArray, List.set_cons_zero, List.set_cons_succ]
      · obtain rfl := hC.h0 (hd 0 (by kernel_rfl))
        have how := hC.ow
        rw [hf] at how
        simp only [cond_false] at how
        have hg := (how.rowHeap 1 rfl).1
        have ho := how.putRow (k := 3) 1 rfl #[.string ⟨#[115, 121, 110, 99]⟩, .slice none 0 0, .string ⟨#[]⟩] rfl (by omega)
        simp only [List.set_cons_zero, List.set_cons_succ] at ho
        clear hd hcl
        refine wpOp_step rfl (fun K hK => ?_)
        rw [if_pos (by rfl)]
        refine wp_store_row 69 (.tmp 2) (.tmp 137) rfl (w.heap.size + 1) #[.string ⟨#[115, 121, 110, 99]⟩, .slice none 0 0, .string ⟨#[]⟩] rfl rfl 69 _ hg sizeWd rfl (by simp [Value.oneCell']) ?_
        refine hK _ _ ⟨(.agg #[.string ⟨#[115, 121, 110, 99]⟩, .slice none 0 0, .string ⟨#[]⟩]), u1, u2, u3, ?_, ⟨ho, hC.h0, hC.h1, hC.h2, hC.h3⟩⟩
        simp only [Act.put, List.setIfInBounds_toArray, List.set_cons_zero, List.set_cons_succ]
        rfl
      · obtain rfl := hC.h3 (hd 3 (by kernel_rfl))
        have how := hC.ow
        rw [hf] at how
        simp only [cond_false] at how
        have hg := (how.rowHeap 2 rfl).1
        have ho := how.putRow (k := 26) 2 rfl #[.int .i64 8, .int .i64 0, .int .i64 0, .int .i64 0, .int .i64 0, .int .i64 0, .int .i64 0, .int .i64 0, .slice none 0 0, .int .i64 0, .int .i64 0, .int .i64 0, .int .i64 0, .int .i64 0, .int .i64 0, .int .i64 0, .int .i64 0, .int .u8 0, .int .u8 0, .bool false, .int .i64 0, .int .i64 0, .int .i64 0, .int .i64 0, .bool false, .bool false] rfl (by omega)
        simp only [List.set_cons_zero, List.set_cons_succ] at ho
        clear hd hcl
        refine wpOp_step rfl (fun K hK => ?_)
        rw [if_pos (by rfl)]
        refine wp_store_row 37 (.tmp 3) (.tmp 140) rfl (w.heap.size + 1 + 1) #[.int .i64 8, .int .i64 0, .int .i64 0, .int .i64 0, .int .i64 0, .int .i64 0, .int .i64 0, .int .i64 0, .slice none 0 0, .int .i64 0, .int .i64 0, .int .i64 0, .int .i64 0, .int .i64 0, .int .i64 0, .int .i64 0, .int .i64 0, .int .u8 0, .int .u8 0, .bool false, .int .i64 0, .int .i64 0, .int .i64 0, .int .i64 0, .bool false, .bool false] rfl rfl 37 _ hg sizeEv rfl (by simp [Value.oneCell']) ?_
        refine hK _ _ ⟨u0, u1, u2, (.agg #[.int .i64 8, .int .i64 0, .int .i64 0, .int .i64 0, .int .i64 0, .int .i64 0, .int .i64 0, .int .i64 0, .slice none 0 0, .int .i64 0, .int .i64 0, .int .i64 0, .int .i64 0, .int .i64 0, .int .i64 0, .int .i64 0, .int .i64 0, .int .u8 0, .int .u8 0, .bool false, .int .i64 0, .int .i64 0, .int .i64 0, .int .i64 0, .bool false, .bool false]), ?_, ⟨ho, hC.h0, hC.h1, hC.h2, hC.h3⟩⟩
        simp only [Act.put, List.setIfInBounds_toArray, List.set_cons_zero, List.set_cons_succ]
        rfl
    · rintro Ld b W hL ⟨u0, u1, u2, u3, rfl, hC⟩
      have how := hC.ow
      rw [hL 4 (by show 4 < 6; decide), hL 5 (by show 5 < 6; decide)] at how
      simp only [cond_true] at how
      have HE := Lib.hid how
      clear hC hL how
      have l3 := run_loadVar_row (P := Tryd.prog) W (w.heap.size + 1) 69 69 #[.string ⟨#[115, 121, 110, 99]⟩, .slice none 0 0, .string ⟨#[]⟩] (0, 0) _ (HE.out.rowHeap 1 rfl).1 Tryd.underlying69 rfl sizeWd
      have l26 := run_loadVar_row (P := Tryd.prog) W (w.heap.size + 1 + 1) 37 37 #[.int .i64 8, .int .i64 0, .int .i64 0, .int .i64 0, .int .i64 0, .int .i64 0, .int .i64 0, .int .i64 0, .slice none 0 0, .int .i64 0, .int .i64 0, .int .i64 0, .int .i64 0, .int .i64 0, .int .i64 0, .int .i64 0, .int .i64 0, .int .u8 0, .int .u8 0, .bool false, .int .i64 0, .int .i64 0, .int .i64 0, .int .i64 0, .bool false, .bool false] (0, 0) _ (HE.out.rowHeap 2 rfl).1 Tryd.underlying37 rfl sizeEv
      have has : ∀ (ad : Addr) (W : World), (asAddr (.pointer (some ad))).run Tryd.prog W = .ok ad W := fun _ _ => rfl
      simp only [Act.put, List.setIfInBounds_toArray, List.set_cons_zero, List.set_cons_succ]
      go_wp2_with fail
      refine bodyPost_ret (v := .tuple #[.agg #[.string ⟨#[115, 121, 110, 99]⟩, .slice none 0 0, .string ⟨#[]⟩], .agg #[.int .i64 8, .int .i64 0, .int .i64 0, .int .i64 0, .int .i64 0, .int .i64 0, .int .i64 0, .int .i64 0, .slice none 0 0, .int .i64 0, .int .i64 0, .int .i64 0, .int .i64 0, .int .i64 0, .int .i64 0, .int .i64 0, .int .i64 0, .int .u8 0, .int .u8 0, .bool false, .int .i64 0, .int .i64 0, .int .i64 0, .int .i64 0, .bool false, .bool false]]) (by simp [results, Tryd.results21, asAddr, l3, l26]) rfl ?_
      exact ⟨rfl, HE.out.below⟩
structure LFlushK (w0 : World) (eb : Nat) (Ld : Nat → Bool) (u0 u1 u2 u3 : Value) (W : World) : Prop where
  ow : Ow w0 W none [] [] [(⟨some ⟨eb, 0, none⟩, 26, 26, 37, [.int .i64 6, .int .i64 0, .int .i64 0, .int .i64 0, .int .i64 0, .int .i64 0, .int .i64 0, .int .i64 0, .slice none 0 0, .int .i64 0, .int .i64 0, .int .i64 0, .int .i64 0, .int .i64 0, .int .i64 0, .int .i64 0, .int .i64 0, .int .u8 0, .int .u8 0, .bool false, .int .i64 0, .int .i64 0, .int .i64 0, .int .i64 0, .bool false, .bool false]⟩ : Rw), (⟨some ⟨(eb + 1), 0, none⟩, 3, 3, 69, (cond (Ld 4) [.string ⟨#[102, 108, 117, 115, 104]⟩, .slice none 0 0, .string ⟨#[]⟩] [.string ⟨#[]⟩, .slice none 0 0, .string ⟨#[]⟩])⟩ : Rw), (⟨some ⟨(eb + 1 + 1), 0, none⟩, 26, 26, 37, (cond (Ld 5) [.int .i64 6, .int .i64 0, .int .i64 0, .int .i64 0, .int .i64 0, .int .i64 0, .int .i64 0, .int .i64 0, .slice none 0 0, .int .i64 0, .int .i64 0, .int .i64 0, .int .i64 0, .int .i64 0, .int .i64 0, .int .i64 0, .int .i64 0, .int .u8 0, .int .u8 0, .bool false, .int .i64 0, .int .i64 0, .int .i64 0, .int .i64 0, .bool false, .bool false] [.int .i64 0, .int .i64 0, .int .i64 0, .int .i64 0, .int .i64 0, .int .i64 0, .int .i64 0, .int .i64 0, .slice none 0 0, .int .i64 0, .int .i64 0, .int .i64 0, .int .i64 0, .int .i64 0, .int .i64 0, .int .i64 0, .int .i64 0, .int .u8 0, .int .u8 0, .bool false, .int .i64 0, .int .i64 0, .int .i64 0, .int .i64 0, .bool false, .bool false])⟩ : Rw)]
  h0 : Ld 0 = true → u0 = .agg #[.string ⟨#[102, 108, 117, 115, 104]⟩, .slice none 0 0, .string ⟨#[]⟩]
  h1 : Ld 1 = true → u1 = .pointer (some ⟨eb, 0, none⟩)
  h2 : Ld 2 = true → u2 = .int .i64 6
  h3 : Ld 3 = true → u3 = .agg #[.int .i64 6, .int .i64 0, .int .i64 0, .int .i64 0, .int .i64 0, .int .i64 0, .int .i64 0, .int .i64 0, .slice none 0 0, .int .i64 0, .int .i64 0, .int .i64 0, .int .i64 0, .int .i64 0, .int .i64 0, .int .i64 0, .int .i64 0, .int .u8 0, .int .u8 0, .bool false, .int .i64 0, .int .i64 0, .int .i64 0, .int .i64 0, .bool false, .bool false]
def LFlushI (w0 : World) (eb : Nat) (A0 : Act) (Ld : Nat → Bool) (a : Act) (W : World) : Prop :=
  ∃ (u0 u1 u2 u3 : Value), a = ((((A0.put (some 131) u0).put (some 132) u1).put (some 133) u2).put (some 134) u3) ∧ LFlushK w0 eb Ld u0 u1 u2 u3 W
set_option maxHeartbeats 2000000 in
theorem line_flush (w : World) :
    Calls Tryd.prog 21 #[.agg #[.int .i64 6, .int .i64 0, .int .i64 0, .int .i64 0, .int .i64 0, .int .i64 0, .int .i64 0, .int .i64 0, .slice none 0 0, .int .i64 0, .int .i64 0, .int .i64 0, .int .i64 0, .int .i64 0, .int .i64 0, .int .i64 0, .int .i64 0, .int .u8 0, .int .u8 0, .bool false, .int .i64 0, .int .i64 0, .int .i64 0, .int .i64 0, .bool false, .bool false]] w fun e w' => e = .returned (.tuple #[.agg #[.string ⟨#[102, 108, 117, 115, 104]⟩, .slice none 0 0, .string ⟨#[]⟩], .agg #[.int .i64 6, .int .i64 0, .int .i64 0, .int .i64 0, .int .i64 0, .int .i64 0, .int .i64 0, .int .i64 0, .slice none 0 0, .int .i64 0, .int .i64 0, .int .i64 0, .int .i64 0, .int .i64 0, .int .i64 0, .int .i64 0, .int .i64 0, .int .u8 0, .int .u8 0, .bool false, .int .i64 0, .int .i64 0, .int .i64 0, .int .i64 0, .bool false, .bool false]]) ∧ Below w.heap.size w w' := by
  have H0 := (((Ow.of (St.refl w)).arr #[.int .i64 6, .int .i64 0, .int .i64 0, .int .i64 0, .int .i64 0, .int .i64 0, .int .i64 0, .int .i64 0, .slice none 0 0, .int .i64 0, .int .i64 0, .int .i64 0, .int .i64 0, .int .i64 0, .int .i64 0, .int .i64 0, .int .i64 0, .int .u8 0, .int .u8 0, .bool false, .int .i64 0, .int .i64 0, .int .i64 0, .int .i64 0, .bool false, .bool false] 26 rfl (by omega) 37).arr #[.string ⟨#[]⟩, .slice none 0 0, .string ⟨#[]⟩] 3 rfl (by omega) 69).arr #[.int .i64 0, .int .i64 0, .int .i64 0, .int .i64 0, .int .i64 0, .int .i64 0, .int .i64 0, .int .i64 0, .slice none 0 0, .int .i64 0, .int .i64 0, .int .i64 0, .int .i64 0, .int .i64 0, .int .i64 0, .int .i64 0, .int .i64 0, .int .u8 0, .int .u8 0, .bool false, .int .i64 0, .int .i64 0, .int .i64 0, .int .i64 0, .bool false, .bool false] 26 rfl (by omega) 37
  simp only [World.size_alloc, List.cons_append, List.nil_append] at H0
  have HO0 := Lib.hid H0
  clear H0
  go_enter Tryd.func21, Tryd.ntmps21
  go_wp2_with fail
  refine reg_inv34 (L1I (((w.alloc (.cells #[.int .i64 6, .int .i64 0, .int .i64 0, .int .i64 0, .int .i64 0, .int .i64 0, .int .i64 0, .int .i64 0, .slice none 0 0, .int .i64 0, .int .i64 0, .int .i64 0, .int .i64 0, .int .i64 0, .int .i64 0, .int .i64 0, .int .i64 0, .int .u8 0, .int .u8 0, .bool false, .int .i64 0, .int .i64 0, .int .i64 0, .int .i64 0, .bool false, .bool false] 37)).alloc (.cells #[.string ⟨#[]⟩, .slice none 0 0, .string ⟨#[]⟩] 69)).alloc (.cells #[.int .i64 0, .int .i64 0, .int .i64 0, .int .i64 0, .int .i64 0, .int .i64 0, .int .i64 0, .int .i64 0, .slice none 0 0, .int .i64 0, .int .i64 0, .int .i64 0, .int .i64 0, .int .i64 0, .int .i64 0, .int .i64 0, .int .i64 0, .int .u8 0, .int .u8 0, .bool false, .int .i64 0, .int .i64 0, .int .i64 0, .int .i64 0, .bool false, .bool false] 37)) w.heap.size) (by kernel_rfl) (by kernel_rfl) ?_ ?_ ?_
  · refine ⟨undef, undef, undef, undef, undef, undef, undef, undef, undef, undef, ?_, ⟨(Below.refl _ _).drew, ?_, ?_, ?_, ?_, ?_, ?_, ?_, ?_, ?_, ?_⟩⟩
    · simp only [Act.put, List.setIfInBounds_toArray, List.set_cons_zero, List.set_cons_succ]
    all_goals (intro h; cases h)
  · rintro jj Ld b W hj hf hcl hd ⟨u0, u1, u2, u3, u4, u5, u6, u7, u8, u9, rfl, hC⟩
    have hj' : jj < 13 := hj
    have hcase : jj = 0 ∨ jj = 1 ∨ jj = 2 ∨ jj = 3 ∨ jj = 4 ∨ jj = 5 ∨ jj = 6 ∨ jj = 7 ∨ jj = 8 ∨ jj = 9 ∨ jj = 10 ∨ jj = 11 ∨ jj = 12 := by omega
    clear hj hj'
    simp only [Act.put, List.setIfInBounds_toArray, List.set_cons_zero, List.set_cons_succ]
    rcases hcase with rfl | rfl | rfl | rfl | rfl | rfl | rfl | rfl | rfl | rfl | rfl | rfl | rfl
    · clear hd hcl
      refine wpOp_step rfl (fun K hK => ?_)
      go_simp
      refine hK _ _ ⟨_, u1, u2, u3, u4, u5, u6, u7, u8, u9, ?_, ⟨hC.bw, fun _ => rfl, hC.h1, hC.h2, hC.h3, hC.h4, hC.h5, hC.h6, hC.h7, hC.h8, hC.h9⟩⟩
      simp only [Act.put, List.setIfInBounds_toArray, List.set_cons_zero, List.set_cons_succ]
    · obtain rfl := hC.h0 (hd 0 (by kernel_rfl))
      have her := (HO0.out.go hC.bw).row 0 rfl
      have y9 := her.cellAt 9 (by decide)
      have y10 := her.cellAt 10 (by decide)
      have y11 := her.cellAt 11 (by decide)
      have y12 := her.cellAt 12 (by decide)
      have y13 := her.cellAt 13 (by decide)
      have y14 := her.cellAt 14 (by decide)
      have y15 := her.cellAt 15 (by decide)
      have y16 := her.cellAt 16 (by decide)
      have y17 := her.cellAt 17 (by decide)
      have y18 := her.cellAt 18 (by decide)
      have y19 := her.cellAt 19 (by decide)
      clear hd hcl
      refine wpOp_step rfl (fun K hK => ?_)
      go_simp
      refine hK _ _ ⟨_, _, u2, u3, u4, u5, u6, u7, u8, u9, ?_, ⟨hC.bw, hC.h0, fun _ => rfl, hC.h2, hC.h3, hC.h4, hC.h5, hC.h6, hC.h7, hC.h8, hC.h9⟩⟩
      simp only [Act.put, List.setIfInBounds_toArray, List.set_cons_zero, List.set_cons_succ]
    · clear hd hcl
      refine wpOp_step rfl (fun K hK => ?_)
      go_simp
      refine hK _ _ ⟨u0, u1, _, u3, u4, u5, u6, u7, u8, u9, ?_, ⟨hC.bw, hC.h0, hC.h1, fun _ => rfl, hC.h3, hC.h4, hC.h5, hC.h6, hC.h7, hC.h8, hC.h9⟩⟩
      simp only [Act.put, List.setIfInBounds_toArray, List.set_cons_zero, List.set_cons_succ]
    · obtain rfl := hC.h2 (hd 2 (by kernel_rfl))
      have her := (HO0.out.go hC.bw).row 0 rfl
      have y20 := her.cellAt 20 (by decide)
      have y21 := her.cellAt 21 (by decide)
      have y22 := her.cellAt 22 (by decide)
      have y23 := her.cellAt 23 (by decide)
      have y24 := her.cellAt 24 (by decide)
      have y25 := her.cellAt 25 (by decide)
      clear hd hcl
      refine wpOp_step rfl (fun K hK => ?_)
      go_simp
      refine hK _ _ ⟨u0, u1, _, _, u4, u5, u6, u7, u8, u9, ?_, ⟨hC.bw, hC.h0, hC.h1, hC.h2, fun _ => rfl, hC.h4, hC.h5, hC.h6, hC.h7, hC.h8, hC.h9⟩⟩
      simp only [Act.put, List.setIfInBounds_toArray, List.set_cons_zero, List.set_cons_succ]
    · clear hd hcl
      refine wpOp_step rfl (fun K hK => ?_)
      go_simp
      refine hK _ _ ⟨u0, u1, u2, u3, _, u5, u6, u7, u8, u9, ?_, ⟨hC.bw, hC.h0, hC.h1, hC.h2, hC.h3, fun _ => rfl, hC.h5, hC.h6, hC.h7, hC.h8, hC.h9⟩⟩
      simp only [Act.put, List.setIfInBounds_toArray, List.set_cons_zero, List.set_cons_succ]
    · obtain rfl := hC.h4 (hd 4 (by kernel_rfl))
      clear hd hcl
      refine wpOp_step rfl (fun K hK => ?_)
      go_simp
      refine hK _ _ ⟨u0, u1, u2, u3, _, _, u6, u7, u8, u9, ?_, ⟨hC.bw, hC.h0, hC.h1, hC.h2, hC.h3, hC.h4, fun _ => rfl, hC.h6, hC.h7, hC.h8, hC.h9⟩⟩
      simp only [Act.put, List.setIfInBounds_toArray, List.set_cons_zero, List.set_cons_succ]
    · obtain rfl := hC.h5 (hd 5 (by kernel_rfl))
      have her := (HO0.out.go hC.bw).row 0 rfl
      have y10 := her.cellAt 10 (by decide)
      have y11 := her.cellAt 11 (by decide)
      have y12 := her.cellAt 12 (by decide)
      have y13 := her.cellAt 13 (by decide)
      have y14 := her.cellAt 14 (by decide)
      have y15 := her.cellAt 15 (by decide)
      clear hd hcl
      refine wpOp_step rfl (fun K hK => ?_)
      go_simp
      refine hK _ _ ⟨u0, u1, u2, u3, u4, _, _, u7, u8, u9, ?_, ⟨hC.bw, hC.h0, hC.h1, hC.h2, hC.h3, hC.h4, hC.h5, fun _ => rfl, hC.h7, hC.h8, hC.h9⟩⟩
      simp only [Act.put, List.setIfInBounds_toArray, List.set_cons_zero, List.set_cons_succ]
    · clear hd hcl
      refine wpOp_step rfl (fun K hK => ?_)
      go_simp
      refine hK _ _ ⟨u0, u1, u2, u3, u4, u5, u6, _, u8, u9, ?_, ⟨(below_allocX hC.bw _), hC.h0, hC.h1, hC.h2, hC.h3, hC.h4, hC.h5, hC.h6, fun _ => ⟨_, ⟨hC.bw.size, Cel.new _ _ _⟩, rfl⟩, fun h => by obtain ⟨b, hb, e⟩ := hC.h8 h; exact ⟨b, ⟨hb.1, hb.2.alloc _⟩, e⟩, fun h => by obtain ⟨b, hb, e⟩ := hC.h9 h; exact ⟨b, ⟨hb.1, hb.2.alloc _⟩, e⟩⟩⟩
      simp only [Act.put, List.setIfInBounds_toArray, List.set_cons_zero, List.set_cons_succ]
    · clear hd hcl
      refine wpOp_step rfl (fun K hK => ?_)
      go_simp
      refine hK _ _ ⟨u0, u1, u2, u3, u4, u5, u6, u7, _, u9, ?_, ⟨(below_allocX hC.bw _), hC.h0, hC.h1, hC.h2, hC.h3, hC.h4, hC.h5, hC.h6, fun h => by obtain ⟨b, hb, e⟩ := hC.h7 h; exact ⟨b, ⟨hb.1, hb.2.alloc _⟩, e⟩, fun _ => ⟨_, ⟨hC.bw.size, Cel.new _ _ _⟩, rfl⟩, fun h => by obtain ⟨b, hb, e⟩ := hC.h9 h; exact ⟨b, ⟨hb.1, hb.2.alloc _⟩, e⟩⟩⟩
      simp only [Act.put, List.setIfInBounds_toArray, List.set_cons_zero, List.set_cons_succ]
    · clear hd hcl
      refine wpOp_step rfl (fun K hK => ?_)
      go_simp
      refine hK _ _ ⟨u0, u1, u2, u3, u4, u5, u6, u7, u8, _, ?_, ⟨(below_allocX hC.bw _), hC.h0, hC.h1, hC.h2, hC.h3, hC.h4, hC.h5, hC.h6, fun h => by obtain ⟨b, hb, e⟩ := hC.h7 h; exact ⟨b, ⟨hb.1, hb.2.alloc _⟩, e⟩, fun h => by obtain ⟨b, hb, e⟩ := hC.h8 h; exact ⟨b, ⟨hb.1, hb.2.alloc _⟩, e⟩, fun _ => ⟨_, ⟨hC.bw.size, Cel.new _ _ _⟩, rfl⟩⟩⟩
      simp only [Act.put, List.setIfInBounds_toArray, List.set_cons_zero, List.set_cons_succ]
    · obtain ⟨z, ⟨hzB, hzC⟩, rfl⟩ := hC.h7 (hd 7 (by kernel_rfl))
      obtain rfl := hC.h1 (hd 1 (by kernel_rfl))
      have hzC2 := hzC
      obtain ⟨old, hg, ho⟩ := hzC
      clear hd hcl
      refine wpOp_step rfl (fun K hK => ?_)
      rw [if_pos (by rfl)]
      refine wp_store_row 33 (.tmp 4) (.tmp 11) rfl z #[.int .i64 0, .int .i64 0, .int .i64 0, .int .i64 0, .int .i64 0, .int .i64 0, .int .i64 0, .int .i64 0, .int .u8 0, .int .u8 0, .bool false] rfl rfl 33 _ hg sizeFa ho (by simp [Value.oneCell']) ?_
      refine hK _ _ ⟨u0, (.agg #[.int .i64 0, .int .i64 0, .int .i64 0, .int .i64 0, .int .i64 0, .int .i64 0, .int .i64 0, .int .i64 0, .int .u8 0, .int .u8 0, .bool false]), u2, u3, u4, u5, u6, (.pointer (some ⟨z, 0, none⟩)), u8, u9, ?_, ⟨(below_setRow hC.bw hzB _), hC.h0, hC.h1, hC.h2, hC.h3, hC.h4, hC.h5, hC.h6, fun h => by obtain ⟨b, hb, e⟩ := hC.h7 h; exact ⟨b, ⟨hb.1, hb.2.row hzC2⟩, e⟩, fun h => by obtain ⟨b, hb, e⟩ := hC.h8 h; exact ⟨b, ⟨hb.1, hb.2.row hzC2⟩, e⟩, fun h => by obtain ⟨b, hb, e⟩ := hC.h9 h; exact ⟨b, ⟨hb.1, hb.2.row hzC2⟩, e⟩⟩⟩
      simp only [Act.put, List.setIfInBounds_toArray, List.set_cons_zero, List.set_cons_succ]
      rfl
    · obtain ⟨z, ⟨hzB, hzC⟩, rfl⟩ := hC.h8 (hd 8 (by kernel_rfl))
      obtain rfl := hC.h3 (hd 3 (by kernel_rfl))
      have hzC2 := hzC
      obtain ⟨old, hg, ho⟩ := hzC
      clear hd hcl
      refine wpOp_step rfl (fun K hK => ?_)
      rw [if_pos (by rfl)]
      refine wp_store_row 35 (.tmp 5) (.tmp 13) rfl z #[.int .i64 0, .int .i64 0, .int .i64 0, .int .i64 0, .bool false, .bool false] rfl rfl 35 _ hg sizeTr ho (by simp [Value.oneCell']) ?_
      refine hK _ _ ⟨u0, u1, u2, (.agg #[.int .i64 0, .int .i64 0, .int .i64 0, .int .i64 0, .bool false, .bool false]), u4, u5, u6, u7, (.pointer (some ⟨z, 0, none⟩)), u9, ?_, ⟨(below_setRow hC.bw hzB _), hC.h0, hC.h1, hC.h2, hC.h3, hC.h4, hC.h5, hC.h6, fun h => by obtain ⟨b, hb, e⟩ := hC.h7 h; exact ⟨b, ⟨hb.1, hb.2.row hzC2⟩, e⟩, fun h => by obtain ⟨b, hb, e⟩ := hC.h8 h; exact ⟨b, ⟨hb.1, hb.2.row hzC2⟩, e⟩, fun h => by obtain ⟨b, hb, e⟩ := hC.h9 h; exact ⟨b, ⟨hb.1, hb.2.row hzC2⟩, e⟩⟩⟩
      simp only [Act.put, List.setIfInBounds_toArray, List.set_cons_zero, List.set_cons_succ]
      rfl
    · obtain ⟨z, ⟨hzB, hzC⟩, rfl⟩ := hC.h9 (hd 9 (by kernel_rfl))
      obtain rfl := hC.h6 (hd 6 (by kernel_rfl))
      have hzC2 := hzC
      obtain ⟨old, hg, ho⟩ := hzC
      clear hd hcl
      refine wpOp_step rfl (fun K hK => ?_)
      rw [if_pos (by rfl)]
      refine wp_store_row 31 (.tmp 6) (.tmp 16) rfl z #[.int .i64 0, .int .i64 0, .int .i64 0, .int .i64 0, .int .i64 0, .int .i64 0] rfl rfl 31 _ hg sizePl ho (by simp [Value.oneCell']) ?_
      refine hK _ _ ⟨u0, u1, u2, u3, u4, u5, (.agg #[.int .i64 0, .int .i64 0, .int .i64 0, .int .i64 0, .int .i64 0, .int .i64 0]), u7, u8, (.pointer (some ⟨z, 0, none⟩)), ?_, ⟨(below_setRow hC.bw hzB _), hC.h0, hC.h1, hC.h2, hC.h3, hC.h4, hC.h5, hC.h6, fun h => by obtain ⟨b, hb, e⟩ := hC.h7 h; exact ⟨b, ⟨hb.1, hb.2.row hzC2⟩, e⟩, fun h => by obtain ⟨b, hb, e⟩ := hC.h8 h; exact ⟨b, ⟨hb.1, hb.2.row hzC2⟩, e⟩, fun h => by obtain ⟨b, hb, e⟩ := hC.h9 h; exact ⟨b, ⟨hb.1, hb.2.row hzC2⟩, e⟩⟩⟩
      simp only [Act.put, List.setIfInBounds_toArray, List.set_cons_zero, List.set_cons_succ]
      rfl
  · rintro Ld b W hL ⟨u0, u1, u2, u3, u4, u5, u6, u7, u8, u9, rfl, hC⟩
    obtain ⟨fb, -, rfl⟩ := hC.h7 (hL 7 (by show 7 < 13; decide))
    obtain ⟨tb, -, rfl⟩ := hC.h8 (hL 8 (by show 8 < 13; decide))
    obtain ⟨pb, -, rfl⟩ := hC.h9 (hL 9 (by show 9 < 13; decide))
    have HO1 := Lib.hid (HO0.out.go hC.bw)
    have her := HO1.out.row 0 rfl
    have y0 := her.cellAt 0 (by decide)
    clear hC hL her HO0
    simp only [Act.put, List.setIfInBounds_toArray, List.set_cons_zero, List.set_cons_succ]
    go_wp2_with fail
    refine reg_inv34 (LFlushI w w.heap.size) (by kernel_rfl) (by kernel_rfl) ?_ ?_ ?_
    · refine ⟨undef, undef, undef, undef, ?_, ⟨HO1.out.drew, ?_, ?_, ?_, ?_⟩⟩
      · simp only [Act.put, List.setIfInBounds_toArray, List.set_cons_zero, List.set_cons_succ]
      all_goals (intro h; cases h)
    · rintro jj Ld b W hj hf hcl hd ⟨u0, u1, u2, u3, rfl, hC⟩
      have hj' : jj < 6 := hj
      have hcase : jj = 0 ∨ jj = 1 ∨ jj = 2 ∨ jj = 3 ∨ jj = 4 ∨ jj = 5 := by omega
      clear hj hj'
      simp only [Act.put, List.setIfInBounds_toArray, List.set_cons_zero, List.set_cons_succ]
      rcases hcase with rfl | rfl | rfl | rfl | rfl | rfl
      · clear hd hcl
        refine wpOp_step rfl (fun K hK => ?_)
        go_simp
        refine hK _ _ ⟨_, u1, u2, u3, ?_, ⟨hC.ow, fun _ => rfl, hC.h1, hC.h2, hC.h3⟩⟩
        simp only [Act.put, List.setIfInBounds_toArray, List.set_cons_zero, List.set_cons_succ]
      · clear hd hcl
        refine wpOp_step rfl (fun K hK => ?_)
        go_simp
        refine hK _ _ ⟨u0, _, u2, u3, ?_, ⟨hC.ow, hC.h0, fun _ => rfl, hC.h2, hC.h3⟩⟩
        simp only [Act.put, List.setIfInBounds_toArray, List.set_cons_zero, List.set_cons_succ]
      · obtain rfl := hC.h1 (hd 1 (by kernel_rfl))
        have her := hC.ow.row 0 rfl
        have y0 := her.cellAt 0 (by decide)
        clear hd hcl
        refine wpOp_step rfl (fun K hK => ?_)
        go_simp
        refine hK _ _ ⟨u0, _, _, u3, ?_, ⟨hC.ow, hC.h0, hC.h1, fun _ => rfl, hC.h3⟩⟩
        simp only [Act.put, List.setIfInBounds_toArray, List.set_cons_zero, List.set_cons_succ]
      · obtain rfl := hC.h2 (hd 2 (by kernel_rfl))
        clear hd hcl
        refine wpOp_step rfl (fun K hK => ?_)
        go_simp
        refine hK _ _ ⟨u0, u1, _, _, ?_, ⟨hC.ow, hC.h0, hC.h1, hC.h2, fun _ => rfl⟩⟩
        simp only [Act.put, List.setIfInBounds_toArray, List.set_cons_zero, List.set_cons_succ]
      · obtain rfl := hC.h0 (hd 0 (by kernel_rfl))
        have how := hC.ow
        rw [hf] at how
        simp only [cond_false] at how
        have hg := (how.rowHeap 1 rfl).1
        have ho := how.putRow (k := 3) 1 rfl #[.string ⟨#[102, 108, 117, 115, 104]⟩, .slice none 0 0, .string ⟨#[]⟩] rfl (by omega)
        simp only [List.set_cons_zero, List.set_cons_succ] at ho
        clear hd hcl
        refine wpOp_step rfl (fun K hK => ?_)
        rw [if_pos (by rfl)]
        refine wp_store_row 69 (.tmp 2) (.tmp 131) rfl (w.heap.size + 1) #[.string ⟨#[102, 108, 117, 115, 104]⟩, .slice none 0 0, .string ⟨#[]⟩] rfl rfl 69 _ hg sizeWd rfl (by simp [Value.oneCell']) ?_
        refine hK _ _ ⟨(.agg #[.string ⟨#[102, 108, 117, 115, 104]⟩, .slice none 0 0, .string ⟨#[]⟩]), u1, u2, u3, ?_, ⟨ho, hC.h0, hC.h1, hC.h2, hC.h3⟩⟩
        simp only [Act.put, List.setIfInBounds_toArray, List.set_cons_zero, List.set_cons_succ]
        rfl
      · obtain rfl := hC.h3 (hd 3 (by kernel_rfl))
        have how := hC.ow
        rw [hf] at how
        simp only [cond_false] at how
        have hg := (how.rowHeap 2 rfl).1
        have ho := how.putRow (k := 26) 2 rfl #[.int .i64 6, .int .i64 0, .int .i64 0, .int .i64 0, .int .i64 0, .int .i64 0, .int .i64 0, .int .i64 0, .slice none 0 0, .int .i64 0, .int .i64 0, .int .i64 0, .int .i64 0, .int .i64 0, .int .i64 0, .int .i64 0, .int .i64 0, .int .u8 0, .int .u8 0, .bool false, .int .i64 0, .int .i64 0, .int .i64 0, .int .i64 0, .bool false, .bool false] rfl (by omega)
        simp only [List.set_cons_zero, List.set_cons_succ] at ho
        clear hd hcl
        refine wpOp_step rfl (fun K hK => ?_)
        rw [if_pos (by rfl)]
        refine wp_store_row 37 (.tmp 3) (.tmp 134) rfl (w.heap.size + 1 + 1) #[.int .i64 6, .int .i64 0, .int .i64 0, .int .i64 0, .int .i64 0, .int .i64 0, .int .i64 0, .int .i64 0, .slice none 0 0, .int .i64 0, .int .i64 0, .int .i64 0, .int .i64 0, .int .i64 0, .int .i64 0, .int .i64 0, .int .i64 0, .int .u8 0, .int .u8 0, .bool false, .int .i64 0, .int .i64 0, .int .i64 0, .int .i64 0, .bool false, .bool false] rfl rfl 37 _ hg sizeEv rfl (by simp [Value.oneCell']) ?_
        refine hK _ _ ⟨u0, u1, u2, (.agg #[.int .i64 6, .int .i64 0, .int .i64 0, .int .i64 0, .int .i64 0, .int .i64 0, .int .i64 0, .int .i64 0, .slice none 0 0, .int .i64 0, .int .i64 0, .int .i64 0, .int .i64 0, .int .i64 0, .int .i64 0, .int .i64 0, .int .i64 0, .int .u8 0, .int .u8 0, .bool false, .int .i64 0, .int .i64 0, .int .i64 0, .int .i64 0, .bool false, .bool false]), ?_, ⟨ho, hC.h0, hC.h1, hC.h2, hC.h3⟩⟩
        simp only [Act.put, List.setIfInBounds_toArray, List.set_cons_zero, List.set_cons_succ]
        rfl
    · rintro Ld b W hL ⟨u0, u1, u2, u3, rfl, hC⟩
      have how := hC.ow
      rw [hL 4 (by show 4 < 6; decide), hL 5 (by show 5 < 6; decide)] at how
      simp only [cond_true] at how
      have HE := Lib.hid how
      clear hC hL how
      have l3 := run_loadVar_row (P := Tryd.prog) W (w.heap.size + 1) 69 69 #[.string ⟨#[102, 108, 117, 115, 104]⟩, .slice none 0 0, .string ⟨#[]⟩] (0, 0) _ (HE.out.rowHeap 1 rfl).1 Tryd.underlying69 rfl sizeWd
      have l26 := run_loadVar_row (P := Tryd.prog) W (w.heap.size + 1 + 1) 37 37 #[.int .i64 6, .int .i64 0, .int .i64 0, .int .i64 0, .int .i64 0, .int .i64 0, .int .i64 0, .int .i64 0, .slice none 0 0, .int .i64 0, .int .i64 0, .int .i64 0, .int .i64 0, .int .i64 0, .int .i64 0, .int .i64 0, .int .i64 0, .int .u8 0, .int .u8 0, .bool false, .int .i64 0, .int .i64 0, .int .i64 0, .int .i64 0, .bool false, .bool false] (0, 0) _ (HE.out.rowHeap 2 rfl).1 Tryd.underlying37 rfl sizeEv
      have has : ∀ (ad : Addr) (W : World), (asAddr (.pointer (some ad))).run Tryd.prog W = .ok ad W := fun _ _ => rfl
      simp only [Act.put, List.setIfInBounds_toArray, List.set_cons_zero, List.set_cons_succ]
      go_wp2_with fail
      refine bodyPost_ret (v := .tuple #[.agg #[.string ⟨#[102, 108, 117, 115, 104]⟩, .slice none 0 0, .string ⟨#[]⟩], .agg #[.int .i64 6, .int .i64 0, .int .i64 0, .int .i64 0, .int .i64 0, .int .i64 0, .int .i64 0, .int .i64 0, .slice none 0 0, .int .i64 0, .int .i64 0, .int .i64 0, .int .i64 0, .int .i64 0, .int .i64 0, .int .i64 0, .int .i64 0, .int .u8 0, .int .u8 0, .bool false, .int .i64 0, .int .i64 0, .int .i64 0, .int .i64 0, .bool false, .bool false]]) (by simp [results, Tryd.results21, asAddr, l3, l26]) rfl ?_
      exact ⟨rfl, HE.out.below⟩
set_option maxHeartbeats 2000000 in
theorem line_zero (w : World) :
    Calls Tryd.prog 21 #[.agg #[.int .i64 0, .int .i64 0, .int .i64 0, .int .i64 0, .int .i64 0, .int .i64 0, .int .i64 0, .int .i64 0, .slice none 0 0, .int .i64 0, .int .i64 0, .int .i64 0, .int .i64 0, .int .i64 0, .int .i64 0, .int .i64 0, .int .i64 0, .int .u8 0, .int .u8 0, .bool false, .int .i64 0, .int .i64 0, .int .i64 0, .int .i64 0, .bool false, .bool false]] w fun e w' => e = .returned (.tuple #[.agg #[.string ⟨#[]⟩, .slice none 0 0, .string ⟨#[]⟩], .agg #[.int .i64 0, .int .i64 0, .int .i64 0, .int .i64 0, .int .i64 0, .int .i64 0, .int .i64 0, .int .i64 0, .slice none 0 0, .int .i64 0, .int .i64 0, .int .i64 0, .int .i64 0, .int .i64 0, .int .i64 0, .int .i64 0, .int .i64 0, .int .u8 0, .int .u8 0, .bool false, .int .i64 0, .int .i64 0, .int .i64 0, .int .i64 0, .bool false, .bool false]]) ∧ Below w.heap.size w w' := by
  have H0 := (((Ow.of (St.refl w)).arr #[.int .i64 0, .int .i64 0, .int .i64 0, .int .i64 0, .int .i64 0, .int .i64 0, .int .i64 0, .int .i64 0, .slice none 0 0, .int .i64 0, .int .i64 0, .int .i64 0, .int .i64 0, .int .i64 0, .int .i64 0, .int .i64 0, .int .i64 0, .int .u8 0, .int .u8 0, .bool false, .int .i64 0, .int .i64 0, .int .i64 0, .int .i64 0, .bool false, .bool false] 26 rfl (by omega) 37).arr #[.string ⟨#[]⟩, .slice none 0 0, .string ⟨#[]⟩] 3 rfl (by omega) 69).arr #[.int .i64 0, .int .i64 0, .int .i64 0, .int .i64 0, .int .i64 0, .int .i64 0, .int .i64 0, .int .i64 0, .slice none 0 0, .int .i64 0, .int .i64 0, .int .i64 0, .int .i64 0, .int .i64 0, .int .i64 0, .int .i64 0, .int .i64 0, .int .u8 0, .int .u8 0, .bool false, .int .i64 0, .int .i64 0, .int .i64 0, .int .i64 0, .bool false, .bool false] 26 rfl (by omega) 37
  simp only [World.size_alloc, List.cons_append, List.nil_append] at H0
  have HO0 := Lib.hid H0
  clear H0
  go_enter Tryd.func21, Tryd.ntmps21
  go_wp2_with fail
  refine reg_inv34 (L1I (((w.alloc (.cells #[.int .i64 0, .int .i64 0, .int .i64 0, .int .i64 0, .int .i64 0, .int .i64 0, .int .i64 0, .int .i64 0, .slice none 0 0, .int .i64 0, .int .i64 0, .int .i64 0, .int .i64 0, .int .i64 0, .int .i64 0, .int .i64 0, .int .i64 0, .int .u8 0, .int .u8 0, .bool false, .int .i64 0, .int .i64 0, .int .i64 0, .int .i64 0, .bool false, .bool false] 37)).alloc (.cells #[.string ⟨#[]⟩, .slice none 0 0, .string ⟨#[]⟩] 69)).alloc (.cells #[.int .i64 0, .int .i64 0, .int .i64 0, .int .i64 0, .int .i64 0, .int .i64 0, .int .i64 0, .int .i64 0, .slice none 0 0, .int .i64 0, .int .i64 0, .int .i64 0, .int .i64 0, .int .i64 0, .int .i64 0, .int .i64 0, .int .i64 0, .int .u8 0, .int .u8 0, .bool false, .int .i64 0, .int .i64 0, .int .i64 0, .int .i64 0, .bool false, .bool false] 37)) w.heap.size) (by kernel_rfl) (by kernel_rfl) ?_ ?_ ?_
  · refine ⟨undef, undef, undef, undef, undef, undef, undef, undef, undef, undef, ?_, ⟨(Below.refl _ _).drew, ?_, ?_, ?_, ?_, ?_, ?_, ?_, ?_, ?_, ?_⟩⟩
    · simp only [Act.put, List.setIfInBounds_toArray, List.set_cons_zero, List.set_cons_succ]
    all_goals (intro h; cases h)
  · rintro jj Ld b W hj hf hcl hd ⟨u0, u1, u2, u3, u4, u5, u6, u7, u8, u9, rfl, hC⟩
    have hj' : jj < 13 := hj
    have hcase : jj = 0 ∨ jj = 1 ∨ jj = 2 ∨ jj = 3 ∨ jj = 4 ∨ jj = 5 ∨ jj = 6 ∨ jj = 7 ∨ jj = 8 ∨ jj = 9 ∨ jj = 10 ∨ jj = 11 ∨ jj = 12 := by omega
    clear hj hj'
    simp only [Act.put, List.setIfInBounds_toArray, List.set_cons_zero, List.set_cons_succ]
    rcases hcase with rfl | rfl | rfl | rfl | rfl | rfl | rfl | rfl | rfl | rfl | rfl | rfl | rfl
    · clear hd hcl
      refine wpOp_step rfl (fun K hK => ?_)
      go_simp
      refine hK _ _ ⟨_, u1, u2, u3, u4, u5, u6, u7, u8, u9, ?_, ⟨hC.bw, fun _ => rfl, hC.h1, hC.h2, hC.h3, hC.h4, hC.h5, hC.h6, hC.h7, hC.h8, hC.h9⟩⟩
      simp only [Act.put, List.setIfInBounds_toArray, List.set_cons_zero, List.set_cons_succ]
    · obtain rfl := hC.h0 (hd 0 (by kernel_rfl))
      have her := (HO0.out.go hC.bw).row 0 rfl
      have y9 := her.cellAt 9 (by decide)
      have y10 := her.cellAt 10 (by decide)
      have y11 := her.cellAt 11 (by decide)
      have y12 := her.cellAt 12 (by decide)
      have y13 := her.cellAt 13 (by decide)
      have y14 := her.cellAt 14 (by decide)
      have y15 := her.cellAt 15 (by decide)
      have y16 := her.cellAt 16 (by decide)
      have y17 := her.cellAt 17 (by decide)
      have y18 := her.cellAt 18 (by decide)
      have y19 := her.cellAt 19 (by decide)
      clear hd hcl
      refine wpOp_step rfl (fun K hK => ?_)
      go_simp
      refine hK _ _ ⟨_, _, u2, u3, u4, u5, u6, u7, u8, u9, ?_, ⟨hC.bw, hC.h0, fun _ => rfl, hC.h2, hC.h3, hC.h4, hC.h5, hC.h6, hC.h7, hC.h8, hC.h9⟩⟩
      simp only [Act.put, List.setIfInBounds_toArray, List.set_cons_zero, List.set_cons_succ]
    · clear hd hcl
      refine wpOp_step rfl (fun K hK => ?_)
      go_simp
      refine hK _ _ ⟨u0, u1, _, u3, u4, u5, u6, u7, u8, u9, ?_, ⟨hC.bw, hC.h0, hC.h1, fun _ => rfl, hC.h3, hC.h4, hC.h5, hC.h6, hC.h7, hC.h8, hC.h9⟩⟩
      simp only [Act.put, List.setIfInBounds_toArray, List.set_cons_zero, List.set_cons_succ]
    · obtain rfl := hC.h2 (hd 2 (by kernel_rfl))
      have her := (HO0.out.go hC.bw).row 0 rfl
      have y20 := her.cellAt 20 (by decide)
      have y21 := her.cellAt 21 (by decide)
      have y22 := her.cellAt 22 (by decide)
      have y23 := her.cellAt 23 (by decide)
      have y24 := her.cellAt 24 (by decide)
      have y25 := her.cellAt 25 (by decide)
      clear hd hcl
      refine wpOp_step rfl (fun K hK => ?_)
      go_simp
      refine hK _ _ ⟨u0, u1, _, _, u4, u5, u6, u7, u8, u9, ?_, ⟨hC.bw, hC.h0, hC.h1, hC.h2, fun _ => rfl, hC.h4, hC.h5, hC.h6, hC.h7, hC.h8, hC.h9⟩⟩
      simp only [Act.put, List.setIfInBounds_toArray, List.set_cons_zero, List.set_cons_succ]
    · clear hd hcl
      refine wpOp_step rfl (fun K hK => ?_)
      go_simp
      refine hK _ _ ⟨u0, u1, u2, u3, _, u5, u6, u7, u8, u9, ?_, ⟨hC.bw, hC.h0, hC.h1, hC.h2, hC.h3, fun _ => rfl, hC.h5, hC.h6, hC.h7, hC.h8, hC.h9⟩⟩
      simp only [Act.put, List.setIfInBounds_toArray, List.set_cons_zero, List.set_cons_succ]
    · obtain rfl := hC.h4 (hd 4 (by kernel_rfl))
      clear hd hcl
      refine wpOp_step rfl (fun K hK => ?_)
      go_simp
      refine hK _ _ ⟨u0, u1, u2, u3, _, _, u6, u7, u8, u9, ?_, ⟨hC.bw, hC.h0, hC.h1, hC.h2, hC.h3, hC.h4, fun _ => rfl, hC.h6, hC.h7, hC.h8, hC.h9⟩⟩
      simp only [Act.put, List.setIfInBounds_toArray, List.set_cons_zero, List.set_cons_succ]
    · obtain rfl := hC.h5 (hd 5 (by kernel_rfl))
      have her := (HO0.out.go hC.bw).row 0 rfl
      have y10 := her.cellAt 10 (by decide)
      have y11 := her.cellAt 11 (by decide)
      have y12 := her.cellAt 12 (by decide)
      have y13 := her.cellAt 13 (by decide)
      have y14 := her.cellAt 14 (by decide)
      have y15 := her.cellAt 15 (by decide)
      clear hd hcl
      refine wpOp_step rfl (fun K hK => ?_)
      go_simp
      refine hK _ _ ⟨u0, u1, u2, u3, u4, _, _, u7, u8, u9, ?_, ⟨hC.bw, hC.h0, hC.h1, hC.h2, hC.h3, hC.h4, hC.h5, fun _ => rfl, hC.h7, hC.h8, hC.h9⟩⟩
      simp only [Act.put, List.setIfInBounds_toArray, List.set_cons_zero, List.set_cons_succ]
    · clear hd hcl
      refine wpOp_step rfl (fun K hK => ?_)
      go_simp
      refine hK _ _ ⟨u0, u1, u2, u3, u4, u5, u6, _, u8, u9, ?_, ⟨(below_allocX hC.bw _), hC.h0, hC.h1, hC.h2, hC.h3, hC.h4, hC.h5, hC.h6, fun _ => ⟨_, ⟨hC.bw.size, Cel.new _ _ _⟩, rfl⟩, fun h => by obtain ⟨b, hb, e⟩ := hC.h8 h; exact ⟨b, ⟨hb.1, hb.2.alloc _⟩, e⟩, fun h => by obtain ⟨b, hb, e⟩ := hC.h9 h; exact ⟨b, ⟨hb.1, hb.2.alloc _⟩, e⟩⟩⟩
      simp only [Act.put, List.setIfInBounds_toArray, List.set_cons_zero, List.set_cons_succ]
    · clear hd hcl
      refine wpOp_step rfl (fun K hK => ?_)
      go_simp
      refine hK _ _ ⟨u0, u1, u2, u3, u4, u5, u6, u7, _, u9, ?_, ⟨(below_allocX hC.bw _), hC.h0, hC.h1, hC.h2, hC.h3, hC.h4, hC.h5, hC.h6, fun h => by obtain ⟨b, hb, e⟩ := hC.h7 h; exact ⟨b, ⟨hb.1, hb.2.alloc _⟩, e⟩, fun _ => ⟨_, ⟨hC.bw.size, Cel.new _ _ _⟩, rfl⟩, fun h => by obtain ⟨b, hb, e⟩ := hC.h9 h; exact ⟨b, ⟨hb.1, hb.2.alloc _⟩, e⟩⟩⟩
      simp only [Act.put, List.setIfInBounds_toArray, List.set_cons_zero, List.set_cons_succ]
    · clear hd hcl
      refine wpOp_step rfl (fun K hK => ?_)
      go_simp
      refine hK _ _ ⟨u0, u1, u2, u3, u4, u5, u6, u7, u8, _, ?_, ⟨(below_allocX hC.bw _), hC.h0, hC.h1, hC.h2, hC.h3, hC.h4, hC.h5, hC.h6, fun h => by obtain ⟨b, hb, e⟩ := hC.h7 h; exact ⟨b, ⟨hb.1, hb.2.alloc _⟩, e⟩, fun h => by obtain ⟨b, hb, e⟩ := hC.h8 h; exact ⟨b, ⟨hb.1, hb.2.alloc _⟩, e⟩, fun _ => ⟨_, ⟨hC.bw.size, Cel.new _ _ _⟩, rfl⟩⟩⟩
      simp only [Act.put, List.setIfInBounds_toArray, List.set_cons_zero, List.set_cons_succ]
    · obtain ⟨z, ⟨hzB, hzC⟩, rfl⟩ := hC.h7 (hd 7 (by kernel_rfl))
      obtain rfl := hC.h1 (hd 1 (by kernel_rfl))
      have hzC2 := hzC
      obtain ⟨old, hg, ho⟩ := hzC
      clear hd hcl
      refine wpOp_step rfl (fun K hK => ?_)
      rw [if_pos (by rfl)]
      refine wp_store_row 33 (.tmp 4) (.tmp 11) rfl z #[.int .i64 0, .int .i64 0, .int .i64 0, .int .i64 0, .int .i64 0, .int .i64 0, .int .i64 0, .int .i64 0, .int .u8 0, .int .u8 0, .bool false] rfl rfl 33 _ hg sizeFa ho (by simp [Value.oneCell']) ?_
      refine hK _ _ ⟨u0, (.agg #[.int .i64 0, .int .i64 0, .int .i64 0, .int .i64 0, .int .i64 0, .int .i64 0, .int .i64 0, .int .i64 0, .int .u8 0, .int .u8 0, .bool false]), u2, u3, u4, u5, u6, (.pointer (some ⟨z, 0, none⟩)), u8, u9, ?_, ⟨(below_setRow hC.bw hzB _), hC.h0, hC.h1, hC.h2, hC.h3, hC.h4, hC.h5, hC.h6, fun h => by obtain ⟨b, hb, e⟩ := hC.h7 h; exact ⟨b, ⟨hb.1, hb.2.row hzC2⟩, e⟩, fun h => by obtain ⟨b, hb, e⟩ := hC.h8 h; exact ⟨b, ⟨hb.1, hb.2.row hzC2⟩, e⟩, fun h => by obtain ⟨b, hb, e⟩ := hC.h9 h; exact ⟨b, ⟨hb.1, hb.2.row hzC2⟩, e⟩⟩⟩
      simp only [Act.put, List.setIfInBounds_toArray, List.set_cons_zero, List.set_cons_succ]
      rfl
    · obtain ⟨z, ⟨hzB, hzC⟩, rfl⟩ := hC.h8 (hd 8 (by kernel_rfl))
      obtain rfl := hC.h3 (hd 3 (by kernel_rfl))
      have hzC2 := hzC
      obtain ⟨old, hg, ho⟩ := hzC
      clear hd hcl
      refine wpOp_step rfl (fun K hK => ?_)
      rw [if_pos (by rfl)]
      refine wp_store_row 35 (.tmp 5) (.tmp 13) rfl z #[.int .i64 0, .int .i64 0, .int .i64 0, .int .i64 0, .bool false, .bool false] rfl rfl 35 _ hg sizeTr ho (by simp [Value.oneCell']) ?_
      refine hK _ _ ⟨u0, u1, u2, (.agg #[.int .i64 0, .int .i64 0, .int .i64 0, .int .i64 0, .bool false, .bool false]), u4, u5, u6, u7, (.pointer (some ⟨z, 0, none⟩)), u9, ?_, ⟨(below_setRow hC.bw hzB _), hC.h0, hC.h1, hC.h2, hC.h3, hC.h4, hC.h5, hC.h6, fun h => by obtain ⟨b, hb, e⟩ := hC.h7 h; exact ⟨b, ⟨hb.1, hb.2.row hzC2⟩, e⟩, fun h => by obtain ⟨b, hb, e⟩ := hC.h8 h; exact ⟨b, ⟨hb.1, hb.2.row hzC2⟩, e⟩, fun h => by obtain ⟨b, hb, e⟩ := hC.h9 h; exact ⟨b, ⟨hb.1, hb.2.row hzC2⟩, e⟩⟩⟩
      simp only [Act.put, List.setIfInBounds_toArray, List.set_cons_zero, List.set_cons_succ]
      rfl
    · obtain ⟨z, ⟨hzB, hzC⟩, rfl⟩ := hC.h9 (hd 9 (by kernel_rfl))
      obtain rfl := hC.h6 (hd 6 (by kernel_rfl))
      have hzC2 := hzC
      obtain ⟨old, hg, ho⟩ := hzC
      clear hd hcl
      refine wpOp_step rfl (fun K hK => ?_)
      rw [if_pos (by rfl)]
      refine wp_store_row 31 (.tmp 6) (.tmp 16) rfl z #[.int .i64 0, .int .i64 0, .int .i64 0, .int .i64 0, .int .i64 0, .int .i64 0] rfl rfl 31 _ hg sizePl ho (by simp [Value.oneCell']) ?_
      refine hK _ _ ⟨u0, u1, u2, u3, u4, u5, (.agg #[.int .i64 0, .int .i64 0, .int .i64 0, .int .i64 0, .int .i64 0, .int .i64 0]), u7, u8, (.pointer (some ⟨z, 0, none⟩)), ?_, ⟨(below_setRow hC.bw hzB _), hC.h0, hC.h1, hC.h2, hC.h3, hC.h4, hC.h5, hC.h6, fun h => by obtain ⟨b, hb, e⟩ := hC.h7 h; exact ⟨b, ⟨hb.1, hb.2.row hzC2⟩, e⟩, fun h => by obtain ⟨b, hb, e⟩ := hC.h8 h; exact ⟨b, ⟨hb.1, hb.2.row hzC2⟩, e⟩, fun h => by obtain ⟨b, hb, e⟩ := hC.h9 h; exact ⟨b, ⟨hb.1, hb.2.row hzC2⟩, e⟩⟩⟩
      simp only [Act.put, List.setIfInBounds_toArray, List.set_cons_zero, List.set_cons_succ]
      rfl
  · rintro Ld b W hL ⟨u0, u1, u2, u3, u4, u5, u6, u7, u8, u9, rfl, hC⟩
    obtain ⟨fb, -, rfl⟩ := hC.h7 (hL 7 (by show 7 < 13; decide))
    obtain ⟨tb, -, rfl⟩ := hC.h8 (hL 8 (by show 8 < 13; decide))
    obtain ⟨pb, -, rfl⟩ := hC.h9 (hL 9 (by show 9 < 13; decide))
    have HO1 := Lib.hid (HO0.out.go hC.bw)
    have her := HO1.out.row 0 rfl
    have y0 := her.cellAt 0 (by decide)
    clear hC hL her HO0
    simp only [Act.put, List.setIfInBounds_toArray, List.set_cons_zero, List.set_cons_succ]
    go_upto_region 26 with fail
    have hg1 := (HO1.out.rowHeap 1 rfl).1
    have hp1 := HO1.out.putRow (k := 3) 1 rfl #[.string ⟨#[]⟩, .slice none 0 0, .string ⟨#[]⟩] rfl (by omega)
    simp only [List.set_cons_zero, List.set_cons_succ] at hp1
    have hg2 := (hp1.rowHeap 2 rfl).1
    have hp2 := hp1.putRow (k := 26) 2 rfl #[.int .i64 0, .int .i64 0, .int .i64 0, .int .i64 0, .int .i64 0, .int .i64 0, .int .i64 0, .int .i64 0, .slice none 0 0, .int .i64 0, .int .i64 0, .int .i64 0, .int .i64 0, .int .i64 0, .int .i64 0, .int .i64 0, .int .i64 0, .int .u8 0, .int .u8 0, .bool false, .int .i64 0, .int .i64 0, .int .i64 0, .int .i64 0, .bool false, .bool false] rfl (by omega)
    simp only [List.set_cons_zero, List.set_cons_succ] at hp2
    have HG1 := Lib.hid hg1
    have HG2 := Lib.hid hg2
    have HE := Lib.hid hp2
    clear hg1 hp1 hg2 hp2
    have l3 := run_loadVar_row (P := Tryd.prog) ((W.setRow (w.heap.size + 1) #[.string ⟨#[]⟩, .slice none 0 0, .string ⟨#[]⟩]).setRow (w.heap.size + 1 + 1) #[.int .i64 0, .int .i64 0, .int .i64 0, .int .i64 0, .int .i64 0, .int .i64 0, .int .i64 0, .int .i64 0, .slice none 0 0, .int .i64 0, .int .i64 0, .int .i64 0, .int .i64 0, .int .i64 0, .int .i64 0, .int .i64 0, .int .i64 0, .int .u8 0, .int .u8 0, .bool false, .int .i64 0, .int .i64 0, .int .i64 0, .int .i64 0, .bool false, .bool false]) (w.heap.size + 1) 69 69 #[.string ⟨#[]⟩, .slice none 0 0, .string ⟨#[]⟩] (0, 0) _ (HE.out.rowHeap 1 rfl).1 Tryd.underlying69 rfl sizeWd
    have l26 := run_loadVar_row (P := Tryd.prog) ((W.setRow (w.heap.size + 1) #[.string ⟨#[]⟩, .slice none 0 0, .string ⟨#[]⟩]).setRow (w.heap.size + 1 + 1) #[.int .i64 0, .int .i64 0, .int .i64 0, .int .i64 0, .int .i64 0, .int .i64 0, .int .i64 0, .int .i64 0, .slice none 0 0, .int .i64 0, .int .i64 0, .int .i64 0, .int .i64 0, .int .i64 0, .int .i64 0, .int .i64 0, .int .i64 0, .int .u8 0, .int .u8 0, .bool false, .int .i64 0, .int .i64 0, .int .i64 0, .int .i64 0, .bool false, .bool false]) (w.heap.size + 1 + 1) 37 37 #[.int .i64 0, .int .i64 0, .int .i64 0, .int .i64 0, .int .i64 0, .int .i64 0, .int .i64 0, .int .i64 0, .slice none 0 0, .int .i64 0, .int .i64 0, .int .i64 0, .int .i64 0, .int .i64 0, .int .i64 0, .int .i64 0, .int .i64 0, .int .u8 0, .int .u8 0, .bool false, .int .i64 0, .int .i64 0, .int .i64 0, .int .i64 0, .bool false, .bool false] (0, 0) _ (HE.out.rowHeap 2 rfl).1 Tryd.underlying37 rfl sizeEv
    have has : ∀ (ad : Addr) (W : World), (asAddr (.pointer (some ad))).run Tryd.prog W = .ok ad W := fun _ _ => rfl
    repeat (first | refine wpList_store_row rfl 69 (.tmp 2) (.tmp 141) rfl (w.heap.size + 1) #[.string ⟨#[]⟩, .slice none 0 0, .string ⟨#[]⟩] rfl rfl 69 _ HG1.out sizeWd rfl (by simp [Value.oneCell']) ?_ | refine wpList_store_row rfl 37 (.tmp 3) (.tmp 142) rfl (w.heap.size + 1 + 1) #[.int .i64 0, .int .i64 0, .int .i64 0, .int .i64 0, .int .i64 0, .int .i64 0, .int .i64 0, .int .i64 0, .slice none 0 0, .int .i64 0, .int .i64 0, .int .i64 0, .int .i64 0, .int .i64 0, .int .i64 0, .int .i64 0, .int .i64 0, .int .u8 0, .int .u8 0, .bool false, .int .i64 0, .int .i64 0, .int .i64 0, .int .i64 0, .bool false, .bool false] rfl rfl 37 _ HG2.out sizeEv rfl (by simp [Value.oneCell']) ?_ | go_step)
    go_wp2_with fail
    refine bodyPost_ret (v := .tuple #[.agg #[.string ⟨#[]⟩, .slice none 0 0, .string ⟨#[]⟩], .agg #[.int .i64 0, .int .i64 0, .int .i64 0, .int .i64 0, .int .i64 0, .int .i64 0, .int .i64 0, .int .i64 0, .slice none 0 0, .int .i64 0, .int .i64 0, .int .i64 0, .int .i64 0, .int .i64 0, .int .i64 0, .int .i64 0, .int .i64 0, .int .u8 0, .int .u8 0, .bool false, .int .i64 0, .int .i64 0, .int .i64 0, .int .i64 0, .bool false, .bool false]]) (by simp [results, Tryd.results21, asAddr, l3, l26, Act.put]) rfl ?_
    exact ⟨rfl, HE.out.below⟩
end Go.Proofs.YtpcmbmabmfghkaaDoor
