/- The contracts of the dice that make inputs: what they give out is in range, and nothing but their own block turns. -/
import Derived.Test.YtnfjnlnphdmdmaaGreatDoorMem
import Derived.Test.YtnfjnlnphdmdmaaGreatDoorMod
import Derived.StillTailTactics
import Derived.Outline
namespace Go.Proofs.YtnfjnlnphdmdmaaGreatDoor
open Go.RowKit
set_option linter.unusedVariables false
set_option maxRecDepth 100000

/-- ints as values -/
def encI (n : Int) : Value := .int .i64 n
def ints (l : List Int) : List Value := l.map encI
theorem ints_length (l : List Int) : (ints l).length = l.length := List.length_map _
theorem ints_one (l : List Int) : ∀ u ∈ ints l, u.oneCell' = true := by
  intro u hu
  obtain ⟨b, _, rfl⟩ := List.mem_map.1 hu
  rfl
theorem Sl.int {w : World} {B : Nat} {A : Option Addr} {l : List Int} (h : Sl w B A (ints l)) {k : Nat} {b : Int} (hk : l[k]? = some b) : ∃ ad, A = some ad ∧ ad.block < B ∧ w.cell? (ad.add k) = some (.int .i64 b) := by
  have hlt : k < l.length := by
    rcases Nat.lt_or_ge k l.length with h | h
    · exact h
    · rw [List.getElem?_eq_none h] at hk; cases hk
  obtain ⟨ad, e, hb, hc⟩ := h (by rw [ints_length]; omega)
  exact ⟨ad, e, hb, hc k _ (by unfold ints; rw [List.getElem?_map, hk]; rfl)⟩
theorem int_at (l : List Int) (k : Nat) (h : k < l.length) : ∃ b : Int, l[k]? = some b := ⟨_, List.getElem?_eq_getElem h⟩

/-- Dice lie in block g: a list of numbers below block B, and how many are given out. -/
def Dice (w : World) (g B : Nat) : Prop :=
  ∃ (A : Option Addr) (n c at_ : Nat) (ts : List Int), w.heap[g]? = some (.cells #[.slice A n c, .int .i64 (at_ : Int)] 48 (0, 0)) ∧ ts.length = n ∧ at_ ≤ n ∧ n ≤ 140737488355328 ∧ Sl w B A (ints ts) ∧ B ≤ g
theorem Dice.lt {w : World} {g B : Nat} (h : Dice w g B) : g < w.heap.size := by
  obtain ⟨A, n, c, at_, ts, hh, _⟩ := h
  rcases Nat.lt_or_ge g w.heap.size with hlt | hge
  · exact hlt
  · rw [Array.getElem?_eq_none hge] at hh; cases hh
theorem Dice.keep {w w' : World} {g B : Nat} (h : Dice w g B) (hk : ∀ b, b ≤ g → w'.heap[b]? = w.heap[b]?) : Dice w' g B := by
  obtain ⟨A, n, c, at_, ts, hh, h1, h2, h3, hs, hB⟩ := h
  exact ⟨A, n, c, at_, ts, (hk g (Nat.le_refl _)).trans hh, h1, h2, h3, hs.keep fun p hp => World.cell?_of_block (hk p.block (by omega)), hB⟩
theorem Dice.below {w w' : World} {g B : Nat} (h : Dice w g B) (hb : Below w.heap.size w w') : Dice w' g B := h.keep fun b hb' => hb.block b (by have := h.lt; omega)
theorem Dice.drewN {w : World} {g B : Nat} (h : Dice w g B) (k : Nat) : Dice (w.drewN k) g B := h
theorem Dice.drew {w : World} {g B : Nat} (h : Dice w g B) : Dice w.drew g B := h
theorem Dice.grown {w w' : World} {g B : Nat} (h : Dice w g B) {row : Option Nat} (hg : w.grownBy w' row) (hr : ∀ k, row = some k → g < k) : Dice w' g B := h.keep fun b hb' => hg.block b (by have := h.lt; omega) (fun e => by have := hr b e.symm; omega)

theorem light_any (A : Option Addr) (n c : Nat) (w : World) (hl : n ≤ 9223372036854775807) : Calls Tryz.prog 7 #[.slice A n c] w fun e w' => e = .returned (.bool (decide ((n : Int) ≤ 400))) ∧ w = w' := by
  go_enter Tryz.func7, Tryz.ntmps7
  go_wp2_with fail
  go_ret
  exact ⟨rfl, rfl⟩
theorem roll_any (A : Option Addr) (n c : Nat) (ts : List Int) (w : World) (hn : ts.length = n) (hl : n ≤ 140737488355328) (hs : Sl w w.heap.size A (ints ts)) :
    Calls Tryz.prog 8 #[.slice A n c] w fun e w' => e = .returned (.pointer (some ⟨w.heap.size, 0, none⟩)) ∧ Dice w' w.heap.size w.heap.size ∧ w'.heap.size = w.heap.size + 1 ∧ Below w.heap.size w w' := by
  have HD : Hid (Dice (w.alloc (.cells #[.slice A n c, .int .i64 0] 48)) w.heap.size w.heap.size) :=
    ⟨A, n, c, 0, ts, heap_alloc_new w _, hn, Nat.zero_le _, hl, hs.alloc (Nat.le_refl _) _, Nat.le_refl _⟩
  clear hn hs
  go_enter Tryz.func8, Tryz.ntmps8
  go_wp2_with fail
  go_ret
  exact ⟨rfl, HD.out, by simp, (Below.refl _ _).alloc (Nat.le_refl _) _⟩

/-- what a number given out leaves -/
def Gave (w : World) (g B : Nat) (m : Int) (e : Ending) (w' : World) : Prop := ∃ r : Int, e = .returned (.int .i64 r) ∧ 0 ≤ r ∧ r < m ∧ Dice w' g B ∧ w.grownBy w' (some g)
theorem next_any (g B : Nat) (m : Int) (w : World) (hm : 1 ≤ m) (hm2 : m ≤ 9223372036854775807) (hd : Dice w g B) : Calls Tryz.prog 10 #[.pointer (some ⟨g, 0, none⟩), .int .i64 m] w (Gave w g B m) := by
  obtain ⟨A, n, c, k, ts, hh, hts, hk, hn, hs, hB⟩ := hd
  have hc0 : w.cell? ⟨g, 0, none⟩ = some (.slice A n c) := cell_of_row w g 0 _ _ _ hh
  have hc1 : w.cell? ⟨g, 1, none⟩ = some (.int .i64 (k : Int)) := cell_of_row w g 1 _ _ _ hh
  have hf1 : w.frozen? ⟨g, 1, none⟩ = false := frozen_of_row w g 1 _ _ hh
  have HD : Hid (Dice w g B) := ⟨A, n, c, k, ts, hh, hts, hk, hn, hs, hB⟩
  rcases Nat.lt_or_ge k n with hlt | hge
  · obtain ⟨x, hx⟩ := int_at ts k (by omega)
    obtain ⟨ad, rfl, hbk, hcx⟩ := hs.int hx
    have hcx' : (w.setCell ⟨g, 1, none⟩ (.int .i64 ((k : Int) + 1))).cell? (ad.add k) = some (.int .i64 x) := by
      rw [World.cell?_setCell_other _ _ _ _ (fun e => by have := congrArg Addr.block e; rw [add_block] at this; simp at this; omega)]
      exact hcx
    have HD1 : Hid (Dice (w.setCell ⟨g, 1, none⟩ (.int .i64 ((k : Int) + 1))) g B) :=
      ⟨some ad, n, c, k + 1, ts, by rw [heap_setCell_same w g 1 _ _ _ hh]; rfl, hts, by omega, hn, hs.below ((Below.refl B w).setCell (p := ⟨g, 1, none⟩) hB _), hB⟩
    have HG : Hid (w.grownBy (w.setCell ⟨g, 1, none⟩ (.int .i64 ((k : Int) + 1))) (some g)) :=
      ⟨rfl, rfl, rfl, by simp [World.setCell], fun i hi hne => Below.heap_setCell _ _ _ _ (fun e => hne (by rw [e]))⟩
    have hc0' : (w.setCell ⟨g, 1, none⟩ (.int .i64 ((k : Int) + 1))).cell? ⟨g, 0, none⟩ = some (.slice (some ad) n c) := by
      rw [World.cell?_setCell_other _ _ _ _ (by simp)]
      exact hc0
    have hc1' : (w.setCell ⟨g, 1, none⟩ (.int .i64 ((k : Int) + 1))).cell? ⟨g, 1, none⟩ = some (.int .i64 ((k : Int) + 1)) := World.cell?_setCell_same' _ _ _ (by rw [hc1]; rfl)
    have HF : Hid (∀ nq : Nat, ∃ w2, ((w.drewN nq).setCell ⟨g, 1, none⟩ (.int .i64 ((k : Int) + 1))) = w2 ∧ w2.cell? ⟨g, 0, none⟩ = some (.slice (some ad) n c) ∧ w2.cell? ⟨g, 1, none⟩ = some (.int .i64 ((k : Int) + 1)) ∧ w2.cell? (ad.add k) = some (.int .i64 x) ∧ Hid (Dice w2 g B) ∧ Hid (w.grownBy w2 (some g))) :=
      fun nq => ⟨_, rfl, hc0', hc1', hcx', HD1.drewN nq, grown_drewN HG nq⟩
    clear hh hts hx hs hcx HD hc0' hc1' hcx' HD1 HG
    go_enter Tryz.func10, Tryz.ntmps10
    go_wp2_with fail
    go_quiet (fail)
    go_wp2_with fail
    obtain ⟨w2, hw2, d0, d1, dx, HD, HG⟩ := HF.out nq
    rw [hw2]
    clear hw2 hc0 hc1 hf1 HF
    have s1 : IntKind.i64.wrap (k : Int) = (k : Int) := IntWalk.i64_in _ (by omega)
    have s2 : (k : Int) < (n : Int) := by omega
    go_quiet ((go_at_call 33; with_reducible exact quiet_left (mod_any _ _ _ hm hm2)))
    go_wp2_with fail
    go_ret
    exact ⟨x % m, rfl, Int.emod_nonneg _ (by omega), Int.emod_lt_of_pos _ (by omega), HD.out.drewN _, grown_drewN HG.out _⟩
  · have hz : (n : Int) ≤ (k : Int) := by omega
    have hz' : decide (n ≤ k) = true := decide_eq_true hge
    clear hh hts hs hge
    go_enter Tryz.func10, Tryz.ntmps10
    go_wp2_with fail
    go_quiet (fail)
    go_wp2_with fail
    go_ret
    exact ⟨0, rfl, Int.le_refl _, by omega, HD.out.drewN _, grown_drewN (World.grownBy.refl _ _) _⟩
end Go.Proofs.YtnfjnlnphdmdmaaGreatDoor
