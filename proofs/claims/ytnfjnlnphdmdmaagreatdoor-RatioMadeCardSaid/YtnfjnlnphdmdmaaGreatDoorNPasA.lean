/- Pascal's rule, plain; Power over what is held. -/
import Derived.Test.YtnfjnlnphdmdmaaGreatDoorNatU
import Derived.Test.YtnfjnlnphdmdmaaGreatDoorNPow
namespace Go.Proofs.YtnfjnlnphdmdmaaGreatDoor
open Go.RowKit
set_option linter.unusedVariables false
set_option maxRecDepth 100000
namespace Na
def cv (m i : Int) : Nat := if i < 0 ∨ m < i then 0 else bin m.toNat i.toNat
theorem cv_no {m i : Int} (h : i < 0 ∨ m < i) : cv m i = 0 := if_pos h
theorem cv_yes (m i : Nat) (h : i ≤ m) : cv m i = bin m i := if_neg (by omega)
theorem cv_bin (m i : Nat) : cv m i = bin m i := by
  rcases Nat.lt_or_ge m i with h | h
  · rw [cv_no (by omega), bin_more h]
  · exact cv_yes m i h
theorem pascal (m : Nat) (i : Int) : cv (1 + (m : Int)) i = cv m (i - 1) + cv m i := by
  rcases Int.lt_or_le i 0 with h | h
  · rw [cv_no (.inl h), cv_no (.inl (by omega)), cv_no (.inl h)]
  · obtain ⟨k, rfl⟩ := Int.eq_ofNat_of_zero_le h
    have e1 : (1 : Int) + (m : Int) = ((m + 1 : Nat) : Int) := by omega
    rw [e1, cv_bin, cv_bin]
    cases k with
    | zero => rw [cv_no (.inl (by omega)), bin_zero, bin_zero]
    | succ k =>
      have e2 : ((k + 1 : Nat) : Int) - 1 = (k : Int) := by omega
      rw [e2, cv_bin, bin_succ]
theorem cho_cv (m i : Int) (h0 : 0 ≤ m) (h1 : m ≤ 4096) : choL m i = dig (cv m i) ∧ choE m i = 0 ∧ cv m i < top := by
  have hn : ¬ (m < 0 ∨ 4096 < m) := by omega
  unfold choL choE cv
  rw [if_neg hn, if_neg hn]
  split
  · exact ⟨dig_zero.symm, rfl, by unfold top; exact Nat.pow_pos (by omega)⟩
  · exact ⟨rfl, rfl, (bin_top _ _ (by omega)).1⟩
def psum (m : Nat) : Nat → Nat
  | 0 => 0
  | j + 1 => psum m j + bin m j
theorem psum_succ (m : Nat) : ∀ j, psum (m + 1) (j + 1) = psum m (j + 1) + psum m j
  | 0 => by simp [psum, bin_zero]
  | j + 1 => by
    have ih := psum_succ m j
    rw [psum, ih, bin_succ]
    simp only [psum]
    omega
theorem psum_two : ∀ m, psum m (m + 1) = 2 ^ m
  | 0 => rfl
  | m + 1 => by
    rw [psum_succ, psum_two m, psum, bin_more (by omega), psum_two m, Nat.pow_succ]
    omega
theorem psum_mono (m : Nat) : ∀ d j, psum m j ≤ psum m (j + d)
  | 0, j => Nat.le_refl _
  | d + 1, j => Nat.le_trans (psum_mono m d j) (Nat.le_add_right _ _)
theorem psum_le (m j : Nat) (h : j ≤ m + 1) : psum m j ≤ 2 ^ m := by
  rw [← psum_two m]
  obtain ⟨d, hd⟩ : ∃ d, m + 1 = j + d := ⟨m + 1 - j, by omega⟩
  rw [hd]
  exact psum_mono m d j
theorem two_top (m : Nat) (h : m ≤ 40) : 2 ^ m < top := by
  refine small_top (m := 2) ?_ (by omega)
  have : (2 : Nat) ^ m ≤ 2 ^ 40 := Nat.pow_le_pow_right (by omega) h
  omega
end Na
section
variable {w0 w : World} {g : Option Nat} {M : List (Nat × Value)} {L : List Ob} {A : Option Addr} {n c x m : Nat}
theorem St.keep1 (h : St w0 w g M L) (i : Nat) {b : Nat} {v : Value} (hi : M[i]? = some (b, v)) (L' : List Ob) (hL : ∀ o ∈ L', o ∈ L) : St w0 w g [(b, v)] L' := by
  have key : ∀ (j c : Nat) (u : Value), ([(b, v)] : List (Nat × Value))[j]? = some (c, u) → j = 0 ∧ c = b ∧ u = v := fun j c u hj => by
    cases j with
    | zero => simp at hj; exact ⟨rfl, hj.1.symm, hj.2.symm⟩
    | succ j => simp at hj
  refine ⟨h.below, h.lt, fun j c u hj => ?_, fun j k c u y hj hk => ?_, fun o ho => ?_⟩
  · obtain ⟨_, rfl, rfl⟩ := key j c u hj
    exact h.box i _ _ hi
  · have := (key j c u hj).1; have := (key k c y hk).1; omega
  · obtain ⟨h1, h2, h3, B, hB, hs, hne⟩ := h.held o (hL o ho)
    refine ⟨h1, h2, h3, B, hB, hs, fun ad e h0 => ⟨(hne ad e h0).1, fun j c u hj => ?_⟩⟩
    obtain ⟨_, rfl, rfl⟩ := key j c u hj
    exact (hne ad e h0).2 i _ _ hi
theorem St.zero (h : St w0 w g M L) : St w0 w g M (L ++ [⟨none, 0, 0, nats (Na.dig 0)⟩]) :=
  h.add (B := 0) (by rw [Na.dig_zero]; exact Sl.nil _ _ _) (Nat.zero_le _) (by rw [Na.dig_zero]; rfl) (Nat.le_refl _) (by omega) (fun ad e => by cases e)
end
end Go.Proofs.YtnfjnlnphdmdmaaGreatDoor
