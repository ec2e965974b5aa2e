/- The dice's numbers over what is held; powers of two in limbs. -/
import Derived.Test.YtnfjnlnphdmdmaaGreatDoorNatQ
import Derived.Test.YtnfjnlnphdmdmaaGreatDoorNPasA
namespace Go.Proofs.YtnfjnlnphdmdmaaGreatDoor
open Go.RowKit
set_option linter.unusedVariables false
set_option maxRecDepth 100000
theorem dnat_st {w0 w : World} {g B : Nat} {M : List (Nat × Value)} {L : List Ob} (h : St w0 w (some g) M L) (hd : Dice w g B) (most : Nat) (hm : most ≤ 200) :
    Calls Tryz.prog 11 #[.pointer (some ⟨g, 0, none⟩), .int .i64 (most : Int)] w fun e w' => ∃ (A : Option Addr) (n c x : Nat), e = .returned (.agg #[.slice A n c]) ∧ (Na.dig x).length = n ∧ x < 16777216 ^ most ∧ Dice w' g B ∧ St w0 w' (some g) M (L ++ [⟨A, n, c, nats (Na.dig x)⟩]) :=
  (dnat_any g B most w (by omega) hd).mono fun e w' ⟨A, n, c, x, he, h1, h2, h3, h4, h5⟩ => ⟨A, n, c, x, he, h1, (Na.dig_len_iff x most).1 (by omega), h4, h.made h3 h5 (by omega)⟩
namespace Na
theorem dig_two (e : Nat) : dig (2 ^ e) = List.replicate (e / 24) 0 ++ [2 ^ (e % 24)] := by
  have hlt : 2 ^ (e % 24) < 16777216 := by
    have : (2 : Nat) ^ (e % 24) < 2 ^ 24 := Nat.pow_lt_pow_right (by omega) (by omega)
    exact this
  have hl : Lim (List.replicate (e / 24) 0 ++ [2 ^ (e % 24)]) := (Lim.zeros _).append (Lim.one hlt)
  have hv : val (List.replicate (e / 24) 0 ++ [2 ^ (e % 24)]) = 2 ^ e := by
    rw [val_snoc, val_zeros, List.length_replicate, pow24', ← Nat.pow_add, Nat.zero_add, Nat.div_add_mod]
  rw [← hv]
  refine dig_val hl (.inr ?_)
  rw [List.length_append, List.length_replicate, List.length_singleton, Nat.add_sub_cancel, List.getElem?_append_right (by rw [List.length_replicate]; exact Nat.le_refl _), List.length_replicate, Nat.sub_self]
  intro h
  have h2 : 2 ^ (e % 24) = 0 := Option.some.inj h
  have : 0 < 2 ^ (e % 24) := Nat.pow_pos (by omega)
  omega
theorem two_low (e l : Nat) (h : l < e / 24) : (dig (2 ^ e))[l]? = some 0 := by
  rw [dig_two, List.getElem?_append_left (by rw [List.length_replicate]; exact h), List.getElem?_replicate, if_pos h]
theorem two_last (e : Nat) : (dig (2 ^ e))[e / 24]? = some (2 ^ (e % 24)) := by
  rw [dig_two, List.getElem?_append_right (by rw [List.length_replicate]; exact Nat.le_refl _), List.length_replicate, Nat.sub_self]
  rfl
theorem two_len (e : Nat) : (dig (2 ^ e)).length = e / 24 + 1 := by rw [dig_two]; simp
theorem two_top' (e : Nat) (h : e < 4800) : 2 ^ e < top := by
  obtain ⟨N, hN, ht⟩ := top2
  rw [ht]
  exact Nat.pow_lt_pow_right (by omega) (by omega)
theorem pow_top {x : Nat} (hx : x < 16777216 ^ 2) (j : Nat) (h : j ≤ 90) : x ^ j < top := by
  have e1 : x ^ j ≤ (16777216 ^ 2) ^ j := Nat.pow_le_pow_left (Nat.le_of_lt hx) j
  rw [← Nat.pow_mul] at e1
  have e2 : 16777216 ^ (2 * j) < top := by unfold top; exact Nat.pow_lt_pow_right (by omega) (by omega)
  omega
end Na
end Go.Proofs.YtnfjnlnphdmdmaaGreatDoor
