/- The contracts of the functions of numbers, over what is held; the sanity check of layer 1. -/
import Derived.Test.YtnfjnlnphdmdmaaGreatDoorNatT
import Derived.Test.YtnfjnlnphdmdmaaGreatDoorNRm
namespace Go.Proofs.YtnfjnlnphdmdmaaGreatDoor
open Go.RowKit
set_option linter.unusedVariables false
set_option maxRecDepth 100000
section
variable {w0 w : World} {g : Option Nat} {M : List (Nat × Value)} {L : List Ob} {A A2 : Option Addr} {n c m c2 x y : Nat}
theorem of_st (h : St w0 w g M L) (v : Int) (hv : v ≤ 9223372036854775807) : Calls Tryz.prog 41 #[.int .i64 v] w (GotN w0 g M L (ofL v) (ofE v)) :=
  (nof_any v w hv).mono fun en w' hr => got_res h rfl rfl (by
    unfold ofL
    split
    · exact Nat.zero_le _
    · exact Nat.le_trans (Na.dig_len_le (n := 3) (Nat.lt_of_le_of_lt (show v.toNat ≤ 9223372036854775807 by omega) (by decide))) (by omega)) hr
theorem add_st (h : St w0 w g M L) (i j : Nat) (hi : L[i]? = some ⟨A, n, c, nats (Na.dig x)⟩) (hj : L[j]? = some ⟨A2, m, c2, nats (Na.dig y)⟩) (hx : x < Na.top) (hy : y < Na.top) :
    Calls Tryz.prog 43 #[.agg #[.slice A n c], .agg #[.slice A2 m c2]] w (GotN w0 g M L (resL (x + y)) (resE (x + y))) := by
  obtain ⟨h1, h2, h3, h4⟩ := h.sl hi
  obtain ⟨k1, k2, k3, k4⟩ := h.sl hj
  rw [nats_length] at h1 k1
  exact (nadd_ok A A2 n c m c2 x y w h1 k1 h4 k4 hx hy).mono fun en w' hr => got_res h rfl rfl (by have := resL_len (x + y); omega) hr
theorem mul_st (h : St w0 w g M L) (i j : Nat) (hi : L[i]? = some ⟨A, n, c, nats (Na.dig x)⟩) (hj : L[j]? = some ⟨A2, m, c2, nats (Na.dig y)⟩) (hx : x < Na.top) (hy : y < Na.top) :
    Calls Tryz.prog 52 #[.agg #[.slice A n c], .agg #[.slice A2 m c2]] w (GotN w0 g M L (resL (x * y)) (resE (x * y))) := by
  obtain ⟨h1, h2, h3, h4⟩ := h.sl hi
  obtain ⟨k1, k2, k3, k4⟩ := h.sl hj
  rw [nats_length] at h1 k1
  exact (nmul_ok A A2 n c m c2 x y w h1 k1 h4 k4 hx hy).mono fun en w' hr => got_res h rfl rfl (by have := resL_len (x * y); omega) hr
theorem radd_st (h : St w0 w g M L) (i j : Nat) (hi : L[i]? = some ⟨A, n, c, nats (Na.dig x)⟩) (hj : L[j]? = some ⟨A2, m, c2, nats (Na.dig y)⟩) (hx : x < Na.top) (hy : y < Na.top) :
    Calls Tryz.prog 46 #[.agg #[.slice A n c], .agg #[.slice A2 m c2]] w (GotN w0 g M L (resL (x + y)) (resE (x + y))) := by
  obtain ⟨h1, h2, h3, h4⟩ := h.sl hi
  obtain ⟨k1, k2, k3, k4⟩ := h.sl hj
  have e1 := (add_ok hx hy).1
  have e2 := (add_ok hx hy).2
  exact (nradd_any A A2 n c m c2 (Na.up (Na.dig x)) (Na.up (Na.dig y)) w (by rw [nats_length] at h1; rw [Na.up_length]; exact h1) (by rw [nats_length] at k1; rw [Na.up_length]; exact k1) (by rw [nats_up]; exact h4) (by rw [nats_up]; exact k4) (by omega) (by omega)).mono fun en w' hr => got_res h e1 e2 (by have := resL_len (x + y); omega) hr
theorem rmul_st (h : St w0 w g M L) (i j : Nat) (hi : L[i]? = some ⟨A, n, c, nats (Na.dig x)⟩) (hj : L[j]? = some ⟨A2, m, c2, nats (Na.dig y)⟩) (hx : x < Na.top) (hy : y < Na.top) :
    Calls Tryz.prog 53 #[.agg #[.slice A n c], .agg #[.slice A2 m c2]] w (GotN w0 g M L (resL (x * y)) (resE (x * y))) := by
  obtain ⟨h1, h2, h3, h4⟩ := h.sl hi
  obtain ⟨k1, k2, k3, k4⟩ := h.sl hj
  rw [nats_length] at h1 k1
  exact (nrMul_ok A A2 n c m c2 x y w h1 k1 h4 k4 hx hy).mono fun en w' hr => got_res h rfl rfl (by have := resL_len (x * y); omega) hr
theorem same_st (h : St w0 w g M L) (i j : Nat) {p q : List Nat} (hi : L[i]? = some ⟨A, n, c, nats p⟩) (hj : L[j]? = some ⟨A2, m, c2, nats q⟩) (e : p = q) :
    Calls Tryz.prog 29 #[.agg #[.slice A n c], .agg #[.slice A2 m c2]] w fun e w' => e = .returned (.bool true) ∧ St w0 w' g M L := by
  obtain ⟨h1, h2, h3, h4⟩ := h.sl hi
  obtain ⟨k1, k2, k3, k4⟩ := h.sl hj
  exact (nsame_any A A2 n c m c2 _ (Na.up p) (Na.up q) w (by rw [nats_length] at h1; rw [Na.up_length]; exact h1) (by rw [nats_length] at k1; rw [Na.up_length]; exact k1) (by rw [nats_up]; exact h4) (by rw [nats_up]; exact k4) (Nat.le_refl _) (by omega) (by omega)).mono fun en w' ⟨he, hb⟩ => ⟨by rw [he, decide_eq_true (by rw [e])], h.go hb⟩
theorem print_st (h : St w0 w g M L) (i : Nat) (hi : L[i]? = some ⟨A, n, c, nats (Na.dig x)⟩) (hx : x < Na.top) :
    Calls Tryz.prog 44 #[.agg #[.slice A n c]] w fun e w' => e = .returned (.string (str (De.text x))) ∧ St w0 w' g M L := by
  obtain ⟨h1, h2, h3, h4⟩ := h.sl hi
  rw [nats_length] at h1
  exact (nprint_ok A n c x w h1 h4 hx).mono fun en w' ⟨he, hb⟩ => ⟨he, h.go hb⟩
end
namespace De
theorem dig_step (x q r : Nat) (hx : 0 < x) (h : x = 10 * q + r) (hr : r < 10) : dig x = r :: dig q := by
  rw [dig_pos x hx, show x % 10 = r by omega, show x / 10 = q by omega]
end De
theorem small_top {x m : Nat} (h : x < 16777216 ^ m) (hm : m ≤ 200) : x < Na.top := Nat.lt_of_lt_of_le h (Nat.pow_le_pow_right (by omega) hm)
theorem awake_text1 : De.text 281474976710656 = [50, 56, 49, 52, 55, 52, 57, 55, 54, 55, 49, 48, 54, 53, 54] := by
  rw [De.text_pos (by omega)]
  rw [De.dig_step 281474976710656 28147497671065 6 (by omega) (by omega) (by omega), De.dig_step 28147497671065 2814749767106 5 (by omega) (by omega) (by omega), De.dig_step 2814749767106 281474976710 6 (by omega) (by omega) (by omega), De.dig_step 281474976710 28147497671 0 (by omega) (by omega) (by omega), De.dig_step 28147497671 2814749767 1 (by omega) (by omega) (by omega), De.dig_step 2814749767 281474976 7 (by omega) (by omega) (by omega), De.dig_step 281474976 28147497 6 (by omega) (by omega) (by omega), De.dig_step 28147497 2814749 7 (by omega) (by omega) (by omega), De.dig_step 2814749 281474 9 (by omega) (by omega) (by omega), De.dig_step 281474 28147 4 (by omega) (by omega) (by omega), De.dig_step 28147 2814 7 (by omega) (by omega) (by omega), De.dig_step 2814 281 4 (by omega) (by omega) (by omega), De.dig_step 281 28 1 (by omega) (by omega) (by omega), De.dig_step 28 2 8 (by omega) (by omega) (by omega), De.dig_step 2 0 2 (by omega) (by omega) (by omega), De.dig_zero]
  rfl
theorem awake_text2 : De.text 10 = [49, 48] := by
  rw [De.text_pos (by omega), De.dig_step 10 1 0 (by omega) (by omega) (by omega), De.dig_step 1 0 1 (by omega) (by omega) (by omega), De.dig_zero]
  rfl
theorem bin52 : Na.bin 5 2 = 10 := rfl
end Go.Proofs.YtnfjnlnphdmdmaaGreatDoor
