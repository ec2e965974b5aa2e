/- The law RatioRaw. -/
import Derived.Test.YtnfjnlnphdmdmaaGreatDoorQyz
namespace Go.Proofs.YtnfjnlnphdmdmaaGreatDoor
open Go.RowKit Go.Sort
set_option linter.unusedVariables false
set_option maxRecDepth 100000
theorem awakeQ_low {w0 w : World} {g : Option Nat} {M : List (Nat × Value)} {L : List Ob} {O : List Rw} (h : Ow w0 w g M L O) (ht : Tab w0) : Calls Tryz.prog 5 #[] w fun e w' => e = .returned (.bool true) ∧ Ow w0 w' g M L O :=
  (awakeQ_any w (ht.below h.below)).mono fun e w' ⟨he, hb⟩ => ⟨he, h.go hb⟩
theorem agree02_ow {w0 w : World} {g : Option Nat} {M : List (Nat × Value)} {L : List Ob} {O : List Rw} {A A2 A3 A4 : Option Addr} {n c m c2 n3 c3 n4 c4 : Nat} {p q r s : List Int} (h : Ow w0 w g M L O) (i j k l : Nat) (hi : L[i]? = some ⟨A, n, c, ints p⟩) (hj : L[j]? = some ⟨A2, m, c2, ints q⟩) (hk : L[k]? = some ⟨A3, n3, c3, ints r⟩) (hl : L[l]? = some ⟨A4, n4, c4, ints s⟩) (ht : Tab w0) :
    Calls Tryz.prog 6 #[.agg #[.slice A n c, .slice A2 m c2], .agg #[.slice A3 n3 c3, .slice A4 n4 c4]] w fun e w' => e = .returned (.bool true) ∧ Ow w0 w' g M L O :=
  (agree02 h i j k l hi hj hk hl ht).mono fun e w' ⟨he, hb⟩ => ⟨he, h.go hb⟩
set_option maxHeartbeats 8000000 in
theorem ratioRaw_any (A : Option Addr) (n c : Nat) (p : List Int) (A2 : Option Addr) (m c2 : Nat) (q : List Int) (A3 : Option Addr) (n3 c3 : Nat) (r : List Int) (A4 : Option Addr) (n4 c4 : Nat) (s : List Int) (w : World) (hn : p.length = n) (hnc : n ≤ c) (hln : n ≤ 281474976710656) (hs : Sl w w.heap.size A (ints p)) (hm : q.length = m) (hmc : m ≤ c2) (hlm : m ≤ 281474976710656) (hs2 : Sl w w.heap.size A2 (ints q)) (hn3 : r.length = n3) (hnc3 : n3 ≤ c3) (hln3 : n3 ≤ 281474976710656) (hs3 : Sl w w.heap.size A3 (ints r)) (hn4 : s.length = n4) (hnc4 : n4 ≤ c4) (hln4 : n4 ≤ 281474976710656) (hs4 : Sl w w.heap.size A4 (ints s)) (ht : Tab w) :
    Calls Tryz.prog 3 #[.agg #[.slice A n c, .slice A2 m c2], .agg #[.slice A3 n3 c3, .slice A4 n4 c4]] w fun e w' => e = .returned (.bool true) ∧ Below w.heap.size w w' := by
  have HT := Lib.hid ht
  rcases Nat.lt_or_ge 48 (n + m + n3 + n4) with h48 | h48
  · have H0 := ((Ow.of (St.refl w)).pair (.slice A n c) (.slice A2 m c2) 26).pair (.slice A3 n3 c3) (.slice A4 n4 c4) 26
    simp only [World.size_alloc, List.nil_append, List.cons_append] at H0
    have a0 := H0.p0 0 rfl
    have a1 := H0.p1 0 rfl
    have t1 : decide ((48 : Int) < (n : Int) + (m : Int) + (n3 : Int) + (n4 : Int)) = true := decide_eq_true (by omega)
    have u1 : (n : Int) + (m : Int) ≤ 9223372036854775807 := by omega
    have u2 : (n : Int) + (m : Int) + (n3 : Int) ≤ 9223372036854775807 := by omega
    have u3 : (n : Int) + (m : Int) + (n3 : Int) + (n4 : Int) ≤ 9223372036854775807 := by omega
    have HA := Lib.hid (awakeQ_low H0 ht)
    clear H0 hs hs2 hs3 hs4 hn hm hn3 hn4 ht h48
    go_enter Tryz.func3, Tryz.ntmps3
    go_wp2_with fail
    refine HA.out.mono ?_
    rintro e w1 ⟨rfl, H1⟩
    have HB := Lib.hid H1.below
    clear HA H1
    go_wp2_with fail
    go_ret
    exact ⟨rfl, HB.out⟩
  · have H0 := ((((((Ow.of (St.refl w)).old hs (by rw [ints_length]; exact hn) hnc (by omega)).old hs2 (by rw [ints_length]; exact hm) hmc (by omega)).old hs3 (by rw [ints_length]; exact hn3) hnc3 (by omega)).old hs4 (by rw [ints_length]; exact hn4) hnc4 (by omega)).pair (.slice A n c) (.slice A2 m c2) 26).pair (.slice A3 n3 c3) (.slice A4 n4 c4) 26
    simp only [World.size_alloc, List.nil_append, List.cons_append] at H0
    have a0 := H0.p0 0 rfl
    have a1 := H0.p1 0 rfl
    have t1 : decide ((48 : Int) < (n : Int) + (m : Int) + (n3 : Int) + (n4 : Int)) = false := decide_eq_false (by omega)
    have u1 : (n : Int) + (m : Int) ≤ 9223372036854775807 := by omega
    have u2 : (n : Int) + (m : Int) + (n3 : Int) ≤ 9223372036854775807 := by omega
    have u3 : (n : Int) + (m : Int) + (n3 : Int) + (n4 : Int) ≤ 9223372036854775807 := by omega
    have HA := Lib.hid (awakeQ_low H0 ht)
    clear H0 hs hs2 hs3 hs4 hn hm hn3 hn4 ht h48
    go_enter Tryz.func3, Tryz.ntmps3
    go_wp2_with fail
    refine HA.out.mono ?_
    rintro e w1 ⟨rfl, G⟩
    clear HA a0 a1
    have a0 := G.p0 0 rfl
    have a1 := G.p1 0 rfl
    have b0 := G.p0 1 rfl
    have b1 := G.p1 1 rfl
    have HC := Lib.hid (agree02_ow G 0 1 2 3 rfl rfl rfl rfl HT.out)
    clear G
    go_wp2_with fail
    refine HC.out.mono ?_
    rintro e w2 ⟨rfl, G⟩
    clear a0 a1 b0 b1 HC
    have a0 := G.p0 0 rfl
    have a1 := G.p1 0 rfl
    have b0 := G.p0 1 rfl
    have b1 := G.p1 1 rfl
    have HC := Lib.hid (agree02_ow G 2 3 0 1 rfl rfl rfl rfl HT.out)
    clear G
    go_wp2_with fail
    refine HC.out.mono ?_
    rintro e w3 ⟨rfl, G⟩
    clear a0 a1 b0 b1 HC
    have HB := Lib.hid G.below
    clear G
    go_wp2_with fail
    go_ret
    exact ⟨rfl, HB.out⟩
end Go.Proofs.YtnfjnlnphdmdmaaGreatDoor
