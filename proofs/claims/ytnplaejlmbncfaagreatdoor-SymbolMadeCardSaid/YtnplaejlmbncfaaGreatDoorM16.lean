/- Yo Yp -/
import Derived.Test.YtnplaejlmbncfaaGreatDoorM11
import Derived.Test.YtnplaejlmbncfaaGreatDoorM12
import Derived.Test.YtnplaejlmbncfaaGreatDoorM15
namespace Go.Proofs.YtnplaejlmbncfaaGreatDoor
open Go.RowKit
set_option linter.unusedVariables false
set_option maxRecDepth 100000
def RWl1 (w : World) (L : List Ob) (O : List Rw) (n N : Nat) (zs : List Int) (x : Value) (wr : World) : Prop :=
  ∃ k : Nat, k ≤ n ∧ x = .int .i64 (k : Int) ∧ Hid (∀ (j : Nat) (z : Int), j < k → zs[j]? = some z → 0 ≤ z ∧ z < (N : Int)) ∧ Hid (Ow w wr none [] L O)
def RWl2 (w : World) (L : List Ob) (O : List Rw) (n : Nat) (zs : List Int) (x : Value) (wr : World) : Prop :=
  ∃ i : Nat, 1 ≤ i ∧ i ≤ n + 1 ∧ x = .int .i64 (i : Int) ∧ Hid (∀ (j : Nat) (a b : Int), j + 1 < i → zs[j]? = some a → zs[j + 1]? = some b → a < b) ∧ Hid (Ow w wr none [] L O)
set_option maxHeartbeats 1500000 in
theorem wrongList_any (A : Option Addr) (n c N m : Nat) (zs : List Int) (w : World) (hn : zs.length = n) (hs : Sl w w.heap.size A (ints zs)) (hnc : n ≤ c) (hl : n ≤ 1000) (hN : N ≤ 1000) (hm : m ≤ 1000) :
    Calls Tryz.prog 92 #[.slice A n c, .int .i64 (N : Int), .int .i64 (m : Int)] w fun e w' => e = .returned (.int .i64 (errL N m zs)) ∧ Below w.heap.size w w' := by
  have H0 := (Ow.of (St.refl w)).old hs (by unfold ints; rw [List.length_map]; exact hn) hnc hl
  simp only [List.nil_append] at H0
  have HO := Lib.hid H0
  have HNn := Lib.hid hn
  clear H0 hs hn
  go_enter Tryz.func92, Tryz.ntmps92
  go_wp2_with fail
  go_loopw [12] (fun v wr => RWl1 w [⟨A, n, c, ints zs⟩] [] n N zs v wr) (fun v _ => n - (intOf v).toNat)
  case atStart => exact ⟨0, Nat.zero_le _, rfl, fun j z h _ => absurd h (Nat.not_lt_zero _), HO.out⟩
  case round =>
    clear HO
    obtain ⟨k, hk, rfl, HR, HO⟩ := hrel
    rcases Nat.lt_or_ge k n with h | h
    · have hd : decide ((k : Int) < (n : Int)) = true := decide_eq_true (by omega)
      obtain ⟨z, hz⟩ : ∃ z, zs[k]? = some z := ⟨_, List.getElem?_eq_getElem (by rw [HNn.out]; exact h)⟩
      obtain ⟨ad, hA, -, hcp⟩ := (HO.out.sl (i := 0) rfl).2.2.2.int hz
      subst hA
      have HZ := Lib.hid hz
      clear hz
      rcases Int.lt_or_le z 0 with h0 | h0
      · have hd1 : decide (z < 0) = true := decide_eq_true h0
        have HEr : Hid (errL N m zs = 2) := errL_range HZ.out (.inl h0)
        go_wp2_with fail
        go_ret
        exact ⟨by rw [HEr.out]; rfl, HO.out.below⟩
      · have hd1 : decide (z < 0) = false := decide_eq_false (by omega)
        rcases Int.lt_or_le z (N : Int) with h1 | h1
        · have hd2 : decide ((N : Int) ≤ z) = false := decide_eq_false (by omega)
          go_wp2_with fail
          go_roundw
          case rel =>
            exact ⟨k + 1, by omega, by go_num, fun j y hj hy => by
              rcases Nat.lt_or_ge j k with h2 | h2
              · exact HR.out j y h2 hy
              · obtain rfl : j = k := by omega
                obtain rfl := Option.some.inj (HZ.out.symm.trans hy)
                exact ⟨h0, h1⟩, HO.out⟩
          case measure => simp [intOf]; omega
        · have hd2 : decide ((N : Int) ≤ z) = true := decide_eq_true h1
          have HEr : Hid (errL N m zs = 2) := errL_range HZ.out (.inr h1)
          go_wp2_with fail
          go_ret
          exact ⟨by rw [HEr.out]; rfl, HO.out.below⟩
    · have hd : decide ((k : Int) < (n : Int)) = false := decide_eq_false (by omega)
      have HRa : Hid (∀ (i : Nat) (z : Int), zs[i]? = some z → 0 ≤ z ∧ z < (N : Int)) := fun i z hz => HR.out i z (by have := get_lt hz; rw [HNn.out] at this; omega) hz
      clear HR
      go_wp2_with fail
      go_loopw [9] (fun v wr => RWl2 w [⟨A, n, c, ints zs⟩] [] n zs v wr) (fun v _ => n + 1 - (intOf v).toNat)
      case atStart => exact ⟨1, Nat.le_refl _, by omega, rfl, fun j a b h _ _ => by omega, HO.out⟩
      case round =>
        clear HO hd
        obtain ⟨i, hi1, hi2, rfl, HR, HO⟩ := hrel
        obtain ⟨j, rfl⟩ : ∃ j, i = j + 1 := ⟨i - 1, by omega⟩
        rcases Nat.lt_or_ge (j + 1) n with h2 | h2
        · have hd2 : decide (((j + 1 : Nat) : Int) < (n : Int)) = true := decide_eq_true (by omega)
          have hd3 : decide ((j : Int) + 1 < (n : Int)) = true := decide_eq_true (by omega)
          obtain ⟨a, ha⟩ : ∃ a, zs[j]? = some a := ⟨_, List.getElem?_eq_getElem (by rw [HNn.out]; omega)⟩
          obtain ⟨b, hb⟩ : ∃ b, zs[j + 1]? = some b := ⟨_, List.getElem?_eq_getElem (by rw [HNn.out]; omega)⟩
          obtain ⟨ad, hA, -, hcp⟩ := (HO.out.sl (i := 0) rfl).2.2.2.int ha
          subst hA
          obtain ⟨ad', hA', -, hcq⟩ := (HO.out.sl (i := 0) rfl).2.2.2.int hb
          obtain rfl := Option.some.inj hA'
          clear hA'
          have hcq2 := hcq
          simp only [Addr.add, Nat.add_eq_zero_iff, Nat.succ_ne_self, and_false, if_false] at hcq2
          have HAB := Lib.hid (And.intro ha hb)
          have hs1 : (j : Int) < (n : Int) := by omega
          have hs4 : (0 : Int) ≤ (j : Int) + 1 := by omega
          have hs5 : ((j : Int) + 1).toNat = j + 1 := by omega
          have hs3 : IntKind.i64.wrap (j : Int) = (j : Int) := IntWalk.i64_in _ (by omega)
          have hs2 : (j : Int) + 1 < (n : Int) := by omega
          clear ha hb
          rcases Int.lt_or_le a b with h3 | h3
          · have hd4 : decide (b ≤ a) = false := decide_eq_false (by omega)
            go_wp2_with fail
            go_quiet (fail)
            go_wp2_with fail
            go_roundw
            case rel =>
              exact ⟨j + 2, by omega, by omega, int_eqv (by omega), fun q x y hq hx hy => by
                rcases Nat.lt_or_ge q j with h4 | h4
                · exact HR.out q x y (by omega) hx hy
                · obtain rfl : q = j := by omega
                  obtain rfl := Option.some.inj (HAB.out.1.symm.trans hx)
                  obtain rfl := Option.some.inj (HAB.out.2.symm.trans hy)
                  exact h3, HO.out.drewN _⟩
            case measure => simp [intOf]; omega
          · have hd4 : decide (b ≤ a) = true := decide_eq_true h3
            have HEr : Hid (errL N m zs = 17) := errL_order HRa.out HAB.out.1 HAB.out.2 h3
            go_wp2_with fail
            go_quiet (fail)
            go_wp2_with fail
            go_ret
            exact ⟨by rw [HEr.out]; rfl, (HO.out.drewN _).below⟩
        · have hd2 : decide (((j + 1 : Nat) : Int) < (n : Int)) = false := decide_eq_false (by omega)
          have hd3 : decide ((j : Int) + 1 < (n : Int)) = false := decide_eq_false (by omega)
          have hE := errL_last (m := m) HRa.out (fun q x y hx hy => HR.out q x y (by have := get_lt hy; rw [HNn.out] at this; omega) hx hy)
          rw [HNn.out] at hE

          rcases Nat.lt_or_ge m n with h4 | h4
          · have hd5 : decide ((m : Int) < (n : Int)) = true := decide_eq_true (by omega)
            have HEr : Hid (errL N m zs = 3) := by unfold Hid; rw [hE, if_pos h4]
            clear hE
            go_wp2_with fail
            go_ret
            exact ⟨by rw [HEr.out]; rfl, HO.out.below⟩
          · have hd5 : decide ((m : Int) < (n : Int)) = false := decide_eq_false (by omega)
            have HEr : Hid (errL N m zs = 0) := by unfold Hid; rw [hE, if_neg (by omega)]
            clear hE
            go_wp2_with fail
            go_ret
            exact ⟨by rw [HEr.out]; rfl, HO.out.below⟩
/-- the first error of decoding -/
noncomputable def chkE (d m f nw : Nat) (zs : List Int) : Int := if m / 2 < f then 1 else if nw = d + m then errL (d + m) m zs else 7
set_option maxHeartbeats 1500000 in
theorem rcheck_any {d m f : Nat} (h : Cd d m f) (A0 : Option Addr) (nw c0 : Nat) (A : Option Addr) (n c : Nat) (zs : List Int) (w : World) (hn : zs.length = n) (hs : Sl w w.heap.size A (ints zs)) (hnc : n ≤ c) (hl : n ≤ 1000) (hnw : nw ≤ 1000) :
    Calls Tryz.prog 101 #[.agg #[.int .i64 2, .int .i64 (d : Int), .int .i64 (m : Int), .int .i64 (f : Int)], .slice A0 nw c0, .slice A n c] w fun e w' => e = .returned (.int .i64 (chkE d m f nw zs)) ∧ Below w.heap.size w w' := by
  have hc := h
  obtain ⟨h1, h2, h3, h4, h5⟩ := h
  have H0 := ((Ow.of (St.refl w)).old hs (by unfold ints; rw [List.length_map]; exact hn) hnc hl).code d m f
  simp only [List.nil_append] at H0
  obtain ⟨hc0, hc1, hc2, hc3⟩ := H0.cdc 0 rfl
  have HO := Lib.hid H0
  have HV := Lib.hid (fun W => rsymbols_any hc W)
  have HNn := Lib.hid hn
  obtain ⟨N, hNN⟩ : ∃ N : Nat, Hid (N = d + m) := ⟨_, rfl⟩
  have hNI : (d : Int) + (m : Int) = (N : Int) := by have := hNN.out; omega
  have hN40 : N ≤ 40 := by have := hNN.out; omega
  clear H0 hs hn hc
  rcases Nat.lt_or_ge (m / 2) f with hf | hf
  · have HC : Hid (chkE d m f nw zs = 1) := by unfold Hid chkE; rw [if_pos hf]
    rw [decide_eq_false (by omega)] at HV
    rw [HC.out]
    go_enter Tryz.func101, Tryz.ntmps101
    go_wp2_with (go_at_call 48; refine (HV.out _).mono ?_; rintro e w1 ⟨rfl, hb⟩; have HO1 := Lib.hid (HO.out.go hb); clear hb)
    go_ret
    exact ⟨rfl, HO1.out.below⟩
  rw [decide_eq_true hf] at HV
  by_cases hw : nw = N
  · subst hw
    have hne : ((nw : Int) != (nw : Int)) = false := by simp
    have HC : Hid (chkE d m f nw zs = errL nw m zs) := by unfold Hid chkE; rw [if_neg (by omega), if_pos hNN.out, ← hNN.out]
    rw [HC.out]
    obtain ⟨N, rfl⟩ : ∃ N, N = nw := ⟨_, rfl⟩
    clear HC
    go_enter Tryz.func101, Tryz.ntmps101
    go_upto_region 6 with (go_at_call 48; refine (HV.out _).mono ?_; rintro e w1 ⟨rfl, hb⟩; have HO1 := Lib.hid (HO.out.go hb); clear hb)
    have HO2 := Lib.hid HO1.out
    clear HO HO1 hc0 hc1 hc2 hc3 HV
    obtain ⟨HO, hHO⟩ : ∃ H : Hid (Ow w w1 none [] [⟨A, n, c, ints zs⟩] [codeR w.heap.size d m f]), H = HO2 := ⟨_, rfl⟩
    clear hHO HO2
    go_wp2_with fail
    go_loopw [8] (fun v wr => RWl1 w [⟨A, n, c, ints zs⟩] [codeR w.heap.size d m f] n N zs v wr) (fun v _ => n - (intOf v).toNat)
    case atStart => exact ⟨0, Nat.zero_le _, rfl, fun j z h _ => absurd h (Nat.not_lt_zero _), HO.out⟩
    case round =>
      clear HO
      obtain ⟨k, hk, rfl, HR, HO⟩ := hrel
      rcases Nat.lt_or_ge k n with h | h
      · have hd : decide ((k : Int) < (n : Int)) = true := decide_eq_true (by omega)
        obtain ⟨z, hz⟩ : ∃ z, zs[k]? = some z := ⟨_, List.getElem?_eq_getElem (by rw [HNn.out]; exact h)⟩
        obtain ⟨ad, hA, -, hcp⟩ := (HO.out.sl (i := 0) rfl).2.2.2.int hz
        subst hA
        have HZ := Lib.hid hz
        clear hz
        rcases Int.lt_or_le z 0 with h0 | h0
        · have hd1 : decide (z < 0) = true := decide_eq_true h0
          have HEr : Hid (errL N m zs = 2) := errL_range HZ.out (.inl h0)
          go_wp2_with fail
          go_ret
          exact ⟨by rw [HEr.out]; rfl, HO.out.below⟩
        · have hd1 : decide (z < 0) = false := decide_eq_false (by omega)
          rcases Int.lt_or_le z (N : Int) with h1 | h1
          · have hd2 : decide ((N : Int) ≤ z) = false := decide_eq_false (by omega)
            go_wp2_with fail
            go_roundw
            case rel =>
              exact ⟨k + 1, by omega, by go_num, fun j y hj hy => by
                rcases Nat.lt_or_ge j k with h2 | h2
                · exact HR.out j y h2 hy
                · obtain rfl : j = k := by omega
                  obtain rfl := Option.some.inj (HZ.out.symm.trans hy)
                  exact ⟨h0, h1⟩, HO.out⟩
            case measure => simp [intOf]; omega
          · have hd2 : decide ((N : Int) ≤ z) = true := decide_eq_true h1
            have HEr : Hid (errL N m zs = 2) := errL_range HZ.out (.inr h1)
            go_wp2_with fail
            go_ret
            exact ⟨by rw [HEr.out]; rfl, HO.out.below⟩
      · have hd : decide ((k : Int) < (n : Int)) = false := decide_eq_false (by omega)
        have HRa : Hid (∀ (i : Nat) (z : Int), zs[i]? = some z → 0 ≤ z ∧ z < (N : Int)) := fun i z hz => HR.out i z (by have := get_lt hz; rw [HNn.out] at this; omega) hz
        clear HR
        go_wp2_with fail
        go_loopw [9] (fun v wr => RWl2 w [⟨A, n, c, ints zs⟩] [codeR w.heap.size d m f] n zs v wr) (fun v _ => n + 1 - (intOf v).toNat)
        case atStart => exact ⟨1, Nat.le_refl _, by omega, rfl, fun j a b h _ _ => by omega, HO.out⟩
        case round =>
          clear HO hd
          obtain ⟨i, hi1, hi2, rfl, HR, HO⟩ := hrel
          obtain ⟨j, rfl⟩ : ∃ j, i = j + 1 := ⟨i - 1, by omega⟩
          rcases Nat.lt_or_ge (j + 1) n with h2 | h2
          · have hd2 : decide (((j + 1 : Nat) : Int) < (n : Int)) = true := decide_eq_true (by omega)
            have hd3 : decide ((j : Int) + 1 < (n : Int)) = true := decide_eq_true (by omega)
            obtain ⟨a, ha⟩ : ∃ a, zs[j]? = some a := ⟨_, List.getElem?_eq_getElem (by rw [HNn.out]; omega)⟩
            obtain ⟨b, hb⟩ : ∃ b, zs[j + 1]? = some b := ⟨_, List.getElem?_eq_getElem (by rw [HNn.out]; omega)⟩
            obtain ⟨ad, hA, -, hcp⟩ := (HO.out.sl (i := 0) rfl).2.2.2.int ha
            subst hA
            obtain ⟨ad', hA', -, hcq⟩ := (HO.out.sl (i := 0) rfl).2.2.2.int hb
            obtain rfl := Option.some.inj hA'
            clear hA'
            have hcq2 := hcq
            simp only [Addr.add, Nat.add_eq_zero_iff, Nat.succ_ne_self, and_false, if_false] at hcq2
            have HAB := Lib.hid (And.intro ha hb)
            have hs1 : (j : Int) < (n : Int) := by omega
            have hs4 : (0 : Int) ≤ (j : Int) + 1 := by omega
            have hs5 : ((j : Int) + 1).toNat = j + 1 := by omega
            have hs3 : IntKind.i64.wrap (j : Int) = (j : Int) := IntWalk.i64_in _ (by omega)
            have hs2 : (j : Int) + 1 < (n : Int) := by omega
            clear ha hb
            rcases Int.lt_or_le a b with h3 | h3
            · have hd4 : decide (b ≤ a) = false := decide_eq_false (by omega)
              go_wp2_with fail
              go_quiet (fail)
              go_wp2_with fail
              go_roundw
              case rel =>
                exact ⟨j + 2, by omega, by omega, int_eqv (by omega), fun q x y hq hx hy => by
                  rcases Nat.lt_or_ge q j with h4 | h4
                  · exact HR.out q x y (by omega) hx hy
                  · obtain rfl : q = j := by omega
                    obtain rfl := Option.some.inj (HAB.out.1.symm.trans hx)
                    obtain rfl := Option.some.inj (HAB.out.2.symm.trans hy)
                    exact h3, HO.out.drewN _⟩
              case measure => simp [intOf]; omega
            · have hd4 : decide (b ≤ a) = true := decide_eq_true h3
              have HEr : Hid (errL N m zs = 17) := errL_order HRa.out HAB.out.1 HAB.out.2 h3
              go_wp2_with fail
              go_quiet (fail)
              go_wp2_with fail
              go_ret
              exact ⟨by rw [HEr.out]; rfl, (HO.out.drewN _).below⟩
          · have hd2 : decide (((j + 1 : Nat) : Int) < (n : Int)) = false := decide_eq_false (by omega)
            have hd3 : decide ((j : Int) + 1 < (n : Int)) = false := decide_eq_false (by omega)
            have hE := errL_last (m := m) HRa.out (fun q x y hx hy => HR.out q x y (by have := get_lt hy; rw [HNn.out] at this; omega) hx hy)
            rw [HNn.out] at hE
            obtain ⟨hc0, hc1, hc2, hc3⟩ := HO.out.cdc 0 rfl
            rcases Nat.lt_or_ge m n with h4 | h4
            · have hd5 : decide ((m : Int) < (n : Int)) = true := decide_eq_true (by omega)
              have HEr : Hid (errL N m zs = 3) := by unfold Hid; rw [hE, if_pos h4]
              clear hE
              go_wp2_with fail
              go_ret
              exact ⟨by rw [HEr.out]; rfl, HO.out.below⟩
            · have hd5 : decide ((m : Int) < (n : Int)) = false := decide_eq_false (by omega)
              have HEr : Hid (errL N m zs = 0) := by unfold Hid; rw [hE, if_neg (by omega)]
              clear hE
              go_wp2_with fail
              go_ret
              exact ⟨by rw [HEr.out]; rfl, HO.out.below⟩
  · have hne : ((nw : Int) != (N : Int)) = true := by rw [bne_iff_ne]; omega
    have HC : Hid (chkE d m f nw zs = 7) := by unfold Hid chkE; rw [if_neg (by omega), if_neg (by rw [← hNN.out]; exact hw)]
    rw [HC.out]
    clear hw
    go_enter Tryz.func101, Tryz.ntmps101
    go_wp2_with (go_at_call 48; refine (HV.out _).mono ?_; rintro e w1 ⟨rfl, hb⟩; have HO1 := Lib.hid (HO.out.go hb); clear hb)
    go_ret
    exact ⟨rfl, HO1.out.below⟩
end Go.Proofs.YtnplaejlmbncfaaGreatDoor

namespace Go.Proofs.YtnplaejlmbncfaaGreatDoor
open Go.RowKit
set_option linter.unusedVariables false
set_option maxRecDepth 100000
set_option maxHeartbeats 1000000 in
theorem encode_bad {d m f : Nat} (h : Cd d m f) (hf : m / 2 < f) (A : Option Addr) (n c : Nat) (w : World) :
    Calls Tryz.prog 46 #[.agg #[.int .i64 2, .int .i64 (d : Int), .int .i64 (m : Int), .int .i64 (f : Int)], .slice A n c] w (ResB w [] 1) := by
  have H0 := (Ow.of (St.refl w)).code d m f
  obtain ⟨hc0, hc1, hc2, hc3⟩ := H0.cdc 0 rfl
  have HO := Lib.hid H0
  have HV := Lib.hid (fun W => good_any h W)
  rw [decide_eq_false (by omega)] at HV
  clear H0 h
  go_enter Tryz.func46, Tryz.ntmps46
  go_wp2_with (go_at_call 86; refine (HV.out _).mono ?_; rintro e w1 ⟨rfl, hb⟩; have HO1 := Lib.hid (HO.out.go hb); clear hb)
  go_ret2
  exact resB_nil _ _ _ HO1.out.below
set_option maxHeartbeats 1000000 in
theorem rencode_bad {d m f : Nat} (h : Cd d m f) (hf : m / 2 < f) (A : Option Addr) (n c : Nat) (w : World) :
    Calls Tryz.prog 16 #[.agg #[.int .i64 2, .int .i64 (d : Int), .int .i64 (m : Int), .int .i64 (f : Int)], .slice A n c] w (ResB w [] 1) := by
  have H0 := (Ow.of (St.refl w)).code d m f
  obtain ⟨hc0, hc1, hc2, hc3⟩ := H0.cdc 0 rfl
  have HO := Lib.hid H0
  have HV := Lib.hid (fun W => rsymbols_any h W)
  rw [decide_eq_false (by omega)] at HV
  clear H0 h
  go_enter Tryz.func16, Tryz.ntmps16
  go_wp2_with (go_at_call 48; refine (HV.out _).mono ?_; rintro e w1 ⟨rfl, hb⟩; have HO1 := Lib.hid (HO.out.go hb); clear hb)
  go_ret2
  exact resB_nil _ _ _ HO1.out.below
/-- what the values of a word are, and the error -/
def synE (d m f nw : Nat) : Int := if m / 2 < f then 1 else if nw = d + m then 0 else 7
def synX (d m f nw : Nat) (word : List UInt8) : List UInt8 := if m / 2 < f then [] else if nw = d + m then Sy.synL word m else []
set_option maxHeartbeats 1000000 in
theorem syn_all {d m f : Nat} (h : Cd d m f) (A : Option Addr) (c nw : Nat) (word : List UInt8) (w : World) (hn : word.length = nw) (hs : Sl w w.heap.size A (bys word)) (hnc : nw ≤ c) (hl : nw ≤ 1000) :
    Calls Tryz.prog 53 #[.agg #[.int .i64 2, .int .i64 (d : Int), .int .i64 (m : Int), .int .i64 (f : Int)], .slice A nw c] w (ResB w (synX d m f nw word) (synE d m f nw)) := by
  unfold synX synE
  rcases Nat.lt_or_ge (m / 2) f with hf | hf
  · rw [if_pos hf, if_pos hf]
    have H0 := (Ow.of (St.refl w)).code d m f
    obtain ⟨hc0, hc1, hc2, hc3⟩ := H0.cdc 0 rfl
    have HO := Lib.hid H0
    have HV := Lib.hid (fun W => good_any h W)
    rw [decide_eq_false (by omega)] at HV
    clear H0 h hs
    go_enter Tryz.func53, Tryz.ntmps53
    go_wp2_with (go_at_call 86; refine (HV.out _).mono ?_; rintro e w1 ⟨rfl, hb⟩; have HO1 := Lib.hid (HO.out.go hb); clear hb)
    go_ret2
    exact resB_nil _ _ _ HO1.out.below
  · have hnf : ¬ m / 2 < f := by omega
    rw [if_neg hnf, if_neg hnf]
    clear hnf
    by_cases hw : nw = d + m
    · rw [if_pos hw, if_pos hw]
      subst hw
      exact synExp_any h hf A c word w hn hs hnc
    · rw [if_neg hw, if_neg hw]
      obtain ⟨N, hNN⟩ : ∃ N : Nat, Hid (N = d + m) := ⟨_, rfl⟩
      have hNI : (d : Int) + (m : Int) = (N : Int) := by have := hNN.out; omega
      have hN40 : N ≤ 40 := by have := hNN.out; have := h.d2; have := h.m2; omega
      have hne : ((nw : Int) != (N : Int)) = true := by rw [bne_iff_ne]; have := hNN.out; omega
      have H0 := (Ow.of (St.refl w)).code d m f
      obtain ⟨hc0, hc1, hc2, hc3⟩ := H0.cdc 0 rfl
      have HO := Lib.hid H0
      have HV := Lib.hid (fun W => good_any h W)
      rw [decide_eq_true hf] at HV
      have hd32 := h.d2
      have hm8 := h.m2
      clear H0 h hs hw
      go_enter Tryz.func53, Tryz.ntmps53
      go_wp2_with (go_at_call 86; refine (HV.out _).mono ?_; rintro e w1 ⟨rfl, hb⟩; have HO1 := Lib.hid (HO.out.go hb); obtain ⟨hd0, hd1, hd2, hd3⟩ := HO1.out.cdc 0 rfl; clear hb)
      go_ret2
      exact resB_nil _ _ _ HO1.out.below
set_option maxHeartbeats 1000000 in
theorem rsyn_all {d m f : Nat} (h : Cd d m f) (A : Option Addr) (c nw : Nat) (word : List UInt8) (w : World) (hn : word.length = nw) (hs : Sl w w.heap.size A (bys word)) (hnc : nw ≤ c) (hl : nw ≤ 1000) :
    Calls Tryz.prog 54 #[.agg #[.int .i64 2, .int .i64 (d : Int), .int .i64 (m : Int), .int .i64 (f : Int)], .slice A nw c] w (ResB w (synX d m f nw word) (synE d m f nw)) := by
  unfold synX synE
  rcases Nat.lt_or_ge (m / 2) f with hf | hf
  · rw [if_pos hf, if_pos hf]
    have H0 := (Ow.of (St.refl w)).code d m f
    obtain ⟨hc0, hc1, hc2, hc3⟩ := H0.cdc 0 rfl
    have HO := Lib.hid H0
    have HV := Lib.hid (fun W => rsymbols_any h W)
    rw [decide_eq_false (by omega)] at HV
    clear H0 h hs
    go_enter Tryz.func54, Tryz.ntmps54
    go_wp2_with (go_at_call 48; refine (HV.out _).mono ?_; rintro e w1 ⟨rfl, hb⟩; have HO1 := Lib.hid (HO.out.go hb); clear hb)
    go_ret2
    exact resB_nil _ _ _ HO1.out.below
  · have hnf : ¬ m / 2 < f := by omega
    rw [if_neg hnf, if_neg hnf]
    clear hnf
    by_cases hw : nw = d + m
    · rw [if_pos hw, if_pos hw]
      exact rsyn_ok h hf A c nw word w hn hw hs hnc
    · rw [if_neg hw, if_neg hw]
      obtain ⟨N, hNN⟩ : ∃ N : Nat, Hid (N = d + m) := ⟨_, rfl⟩
      have hNI : (d : Int) + (m : Int) = (N : Int) := by have := hNN.out; omega
      have hN40 : N ≤ 40 := by have := hNN.out; have := h.d2; have := h.m2; omega
      have hne : ((nw : Int) != (N : Int)) = true := by rw [bne_iff_ne]; have := hNN.out; omega
      have H0 := (Ow.of (St.refl w)).code d m f
      obtain ⟨hc0, hc1, hc2, hc3⟩ := H0.cdc 0 rfl
      have HO := Lib.hid H0
      have HV := Lib.hid (fun W => rsymbols_any h W)
      rw [decide_eq_true hf] at HV
      have hd32 := h.d2
      have hm8 := h.m2
      clear H0 h hs hw
      go_enter Tryz.func54, Tryz.ntmps54
      go_wp2_with (go_at_call 48; refine (HV.out _).mono ?_; rintro e w1 ⟨rfl, hb⟩; have HO1 := Lib.hid (HO.out.go hb); obtain ⟨hd0, hd1, hd2, hd3⟩ := HO1.out.cdc 0 rfl; clear hb)
      go_ret2
      exact resB_nil _ _ _ HO1.out.below
/-- what 'Decode' leaves where something is wrong -/
def DecE (w : World) (e : Int) (en : Ending) (w' : World) : Prop := en = .returned (.tuple #[.agg #[.int .i64 0, .slice none 0 0, .slice none 0 0], .int .i64 e]) ∧ Below w.heap.size w w'
set_option maxHeartbeats 1000000 in
theorem decode_bad {d m f : Nat} (h : Cd d m f) (A0 : Option Addr) (nw c0 : Nat) (A : Option Addr) (n c : Nat) (zs : List Int) (w : World) (hn : zs.length = n) (hs : Sl w w.heap.size A (ints zs)) (hnc : n ≤ c) (hl : n ≤ 1000) (hnw : nw ≤ 1000) (hbad : chkE d m f nw zs ≠ 0) :
    Calls Tryz.prog 47 #[.agg #[.int .i64 2, .int .i64 (d : Int), .int .i64 (m : Int), .int .i64 (f : Int)], .slice A0 nw c0, .slice A n c] w (DecE w (chkE d m f nw zs)) := by
  have hc := h
  obtain ⟨h1, h2, h3, h4, h5⟩ := h
  have H0 := ((((Ow.of (St.refl w)).old hs (by unfold ints; rw [List.length_map]; exact hn) hnc hl).code d m f)).arr #[.int .i64 0, .slice none 0 0, .slice none 0 0] 3 rfl (by omega) 83
  simp only [List.nil_append, List.cons_append, World.size_alloc] at H0
  obtain ⟨hc0, hc1, hc2, hc3⟩ := H0.cdc 0 rfl
  have HO := Lib.hid H0
  have HV := Lib.hid (fun W => good_any hc W)
  have HNn := Lib.hid hn
  obtain ⟨N, hNN⟩ : ∃ N : Nat, Hid (N = d + m) := ⟨_, rfl⟩
  have hNI : (d : Int) + (m : Int) = (N : Int) := by have := hNN.out; omega
  have hN40 : N ≤ 40 := by have := hNN.out; omega
  have HB := Lib.hid hbad
  clear H0 hs hn hc hbad
  rcases Nat.lt_or_ge (m / 2) f with hf | hf
  · have HC : Hid (chkE d m f nw zs = 1) := by unfold Hid chkE; rw [if_pos hf]
    rw [decide_eq_false (by omega)] at HV
    rw [HC.out]
    go_enter Tryz.func47, Tryz.ntmps47
    go_upto_region 3 with (go_at_call 86; refine (HV.out _).mono ?_; rintro e w1 ⟨rfl, hb⟩; have HO1 := Lib.hid (HO.out.go hb); clear hb)
    clear hc0 hc1 hc2 hc3
    obtain ⟨hr0, hr1, hr2⟩ := HO1.out.dec 1 rfl
    have hrf0 := HO1.out.frzO 1 (vs := _) rfl 0
    have hrf1 := HO1.out.frzO 1 (vs := _) rfl 1
    have hrf2 := HO1.out.frzO 1 (vs := _) rfl 2
    go_wp2_with fail
    have G := ((HO1.out.put 1 rfl 0 (.int .i64 0)).put 1 rfl 1 (.slice none 0 0)).put 1 rfl 2 (.slice none 0 0)
    obtain ⟨k0, k1, k2⟩ := G.dec (o := 0) (A1 := none) (n1 := 0) (c1 := 0) (A2 := none) (n2 := 0) (c2 := 0) 1 rfl
    refine bodyPost_ret (v := .tuple #[.agg #[.int .i64 0, .slice none 0 0, .slice none 0 0], .int .i64 1]) (by simp [results, Tryz.results47, go_sem, k0, k1, k2]) rfl ?_
    exact ⟨rfl, G.below⟩
  rw [decide_eq_true hf] at HV
  by_cases hw : nw = N
  · subst hw
    have hne : ((nw : Int) != (nw : Int)) = false := by simp
    have HC : Hid (chkE d m f nw zs = errL nw m zs) := by unfold Hid chkE; rw [if_neg (by omega), if_pos hNN.out, ← hNN.out]
    obtain ⟨er, her⟩ : ∃ er, Hid (er = errL nw m zs) := ⟨_, rfl⟩
    have hern : (er == 0) = false := beq_eq_false_iff_ne.2 (by rw [her.out, ← HC.out]; exact HB.out)
    have hern2 : (er != 0) = true := by rw [bne, hern]; rfl
    rw [HC.out, ← her.out]
    go_enter Tryz.func47, Tryz.ntmps47
    go_upto_region 6 with (go_at_call 86; refine (HV.out _).mono ?_; rintro e w1 ⟨rfl, hb⟩; have HO1 := Lib.hid (HO.out.go hb); clear hb)
    obtain ⟨hd0, hd1, hd2, hd3⟩ := HO1.out.cdc 0 rfl
    have hsl := (HO1.out.sl (i := 0) rfl)
    have HW := Lib.hid (wrongList_any A n c nw m zs w1 HNn.out hsl.2.2.2 hsl.2.1 hsl.2.2.1 (by omega) (by omega))
    rw [← her.out] at HW
    clear hsl hc0 hc1 hc2 hc3
    go_wp2_with fail
    refine HW.out.mono ?_
    rintro e w2 ⟨rfl, hb⟩
    have HO2 := Lib.hid (HO1.out.go hb)
    clear hb HO1 HW hd0 hd1 hd2 hd3
    go_upto_region 8 with (fail)
    have HO1 := Lib.hid HO2.out
    clear HO2 HO
    obtain ⟨hr0, hr1, hr2⟩ := HO1.out.dec 1 rfl
    have hrf0 := HO1.out.frzO 1 (vs := _) rfl 0
    have hrf1 := HO1.out.frzO 1 (vs := _) rfl 1
    have hrf2 := HO1.out.frzO 1 (vs := _) rfl 2
    go_wp2_with fail
    have G := ((HO1.out.put 1 rfl 0 (.int .i64 0)).put 1 rfl 1 (.slice none 0 0)).put 1 rfl 2 (.slice none 0 0)
    obtain ⟨k0, k1, k2⟩ := G.dec (o := 0) (A1 := none) (n1 := 0) (c1 := 0) (A2 := none) (n2 := 0) (c2 := 0) 1 rfl
    refine bodyPost_ret (v := .tuple #[.agg #[.int .i64 0, .slice none 0 0, .slice none 0 0], .int .i64 er]) (by simp [results, Tryz.results47, go_sem, k0, k1, k2]) rfl ?_
    exact ⟨rfl, G.below⟩
  · have hne : ((nw : Int) != (N : Int)) = true := by rw [bne_iff_ne]; omega
    have HC : Hid (chkE d m f nw zs = 7) := by unfold Hid chkE; rw [if_neg (by omega), if_neg (by rw [← hNN.out]; exact hw)]
    rw [HC.out]
    clear hw
    go_enter Tryz.func47, Tryz.ntmps47
    go_upto_region 5 with (go_at_call 86; refine (HV.out _).mono ?_; rintro e w1 ⟨rfl, hb⟩; have HO1 := Lib.hid (HO.out.go hb); clear hb)
    clear hc0 hc1 hc2 hc3
    obtain ⟨hr0, hr1, hr2⟩ := HO1.out.dec 1 rfl
    have hrf0 := HO1.out.frzO 1 (vs := _) rfl 0
    have hrf1 := HO1.out.frzO 1 (vs := _) rfl 1
    have hrf2 := HO1.out.frzO 1 (vs := _) rfl 2
    go_wp2_with fail
    have G := ((HO1.out.put 1 rfl 0 (.int .i64 0)).put 1 rfl 1 (.slice none 0 0)).put 1 rfl 2 (.slice none 0 0)
    obtain ⟨k0, k1, k2⟩ := G.dec (o := 0) (A1 := none) (n1 := 0) (c1 := 0) (A2 := none) (n2 := 0) (c2 := 0) 1 rfl
    refine bodyPost_ret (v := .tuple #[.agg #[.int .i64 0, .slice none 0 0, .slice none 0 0], .int .i64 7]) (by simp [results, Tryz.results47, go_sem, k0, k1, k2]) rfl ?_
    exact ⟨rfl, G.below⟩
end Go.Proofs.YtnplaejlmbncfaaGreatDoor
