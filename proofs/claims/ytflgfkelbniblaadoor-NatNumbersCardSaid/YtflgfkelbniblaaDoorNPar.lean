/- nat.Parse of a text of digits. -/
import Derived.Test.YtflgfkelbniblaaDoorNatH
import Derived.Test.YtflgfkelbniblaaDoorNatJ
namespace Go.Proofs.YtflgfkelbniblaaDoor
open Go.RowKit
set_option linter.unusedVariables false
set_option maxRecDepth 100000
namespace De
/-- the number of a text -/
def pv (l : List UInt8) : Nat := l.foldl (fun a c => 10 * a + (c.toNat - 48)) 0
theorem pv_nil : pv [] = 0 := rfl
theorem pv_snoc (l : List UInt8) (c : UInt8) : pv (l ++ [c]) = 10 * pv l + (c.toNat - 48) := by unfold pv; rw [List.foldl_append]; rfl
def Digs (l : List UInt8) : Prop := ∀ c ∈ l, 48 ≤ c.toNat ∧ c.toNat ≤ 57
theorem pv_take (l : List UInt8) (k : Nat) (c : UInt8) (h : l[k]? = some c) : pv (l.take (k + 1)) = 10 * pv (l.take k) + (c.toNat - 48) := by
  have hk : k < l.length := by
    rcases Nat.lt_or_ge k l.length with h1 | h1
    · exact h1
    · rw [List.getElem?_eq_none h1] at h; cases h
  have e : l.take (k + 1) = l.take k ++ [c] := by
    rw [List.take_succ_eq_append_getElem hk]
    rw [List.getElem?_eq_getElem hk] at h
    rw [Option.some.inj h]
  rw [e, pv_snoc]
theorem pv_lt (l : List UInt8) (hd : Digs l) : ∀ k, k ≤ l.length → pv (l.take k) < 10 ^ k := by
  intro k
  induction k with
  | zero => intro _; rw [List.take_zero, pv_nil]; omega
  | succ k ih =>
    intro hk
    have h1 := ih (by omega)
    have hc : l[k]? = some l[k] := List.getElem?_eq_getElem (by omega)
    have h2 := hd _ (List.mem_of_getElem? hc)
    rw [pv_take l k _ hc, Nat.pow_succ]
    omega
theorem ten_le (k m j : Nat) (hk : k ≤ 7 * m) (hm : m = j) : 10 ^ k ≤ 16777216 ^ j := by
  subst hm
  have e1 : 10 ^ k ≤ 10 ^ (7 * m) := Nat.pow_le_pow_right (by omega) hk
  rw [Nat.pow_mul] at e1
  exact Nat.le_trans e1 (Nat.pow_le_pow_left (by omega) m)
end De
/-- limbs of a number that have grown are those of a number -/
theorem tight_dig {v : Nat} {n : Nat} {o : List Nat} (hn : (Na.dig v).length = n) (ht : Tight n o) (ho : Na.Lim o) (hv : v ≤ Na.val o) : o = Na.dig (Na.val o) := by
  refine (Na.dig_val ho ?_).symm
  rcases ht with h | ⟨a, h1, h2⟩
  · rcases Nat.eq_zero_or_pos n with e | e
    · exact .inl (by omega)
    · refine .inr fun h0 => ?_
      have e1 := Na.dig_low v (n - 1) (by omega)
      have e2 := Na.val_take_succ o (o.length - 1) 0 h0
      rw [List.take_of_length_le (by omega)] at e2
      have e3 := Na.val_lt (ho.take (o.length - 1))
      rw [List.length_take, Nat.min_eq_left (by omega), h] at e3
      rw [h] at e2
      omega
  · refine .inr fun h0 => ?_
    rw [h1] at h0
    exact h2 (Option.some.inj h0)
def NPar (w : World) (l : List UInt8) (N base : Nat) (i s : Value) (wr : World) : Prop :=
  ∃ (k n c : Nat) (A : Option Addr), k ≤ N ∧ i = .int .i64 (k : Int) ∧ s = .slice A n c ∧ Hid ((Na.dig (De.pv (l.take k))).length = n ∧ n ≤ 207) ∧ wr.ownsRow base 3 1 (.slice A n c) n (nats (Na.dig (De.pv (l.take k)))) ∧ Below base w wr ∧ base ≤ wr.heap.size
set_option maxHeartbeats 4000000 in
theorem nparse_ok (l : List UInt8) (w : World) (h0 : l ≠ []) (h1 : l.length ≤ 1445) (h2 : l.length ≤ 1 ∨ ∃ b, l[0]? = some b ∧ b ≠ 48) (h3 : De.Digs l) :
    Calls Tryd.prog 29 #[.string (str l)] w (ResN w (resL (De.pv l)) (resE (De.pv l))) := by
  have hemp := str_empty h0
  have hsz := str_size l
  obtain ⟨N, hN⟩ : ∃ N, l.length = N := ⟨_, rfl⟩
  have hN0 : 0 < N := by
    rw [← hN]
    exact List.length_pos_iff.2 h0
  have HIx : Hid (∀ (k : Nat) (b : UInt8) (w : World), l[k]? = some b → (Instr.index 9 (.string (str l)) (.int .i64 (k : Int))).run Tryd.prog w = .ok (.int .u8 (b.toNat : Int)) w) := fun k b w hb => by
    have hk : k < l.length := by
      rcases Nat.lt_or_ge k l.length with h | h
      · exact h
      · rw [List.getElem?_eq_none h] at hb; cases hb
    rw [run_index_string w _ _ _ _ (by kernel_rfl), dif_pos ⟨by omega, by rw [hsz]; omega⟩]
    have := str_get l k b hb (by rw [hsz]; exact hk)
    simp only [Int.toNat_natCast]
    rw [this]
  obtain ⟨S, hS⟩ : ∃ S, str l = S := ⟨_, rfl⟩
  rw [hS] at hemp hsz HIx ⊢
  rw [hN] at hsz h1
  have HN := Lib.hid hN
  have HDg := Lib.hid h3
  have hc2 : (w.alloc (.cells #[.slice none 0 0] 29)).cell? ⟨w.heap.size, 0, none⟩ = some (.slice none 0 0) := by simp [go_sem]
  have hf2 : (w.alloc (.cells #[.slice none 0 0] 29)).frozen? ⟨w.heap.size, 0, none⟩ = false := by simp [go_sem]
  obtain ⟨w0, hw0⟩ : ∃ w0, w.alloc (.cells #[.slice none 0 0] 29) = w0 := ⟨_, rfl⟩
  have HW : Hid (w.alloc (.cells #[.slice none 0 0] 29) = w0) := hw0
  have hB0 : Below w.heap.size w w0 := by rw [← hw0]; exact own_box1 _ _
  have hz0 : w0.heap.size = w.heap.size + 1 := by rw [← hw0]; simp
  rw [hw0] at hc2 hf2
  obtain ⟨b, hb⟩ : ∃ b, w.heap.size = b := ⟨_, rfl⟩
  have HBw := Lib.hid hb
  have HB0 := Lib.hid hB0
  have HCK : Hid (∀ W, Below (b + 1) w0 W → W.cell? ⟨b, 0, none⟩ = some (.slice none 0 0) ∧ W.frozen? ⟨b, 0, none⟩ = false ∧ Below w.heap.size w W) := fun W h => by
    rw [hb] at hc2 hf2
    exact ⟨(h.cell (p := ⟨b, 0, none⟩) (by simp only; omega)).trans hc2, (h.frozen (p := ⟨b, 0, none⟩) (by simp only; omega)).trans hf2, hB0.trans (h.mono (by omega))⟩
  have HSZ : Hid (S.size = N) := hsz
  have hsN : (S.size : Int) = (N : Int) := by rw [hsz]
  have HZ0 : Hid (b + 1 ≤ w0.heap.size) := by unfold Hid; rw [hz0, hb]; exact Nat.le_refl _
  have HL0 : Hid (w0.ownsRow (b + 1) 3 1 (.slice none 0 0) 0 (nats (Na.dig (De.pv (l.take 0))))) := by
    have : Na.dig (De.pv (l.take 0)) = [] := by rw [List.take_zero, De.pv_nil, Na.dig_zero]
    unfold Hid
    rw [this]
    exact World.ownsRow_nil _ _ _ _
  clear h0 h3 hN hS hw0 hB0 hz0 hb hc2 hf2 hsz
  have H2 : Hid ((decide (1 < (N : Int)) = false) ∨ ∃ b0 : UInt8, l[0]? = some b0 ∧ ((b0.toNat : Int) == 48) = false ∧ 1 < N) := by
    rcases Nat.lt_or_ge 1 N with h | h
    · rcases h2 with h2 | ⟨b0, h2, hne⟩
      · have := HN.out; omega
      · exact .inr ⟨b0, h2, u8_ne hne, h⟩
    · exact .inl (decide_eq_false (by omega))
  clear h2
  rcases H2.out with hone | ⟨b0, hb0, hne0, h1N⟩
  case inr =>
    have hidx0 : ∀ w, (Instr.index 9 (.string S) (.int .i64 0)).run Tryd.prog w = .ok (.int .u8 (b0.toNat : Int)) w := fun w => HIx.out 0 b0 w hb0
    clear hb0
    go_enter Tryd.func29, Tryd.ntmps29
    go_wp2_with fail
    rw [HW.out, HBw.out]
    go_loopw [25, 4] (fun i s wr => NPar w0 l N (b + 1) i s wr) (fun i _ _ => N - (intOf i).toNat)
    case atStart => exact ⟨0, 0, 0, none, Nat.zero_le _, rfl, rfl, ⟨by rw [List.take_zero, De.pv_nil, Na.dig_zero]; rfl, by omega⟩, HL0.out, Below.refl _ _, HZ0.out⟩
    case round =>
      clear HL0 HZ0
      obtain ⟨k, n, c, A, hk, rfl, rfl, HP, ho, hb, hbs⟩ := hrel
      have HO := Lib.hid ho
      have HB := Lib.hid hb
      have HBS := Lib.hid hbs
      rcases Nat.lt_or_ge k N with hkN | hkN
      · obtain ⟨d, hd⟩ := List.getElem?_eq_some_iff.2 ⟨(by rw [HN.out]; exact hkN : k < l.length), rfl⟩ |> fun h => (⟨_, h⟩ : ∃ d, l[k]? = some d)
        have hdig := HDg.out d (List.mem_of_getElem? hd)
        have hidx : ∀ w, (Instr.index 9 (.string S) (.int .i64 (k : Int))).run Tryd.prog w = .ok (.int .u8 (d.toNat : Int)) w := fun w => HIx.out k d w hd
        obtain ⟨v, hv⟩ : ∃ v : Nat, d.toNat = v := ⟨_, rfl⟩
        rw [hv] at hidx hdig
        have hlo : decide ((v : Int) < 48) = false := decide_eq_false (by omega)
        have hhi : decide (57 < (v : Int)) = false := decide_eq_false (by omega)
        have hv48 : 48 ≤ v := hdig.1
        have hv57 : v ≤ 57 := hdig.2
        obtain ⟨m0, hm0⟩ : ∃ m0 : Nat, v - 48 = m0 := ⟨_, rfl⟩
        have hm1 : (v : Int) - 48 = (m0 : Int) := by omega
        have hm2 : m0 ≤ 9 := by omega
        have HPv : Hid (De.pv (l.take (k + 1)) = De.pv (l.take k) * 10 + m0) := by
          unfold Hid
          rw [De.pv_take l k d hd, hv, hm0, Nat.mul_comm]
        have HLt : Hid (De.pv (l.take (k + 1)) < 16777216 ^ 207) := Nat.lt_of_lt_of_le (De.pv_lt l HDg.out (k + 1) (by rw [HN.out]; omega)) (De.ten_le _ 207 207 (by omega) rfl)
        have HGr := Lib.hid (ngrow_any A n c (b + 1) (Na.dig (De.pv (l.take k))) 10 m0 10 (m0 : Int) rfl rfl wr HP.out.1 ho (Na.dig_lim _) (by omega) (by omega) (by have := HP.out.2; omega) hbs)
        rw [Na.val_dig, ← HPv.out] at HGr
        clear ho hb hbs hd hv hdig hm0
        go_wp2_with fail
        refine HGr.out.mono ?_
        rintro e w2 ⟨A2, n2, c2, o, rfl, ho1, ho2, ho3, ho4, ho5, hb2, hbs2, htg⟩
        have hod := tight_dig HP.out.1 htg ho3 (by rw [ho4, HPv.out]; omega)
        rw [ho4] at hod
        rw [hod] at ho1 ho5
        have hn207 : n2 ≤ 207 := by rw [← ho1]; exact Na.dig_len_le HLt.out
        have HQ := Lib.hid (And.intro ho1 (And.intro ho5 (And.intro (HB.out.trans hb2) hbs2)))
        clear ho1 ho2 ho3 ho4 ho5 hb2 hbs2 htg hod HGr
        go_wp2_with fail
        go_roundw
        case rel => exact ⟨k + 1, n2, c2, A2, by omega, by go_num, rfl, ⟨HQ.out.1, hn207⟩, HQ.out.2.1, HQ.out.2.2.1, HQ.out.2.2.2⟩
        case measure => simp [intOf]; omega
      · have hkd : decide (k < N) = false := decide_eq_false (by omega)
        have HPe : Hid (l.take k = l) := List.take_of_length_le (by have := HN.out; omega)
        rw [HPe.out] at HP HO ho
        have HR := Lib.hid (nresult_any A n c (b + 1) (Na.dig (De.pv l)) wr HP.out.1 ho (Na.dig_lim _) (by have := HP.out.2; omega))
        rw [Na.val_dig] at HR
        clear ho hb hbs hkN
        go_wp2_with fail
        refine HR.out.mono ?_
        rintro e w2 ⟨A2, n2, c2, rfl, hr1, hr2, hr3⟩
        obtain ⟨hc2, hf2, hbw2⟩ := HCK.out w2 (HB.out.trans (hr3.mono HBS.out))
        have HQ := Lib.hid (And.intro hr1 (And.intro hr2 hbw2))
        clear hr1 hr2 hr3 hbw2 HR
        go_wp2_with fail
        refine bodyPost_ret (v := .tuple #[.agg #[.slice A2 n2 c2], .int .i64 (resE (De.pv l))]) (by simp [results, Tryd.results29, go_sem, hc2]) rfl ?_
        have hbw := HBw.out
        exact ⟨A2, n2, c2, rfl, HQ.out.1, own_more (own_setLow HQ.out.2.1 _ _ (by simp only; omega)) (by omega), bset HQ.out.2.2 _ (by simp only; omega) _⟩
  case inl =>
    go_enter Tryd.func29, Tryd.ntmps29
    go_wp2_with fail
    rw [HW.out, HBw.out]
    go_loopw [25, 4] (fun i s wr => NPar w0 l N (b + 1) i s wr) (fun i _ _ => N - (intOf i).toNat)
    case atStart => exact ⟨0, 0, 0, none, Nat.zero_le _, rfl, rfl, ⟨by rw [List.take_zero, De.pv_nil, Na.dig_zero]; rfl, by omega⟩, HL0.out, Below.refl _ _, HZ0.out⟩
    case round =>
      clear HL0 HZ0
      obtain ⟨k, n, c, A, hk, rfl, rfl, HP, ho, hb, hbs⟩ := hrel
      have HO := Lib.hid ho
      have HB := Lib.hid hb
      have HBS := Lib.hid hbs
      rcases Nat.lt_or_ge k N with hkN | hkN
      · obtain ⟨d, hd⟩ := List.getElem?_eq_some_iff.2 ⟨(by rw [HN.out]; exact hkN : k < l.length), rfl⟩ |> fun h => (⟨_, h⟩ : ∃ d, l[k]? = some d)
        have hdig := HDg.out d (List.mem_of_getElem? hd)
        have hidx : ∀ w, (Instr.index 9 (.string S) (.int .i64 (k : Int))).run Tryd.prog w = .ok (.int .u8 (d.toNat : Int)) w := fun w => HIx.out k d w hd
        obtain ⟨v, hv⟩ : ∃ v : Nat, d.toNat = v := ⟨_, rfl⟩
        rw [hv] at hidx hdig
        have hlo : decide ((v : Int) < 48) = false := decide_eq_false (by omega)
        have hhi : decide (57 < (v : Int)) = false := decide_eq_false (by omega)
        have hv48 : 48 ≤ v := hdig.1
        have hv57 : v ≤ 57 := hdig.2
        obtain ⟨m0, hm0⟩ : ∃ m0 : Nat, v - 48 = m0 := ⟨_, rfl⟩
        have hm1 : (v : Int) - 48 = (m0 : Int) := by omega
        have hm2 : m0 ≤ 9 := by omega
        have HPv : Hid (De.pv (l.take (k + 1)) = De.pv (l.take k) * 10 + m0) := by
          unfold Hid
          rw [De.pv_take l k d hd, hv, hm0, Nat.mul_comm]
        have HLt : Hid (De.pv (l.take (k + 1)) < 16777216 ^ 207) := Nat.lt_of_lt_of_le (De.pv_lt l HDg.out (k + 1) (by rw [HN.out]; omega)) (De.ten_le _ 207 207 (by omega) rfl)
        have HGr := Lib.hid (ngrow_any A n c (b + 1) (Na.dig (De.pv (l.take k))) 10 m0 10 (m0 : Int) rfl rfl wr HP.out.1 ho (Na.dig_lim _) (by omega) (by omega) (by have := HP.out.2; omega) hbs)
        rw [Na.val_dig, ← HPv.out] at HGr
        clear ho hb hbs hd hv hdig hm0
        go_wp2_with fail
        refine HGr.out.mono ?_
        rintro e w2 ⟨A2, n2, c2, o, rfl, ho1, ho2, ho3, ho4, ho5, hb2, hbs2, htg⟩
        have hod := tight_dig HP.out.1 htg ho3 (by rw [ho4, HPv.out]; omega)
        rw [ho4] at hod
        rw [hod] at ho1 ho5
        have hn207 : n2 ≤ 207 := by rw [← ho1]; exact Na.dig_len_le HLt.out
        have HQ := Lib.hid (And.intro ho1 (And.intro ho5 (And.intro (HB.out.trans hb2) hbs2)))
        clear ho1 ho2 ho3 ho4 ho5 hb2 hbs2 htg hod HGr
        go_wp2_with fail
        go_roundw
        case rel => exact ⟨k + 1, n2, c2, A2, by omega, by go_num, rfl, ⟨HQ.out.1, hn207⟩, HQ.out.2.1, HQ.out.2.2.1, HQ.out.2.2.2⟩
        case measure => simp [intOf]; omega
      · have hkd : decide (k < N) = false := decide_eq_false (by omega)
        have HPe : Hid (l.take k = l) := List.take_of_length_le (by have := HN.out; omega)
        rw [HPe.out] at HP HO ho
        have HR := Lib.hid (nresult_any A n c (b + 1) (Na.dig (De.pv l)) wr HP.out.1 ho (Na.dig_lim _) (by have := HP.out.2; omega))
        rw [Na.val_dig] at HR
        clear ho hb hbs hkN
        go_wp2_with fail
        refine HR.out.mono ?_
        rintro e w2 ⟨A2, n2, c2, rfl, hr1, hr2, hr3⟩
        obtain ⟨hc2, hf2, hbw2⟩ := HCK.out w2 (HB.out.trans (hr3.mono HBS.out))
        have HQ := Lib.hid (And.intro hr1 (And.intro hr2 hbw2))
        clear hr1 hr2 hr3 hbw2 HR
        go_wp2_with fail
        refine bodyPost_ret (v := .tuple #[.agg #[.slice A2 n2 c2], .int .i64 (resE (De.pv l))]) (by simp [results, Tryd.results29, go_sem, hc2]) rfl ?_
        have hbw := HBw.out
        exact ⟨A2, n2, c2, rfl, HQ.out.1, own_more (own_setLow HQ.out.2.1 _ _ (by simp only; omega)) (by omega), bset HQ.out.2.2 _ (by simp only; omega) _⟩
end Go.Proofs.YtflgfkelbniblaaDoor
