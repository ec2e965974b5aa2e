/- nat.Parse of any text. -/
import Derived.Test.YtflgfkelbniblaaDoorNPar
import Derived.Test.YtflgfkelbniblaaDoorRm
namespace Go.Proofs.YtflgfkelbniblaaDoor
open Go.RowKit
set_option linter.unusedVariables false
set_option maxRecDepth 100000
theorem str_exists (S : ByteArray) : ∃ l, S = str l := ⟨S.data.toList, by unfold str; rfl⟩
theorem nparse_long (l : List UInt8) (w : World) (h1 : 1445 < l.length) (h2 : l.length ≤ 9223372036854775807) :
    Calls Tryd.prog 29 #[.string (str l)] w (ResN w [] 3) := by
  have hsz := str_size l
  have G := (Ow.of (St.refl w)).boxed (.slice none 0 0) 29
  simp only [List.nil_append] at G
  have hlt : 1445 < (str l).size := by rw [hsz]; exact h1
  have hle : (str l).size ≤ 9223372036854775807 := by rw [hsz]; exact h2
  clear hsz
  go_enter Tryd.func29, Tryd.ntmps29
  go_wp2_with fail
  refine bodyPost_ret (v := .tuple #[.agg #[.slice none 0 0], .int .i64 3]) (by simp [results, Tryd.results29, go_sem]) rfl ?_
  exact resN_nil _ _ _ G.below
theorem nparse_none (w : World) :
    Calls Tryd.prog 29 #[.string (str [])] w (ResN w [] 12) := by
  have hsz := str_size []
  have hemp : (str []).toList.isEmpty = true := by rw [str_toList]; rfl
  have G := (Ow.of (St.refl w)).boxed (.slice none 0 0) 29
  simp only [List.nil_append] at G
  obtain ⟨S, hS⟩ : ∃ S, str [] = S := ⟨_, rfl⟩
  rw [hS] at hsz hemp ⊢
  have hz : S.size = 0 := hsz
  clear hsz hS
  go_enter Tryd.func29, Tryd.ntmps29
  go_wp2_with fail
  refine bodyPost_ret (v := .tuple #[.agg #[.slice none 0 0], .int .i64 12]) (by simp [results, Tryd.results29, go_sem]) rfl ?_
  exact resN_nil _ _ _ G.below
theorem nparse_zero (l : List UInt8) (w : World) (h1 : l.length ≤ 1445) (h2 : 1 < l.length) (h0 : l[0]? = some 48) :
    Calls Tryd.prog 29 #[.string (str l)] w (ResN w [] 12) := by
  have hsz := str_size l
  have hemp : (str l).toList.isEmpty = false := str_empty (by intro e; rw [e] at h2; simp at h2)
  have hix : ∀ w, (Instr.index 9 (.string (str l)) (.int .i64 0)).run Tryd.prog w = .ok (.int .u8 48) w := fun w => by
    rw [run_index_string w _ _ _ _ (by kernel_rfl), dif_pos ⟨by omega, by rw [hsz]; omega⟩]
    have := str_get l 0 48 h0 (by rw [hsz]; omega)
    simp only [Int.toNat_zero]
    rw [this]
    rfl
  have G := (Ow.of (St.refl w)).boxed (.slice none 0 0) 29
  simp only [List.nil_append] at G
  obtain ⟨S, hS⟩ : ∃ S, str l = S := ⟨_, rfl⟩
  rw [hS] at hsz hemp hix ⊢
  have hz1 : 1 < S.size := by rw [hsz]; exact h2
  have hz2 : S.size ≤ 1445 := by rw [hsz]; exact h1
  clear hsz hS
  go_enter Tryd.func29, Tryd.ntmps29
  go_wp2_with fail
  refine bodyPost_ret (v := .tuple #[.agg #[.slice none 0 0], .int .i64 12]) (by simp [results, Tryd.results29, go_sem]) rfl ?_
  exact resN_nil _ _ _ G.below
set_option maxHeartbeats 4000000 in
theorem nparse_bad (l : List UInt8) (w : World) (h0 : l ≠ []) (h1 : l.length ≤ 1445) (h2 : l.length ≤ 1 ∨ ∃ b, l[0]? = some b ∧ b ≠ 48) (j : Nat) (d0 : UInt8) (hj0 : l[j]? = some d0) (hbad : d0.toNat < 48 ∨ 57 < d0.toNat) (h3 : De.Digs (l.take j)) :
    Calls Tryd.prog 29 #[.string (str l)] w (ResN w [] 12) := by
  have hemp := str_empty h0
  have hsz := str_size l
  obtain ⟨N, hN⟩ : ∃ N, l.length = N := ⟨_, rfl⟩
  have hN0 : 0 < N := by
    rw [← hN]
    exact List.length_pos_iff.2 h0
  have HIx : Hid (∀ (k : Nat) (b : UInt8) (w : World), l[k]? = some b → (Instr.index 9 (.string (str l)) (.int .i64 (k : Int))).run Tryd.prog w = .ok (.int .u8 (b.toNat : Int)) w) := fun k b w hb => by
    have hk : k < l.length := by
      rcases Nat.lt_or_ge k l.length with h | h
      · exact h
      · rw [List.getElem?_eq_none h] at hb; cases hb
    rw [run_index_string w _ _ _ _ (by kernel_rfl), dif_pos ⟨by omega, by rw [hsz]; omega⟩]
    have := str_get l k b hb (by rw [hsz]; exact hk)
    simp only [Int.toNat_natCast]
    rw [this]
  obtain ⟨S, hS⟩ : ∃ S, str l = S := ⟨_, rfl⟩
  rw [hS] at hemp hsz HIx ⊢
  rw [hN] at hsz h1
  have HN := Lib.hid hN
  have HDg := Lib.hid h3
  have HJ := Lib.hid hj0
  have hjN : j < N := by have := get_lt hj0; omega
  clear hj0
  have hc2 : (w.alloc (.cells #[.slice none 0 0] 29)).cell? ⟨w.heap.size, 0, none⟩ = some (.slice none 0 0) := by simp [go_sem]
  have hf2 : (w.alloc (.cells #[.slice none 0 0] 29)).frozen? ⟨w.heap.size, 0, none⟩ = false := by simp [go_sem]
  obtain ⟨w0, hw0⟩ : ∃ w0, w.alloc (.cells #[.slice none 0 0] 29) = w0 := ⟨_, rfl⟩
  have HW : Hid (w.alloc (.cells #[.slice none 0 0] 29) = w0) := hw0
  have hB0 : Below w.heap.size w w0 := by rw [← hw0]; exact own_box1 _ _
  have hz0 : w0.heap.size = w.heap.size + 1 := by rw [← hw0]; simp
  rw [hw0] at hc2 hf2
  obtain ⟨b, hb⟩ : ∃ b, w.heap.size = b := ⟨_, rfl⟩
  have HBw := Lib.hid hb
  have HB0 := Lib.hid hB0
  have HCK : Hid (∀ W, Below (b + 1) w0 W → W.cell? ⟨b, 0, none⟩ = some (.slice none 0 0) ∧ W.frozen? ⟨b, 0, none⟩ = false ∧ Below w.heap.size w W) := fun W h => by
    rw [hb] at hc2 hf2
    exact ⟨(h.cell (p := ⟨b, 0, none⟩) (by simp only; omega)).trans hc2, (h.frozen (p := ⟨b, 0, none⟩) (by simp only; omega)).trans hf2, hB0.trans (h.mono (by omega))⟩
  have HSZ : Hid (S.size = N) := hsz
  have hsN : (S.size : Int) = (N : Int) := by rw [hsz]
  have HZ0 : Hid (b + 1 ≤ w0.heap.size) := by unfold Hid; rw [hz0, hb]; exact Nat.le_refl _
  have HL0 : Hid (w0.ownsRow (b + 1) 3 1 (.slice none 0 0) 0 (nats (Na.dig (De.pv (l.take 0))))) := by
    have : Na.dig (De.pv (l.take 0)) = [] := by rw [List.take_zero, De.pv_nil, Na.dig_zero]
    unfold Hid
    rw [this]
    exact World.ownsRow_nil _ _ _ _
  clear h0 h3 hN hS hw0 hB0 hz0 hb hc2 hf2 hsz
  have H2 : Hid ((decide (1 < (N : Int)) = false) ∨ ∃ b0 : UInt8, l[0]? = some b0 ∧ ((b0.toNat : Int) == 48) = false ∧ 1 < N) := by
    rcases Nat.lt_or_ge 1 N with h | h
    · rcases h2 with h2 | ⟨b0, h2, hne⟩
      · have := HN.out; omega
      · exact .inr ⟨b0, h2, u8_ne hne, h⟩
    · exact .inl (decide_eq_false (by omega))
  clear h2
  rcases H2.out with hone | ⟨b0, hb0, hne0, h1N⟩
  case inr =>
    have hidx0 : ∀ w, (Instr.index 9 (.string S) (.int .i64 0)).run Tryd.prog w = .ok (.int .u8 (b0.toNat : Int)) w := fun w => HIx.out 0 b0 w hb0
    clear hb0
    go_enter Tryd.func29, Tryd.ntmps29
    go_wp2_with fail
    rw [HW.out, HBw.out]
    go_loopw [25, 4] (fun i s wr => NPar w0 l j (b + 1) i s wr) (fun i _ _ => j - (intOf i).toNat)
    case atStart => exact ⟨0, 0, 0, none, Nat.zero_le _, rfl, rfl, ⟨by rw [List.take_zero, De.pv_nil, Na.dig_zero]; rfl, by omega⟩, HL0.out, Below.refl _ _, HZ0.out⟩
    case round =>
      clear HL0 HZ0
      obtain ⟨k, n, c, A, hk, rfl, rfl, HP, ho, hb, hbs⟩ := hrel
      have HO := Lib.hid ho
      have HB := Lib.hid hb
      have HBS := Lib.hid hbs
      rcases Nat.lt_or_ge k j with hkN | hkN
      · obtain ⟨d, hd⟩ := List.getElem?_eq_some_iff.2 ⟨(by rw [HN.out]; omega : k < l.length), rfl⟩ |> fun h => (⟨_, h⟩ : ∃ d, l[k]? = some d)
        have hdig := HDg.out d (List.mem_of_getElem? (i := k) (by rw [List.getElem?_take, if_pos hkN]; exact hd))
        have hidx : ∀ w, (Instr.index 9 (.string S) (.int .i64 (k : Int))).run Tryd.prog w = .ok (.int .u8 (d.toNat : Int)) w := fun w => HIx.out k d w hd
        obtain ⟨v, hv⟩ : ∃ v : Nat, d.toNat = v := ⟨_, rfl⟩
        rw [hv] at hidx hdig
        have hlo : decide ((v : Int) < 48) = false := decide_eq_false (by omega)
        have hhi : decide (57 < (v : Int)) = false := decide_eq_false (by omega)
        have hv48 : 48 ≤ v := hdig.1
        have hv57 : v ≤ 57 := hdig.2
        obtain ⟨m0, hm0⟩ : ∃ m0 : Nat, v - 48 = m0 := ⟨_, rfl⟩
        have hm1 : (v : Int) - 48 = (m0 : Int) := by omega
        have hm2 : m0 ≤ 9 := by omega
        have HPv : Hid (De.pv (l.take (k + 1)) = De.pv (l.take k) * 10 + m0) := by
          unfold Hid
          rw [De.pv_take l k d hd, hv, hm0, Nat.mul_comm]
        have HLt : Hid (De.pv (l.take (k + 1)) < 16777216 ^ 207) := by
          have h9 := De.pv_lt (l.take j) HDg.out (k + 1) (by rw [List.length_take, HN.out]; omega)
          rw [List.take_take, Nat.min_eq_left (by omega)] at h9
          exact Nat.lt_of_lt_of_le h9 (De.ten_le _ 207 207 (by omega) rfl)
        have HGr := Lib.hid (ngrow_any A n c (b + 1) (Na.dig (De.pv (l.take k))) 10 m0 10 (m0 : Int) rfl rfl wr HP.out.1 ho (Na.dig_lim _) (by omega) (by omega) (by have := HP.out.2; omega) hbs)
        rw [Na.val_dig, ← HPv.out] at HGr
        clear ho hb hbs hd hv hdig hm0
        go_wp2_with fail
        refine HGr.out.mono ?_
        rintro e w2 ⟨A2, n2, c2, o, rfl, ho1, ho2, ho3, ho4, ho5, hb2, hbs2, htg⟩
        have hod := tight_dig HP.out.1 htg ho3 (by rw [ho4, HPv.out]; omega)
        rw [ho4] at hod
        rw [hod] at ho1 ho5
        have hn207 : n2 ≤ 207 := by rw [← ho1]; exact Na.dig_len_le HLt.out
        have HQ := Lib.hid (And.intro ho1 (And.intro ho5 (And.intro (HB.out.trans hb2) hbs2)))
        clear ho1 ho2 ho3 ho4 ho5 hb2 hbs2 htg hod HGr
        go_wp2_with fail
        go_roundw
        case rel => exact ⟨k + 1, n2, c2, A2, by omega, by go_num, rfl, ⟨HQ.out.1, hn207⟩, HQ.out.2.1, HQ.out.2.2.1, HQ.out.2.2.2⟩
        case measure => simp [intOf]; omega
      · obtain rfl : k = j := by omega
        have hidx : ∀ w, (Instr.index 9 (.string S) (.int .i64 (k : Int))).run Tryd.prog w = .ok (.int .u8 (d0.toNat : Int)) w := fun w => HIx.out k d0 w HJ.out
        obtain ⟨v, hv⟩ : ∃ v : Nat, d0.toNat = v := ⟨_, rfl⟩
        rw [hv] at hidx hbad
        obtain ⟨hc2, hf2, hbw2⟩ := HCK.out wr HB.out
        have HBB := Lib.hid hbw2
        have hv256 : v < 256 := by rw [← hv]; exact UInt8.toNat_lt d0
        clear ho hb hbs hkN hbw2 hv
        rcases hbad with hlo | hhi
        · have hlo' : decide ((v : Int) < 48) = true := decide_eq_true (by omega)
          go_wp2_with fail
          refine bodyPost_ret (v := .tuple #[.agg #[.slice none 0 0], .int .i64 12]) (by simp [results, Tryd.results29, go_sem, hc2]) rfl ?_
          have hbw := HBw.out
          exact resN_nil _ _ _ (bset HBB.out _ (by simp only; omega) _)
        · have hlo' : decide ((v : Int) < 48) = false := decide_eq_false (by omega)
          have hhi' : decide (57 < (v : Int)) = true := decide_eq_true (by omega)
          go_wp2_with fail
          refine bodyPost_ret (v := .tuple #[.agg #[.slice none 0 0], .int .i64 12]) (by simp [results, Tryd.results29, go_sem, hc2]) rfl ?_
          have hbw := HBw.out
          exact resN_nil _ _ _ (bset HBB.out _ (by simp only; omega) _)
  case inl =>
    go_enter Tryd.func29, Tryd.ntmps29
    go_wp2_with fail
    rw [HW.out, HBw.out]
    go_loopw [25, 4] (fun i s wr => NPar w0 l j (b + 1) i s wr) (fun i _ _ => j - (intOf i).toNat)
    case atStart => exact ⟨0, 0, 0, none, Nat.zero_le _, rfl, rfl, ⟨by rw [List.take_zero, De.pv_nil, Na.dig_zero]; rfl, by omega⟩, HL0.out, Below.refl _ _, HZ0.out⟩
    case round =>
      clear HL0 HZ0
      obtain ⟨k, n, c, A, hk, rfl, rfl, HP, ho, hb, hbs⟩ := hrel
      have HO := Lib.hid ho
      have HB := Lib.hid hb
      have HBS := Lib.hid hbs
      rcases Nat.lt_or_ge k j with hkN | hkN
      · obtain ⟨d, hd⟩ := List.getElem?_eq_some_iff.2 ⟨(by rw [HN.out]; omega : k < l.length), rfl⟩ |> fun h => (⟨_, h⟩ : ∃ d, l[k]? = some d)
        have hdig := HDg.out d (List.mem_of_getElem? (i := k) (by rw [List.getElem?_take, if_pos hkN]; exact hd))
        have hidx : ∀ w, (Instr.index 9 (.string S) (.int .i64 (k : Int))).run Tryd.prog w = .ok (.int .u8 (d.toNat : Int)) w := fun w => HIx.out k d w hd
        obtain ⟨v, hv⟩ : ∃ v : Nat, d.toNat = v := ⟨_, rfl⟩
        rw [hv] at hidx hdig
        have hlo : decide ((v : Int) < 48) = false := decide_eq_false (by omega)
        have hhi : decide (57 < (v : Int)) = false := decide_eq_false (by omega)
        have hv48 : 48 ≤ v := hdig.1
        have hv57 : v ≤ 57 := hdig.2
        obtain ⟨m0, hm0⟩ : ∃ m0 : Nat, v - 48 = m0 := ⟨_, rfl⟩
        have hm1 : (v : Int) - 48 = (m0 : Int) := by omega
        have hm2 : m0 ≤ 9 := by omega
        have HPv : Hid (De.pv (l.take (k + 1)) = De.pv (l.take k) * 10 + m0) := by
          unfold Hid
          rw [De.pv_take l k d hd, hv, hm0, Nat.mul_comm]
        have HLt : Hid (De.pv (l.take (k + 1)) < 16777216 ^ 207) := by
          have h9 := De.pv_lt (l.take j) HDg.out (k + 1) (by rw [List.length_take, HN.out]; omega)
          rw [List.take_take, Nat.min_eq_left (by omega)] at h9
          exact Nat.lt_of_lt_of_le h9 (De.ten_le _ 207 207 (by omega) rfl)
        have HGr := Lib.hid (ngrow_any A n c (b + 1) (Na.dig (De.pv (l.take k))) 10 m0 10 (m0 : Int) rfl rfl wr HP.out.1 ho (Na.dig_lim _) (by omega) (by omega) (by have := HP.out.2; omega) hbs)
        rw [Na.val_dig, ← HPv.out] at HGr
        clear ho hb hbs hd hv hdig hm0
        go_wp2_with fail
        refine HGr.out.mono ?_
        rintro e w2 ⟨A2, n2, c2, o, rfl, ho1, ho2, ho3, ho4, ho5, hb2, hbs2, htg⟩
        have hod := tight_dig HP.out.1 htg ho3 (by rw [ho4, HPv.out]; omega)
        rw [ho4] at hod
        rw [hod] at ho1 ho5
        have hn207 : n2 ≤ 207 := by rw [← ho1]; exact Na.dig_len_le HLt.out
        have HQ := Lib.hid (And.intro ho1 (And.intro ho5 (And.intro (HB.out.trans hb2) hbs2)))
        clear ho1 ho2 ho3 ho4 ho5 hb2 hbs2 htg hod HGr
        go_wp2_with fail
        go_roundw
        case rel => exact ⟨k + 1, n2, c2, A2, by omega, by go_num, rfl, ⟨HQ.out.1, hn207⟩, HQ.out.2.1, HQ.out.2.2.1, HQ.out.2.2.2⟩
        case measure => simp [intOf]; omega
      · obtain rfl : k = j := by omega
        have hidx : ∀ w, (Instr.index 9 (.string S) (.int .i64 (k : Int))).run Tryd.prog w = .ok (.int .u8 (d0.toNat : Int)) w := fun w => HIx.out k d0 w HJ.out
        obtain ⟨v, hv⟩ : ∃ v : Nat, d0.toNat = v := ⟨_, rfl⟩
        rw [hv] at hidx hbad
        obtain ⟨hc2, hf2, hbw2⟩ := HCK.out wr HB.out
        have HBB := Lib.hid hbw2
        have hv256 : v < 256 := by rw [← hv]; exact UInt8.toNat_lt d0
        clear ho hb hbs hkN hbw2 hv
        rcases hbad with hlo | hhi
        · have hlo' : decide ((v : Int) < 48) = true := decide_eq_true (by omega)
          go_wp2_with fail
          refine bodyPost_ret (v := .tuple #[.agg #[.slice none 0 0], .int .i64 12]) (by simp [results, Tryd.results29, go_sem, hc2]) rfl ?_
          have hbw := HBw.out
          exact resN_nil _ _ _ (bset HBB.out _ (by simp only; omega) _)
        · have hlo' : decide ((v : Int) < 48) = false := decide_eq_false (by omega)
          have hhi' : decide (57 < (v : Int)) = true := decide_eq_true (by omega)
          go_wp2_with fail
          refine bodyPost_ret (v := .tuple #[.agg #[.slice none 0 0], .int .i64 12]) (by simp [results, Tryd.results29, go_sem, hc2]) rfl ?_
          have hbw := HBw.out
          exact resN_nil _ _ _ (bset HBB.out _ (by simp only; omega) _)
end Go.Proofs.YtflgfkelbniblaaDoor
