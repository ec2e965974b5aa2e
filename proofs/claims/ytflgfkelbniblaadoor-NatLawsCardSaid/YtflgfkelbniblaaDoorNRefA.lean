/- The document's Valid, Same, fit, limb of numbers. -/
import Derived.Test.YtflgfkelbniblaaDoorNatE
namespace Go.Proofs.YtflgfkelbniblaaDoor
open Go.RowKit
set_option linter.unusedVariables false
set_option maxRecDepth 100000
namespace Na
theorem vld_zero (zs : List Int) (h : zs[zs.length - 1]? = some 0) : vld zs = false := by
  unfold vld
  rw [List.getLast?_eq_getElem?, h]
  simp
theorem vld_all (zs : List Int) (h : zs.all lim = true) (h2 : zs.length ≤ 200) (h3 : zs.length = 0 ∨ ∃ z, zs[zs.length - 1]? = some z ∧ z ≠ 0) : vld zs = true := by
  rcases h3 with h3 | ⟨z, h3, h4⟩
  · have : zs = [] := List.eq_nil_of_length_eq_zero h3
    rw [this]; rfl
  · rw [vld_end zs z h h2 h3, bne_iff_ne]
    exact h4
end Na
set_option maxHeartbeats 1000000 in
theorem nrvalid_any (A : Option Addr) (n c B : Nat) (zs : List Int) (w : World) (hn : zs.length = n) (hs : Sl w B A (ints zs)) (hB : B ≤ w.heap.size) (hl : n ≤ 140737488355328) :
    Calls Tryd.prog 44 #[.agg #[.slice A n c]] w fun e w' => e = .returned (.bool (Na.vld zs)) ∧ Below w.heap.size w w' := by
  have HN := Lib.hid hn
  have HS := Lib.hid ((hs.more hB).alloc (Nat.le_refl _) (.cells #[.slice A n c] 29))
  have HB := Lib.hid (own_box1 w (.cells #[.slice A n c] 29))
  clear hs hn
  rcases Nat.lt_or_ge 200 n with h2 | h2
  · have HR := Lib.hid (Na.vld_long zs (by rw [HN.out]; exact h2))
    go_enter Tryd.func44, Tryd.ntmps44
    go_wp2_with fail
    go_ret
    exact ⟨ret_bool HR.out.symm, HB.out⟩
  · have d1 : decide (200 < (n : Int)) = false := decide_eq_false (by omega)
    by_cases hz0 : ∃ (h3 : 0 < n), zs[n - 1]? = some 0
    · obtain ⟨h3, hz⟩ := hz0
      have HR := Lib.hid (Na.vld_zero zs (by rw [HN.out]; exact hz))
      obtain ⟨ad, rfl, hbk, hc⟩ := HS.out.int hz
      have d2 : decide (0 < (n : Int)) = true := decide_eq_true (by omega)
      clear hz
      go_enter Tryd.func44, Tryd.ntmps44
      go_wp2_with fail
      go_ret
      exact ⟨ret_bool HR.out.symm, HB.out⟩
    · have HL : Hid (zs.length = 0 ∨ ∃ z, zs[zs.length - 1]? = some z ∧ z ≠ 0) := by
        rcases Nat.eq_zero_or_pos n with h3 | h3
        · exact .inl (by rw [HN.out]; exact h3)
        · obtain ⟨z, hz⟩ := int_at zs (n - 1) (by rw [HN.out]; omega)
          exact .inr ⟨z, by rw [HN.out]; exact hz, fun e => hz0 ⟨h3, by rw [hz, e]⟩⟩
      have HLp : Hid (0 < n → ∃ z ad, zs[n - 1]? = some z ∧ A = some ad ∧ (w.alloc (.cells #[.slice A n c] 29)).cell? (ad.add (n - 1)) = some (.int .i64 z) ∧ ((z == 0) = false)) := fun h3 => by
        obtain ⟨z, hz⟩ := int_at zs (n - 1) (by rw [HN.out]; omega)
        obtain ⟨ad, e, _, hc⟩ := HS.out.int hz
        exact ⟨z, ad, hz, e, hc, by rw [beq_eq_false_iff_ne]; intro e; exact hz0 ⟨h3, by rw [hz, e]⟩⟩
      clear hz0
      rcases Nat.eq_zero_or_pos n with h3 | h3
      · subst h3
        have HR := Lib.hid (Na.vld_all zs (by rw [List.eq_nil_of_length_eq_zero HN.out]; rfl) (by rw [HN.out]; exact h2) HL.out)
        go_enter Tryd.func44, Tryd.ntmps44
        go_wp2_with fail
        refine wp_loop_rounds 1 ?_
        rw [rounds_succ]
        go_wp2_with fail
        go_ret
        exact ⟨ret_bool HR.out.symm, HB.out⟩
      · obtain ⟨z, ad, hz, rfl, hc, hzne⟩ := HLp.out h3
        have d2 : decide (0 < (n : Int)) = true := decide_eq_true (by omega)
        clear hz
        go_enter Tryd.func44, Tryd.ntmps44
        go_wp2_with fail
        clear hc
        go_loop [4] (fun v => ∃ k : Nat, k ≤ n ∧ v = .int .i64 (k : Int) ∧ Hid ((zs.take k).all Na.lim = true)) (fun v => n - (intOf v).toNat)
        case atStart => exact ⟨0, Nat.zero_le _, rfl, rfl⟩
        case round =>
          obtain ⟨k, hk, rfl, HA⟩ := hrel
          rcases Nat.lt_or_ge k n with hkn | hkn
          · obtain ⟨y, hy⟩ := int_at zs k (by rw [HN.out]; exact hkn)
            obtain ⟨ad', e', hbk, hc⟩ := HS.out.int hy
            obtain rfl := Option.some.inj e'
            have HZ := Lib.hid hy
            clear hy e'
            by_cases h0 : y < 0
            · have HR := Lib.hid (Na.vld_bad zs k y HZ.out (Na.lim_lo h0))
              go_wp2_with fail
              go_ret
              exact ⟨ret_bool HR.out.symm, HB.out⟩
            · have h0' : 0 ≤ y := by omega
              clear h0
              by_cases h1 : y < 16777216
              · have HA2 := Lib.hid (Na.all_take zs k y HZ.out HA.out (Na.lim_ok h0' h1))
                go_wp2_with fail
                go_round
                case rel => exact ⟨k + 1, by omega, by go_num, HA2⟩
                case measure => simp [intOf]; omega
              · have h1' : 16777216 ≤ y := by omega
                have HR := Lib.hid (Na.vld_bad zs k y HZ.out (Na.lim_hi h1'))
                clear h1
                go_wp2_with fail
                go_ret
                exact ⟨ret_bool HR.out.symm, HB.out⟩
          · have HA2 : Hid (zs.all Na.lim = true) := by
              have := HA.out
              rw [List.take_of_length_le (by rw [HN.out]; exact hkn)] at this
              exact this
            have HR := Lib.hid (Na.vld_all zs HA2.out (by rw [HN.out]; exact h2) HL.out)
            go_wp2_with fail
            go_ret
            exact ⟨ret_bool HR.out.symm, HB.out⟩
/-- equal lists of ints -/
theorem ints_same {p q : List Int} (h : p.length = q.length) : (∀ k, k < p.length → p[k]? = q[k]?) → p = q := fun h2 => by
  apply List.ext_getElem?
  intro i
  rcases Nat.lt_or_ge i p.length with h3 | h3
  · exact h2 i h3
  · rw [List.getElem?_eq_none h3, List.getElem?_eq_none (by omega)]
set_option maxHeartbeats 1000000 in
theorem nsame_any (A A2 : Option Addr) (n c m c2 B : Nat) (p q : List Int) (w : World) (hn : p.length = n) (hm : q.length = m) (hp : Sl w B A (ints p)) (hq : Sl w B A2 (ints q)) (hB : B ≤ w.heap.size) (hl : n ≤ 140737488355328) (hl2 : m ≤ 140737488355328) :
    Calls Tryd.prog 20 #[.agg #[.slice A n c], .agg #[.slice A2 m c2]] w fun e w' => e = .returned (.bool (decide (p = q))) ∧ Below w.heap.size w w' := by
  have HN := Lib.hid hn
  have HM := Lib.hid hm
  have HB := Lib.hid (bal (bal (Below.refl w.heap.size w) (.cells #[.slice A n c] 29)) (.cells #[.slice A2 m c2] 29))
  by_cases hnm : n = m
  · subst hnm
    have hne : ((n : Int) != (n : Int)) = false := by simp
    have HP := Lib.hid (((hp.more hB).alloc (Nat.le_refl _) (.cells #[.slice A n c] 29)).alloc (by simp) (.cells #[.slice A2 n c2] 29))
    have HQ := Lib.hid (((hq.more hB).alloc (Nat.le_refl _) (.cells #[.slice A n c] 29)).alloc (by simp) (.cells #[.slice A2 n c2] 29))
    have hca : ((w.alloc (.cells #[.slice A n c] 29)).alloc (.cells #[.slice A2 n c2] 29)).cell? ⟨w.heap.size, 0, none⟩ = some (.slice A n c) := by simp [go_sem]
    have hcb : ((w.alloc (.cells #[.slice A n c] 29)).alloc (.cells #[.slice A2 n c2] 29)).cell? ⟨w.heap.size + 1, 0, none⟩ = some (.slice A2 n c2) := by simp [go_sem]
    obtain ⟨w0, hw0⟩ : ∃ w0, (w.alloc (.cells #[.slice A n c] 29)).alloc (.cells #[.slice A2 n c2] 29) = w0 := ⟨_, rfl⟩
    have HW : Hid ((w.alloc (.cells #[.slice A n c] 29)).alloc (.cells #[.slice A2 n c2] 29) = w0) := hw0
    rw [hw0] at HB HP HQ hca hcb
    clear hp hq hn hm hw0
    go_enter Tryd.func20, Tryd.ntmps20
    go_wp2_with fail
    rw [HW.out]
    go_loopw [5] (fun v wr => ∃ k nq : Nat, k ≤ n ∧ v = .int .i64 (k : Int) ∧ wr = w0.drewN nq ∧ Hid (∀ j, j < k → p[j]? = q[j]?)) (fun v _ => n - (intOf v).toNat)
    case atStart => exact ⟨0, 0, Nat.zero_le _, rfl, rfl, fun j h => absurd h (by omega)⟩
    case round =>
      obtain ⟨k, nq, hk, rfl, rfl, HE⟩ := hrel
      rcases Nat.lt_or_ge k n with hkn | hkn
      · obtain ⟨a, ha⟩ := int_at p k (by rw [HN.out]; exact hkn)
        obtain ⟨b, hb⟩ := int_at q k (by rw [HM.out]; exact hkn)
        obtain ⟨ad, rfl, _, hc1⟩ := HP.out.int ha
        obtain ⟨ad2, rfl, _, hc2⟩ := HQ.out.int hb
        have hkn1 : (k : Int) < (n : Int) := by omega
        by_cases hab : a = b
        · subst hab
          have hne2 : (a != a) = false := by simp
          have HE2 : Hid (∀ j, j < k + 1 → p[j]? = q[j]?) := fun j hj => by
            by_cases e : j = k
            · subst e; rw [ha, hb]
            · exact HE.out j (by omega)
          clear ha hb
          go_wp2_with fail
          go_quiet (fail)
          go_wp2_with fail
          go_roundw
          case rel => exact ⟨k + 1, _, by omega, by go_num, rfl, HE2⟩
          case measure => simp [intOf]; omega
        · have hne2 : (a != b) = true := by rw [bne_iff_ne]; exact hab
          have HR : Hid (decide (p = q) = false) := decide_eq_false (fun e => by subst e; rw [ha] at hb; exact hab (Option.some.inj hb))
          clear ha hb hab
          go_wp2_with fail
          go_quiet (fail)
          go_wp2_with fail
          go_ret
          exact ⟨by rw [HR.out]; rfl, below_drewN (below_drewN HB.out _) _⟩
      · have HR : Hid (decide (p = q) = true) := decide_eq_true (ints_same (HN.out.trans HM.out.symm) (fun j hj => HE.out j (by rw [HN.out] at hj; omega)))
        go_wp2_with fail
        go_ret
        exact ⟨by rw [HR.out]; rfl, below_drewN HB.out _⟩
  · have hne : ((n : Int) != (m : Int)) = true := by rw [bne_iff_ne]; omega
    have HR : Hid (decide (p = q) = false) := decide_eq_false (fun e => hnm (by rw [← hn, ← hm, e]))
    clear hp hq hn hm hnm
    go_enter Tryd.func20, Tryd.ntmps20
    go_wp2_with fail
    go_ret
    exact ⟨by rw [HR.out]; rfl, HB.out⟩
theorem nlimb_any (A : Option Addr) (n c B k : Nat) (l : List Nat) (kv : Int) (hkv : kv = (k : Int)) (w : World) (hn : l.length = n) (hs : Sl w B A (nats l)) (hB : B ≤ w.heap.size) (hl : n ≤ 140737488355328) :
    Calls Tryd.prog 45 #[.agg #[.slice A n c], .int .i64 kv] w fun e w' => e = .returned (.int .i64 ((Na.at0 l k : Nat) : Int)) ∧ Below w.heap.size w w' := by
  subst hkv
  have HB := Lib.hid (own_box1 w (.cells #[.slice A n c] 29))
  have HS := Lib.hid ((hs.more hB).alloc (Nat.le_refl _) (.cells #[.slice A n c] 29))
  rcases Nat.lt_or_ge k n with hkn | hkn
  · obtain ⟨a, ha⟩ := nat_at l k (by rw [hn]; exact hkn)
    obtain ⟨ad, rfl, _, hc⟩ := HS.out.nat ha
    have HR := Lib.hid (Na.at0_some ha)
    clear ha hs hn
    go_enter Tryd.func45, Tryd.ntmps45
    go_wp2_with fail
    go_ret
    exact ⟨by rw [HR.out]; rfl, HB.out⟩
  · have HR := Lib.hid (Na.at0_none (l := l) (k := k) (by rw [hn]; exact hkn))
    clear hs hn
    go_enter Tryd.func45, Tryd.ntmps45
    go_wp2_with fail
    go_ret
    exact ⟨by rw [HR.out]; rfl, HB.out⟩
set_option maxHeartbeats 1000000 in
theorem nfit_any (A : Option Addr) (n c : Nat) (l : List Nat) (w : World) (hn : l.length = n) (hs : Sl w w.heap.size A (nats l)) (hl : Na.Lim l) (hnc : n ≤ c) (h47 : n ≤ 140737488355328) :
    Calls Tryd.prog 46 #[.slice A n c] w (ResN w (resL (Na.val l)) (resE (Na.val l))) := by
  obtain ⟨i0, hi, hz0, hz1, hz2⟩ := info_parts infoI
  have HLn : Hid (Na.tl l n = (Na.dig (Na.val l)).length) := by unfold Hid; rw [← hn]; exact Na.trim_len hl
  have HTk : Hid (l.take (Na.tl l n) = Na.dig (Na.val l)) := by unfold Hid; rw [← Na.trim_dig hl]; unfold Na.trim; rw [hn]
  have HN := Lib.hid hn
  have HS := Lib.hid (hs.alloc (Nat.le_refl _) (.cells #[.slice none 0 0] 29))
  have HB := Lib.hid (own_box1 w (.cells #[.slice none 0 0] 29))
  have hcr : (w.alloc (.cells #[.slice none 0 0] 29)).cell? ⟨w.heap.size, 0, none⟩ = some (.slice none 0 0) := by simp [go_sem]
  have hfr : (w.alloc (.cells #[.slice none 0 0] 29)).frozen? ⟨w.heap.size, 0, none⟩ = false := by simp [go_sem]
  have hzw : (w.alloc (.cells #[.slice none 0 0] 29)).heap.size = w.heap.size + 1 := by simp
  obtain ⟨w0, hw0⟩ : ∃ w0, w.alloc (.cells #[.slice none 0 0] 29) = w0 := ⟨_, rfl⟩
  have HW : Hid (w.alloc (.cells #[.slice none 0 0] 29) = w0) := hw0
  rw [hw0] at HS HB hcr hfr hzw
  clear hs hn hl hw0
  go_enter Tryd.func46, Tryd.ntmps46
  go_wp2_with fail
  rw [HW.out]
  go_loop [4] (fun v => ∃ k : Nat, k ≤ n ∧ v = .int .i64 (k : Int) ∧ Hid (Na.tl l k = Na.tl l n)) (fun v => (intOf v).toNat)
  case atStart => exact ⟨n, Nat.le_refl _, rfl, rfl⟩
  case round =>
    obtain ⟨k, hk, rfl, HT⟩ := hrel
    by_cases hgo : ∃ (h : 0 < k), l[k - 1]? = some 0
    · obtain ⟨h0, hb⟩ := hgo
      have hd : decide (0 < (k : Int)) = true := decide_eq_true (by omega)
      obtain ⟨ad, rfl, hbk, hc⟩ := HS.out.nat hb
      have ht : Hid (Na.tl l (k - 1) = Na.tl l n) := by
        unfold Hid
        rw [← HT.out, ← Na.tl_zero l (k - 1) hb, show k - 1 + 1 = k from by omega]
      clear hb
      go_wp2_with fail
      go_round
      case rel => exact ⟨k - 1, by omega, int_eqv (by omega), ht⟩
      case measure => simp [intOf]; omega
    · have HK : Hid (Na.tl l n = k) := by
        unfold Hid
        rw [← HT.out]
        rcases Nat.eq_zero_or_pos k with h0 | h0
        · rw [h0]; rfl
        · have h5 := Na.tl_stop l (k - 1) (fun e => hgo ⟨h0, e⟩)
          rwa [show k - 1 + 1 = k by omega] at h5
      have HC : Hid (k = 0 ∨ ∃ (b : Nat) (ad : Addr), 0 < k ∧ A = some ad ∧ w0.cell? (ad.add (k - 1)) = some (.int .i64 (b : Int)) ∧ (((b : Int) == 0) = false)) := by
        rcases Nat.eq_zero_or_pos k with h0 | h0
        · exact .inl h0
        · obtain ⟨b, hb⟩ := nat_at l (k - 1) (by rw [HN.out]; omega)
          obtain ⟨ad, e, _, hc⟩ := HS.out.nat hb
          exact .inr ⟨b, ad, h0, e, hc, by rw [beq_eq_false_iff_ne]; intro e; exact hgo ⟨h0, by rw [hb]; congr 1; omega⟩⟩
      have HSk : Hid (Sl w0 w.heap.size A (nats (Na.dig (Na.val l)))) := by
        unfold Hid
        rw [← HTk.out, HK.out, ← nats_take]
        exact HS.out.take k
      have HDl : Hid ((Na.dig (Na.val l)).length = k) := by unfold Hid; rw [← HLn.out]; exact HK.out
      have hO0 : Hid (w0.ownsRow (w.heap.size + 1) 3 1 (.slice none 0 0) 0 []) := World.ownsRow_nil _ _ _ _
      clear hgo
      rcases Nat.lt_or_ge (Na.val l) Na.top with h | h
      · have h200 : k ≤ 200 := by rw [← HDl.out]; exact (Na.dig_200 _).2 h
        have HR := Lib.hid (resL_ok h)
        have HE := Lib.hid (resE_ok h)
        have hkc : (k : Int) ≤ (c : Int) := by omega
        clear h
        rcases HC.out with h0 | ⟨b, ad, h0, hA, hc, hbne⟩
        · subst h0
          go_wp2_with (at_builtin; refine wpList_append_sl _ rfl (.const (.slice none 0 0)) (.tmp 24) 23 rfl (w.heap.size + 1) 3 i0 (.int .i64 0) 8 Tryd.underlying23 hi hz0 hz1 hz2 rfl _ _ _ _ rfl hO0.out _ _ 0 _ _ rfl (by rw [nats_length]; exact HDl.out) HSk.out (nats_one _) (by unfold maxLen; omega) (by omega) (by omega) ?_; intro A' c' w8 hown hgrow hblk; have hb8 := below_of_grown hgrow; have hc8 := (hb8.cell (p := ⟨w.heap.size, 0, none⟩) (by simp only [hzw]; omega)).trans hcr; have hf8 := (hb8.frozen (p := ⟨w.heap.size, 0, none⟩) (by simp only [hzw]; omega)).trans hfr)
          refine bodyPost_ret (v := .tuple #[.agg #[.slice A' 0 c'], .int .i64 0]) (by simp [results, Tryd.results46, go_sem, hc8]) rfl ?_
          rw [HR.out, HE.out]
          rw [Nat.zero_add] at hown
          exact resN_cell hown HDl.out (Nat.lt_succ_self _) (Nat.le_succ _) (HB.out.trans (hb8.mono (by omega))) (Nat.le_refl _) _ _
        · subst hA
          have hd : decide (0 < (k : Int)) = true := decide_eq_true (by omega)
          go_wp2_with (at_builtin; refine wpList_append_sl _ rfl (.const (.slice none 0 0)) (.tmp 24) 23 rfl (w.heap.size + 1) 3 i0 (.int .i64 0) 8 Tryd.underlying23 hi hz0 hz1 hz2 rfl _ _ _ _ rfl hO0.out _ _ k _ _ rfl (by rw [nats_length]; exact HDl.out) HSk.out (nats_one _) (by unfold maxLen; omega) (by omega) (by omega) ?_; intro A' c' w8 hown hgrow hblk; have hb8 := below_of_grown hgrow; have hc8 := (hb8.cell (p := ⟨w.heap.size, 0, none⟩) (by simp only [hzw]; omega)).trans hcr; have hf8 := (hb8.frozen (p := ⟨w.heap.size, 0, none⟩) (by simp only [hzw]; omega)).trans hfr)
          refine bodyPost_ret (v := .tuple #[.agg #[.slice A' k c'], .int .i64 0]) (by simp [results, Tryd.results46, go_sem, hc8]) rfl ?_
          rw [HR.out, HE.out]
          rw [Nat.zero_add] at hown
          exact resN_cell hown HDl.out (Nat.lt_succ_self _) (Nat.le_succ _) (HB.out.trans (hb8.mono (by omega))) (Nat.le_refl _) _ _
      · have h200 : 200 < k := by rw [← HDl.out]; exact Na.dig_len_ge h
        have HR := Lib.hid (resL_no h)
        have HE := Lib.hid (resE_no h)
        clear h
        rcases HC.out with h0 | ⟨b, ad, h0, hA, hc, hbne⟩
        · omega
        · subst hA
          have hd : decide (0 < (k : Int)) = true := decide_eq_true (by omega)
          go_wp2_with fail
          refine bodyPost_ret (v := .tuple #[.agg #[.slice none 0 0], .int .i64 3]) (by simp [results, Tryd.results46, go_sem, hcr]) rfl ?_
          rw [HR.out, HE.out]
          exact resN_nil _ _ _ (bset HB.out _ (Nat.le_refl _) _)
end Go.Proofs.YtflgfkelbniblaaDoor
