/- the walk of ScriptNumbers. -/
import Derived.Test.YtpcmbmabmfghkaaDoorScU
import Derived.Test.YtpcmbmabmfghkaaDoorMod
namespace Go.Proofs.YtpcmbmabmfghkaaDoor
open Go.RowKit
set_option linter.unusedVariables false
set_option maxRecDepth 100000
theorem tab_below {w V : World} (h : Lib.TabIs Tryd.prog w "internal/strconv.uint64pow10" .u64 Lib.pow10Tab) (hb : Below w.heap.size w V) : Lib.TabIs Tryd.prog V "internal/strconv.uint64pow10" .u64 Lib.pow10Tab := by
  have hgn : Tryd.prog.globalNamed "internal/strconv.uint64pow10" = some 1 := by kernel_rfl
  unfold Lib.TabIs World.var? at h ⊢
  rw [hgn] at h ⊢
  simp only [Option.bind_some] at h ⊢
  have hlt : 1 < w.heap.size := by
    rcases Nat.lt_or_ge 1 w.heap.size with h' | h'
    · exact h'
    · rw [Array.getElem?_eq_none h'] at h; cases h
  rw [hb.block 1 hlt]
  exact h
theorem rfl_TT (u : Nat) : (⟨#[116, 105, 109, 101]⟩ ++ (⟨#[32]⟩ ++ str (Lib.decDigits u)) : ByteArray) = str (116 :: 105 :: 109 :: 101 :: 32 :: Lib.decDigits u) := by
  apply ByteArray.ext
  apply Array.ext'
  simp [str, ByteArray.data_append]
theorem rfl_TTs (u : Nat) : (⟨#[116, 105, 109, 101]⟩ ++ (⟨#[32]⟩ ++ str (Lib.decDigits u)) : ByteArray) ++ ⟨#[10]⟩ = str ((116 :: 105 :: 109 :: 101 :: 32 :: Lib.decDigits u) ++ [10]) := by
  apply ByteArray.ext
  apply Array.ext'
  simp [str, ByteArray.data_append]
set_option maxHeartbeats 4000000 in
theorem scriptNumbers_any (n k : Int) (w : World) (m : Int) (hm : w.cell? ⟨0, 0, none⟩ = some (.int .i64 m)) (htab : Lib.TabIs Tryd.prog w "internal/strconv.uint64pow10" .u64 Lib.pow10Tab) :
    Calls Tryd.prog 3 #[.int .i64 n, .int .i64 k] w fun e w' => e = .returned (.bool true) ∧ Below w.heap.size w w' := by
  have HM := Lib.hid (And.intro (block_lt_of_cell hm) hm)
  have b1 : 0 ≤ n % 3 := by omega
  have b2 : n % 3 ≤ 2 := by omega
  have hk : k % 4 = 0 ∨ k % 4 = 1 ∨ k % 4 = 2 ∨ k % 4 = 3 := by omega
  clear hm
  go_enter Tryd.func3, Tryd.ntmps3
  rcases hk with hk | hk | hk | hk
  · go_upto_region 2 with (first | (go_at_call 5; refine (mod_any _ _ _ (by omega) (by omega)).mono ?_; rintro e w' ⟨rfl, hw⟩; subst hw) | (with_reducible refine upon_id ?_; go_simp))
    have HW := Lib.hid (below_allocX (Below.refl w.heap.size w) (.cells #[.int .i64 n, .int .i64 (n % 1000), .int .i64 (1099511627775 + n % 3), .int .i64 (n % 3 - 1)] 3))
    generalize hWd : w.alloc (.cells #[.int .i64 n, .int .i64 (n % 1000), .int .i64 (1099511627775 + n % 3), .int .i64 (n % 3 - 1)] 3) = W at *
    clear hWd
    obtain ⟨v, hvv⟩ : ∃ v, v = n := ⟨n, rfl⟩
    subst hvv
    have h1 := (Ow.of (St.refl W)).arr #[.int .i64 3, .int .i64 v, .int .i64 0, .int .i64 0, .int .i64 0, .int .i64 0, .int .i64 0, .int .i64 0, .slice none 0 0, .int .i64 0, .int .i64 0, .int .i64 0, .int .i64 0, .int .i64 0, .int .i64 0, .int .i64 0, .int .i64 0, .int .u8 0, .int .u8 0, .bool false, .int .i64 0, .int .i64 0, .int .i64 0, .int .i64 0, .bool false, .bool false] 26 rfl (by omega) 37
    have hl : ∀ (j : Nat) (x : Value), ([.int .i64 3, .int .i64 v, .int .i64 0, .int .i64 0, .int .i64 0, .int .i64 0, .int .i64 0, .int .i64 0, .slice none 0 0, .int .i64 0, .int .i64 0, .int .i64 0, .int .i64 0, .int .i64 0, .int .i64 0, .int .i64 0, .int .i64 0, .int .u8 0, .int .u8 0, .bool false, .int .i64 0, .int .i64 0, .int .i64 0, .int .i64 0, .bool false, .bool false] : List Value)[j]? = some x → (W.alloc (.cells #[.int .i64 3, .int .i64 v, .int .i64 0, .int .i64 0, .int .i64 0, .int .i64 0, .int .i64 0, .int .i64 0, .slice none 0 0, .int .i64 0, .int .i64 0, .int .i64 0, .int .i64 0, .int .i64 0, .int .i64 0, .int .i64 0, .int .i64 0, .int .u8 0, .int .u8 0, .bool false, .int .i64 0, .int .i64 0, .int .i64 0, .int .i64 0, .bool false, .bool false] 37)).cell? ⟨W.heap.size, j, none⟩ = some x := fun j x hj => by
      have h := (h1.row 0 rfl).cells (g := W.heap.size) rfl j x hj
      rw [add_zero] at h
      exact h
    have HL := Lib.hid (And.intro (h1.lt (i := 0) rfl rfl).1 hl)
    have HW2 := Lib.hid (Below.trans HW.out ((Below.refl w.heap.size W).alloc HW.out.size (.cells #[.int .i64 3, .int .i64 v, .int .i64 0, .int .i64 0, .int .i64 0, .int .i64 0, .int .i64 0, .int .i64 0, .slice none 0 0, .int .i64 0, .int .i64 0, .int .i64 0, .int .i64 0, .int .i64 0, .int .i64 0, .int .i64 0, .int .i64 0, .int .u8 0, .int .u8 0, .bool false, .int .i64 0, .int .i64 0, .int .i64 0, .int .i64 0, .bool false, .bool false] 37)))
    clear h1 hl
    rcases Int.lt_or_le v 0 with hlo | hlo
    · have d0 : decide (v < 0) = true := by simp; omega
      clear hlo
      go_wp2_with (with_reducible refine upon_id ?_; go_simp)
      refine (fmt_neg _ v W.heap.size 1 HL.out.1 HL.out.2 d0).mono ?_
      rintro e w3 ⟨rfl, hb3⟩
      have HB3 := Lib.hid (HW2.out.trans (below_less hb3 HW2.out.size))
      clear hb3
      go_wp2_with (with_reducible refine upon_id ?_; go_simp)
      refine (awake45_any w3 m ((HB3.out.cell (p := ⟨0, 0, none⟩) HM.out.1).trans HM.out.2)).mono ?_
      rintro e w4 ⟨rfl, hb4⟩
      have HB4 := Lib.hid (HB3.out.trans (below_less hb4 HB3.out.size))
      clear hb4
      go_wp2_with (with_reducible refine upon_id ?_; go_simp)
      go_ret
      exact ⟨rfl, HB4.out⟩
    have d0 : decide (v < 0) = false := by simp; omega
    rcases Int.lt_or_le 1099511627776 v with hhi | hhi
    · have d1 : decide (1099511627776 < v) = true := by simp; omega
      clear hlo hhi
      go_wp2_with (with_reducible refine upon_id ?_; go_simp)
      refine (fmt_late _ v W.heap.size 1 HL.out.1 HL.out.2 d0 d1).mono ?_
      rintro e w3 ⟨rfl, hb3⟩
      have HB3 := Lib.hid (HW2.out.trans (below_less hb3 HW2.out.size))
      clear hb3
      go_wp2_with (with_reducible refine upon_id ?_; go_simp)
      refine (awake45_any w3 m ((HB3.out.cell (p := ⟨0, 0, none⟩) HM.out.1).trans HM.out.2)).mono ?_
      rintro e w4 ⟨rfl, hb4⟩
      have HB4 := Lib.hid (HB3.out.trans (below_less hb4 HB3.out.size))
      clear hb4
      go_wp2_with (with_reducible refine upon_id ?_; go_simp)
      go_ret
      exact ⟨rfl, HB4.out⟩
    have d1 : decide (1099511627776 < v) = false := by simp; omega
    obtain ⟨u, rfl⟩ : ∃ u : Nat, v = (u : Int) := ⟨v.toNat, by omega⟩
    have hu : u ≤ 1099511627776 := by omega
    have hdl := dd_len hu
    have HI := Lib.hid (fun (V : World) (hV : Below w.heap.size w V) => call_itoa hu V (tab_below htab hV))
    have HA := Lib.hid (fun (V : World) => call_atoi (by omega) (atoi_dd u) V)
    clear hlo hhi
    go_wp2_with (with_reducible refine upon_id ?_; go_simp)
    refine (fmt_time _ (u : Int) W.heap.size 1 HL.out.1 HL.out.2 (str (Lib.decDigits u)) (by omega) (by omega) (by show (Lib.decDigits u).length ≤ 1000; omega) (fun V hV => HI.out V (HW2.out.trans (below_less hV HW2.out.size)))).mono ?_
    rintro e w3 ⟨rfl, hb3⟩
    have HB3 := Lib.hid (HW2.out.trans (below_less hb3 HW2.out.size))
    have hTT : (⟨#[116, 105, 109, 101]⟩ ++ (⟨#[32]⟩ ++ str (Lib.decDigits u)) : ByteArray) = str (116 :: 105 :: 109 :: 101 :: 32 :: Lib.decDigits u) := rfl_TT u
    have hTs : (⟨#[116, 105, 109, 101]⟩ ++ (⟨#[32]⟩ ++ str (Lib.decDigits u)) : ByteArray) ++ ⟨#[10]⟩ = str ((116 :: 105 :: 109 :: 101 :: 32 :: Lib.decDigits u) ++ [10]) := rfl_TTs u
    rw [hTs]
    clear hb3
    go_wp2_with (with_reducible refine upon_id ?_; go_simp)
    generalize hs : str (116 :: 105 :: 109 :: 101 :: 32 :: (Lib.decDigits u ++ [10])) = s at *
    have hne : (s.toList == []) = false := by
      rw [← hs, str_toList]
      rfl
    have hss : s.size = (Lib.decDigits u).length + 6 := by
      rw [← hs]
      show (116 :: 105 :: 109 :: 101 :: 32 :: (Lib.decDigits u ++ [10])).length = _
      simp
    have hsz : decide (65536 < (s.size : Int)) = false := by simp; omega
    have hgm : ∀ V, Below w.heap.size w V → V.cell? ⟨0, 0, none⟩ = some (.int .i64 m) := fun V hV => (hV.cell (p := ⟨0, 0, none⟩) HM.out.1).trans HM.out.2
    have HC := Lib.hid (fun (V : World) (hV : Below w.heap.size w V) => call_cut (x := (116 :: 105 :: 109 :: 101 :: 32 :: Lib.decDigits u)) (by
      intro b hb
      simp only [List.mem_cons] at hb
      rcases hb with rfl | rfl | rfl | rfl | rfl | hb
      · decide
      · decide
      · decide
      · decide
      · decide
      · exact dd_no (u := u) (c := 10) (by decide) b hb) (by simp; omega) V m (hgm V hV))
    have HSp := Lib.hid (fun (V : World) (hV : Below w.heap.size w V) => call_split (l := Lib.decDigits u) (dd_no (by decide)) (by omega) V m (hgm V hV))
    have hPT := parse_time w3 (u : Int) (str (Lib.decDigits u)) s (by omega) (by omega) (by show (Lib.decDigits u).length ≤ 1000; omega) hne hsz (fun V hV => by
      have h := HC.out V (HB3.out.trans (below_less hV HB3.out.size))
      rw [hTT, ← hs]
      exact h) (fun V hV => by
      have h := HSp.out V (HB3.out.trans (below_less hV HB3.out.size))
      rw [hTT]
      exact h) HA.out (fun V hV => HI.out V (HB3.out.trans (below_less hV HB3.out.size)))
    refine hPT.mono ?_
    rintro e w4 ⟨A, c, rfl, hx⟩
    obtain ⟨lb, cap, hv, -, hlt⟩ := (hx.row 0 rfl).form (by omega)
    have hA : A = some ⟨lb, 0, none⟩ := by
      injection hv with h1 _ _
    clear hv
    subst hA
    have z0 : w4.cell? ⟨lb, 0, none⟩ = some (.int .i64 3) := by
      have h := (hx.row 0 rfl).cells (g := lb) rfl 0 _ rfl
      rw [add_zero] at h
      exact h
    have z1 : w4.cell? ⟨lb, 1, none⟩ = some (.int .i64 (u : Int)) := by
      have h := (hx.row 0 rfl).cells (g := lb) rfl 1 _ rfl
      rw [add_zero] at h
      exact h
    have HZ := Lib.hid (And.intro hlt (And.intro z0 z1))
    have HB4 := Lib.hid (HB3.out.trans (below_less hx.ow.below HB3.out.size))
    have HS := Lib.hid hs
    have hsl : (5 : Int) ≤ (s.size : Int) := by omega
    have hmn : ((s.size : Int) < 5) = False := by simp; omega
    have hsn : 5 ≤ s.size := by omega
    have hm5 : min (5 : Int) (s.size : Int) = 5 := by omega
    have hs5 : s.extract 5 s.size = str (Lib.decDigits u ++ [10]) := by
      rw [← hs]
      apply ByteArray.ext
      apply Array.ext'
      rw [ByteArray.data_extract, Array.toList_extract]
      show ((116 :: 105 :: 109 :: 101 :: 32 :: (Lib.decDigits u ++ [10])).extract 5 (116 :: 105 :: 109 :: 101 :: 32 :: (Lib.decDigits u ++ [10])).length) = Lib.decDigits u ++ [10]
      simp only [List.extract, List.drop_succ_cons, List.drop_zero]
      exact List.take_of_length_le (by simp)
    have hcs : (9223372036854775807 < 6 + (str (Lib.decDigits u ++ [10])).size) = False := by
      have : (str (Lib.decDigits u ++ [10])).size = (Lib.decDigits u).length + 1 := by
        show (Lib.decDigits u ++ [10]).length = _
        simp
      simp
      omega
    have HFs := Lib.hid (And.intro hss hdl)
    clear hPT hx hlt z0 z1 hs hne hss hsz hTT hTs hgm HC HSp
    go_wp2_with (with_reducible refine upon_id ?_; go_simp)
    have hT1 : (⟨#[116, 105, 109, 101, 32, 48]⟩ ++ str (Lib.decDigits u ++ [10]) : ByteArray) = str ((116 :: 105 :: 109 :: 101 :: 32 :: (48 :: Lib.decDigits u)) ++ [10]) := by
      apply ByteArray.ext
      apply Array.ext'
      simp [str, ByteArray.data_append]
    have hgm : ∀ V, Below w.heap.size w V → V.cell? ⟨0, 0, none⟩ = some (.int .i64 m) := fun V hV => (hV.cell (p := ⟨0, 0, none⟩) HM.out.1).trans HM.out.2
    have hl32 : ∀ b ∈ (48 :: Lib.decDigits u : List UInt8), b ≠ 32 := by
      intro b hb
      rcases List.mem_cons.1 hb with rfl | hb
      · decide
      · exact dd_no (u := u) (c := 32) (by decide) b hb
    have hl10 : ∀ b ∈ ((116 :: 105 :: 109 :: 101 :: 32 :: (48 :: Lib.decDigits u)) : List UInt8), b ≠ 10 := by
      intro b hb
      simp only [List.mem_cons] at hb
      rcases hb with rfl | rfl | rfl | rfl | rfl | rfl | hb
      · decide
      · decide
      · decide
      · decide
      · decide
      · decide
      · exact dd_no (u := u) (c := 10) (by decide) b hb
    have hPL := parse_late w4 (u : Int) (str (48 :: Lib.decDigits u)) (str (Lib.decDigits u)) (str ((116 :: 105 :: 109 :: 101 :: 32 :: (48 :: Lib.decDigits u)) ++ [10])) (str (116 :: 105 :: 109 :: 101 :: 32 :: (48 :: Lib.decDigits u))) (by
      rw [str_toList, str_toList, beq_eq_false_iff_ne]
      intro e
      have := congrArg List.length e
      simp at this) (by rw [str_toList]; rfl) (by
      have : (str ((116 :: 105 :: 109 :: 101 :: 32 :: (48 :: Lib.decDigits u)) ++ [10])).size = (Lib.decDigits u).length + 7 := by
        show ((116 :: 105 :: 109 :: 101 :: 32 :: (48 :: Lib.decDigits u)) ++ [10]).length = _
        simp
      have h2 := HFs.out.2
      rw [this]
      simp
      omega) (fun V hV => call_cut hl10 (by have h2 := HFs.out.2; simp; omega) V m (hgm V (HB4.out.trans (below_less hV HB4.out.size)))) (fun V hV => call_split hl32 (by have h2 := HFs.out.2; simp; omega) V m (hgm V (HB4.out.trans (below_less hV HB4.out.size)))) (fun V => call_atoi (by have h2 := HFs.out.2; simp; omega) (atoi_zero_dd u) V) (fun V hV => HI.out V (HB4.out.trans (below_less hV HB4.out.size)))
    rw [hT1]
    refine hPL.mono ?_
    rintro e w5 ⟨rfl, hb⟩
    have HB5 := Lib.hid (HB4.out.trans (below_less hb HB4.out.size))
    have HC5 := Lib.hid hb
    clear hPL hT1 hgm hl32 hl10 hb
    go_wp2_with (with_reducible refine upon_id ?_; go_simp)
    have hT1 : (⟨#[116, 105, 109, 101, 32, 43]⟩ ++ str (Lib.decDigits u ++ [10]) : ByteArray) = str ((116 :: 105 :: 109 :: 101 :: 32 :: (43 :: Lib.decDigits u)) ++ [10]) := by
      apply ByteArray.ext
      apply Array.ext'
      simp [str, ByteArray.data_append]
    have hgm : ∀ V, Below w.heap.size w V → V.cell? ⟨0, 0, none⟩ = some (.int .i64 m) := fun V hV => (hV.cell (p := ⟨0, 0, none⟩) HM.out.1).trans HM.out.2
    have hl32 : ∀ b ∈ (43 :: Lib.decDigits u : List UInt8), b ≠ 32 := by
      intro b hb
      rcases List.mem_cons.1 hb with rfl | hb
      · decide
      · exact dd_no (u := u) (c := 32) (by decide) b hb
    have hl10 : ∀ b ∈ ((116 :: 105 :: 109 :: 101 :: 32 :: (43 :: Lib.decDigits u)) : List UInt8), b ≠ 10 := by
      intro b hb
      simp only [List.mem_cons] at hb
      rcases hb with rfl | rfl | rfl | rfl | rfl | rfl | hb
      · decide
      · decide
      · decide
      · decide
      · decide
      · decide
      · exact dd_no (u := u) (c := 10) (by decide) b hb
    have hPL := parse_late w5 (u : Int) (str (43 :: Lib.decDigits u)) (str (Lib.decDigits u)) (str ((116 :: 105 :: 109 :: 101 :: 32 :: (43 :: Lib.decDigits u)) ++ [10])) (str (116 :: 105 :: 109 :: 101 :: 32 :: (43 :: Lib.decDigits u))) (by
      rw [str_toList, str_toList, beq_eq_false_iff_ne]
      intro e
      have := congrArg List.length e
      simp at this) (by rw [str_toList]; rfl) (by
      have : (str ((116 :: 105 :: 109 :: 101 :: 32 :: (43 :: Lib.decDigits u)) ++ [10])).size = (Lib.decDigits u).length + 7 := by
        show ((116 :: 105 :: 109 :: 101 :: 32 :: (43 :: Lib.decDigits u)) ++ [10]).length = _
        simp
      have h2 := HFs.out.2
      rw [this]
      simp
      omega) (fun V hV => call_cut hl10 (by have h2 := HFs.out.2; simp; omega) V m (hgm V (HB5.out.trans (below_less hV HB5.out.size)))) (fun V hV => call_split hl32 (by have h2 := HFs.out.2; simp; omega) V m (hgm V (HB5.out.trans (below_less hV HB5.out.size)))) (fun V => call_atoi (by have h2 := HFs.out.2; simp; omega) (atoi_plus_dd u) V) (fun V hV => HI.out V (HB5.out.trans (below_less hV HB5.out.size)))
    rw [hT1]
    refine hPL.mono ?_
    rintro e w6 ⟨rfl, hb⟩
    have HB6 := Lib.hid (HB5.out.trans (below_less hb HB5.out.size))
    have HC6 := Lib.hid hb
    clear hPL hT1 hgm hl32 hl10 hb
    have y0 : w6.cell? ⟨lb, 0, none⟩ = some (.int .i64 3) := ((HC5.out.trans (below_less HC6.out HC5.out.size)).cell (p := ⟨lb, 0, none⟩) HZ.out.1).trans HZ.out.2.1
    have y1 : w6.cell? ⟨lb, 1, none⟩ = some (.int .i64 (u : Int)) := ((HC5.out.trans (below_less HC6.out HC5.out.size)).cell (p := ⟨lb, 1, none⟩) HZ.out.1).trans HZ.out.2.2
    clear HC5 HC6 HZ
    go_wp2_with (with_reducible refine upon_id ?_; go_simp)
    refine (awake45_any w6 m ((HB6.out.cell (p := ⟨0, 0, none⟩) HM.out.1).trans HM.out.2)).mono ?_
    rintro e w7 ⟨rfl, hb7⟩
    have HB7 := Lib.hid (HB6.out.trans (below_less hb7 HB6.out.size))
    clear hb7
    go_wp2_with (with_reducible refine upon_id ?_; go_simp)
    go_ret
    exact ⟨rfl, HB7.out⟩
  · go_upto_region 2 with (first | (go_at_call 5; refine (mod_any _ _ _ (by omega) (by omega)).mono ?_; rintro e w' ⟨rfl, hw⟩; subst hw) | (with_reducible refine upon_id ?_; go_simp))
    have HW := Lib.hid (below_allocX (Below.refl w.heap.size w) (.cells #[.int .i64 n, .int .i64 (n % 1000), .int .i64 (1099511627775 + n % 3), .int .i64 (n % 3 - 1)] 3))
    generalize hWd : w.alloc (.cells #[.int .i64 n, .int .i64 (n % 1000), .int .i64 (1099511627775 + n % 3), .int .i64 (n % 3 - 1)] 3) = W at *
    clear hWd
    generalize hvv : n % 1000 = v at *
    clear hvv
    have h1 := (Ow.of (St.refl W)).arr #[.int .i64 3, .int .i64 v, .int .i64 0, .int .i64 0, .int .i64 0, .int .i64 0, .int .i64 0, .int .i64 0, .slice none 0 0, .int .i64 0, .int .i64 0, .int .i64 0, .int .i64 0, .int .i64 0, .int .i64 0, .int .i64 0, .int .i64 0, .int .u8 0, .int .u8 0, .bool false, .int .i64 0, .int .i64 0, .int .i64 0, .int .i64 0, .bool false, .bool false] 26 rfl (by omega) 37
    have hl : ∀ (j : Nat) (x : Value), ([.int .i64 3, .int .i64 v, .int .i64 0, .int .i64 0, .int .i64 0, .int .i64 0, .int .i64 0, .int .i64 0, .slice none 0 0, .int .i64 0, .int .i64 0, .int .i64 0, .int .i64 0, .int .i64 0, .int .i64 0, .int .i64 0, .int .i64 0, .int .u8 0, .int .u8 0, .bool false, .int .i64 0, .int .i64 0, .int .i64 0, .int .i64 0, .bool false, .bool false] : List Value)[j]? = some x → (W.alloc (.cells #[.int .i64 3, .int .i64 v, .int .i64 0, .int .i64 0, .int .i64 0, .int .i64 0, .int .i64 0, .int .i64 0, .slice none 0 0, .int .i64 0, .int .i64 0, .int .i64 0, .int .i64 0, .int .i64 0, .int .i64 0, .int .i64 0, .int .i64 0, .int .u8 0, .int .u8 0, .bool false, .int .i64 0, .int .i64 0, .int .i64 0, .int .i64 0, .bool false, .bool false] 37)).cell? ⟨W.heap.size, j, none⟩ = some x := fun j x hj => by
      have h := (h1.row 0 rfl).cells (g := W.heap.size) rfl j x hj
      rw [add_zero] at h
      exact h
    have HL := Lib.hid (And.intro (h1.lt (i := 0) rfl rfl).1 hl)
    have HW2 := Lib.hid (Below.trans HW.out ((Below.refl w.heap.size W).alloc HW.out.size (.cells #[.int .i64 3, .int .i64 v, .int .i64 0, .int .i64 0, .int .i64 0, .int .i64 0, .int .i64 0, .int .i64 0, .slice none 0 0, .int .i64 0, .int .i64 0, .int .i64 0, .int .i64 0, .int .i64 0, .int .i64 0, .int .i64 0, .int .i64 0, .int .u8 0, .int .u8 0, .bool false, .int .i64 0, .int .i64 0, .int .i64 0, .int .i64 0, .bool false, .bool false] 37)))
    clear h1 hl
    rcases Int.lt_or_le v 0 with hlo | hlo
    · have d0 : decide (v < 0) = true := by simp; omega
      clear hlo
      go_wp2_with (with_reducible refine upon_id ?_; go_simp)
      refine (fmt_neg _ v W.heap.size 1 HL.out.1 HL.out.2 d0).mono ?_
      rintro e w3 ⟨rfl, hb3⟩
      have HB3 := Lib.hid (HW2.out.trans (below_less hb3 HW2.out.size))
      clear hb3
      go_wp2_with (with_reducible refine upon_id ?_; go_simp)
      refine (awake45_any w3 m ((HB3.out.cell (p := ⟨0, 0, none⟩) HM.out.1).trans HM.out.2)).mono ?_
      rintro e w4 ⟨rfl, hb4⟩
      have HB4 := Lib.hid (HB3.out.trans (below_less hb4 HB3.out.size))
      clear hb4
      go_wp2_with (with_reducible refine upon_id ?_; go_simp)
      go_ret
      exact ⟨rfl, HB4.out⟩
    have d0 : decide (v < 0) = false := by simp; omega
    rcases Int.lt_or_le 1099511627776 v with hhi | hhi
    · have d1 : decide (1099511627776 < v) = true := by simp; omega
      clear hlo hhi
      go_wp2_with (with_reducible refine upon_id ?_; go_simp)
      refine (fmt_late _ v W.heap.size 1 HL.out.1 HL.out.2 d0 d1).mono ?_
      rintro e w3 ⟨rfl, hb3⟩
      have HB3 := Lib.hid (HW2.out.trans (below_less hb3 HW2.out.size))
      clear hb3
      go_wp2_with (with_reducible refine upon_id ?_; go_simp)
      refine (awake45_any w3 m ((HB3.out.cell (p := ⟨0, 0, none⟩) HM.out.1).trans HM.out.2)).mono ?_
      rintro e w4 ⟨rfl, hb4⟩
      have HB4 := Lib.hid (HB3.out.trans (below_less hb4 HB3.out.size))
      clear hb4
      go_wp2_with (with_reducible refine upon_id ?_; go_simp)
      go_ret
      exact ⟨rfl, HB4.out⟩
    have d1 : decide (1099511627776 < v) = false := by simp; omega
    obtain ⟨u, rfl⟩ : ∃ u : Nat, v = (u : Int) := ⟨v.toNat, by omega⟩
    have hu : u ≤ 1099511627776 := by omega
    have hdl := dd_len hu
    have HI := Lib.hid (fun (V : World) (hV : Below w.heap.size w V) => call_itoa hu V (tab_below htab hV))
    have HA := Lib.hid (fun (V : World) => call_atoi (by omega) (atoi_dd u) V)
    clear hlo hhi
    go_wp2_with (with_reducible refine upon_id ?_; go_simp)
    refine (fmt_time _ (u : Int) W.heap.size 1 HL.out.1 HL.out.2 (str (Lib.decDigits u)) (by omega) (by omega) (by show (Lib.decDigits u).length ≤ 1000; omega) (fun V hV => HI.out V (HW2.out.trans (below_less hV HW2.out.size)))).mono ?_
    rintro e w3 ⟨rfl, hb3⟩
    have HB3 := Lib.hid (HW2.out.trans (below_less hb3 HW2.out.size))
    have hTT : (⟨#[116, 105, 109, 101]⟩ ++ (⟨#[32]⟩ ++ str (Lib.decDigits u)) : ByteArray) = str (116 :: 105 :: 109 :: 101 :: 32 :: Lib.decDigits u) := rfl_TT u
    have hTs : (⟨#[116, 105, 109, 101]⟩ ++ (⟨#[32]⟩ ++ str (Lib.decDigits u)) : ByteArray) ++ ⟨#[10]⟩ = str ((116 :: 105 :: 109 :: 101 :: 32 :: Lib.decDigits u) ++ [10]) := rfl_TTs u
    rw [hTs]
    clear hb3
    go_wp2_with (with_reducible refine upon_id ?_; go_simp)
    generalize hs : str (116 :: 105 :: 109 :: 101 :: 32 :: (Lib.decDigits u ++ [10])) = s at *
    have hne : (s.toList == []) = false := by
      rw [← hs, str_toList]
      rfl
    have hss : s.size = (Lib.decDigits u).length + 6 := by
      rw [← hs]
      show (116 :: 105 :: 109 :: 101 :: 32 :: (Lib.decDigits u ++ [10])).length = _
      simp
    have hsz : decide (65536 < (s.size : Int)) = false := by simp; omega
    have hgm : ∀ V, Below w.heap.size w V → V.cell? ⟨0, 0, none⟩ = some (.int .i64 m) := fun V hV => (hV.cell (p := ⟨0, 0, none⟩) HM.out.1).trans HM.out.2
    have HC := Lib.hid (fun (V : World) (hV : Below w.heap.size w V) => call_cut (x := (116 :: 105 :: 109 :: 101 :: 32 :: Lib.decDigits u)) (by
      intro b hb
      simp only [List.mem_cons] at hb
      rcases hb with rfl | rfl | rfl | rfl | rfl | hb
      · decide
      · decide
      · decide
      · decide
      · decide
      · exact dd_no (u := u) (c := 10) (by decide) b hb) (by simp; omega) V m (hgm V hV))
    have HSp := Lib.hid (fun (V : World) (hV : Below w.heap.size w V) => call_split (l := Lib.decDigits u) (dd_no (by decide)) (by omega) V m (hgm V hV))
    have hPT := parse_time w3 (u : Int) (str (Lib.decDigits u)) s (by omega) (by omega) (by show (Lib.decDigits u).length ≤ 1000; omega) hne hsz (fun V hV => by
      have h := HC.out V (HB3.out.trans (below_less hV HB3.out.size))
      rw [hTT, ← hs]
      exact h) (fun V hV => by
      have h := HSp.out V (HB3.out.trans (below_less hV HB3.out.size))
      rw [hTT]
      exact h) HA.out (fun V hV => HI.out V (HB3.out.trans (below_less hV HB3.out.size)))
    refine hPT.mono ?_
    rintro e w4 ⟨A, c, rfl, hx⟩
    obtain ⟨lb, cap, hv, -, hlt⟩ := (hx.row 0 rfl).form (by omega)
    have hA : A = some ⟨lb, 0, none⟩ := by
      injection hv with h1 _ _
    clear hv
    subst hA
    have z0 : w4.cell? ⟨lb, 0, none⟩ = some (.int .i64 3) := by
      have h := (hx.row 0 rfl).cells (g := lb) rfl 0 _ rfl
      rw [add_zero] at h
      exact h
    have z1 : w4.cell? ⟨lb, 1, none⟩ = some (.int .i64 (u : Int)) := by
      have h := (hx.row 0 rfl).cells (g := lb) rfl 1 _ rfl
      rw [add_zero] at h
      exact h
    have HZ := Lib.hid (And.intro hlt (And.intro z0 z1))
    have HB4 := Lib.hid (HB3.out.trans (below_less hx.ow.below HB3.out.size))
    have HS := Lib.hid hs
    have hsl : (5 : Int) ≤ (s.size : Int) := by omega
    have hmn : ((s.size : Int) < 5) = False := by simp; omega
    have hsn : 5 ≤ s.size := by omega
    have hm5 : min (5 : Int) (s.size : Int) = 5 := by omega
    have hs5 : s.extract 5 s.size = str (Lib.decDigits u ++ [10]) := by
      rw [← hs]
      apply ByteArray.ext
      apply Array.ext'
      rw [ByteArray.data_extract, Array.toList_extract]
      show ((116 :: 105 :: 109 :: 101 :: 32 :: (Lib.decDigits u ++ [10])).extract 5 (116 :: 105 :: 109 :: 101 :: 32 :: (Lib.decDigits u ++ [10])).length) = Lib.decDigits u ++ [10]
      simp only [List.extract, List.drop_succ_cons, List.drop_zero]
      exact List.take_of_length_le (by simp)
    have hcs : (9223372036854775807 < 6 + (str (Lib.decDigits u ++ [10])).size) = False := by
      have : (str (Lib.decDigits u ++ [10])).size = (Lib.decDigits u).length + 1 := by
        show (Lib.decDigits u ++ [10]).length = _
        simp
      simp
      omega
    have HFs := Lib.hid (And.intro hss hdl)
    clear hPT hx hlt z0 z1 hs hne hss hsz hTT hTs hgm HC HSp
    go_wp2_with (with_reducible refine upon_id ?_; go_simp)
    have hT1 : (⟨#[116, 105, 109, 101, 32, 48]⟩ ++ str (Lib.decDigits u ++ [10]) : ByteArray) = str ((116 :: 105 :: 109 :: 101 :: 32 :: (48 :: Lib.decDigits u)) ++ [10]) := by
      apply ByteArray.ext
      apply Array.ext'
      simp [str, ByteArray.data_append]
    have hgm : ∀ V, Below w.heap.size w V → V.cell? ⟨0, 0, none⟩ = some (.int .i64 m) := fun V hV => (hV.cell (p := ⟨0, 0, none⟩) HM.out.1).trans HM.out.2
    have hl32 : ∀ b ∈ (48 :: Lib.decDigits u : List UInt8), b ≠ 32 := by
      intro b hb
      rcases List.mem_cons.1 hb with rfl | hb
      · decide
      · exact dd_no (u := u) (c := 32) (by decide) b hb
    have hl10 : ∀ b ∈ ((116 :: 105 :: 109 :: 101 :: 32 :: (48 :: Lib.decDigits u)) : List UInt8), b ≠ 10 := by
      intro b hb
      simp only [List.mem_cons] at hb
      rcases hb with rfl | rfl | rfl | rfl | rfl | rfl | hb
      · decide
      · decide
      · decide
      · decide
      · decide
      · decide
      · exact dd_no (u := u) (c := 10) (by decide) b hb
    have hPL := parse_late w4 (u : Int) (str (48 :: Lib.decDigits u)) (str (Lib.decDigits u)) (str ((116 :: 105 :: 109 :: 101 :: 32 :: (48 :: Lib.decDigits u)) ++ [10])) (str (116 :: 105 :: 109 :: 101 :: 32 :: (48 :: Lib.decDigits u))) (by
      rw [str_toList, str_toList, beq_eq_false_iff_ne]
      intro e
      have := congrArg List.length e
      simp at this) (by rw [str_toList]; rfl) (by
      have : (str ((116 :: 105 :: 109 :: 101 :: 32 :: (48 :: Lib.decDigits u)) ++ [10])).size = (Lib.decDigits u).length + 7 := by
        show ((116 :: 105 :: 109 :: 101 :: 32 :: (48 :: Lib.decDigits u)) ++ [10]).length = _
        simp
      have h2 := HFs.out.2
      rw [this]
      simp
      omega) (fun V hV => call_cut hl10 (by have h2 := HFs.out.2; simp; omega) V m (hgm V (HB4.out.trans (below_less hV HB4.out.size)))) (fun V hV => call_split hl32 (by have h2 := HFs.out.2; simp; omega) V m (hgm V (HB4.out.trans (below_less hV HB4.out.size)))) (fun V => call_atoi (by have h2 := HFs.out.2; simp; omega) (atoi_zero_dd u) V) (fun V hV => HI.out V (HB4.out.trans (below_less hV HB4.out.size)))
    rw [hT1]
    refine hPL.mono ?_
    rintro e w5 ⟨rfl, hb⟩
    have HB5 := Lib.hid (HB4.out.trans (below_less hb HB4.out.size))
    have HC5 := Lib.hid hb
    clear hPL hT1 hgm hl32 hl10 hb
    go_wp2_with (with_reducible refine upon_id ?_; go_simp)
    have hT1 : (⟨#[116, 105, 109, 101, 32, 43]⟩ ++ str (Lib.decDigits u ++ [10]) : ByteArray) = str ((116 :: 105 :: 109 :: 101 :: 32 :: (43 :: Lib.decDigits u)) ++ [10]) := by
      apply ByteArray.ext
      apply Array.ext'
      simp [str, ByteArray.data_append]
    have hgm : ∀ V, Below w.heap.size w V → V.cell? ⟨0, 0, none⟩ = some (.int .i64 m) := fun V hV => (hV.cell (p := ⟨0, 0, none⟩) HM.out.1).trans HM.out.2
    have hl32 : ∀ b ∈ (43 :: Lib.decDigits u : List UInt8), b ≠ 32 := by
      intro b hb
      rcases List.mem_cons.1 hb with rfl | hb
      · decide
      · exact dd_no (u := u) (c := 32) (by decide) b hb
    have hl10 : ∀ b ∈ ((116 :: 105 :: 109 :: 101 :: 32 :: (43 :: Lib.decDigits u)) : List UInt8), b ≠ 10 := by
      intro b hb
      simp only [List.mem_cons] at hb
      rcases hb with rfl | rfl | rfl | rfl | rfl | rfl | hb
      · decide
      · decide
      · decide
      · decide
      · decide
      · decide
      · exact dd_no (u := u) (c := 10) (by decide) b hb
    have hPL := parse_late w5 (u : Int) (str (43 :: Lib.decDigits u)) (str (Lib.decDigits u)) (str ((116 :: 105 :: 109 :: 101 :: 32 :: (43 :: Lib.decDigits u)) ++ [10])) (str (116 :: 105 :: 109 :: 101 :: 32 :: (43 :: Lib.decDigits u))) (by
      rw [str_toList, str_toList, beq_eq_false_iff_ne]
      intro e
      have := congrArg List.length e
      simp at this) (by rw [str_toList]; rfl) (by
      have : (str ((116 :: 105 :: 109 :: 101 :: 32 :: (43 :: Lib.decDigits u)) ++ [10])).size = (Lib.decDigits u).length + 7 := by
        show ((116 :: 105 :: 109 :: 101 :: 32 :: (43 :: Lib.decDigits u)) ++ [10]).length = _
        simp
      have h2 := HFs.out.2
      rw [this]
      simp
      omega) (fun V hV => call_cut hl10 (by have h2 := HFs.out.2; simp; omega) V m (hgm V (HB5.out.trans (below_less hV HB5.out.size)))) (fun V hV => call_split hl32 (by have h2 := HFs.out.2; simp; omega) V m (hgm V (HB5.out.trans (below_less hV HB5.out.size)))) (fun V => call_atoi (by have h2 := HFs.out.2; simp; omega) (atoi_plus_dd u) V) (fun V hV => HI.out V (HB5.out.trans (below_less hV HB5.out.size)))
    rw [hT1]
    refine hPL.mono ?_
    rintro e w6 ⟨rfl, hb⟩
    have HB6 := Lib.hid (HB5.out.trans (below_less hb HB5.out.size))
    have HC6 := Lib.hid hb
    clear hPL hT1 hgm hl32 hl10 hb
    have y0 : w6.cell? ⟨lb, 0, none⟩ = some (.int .i64 3) := ((HC5.out.trans (below_less HC6.out HC5.out.size)).cell (p := ⟨lb, 0, none⟩) HZ.out.1).trans HZ.out.2.1
    have y1 : w6.cell? ⟨lb, 1, none⟩ = some (.int .i64 (u : Int)) := ((HC5.out.trans (below_less HC6.out HC5.out.size)).cell (p := ⟨lb, 1, none⟩) HZ.out.1).trans HZ.out.2.2
    clear HC5 HC6 HZ
    go_wp2_with (with_reducible refine upon_id ?_; go_simp)
    refine (awake45_any w6 m ((HB6.out.cell (p := ⟨0, 0, none⟩) HM.out.1).trans HM.out.2)).mono ?_
    rintro e w7 ⟨rfl, hb7⟩
    have HB7 := Lib.hid (HB6.out.trans (below_less hb7 HB6.out.size))
    clear hb7
    go_wp2_with (with_reducible refine upon_id ?_; go_simp)
    go_ret
    exact ⟨rfl, HB7.out⟩
  · go_upto_region 2 with (first | (go_at_call 5; refine (mod_any _ _ _ (by omega) (by omega)).mono ?_; rintro e w' ⟨rfl, hw⟩; subst hw) | (with_reducible refine upon_id ?_; go_simp))
    have HW := Lib.hid (below_allocX (Below.refl w.heap.size w) (.cells #[.int .i64 n, .int .i64 (n % 1000), .int .i64 (1099511627775 + n % 3), .int .i64 (n % 3 - 1)] 3))
    generalize hWd : w.alloc (.cells #[.int .i64 n, .int .i64 (n % 1000), .int .i64 (1099511627775 + n % 3), .int .i64 (n % 3 - 1)] 3) = W at *
    clear hWd
    generalize hvv : 1099511627775 + n % 3 = v at *
    clear hvv
    have h1 := (Ow.of (St.refl W)).arr #[.int .i64 3, .int .i64 v, .int .i64 0, .int .i64 0, .int .i64 0, .int .i64 0, .int .i64 0, .int .i64 0, .slice none 0 0, .int .i64 0, .int .i64 0, .int .i64 0, .int .i64 0, .int .i64 0, .int .i64 0, .int .i64 0, .int .i64 0, .int .u8 0, .int .u8 0, .bool false, .int .i64 0, .int .i64 0, .int .i64 0, .int .i64 0, .bool false, .bool false] 26 rfl (by omega) 37
    have hl : ∀ (j : Nat) (x : Value), ([.int .i64 3, .int .i64 v, .int .i64 0, .int .i64 0, .int .i64 0, .int .i64 0, .int .i64 0, .int .i64 0, .slice none 0 0, .int .i64 0, .int .i64 0, .int .i64 0, .int .i64 0, .int .i64 0, .int .i64 0, .int .i64 0, .int .i64 0, .int .u8 0, .int .u8 0, .bool false, .int .i64 0, .int .i64 0, .int .i64 0, .int .i64 0, .bool false, .bool false] : List Value)[j]? = some x → (W.alloc (.cells #[.int .i64 3, .int .i64 v, .int .i64 0, .int .i64 0, .int .i64 0, .int .i64 0, .int .i64 0, .int .i64 0, .slice none 0 0, .int .i64 0, .int .i64 0, .int .i64 0, .int .i64 0, .int .i64 0, .int .i64 0, .int .i64 0, .int .i64 0, .int .u8 0, .int .u8 0, .bool false, .int .i64 0, .int .i64 0, .int .i64 0, .int .i64 0, .bool false, .bool false] 37)).cell? ⟨W.heap.size, j, none⟩ = some x := fun j x hj => by
      have h := (h1.row 0 rfl).cells (g := W.heap.size) rfl j x hj
      rw [add_zero] at h
      exact h
    have HL := Lib.hid (And.intro (h1.lt (i := 0) rfl rfl).1 hl)
    have HW2 := Lib.hid (Below.trans HW.out ((Below.refl w.heap.size W).alloc HW.out.size (.cells #[.int .i64 3, .int .i64 v, .int .i64 0, .int .i64 0, .int .i64 0, .int .i64 0, .int .i64 0, .int .i64 0, .slice none 0 0, .int .i64 0, .int .i64 0, .int .i64 0, .int .i64 0, .int .i64 0, .int .i64 0, .int .i64 0, .int .i64 0, .int .u8 0, .int .u8 0, .bool false, .int .i64 0, .int .i64 0, .int .i64 0, .int .i64 0, .bool false, .bool false] 37)))
    clear h1 hl
    rcases Int.lt_or_le v 0 with hlo | hlo
    · have d0 : decide (v < 0) = true := by simp; omega
      clear hlo
      go_wp2_with (with_reducible refine upon_id ?_; go_simp)
      refine (fmt_neg _ v W.heap.size 1 HL.out.1 HL.out.2 d0).mono ?_
      rintro e w3 ⟨rfl, hb3⟩
      have HB3 := Lib.hid (HW2.out.trans (below_less hb3 HW2.out.size))
      clear hb3
      go_wp2_with (with_reducible refine upon_id ?_; go_simp)
      refine (awake45_any w3 m ((HB3.out.cell (p := ⟨0, 0, none⟩) HM.out.1).trans HM.out.2)).mono ?_
      rintro e w4 ⟨rfl, hb4⟩
      have HB4 := Lib.hid (HB3.out.trans (below_less hb4 HB3.out.size))
      clear hb4
      go_wp2_with (with_reducible refine upon_id ?_; go_simp)
      go_ret
      exact ⟨rfl, HB4.out⟩
    have d0 : decide (v < 0) = false := by simp; omega
    rcases Int.lt_or_le 1099511627776 v with hhi | hhi
    · have d1 : decide (1099511627776 < v) = true := by simp; omega
      clear hlo hhi
      go_wp2_with (with_reducible refine upon_id ?_; go_simp)
      refine (fmt_late _ v W.heap.size 1 HL.out.1 HL.out.2 d0 d1).mono ?_
      rintro e w3 ⟨rfl, hb3⟩
      have HB3 := Lib.hid (HW2.out.trans (below_less hb3 HW2.out.size))
      clear hb3
      go_wp2_with (with_reducible refine upon_id ?_; go_simp)
      refine (awake45_any w3 m ((HB3.out.cell (p := ⟨0, 0, none⟩) HM.out.1).trans HM.out.2)).mono ?_
      rintro e w4 ⟨rfl, hb4⟩
      have HB4 := Lib.hid (HB3.out.trans (below_less hb4 HB3.out.size))
      clear hb4
      go_wp2_with (with_reducible refine upon_id ?_; go_simp)
      go_ret
      exact ⟨rfl, HB4.out⟩
    have d1 : decide (1099511627776 < v) = false := by simp; omega
    obtain ⟨u, rfl⟩ : ∃ u : Nat, v = (u : Int) := ⟨v.toNat, by omega⟩
    have hu : u ≤ 1099511627776 := by omega
    have hdl := dd_len hu
    have HI := Lib.hid (fun (V : World) (hV : Below w.heap.size w V) => call_itoa hu V (tab_below htab hV))
    have HA := Lib.hid (fun (V : World) => call_atoi (by omega) (atoi_dd u) V)
    clear hlo hhi
    go_wp2_with (with_reducible refine upon_id ?_; go_simp)
    refine (fmt_time _ (u : Int) W.heap.size 1 HL.out.1 HL.out.2 (str (Lib.decDigits u)) (by omega) (by omega) (by show (Lib.decDigits u).length ≤ 1000; omega) (fun V hV => HI.out V (HW2.out.trans (below_less hV HW2.out.size)))).mono ?_
    rintro e w3 ⟨rfl, hb3⟩
    have HB3 := Lib.hid (HW2.out.trans (below_less hb3 HW2.out.size))
    have hTT : (⟨#[116, 105, 109, 101]⟩ ++ (⟨#[32]⟩ ++ str (Lib.decDigits u)) : ByteArray) = str (116 :: 105 :: 109 :: 101 :: 32 :: Lib.decDigits u) := rfl_TT u
    have hTs : (⟨#[116, 105, 109, 101]⟩ ++ (⟨#[32]⟩ ++ str (Lib.decDigits u)) : ByteArray) ++ ⟨#[10]⟩ = str ((116 :: 105 :: 109 :: 101 :: 32 :: Lib.decDigits u) ++ [10]) := rfl_TTs u
    rw [hTs]
    clear hb3
    go_wp2_with (with_reducible refine upon_id ?_; go_simp)
    generalize hs : str (116 :: 105 :: 109 :: 101 :: 32 :: (Lib.decDigits u ++ [10])) = s at *
    have hne : (s.toList == []) = false := by
      rw [← hs, str_toList]
      rfl
    have hss : s.size = (Lib.decDigits u).length + 6 := by
      rw [← hs]
      show (116 :: 105 :: 109 :: 101 :: 32 :: (Lib.decDigits u ++ [10])).length = _
      simp
    have hsz : decide (65536 < (s.size : Int)) = false := by simp; omega
    have hgm : ∀ V, Below w.heap.size w V → V.cell? ⟨0, 0, none⟩ = some (.int .i64 m) := fun V hV => (hV.cell (p := ⟨0, 0, none⟩) HM.out.1).trans HM.out.2
    have HC := Lib.hid (fun (V : World) (hV : Below w.heap.size w V) => call_cut (x := (116 :: 105 :: 109 :: 101 :: 32 :: Lib.decDigits u)) (by
      intro b hb
      simp only [List.mem_cons] at hb
      rcases hb with rfl | rfl | rfl | rfl | rfl | hb
      · decide
      · decide
      · decide
      · decide
      · decide
      · exact dd_no (u := u) (c := 10) (by decide) b hb) (by simp; omega) V m (hgm V hV))
    have HSp := Lib.hid (fun (V : World) (hV : Below w.heap.size w V) => call_split (l := Lib.decDigits u) (dd_no (by decide)) (by omega) V m (hgm V hV))
    have hPT := parse_time w3 (u : Int) (str (Lib.decDigits u)) s (by omega) (by omega) (by show (Lib.decDigits u).length ≤ 1000; omega) hne hsz (fun V hV => by
      have h := HC.out V (HB3.out.trans (below_less hV HB3.out.size))
      rw [hTT, ← hs]
      exact h) (fun V hV => by
      have h := HSp.out V (HB3.out.trans (below_less hV HB3.out.size))
      rw [hTT]
      exact h) HA.out (fun V hV => HI.out V (HB3.out.trans (below_less hV HB3.out.size)))
    refine hPT.mono ?_
    rintro e w4 ⟨A, c, rfl, hx⟩
    obtain ⟨lb, cap, hv, -, hlt⟩ := (hx.row 0 rfl).form (by omega)
    have hA : A = some ⟨lb, 0, none⟩ := by
      injection hv with h1 _ _
    clear hv
    subst hA
    have z0 : w4.cell? ⟨lb, 0, none⟩ = some (.int .i64 3) := by
      have h := (hx.row 0 rfl).cells (g := lb) rfl 0 _ rfl
      rw [add_zero] at h
      exact h
    have z1 : w4.cell? ⟨lb, 1, none⟩ = some (.int .i64 (u : Int)) := by
      have h := (hx.row 0 rfl).cells (g := lb) rfl 1 _ rfl
      rw [add_zero] at h
      exact h
    have HZ := Lib.hid (And.intro hlt (And.intro z0 z1))
    have HB4 := Lib.hid (HB3.out.trans (below_less hx.ow.below HB3.out.size))
    have HS := Lib.hid hs
    have hsl : (5 : Int) ≤ (s.size : Int) := by omega
    have hmn : ((s.size : Int) < 5) = False := by simp; omega
    have hsn : 5 ≤ s.size := by omega
    have hm5 : min (5 : Int) (s.size : Int) = 5 := by omega
    have hs5 : s.extract 5 s.size = str (Lib.decDigits u ++ [10]) := by
      rw [← hs]
      apply ByteArray.ext
      apply Array.ext'
      rw [ByteArray.data_extract, Array.toList_extract]
      show ((116 :: 105 :: 109 :: 101 :: 32 :: (Lib.decDigits u ++ [10])).extract 5 (116 :: 105 :: 109 :: 101 :: 32 :: (Lib.decDigits u ++ [10])).length) = Lib.decDigits u ++ [10]
      simp only [List.extract, List.drop_succ_cons, List.drop_zero]
      exact List.take_of_length_le (by simp)
    have hcs : (9223372036854775807 < 6 + (str (Lib.decDigits u ++ [10])).size) = False := by
      have : (str (Lib.decDigits u ++ [10])).size = (Lib.decDigits u).length + 1 := by
        show (Lib.decDigits u ++ [10]).length = _
        simp
      simp
      omega
    have HFs := Lib.hid (And.intro hss hdl)
    clear hPT hx hlt z0 z1 hs hne hss hsz hTT hTs hgm HC HSp
    go_wp2_with (with_reducible refine upon_id ?_; go_simp)
    have hT1 : (⟨#[116, 105, 109, 101, 32, 48]⟩ ++ str (Lib.decDigits u ++ [10]) : ByteArray) = str ((116 :: 105 :: 109 :: 101 :: 32 :: (48 :: Lib.decDigits u)) ++ [10]) := by
      apply ByteArray.ext
      apply Array.ext'
      simp [str, ByteArray.data_append]
    have hgm : ∀ V, Below w.heap.size w V → V.cell? ⟨0, 0, none⟩ = some (.int .i64 m) := fun V hV => (hV.cell (p := ⟨0, 0, none⟩) HM.out.1).trans HM.out.2
    have hl32 : ∀ b ∈ (48 :: Lib.decDigits u : List UInt8), b ≠ 32 := by
      intro b hb
      rcases List.mem_cons.1 hb with rfl | hb
      · decide
      · exact dd_no (u := u) (c := 32) (by decide) b hb
    have hl10 : ∀ b ∈ ((116 :: 105 :: 109 :: 101 :: 32 :: (48 :: Lib.decDigits u)) : List UInt8), b ≠ 10 := by
      intro b hb
      simp only [List.mem_cons] at hb
      rcases hb with rfl | rfl | rfl | rfl | rfl | rfl | hb
      · decide
      · decide
      · decide
      · decide
      · decide
      · decide
      · exact dd_no (u := u) (c := 10) (by decide) b hb
    have hPL := parse_late w4 (u : Int) (str (48 :: Lib.decDigits u)) (str (Lib.decDigits u)) (str ((116 :: 105 :: 109 :: 101 :: 32 :: (48 :: Lib.decDigits u)) ++ [10])) (str (116 :: 105 :: 109 :: 101 :: 32 :: (48 :: Lib.decDigits u))) (by
      rw [str_toList, str_toList, beq_eq_false_iff_ne]
      intro e
      have := congrArg List.length e
      simp at this) (by rw [str_toList]; rfl) (by
      have : (str ((116 :: 105 :: 109 :: 101 :: 32 :: (48 :: Lib.decDigits u)) ++ [10])).size = (Lib.decDigits u).length + 7 := by
        show ((116 :: 105 :: 109 :: 101 :: 32 :: (48 :: Lib.decDigits u)) ++ [10]).length = _
        simp
      have h2 := HFs.out.2
      rw [this]
      simp
      omega) (fun V hV => call_cut hl10 (by have h2 := HFs.out.2; simp; omega) V m (hgm V (HB4.out.trans (below_less hV HB4.out.size)))) (fun V hV => call_split hl32 (by have h2 := HFs.out.2; simp; omega) V m (hgm V (HB4.out.trans (below_less hV HB4.out.size)))) (fun V => call_atoi (by have h2 := HFs.out.2; simp; omega) (atoi_zero_dd u) V) (fun V hV => HI.out V (HB4.out.trans (below_less hV HB4.out.size)))
    rw [hT1]
    refine hPL.mono ?_
    rintro e w5 ⟨rfl, hb⟩
    have HB5 := Lib.hid (HB4.out.trans (below_less hb HB4.out.size))
    have HC5 := Lib.hid hb
    clear hPL hT1 hgm hl32 hl10 hb
    go_wp2_with (with_reducible refine upon_id ?_; go_simp)
    have hT1 : (⟨#[116, 105, 109, 101, 32, 43]⟩ ++ str (Lib.decDigits u ++ [10]) : ByteArray) = str ((116 :: 105 :: 109 :: 101 :: 32 :: (43 :: Lib.decDigits u)) ++ [10]) := by
      apply ByteArray.ext
      apply Array.ext'
      simp [str, ByteArray.data_append]
    have hgm : ∀ V, Below w.heap.size w V → V.cell? ⟨0, 0, none⟩ = some (.int .i64 m) := fun V hV => (hV.cell (p := ⟨0, 0, none⟩) HM.out.1).trans HM.out.2
    have hl32 : ∀ b ∈ (43 :: Lib.decDigits u : List UInt8), b ≠ 32 := by
      intro b hb
      rcases List.mem_cons.1 hb with rfl | hb
      · decide
      · exact dd_no (u := u) (c := 32) (by decide) b hb
    have hl10 : ∀ b ∈ ((116 :: 105 :: 109 :: 101 :: 32 :: (43 :: Lib.decDigits u)) : List UInt8), b ≠ 10 := by
      intro b hb
      simp only [List.mem_cons] at hb
      rcases hb with rfl | rfl | rfl | rfl | rfl | rfl | hb
      · decide
      · decide
      · decide
      · decide
      · decide
      · decide
      · exact dd_no (u := u) (c := 10) (by decide) b hb
    have hPL := parse_late w5 (u : Int) (str (43 :: Lib.decDigits u)) (str (Lib.decDigits u)) (str ((116 :: 105 :: 109 :: 101 :: 32 :: (43 :: Lib.decDigits u)) ++ [10])) (str (116 :: 105 :: 109 :: 101 :: 32 :: (43 :: Lib.decDigits u))) (by
      rw [str_toList, str_toList, beq_eq_false_iff_ne]
      intro e
      have := congrArg List.length e
      simp at this) (by rw [str_toList]; rfl) (by
      have : (str ((116 :: 105 :: 109 :: 101 :: 32 :: (43 :: Lib.decDigits u)) ++ [10])).size = (Lib.decDigits u).length + 7 := by
        show ((116 :: 105 :: 109 :: 101 :: 32 :: (43 :: Lib.decDigits u)) ++ [10]).length = _
        simp
      have h2 := HFs.out.2
      rw [this]
      simp
      omega) (fun V hV => call_cut hl10 (by have h2 := HFs.out.2; simp; omega) V m (hgm V (HB5.out.trans (below_less hV HB5.out.size)))) (fun V hV => call_split hl32 (by have h2 := HFs.out.2; simp; omega) V m (hgm V (HB5.out.trans (below_less hV HB5.out.size)))) (fun V => call_atoi (by have h2 := HFs.out.2; simp; omega) (atoi_plus_dd u) V) (fun V hV => HI.out V (HB5.out.trans (below_less hV HB5.out.size)))
    rw [hT1]
    refine hPL.mono ?_
    rintro e w6 ⟨rfl, hb⟩
    have HB6 := Lib.hid (HB5.out.trans (below_less hb HB5.out.size))
    have HC6 := Lib.hid hb
    clear hPL hT1 hgm hl32 hl10 hb
    have y0 : w6.cell? ⟨lb, 0, none⟩ = some (.int .i64 3) := ((HC5.out.trans (below_less HC6.out HC5.out.size)).cell (p := ⟨lb, 0, none⟩) HZ.out.1).trans HZ.out.2.1
    have y1 : w6.cell? ⟨lb, 1, none⟩ = some (.int .i64 (u : Int)) := ((HC5.out.trans (below_less HC6.out HC5.out.size)).cell (p := ⟨lb, 1, none⟩) HZ.out.1).trans HZ.out.2.2
    clear HC5 HC6 HZ
    go_wp2_with (with_reducible refine upon_id ?_; go_simp)
    refine (awake45_any w6 m ((HB6.out.cell (p := ⟨0, 0, none⟩) HM.out.1).trans HM.out.2)).mono ?_
    rintro e w7 ⟨rfl, hb7⟩
    have HB7 := Lib.hid (HB6.out.trans (below_less hb7 HB6.out.size))
    clear hb7
    go_wp2_with (with_reducible refine upon_id ?_; go_simp)
    go_ret
    exact ⟨rfl, HB7.out⟩
  · go_upto_region 2 with (first | (go_at_call 5; refine (mod_any _ _ _ (by omega) (by omega)).mono ?_; rintro e w' ⟨rfl, hw⟩; subst hw) | (with_reducible refine upon_id ?_; go_simp))
    have HW := Lib.hid (below_allocX (Below.refl w.heap.size w) (.cells #[.int .i64 n, .int .i64 (n % 1000), .int .i64 (1099511627775 + n % 3), .int .i64 (n % 3 - 1)] 3))
    generalize hWd : w.alloc (.cells #[.int .i64 n, .int .i64 (n % 1000), .int .i64 (1099511627775 + n % 3), .int .i64 (n % 3 - 1)] 3) = W at *
    clear hWd
    generalize hvv : n % 3 - 1 = v at *
    clear hvv
    have h1 := (Ow.of (St.refl W)).arr #[.int .i64 3, .int .i64 v, .int .i64 0, .int .i64 0, .int .i64 0, .int .i64 0, .int .i64 0, .int .i64 0, .slice none 0 0, .int .i64 0, .int .i64 0, .int .i64 0, .int .i64 0, .int .i64 0, .int .i64 0, .int .i64 0, .int .i64 0, .int .u8 0, .int .u8 0, .bool false, .int .i64 0, .int .i64 0, .int .i64 0, .int .i64 0, .bool false, .bool false] 26 rfl (by omega) 37
    have hl : ∀ (j : Nat) (x : Value), ([.int .i64 3, .int .i64 v, .int .i64 0, .int .i64 0, .int .i64 0, .int .i64 0, .int .i64 0, .int .i64 0, .slice none 0 0, .int .i64 0, .int .i64 0, .int .i64 0, .int .i64 0, .int .i64 0, .int .i64 0, .int .i64 0, .int .i64 0, .int .u8 0, .int .u8 0, .bool false, .int .i64 0, .int .i64 0, .int .i64 0, .int .i64 0, .bool false, .bool false] : List Value)[j]? = some x → (W.alloc (.cells #[.int .i64 3, .int .i64 v, .int .i64 0, .int .i64 0, .int .i64 0, .int .i64 0, .int .i64 0, .int .i64 0, .slice none 0 0, .int .i64 0, .int .i64 0, .int .i64 0, .int .i64 0, .int .i64 0, .int .i64 0, .int .i64 0, .int .i64 0, .int .u8 0, .int .u8 0, .bool false, .int .i64 0, .int .i64 0, .int .i64 0, .int .i64 0, .bool false, .bool false] 37)).cell? ⟨W.heap.size, j, none⟩ = some x := fun j x hj => by
      have h := (h1.row 0 rfl).cells (g := W.heap.size) rfl j x hj
      rw [add_zero] at h
      exact h
    have HL := Lib.hid (And.intro (h1.lt (i := 0) rfl rfl).1 hl)
    have HW2 := Lib.hid (Below.trans HW.out ((Below.refl w.heap.size W).alloc HW.out.size (.cells #[.int .i64 3, .int .i64 v, .int .i64 0, .int .i64 0, .int .i64 0, .int .i64 0, .int .i64 0, .int .i64 0, .slice none 0 0, .int .i64 0, .int .i64 0, .int .i64 0, .int .i64 0, .int .i64 0, .int .i64 0, .int .i64 0, .int .i64 0, .int .u8 0, .int .u8 0, .bool false, .int .i64 0, .int .i64 0, .int .i64 0, .int .i64 0, .bool false, .bool false] 37)))
    clear h1 hl
    rcases Int.lt_or_le v 0 with hlo | hlo
    · have d0 : decide (v < 0) = true := by simp; omega
      clear hlo
      go_wp2_with (with_reducible refine upon_id ?_; go_simp)
      refine (fmt_neg _ v W.heap.size 1 HL.out.1 HL.out.2 d0).mono ?_
      rintro e w3 ⟨rfl, hb3⟩
      have HB3 := Lib.hid (HW2.out.trans (below_less hb3 HW2.out.size))
      clear hb3
      go_wp2_with (with_reducible refine upon_id ?_; go_simp)
      refine (awake45_any w3 m ((HB3.out.cell (p := ⟨0, 0, none⟩) HM.out.1).trans HM.out.2)).mono ?_
      rintro e w4 ⟨rfl, hb4⟩
      have HB4 := Lib.hid (HB3.out.trans (below_less hb4 HB3.out.size))
      clear hb4
      go_wp2_with (with_reducible refine upon_id ?_; go_simp)
      go_ret
      exact ⟨rfl, HB4.out⟩
    have d0 : decide (v < 0) = false := by simp; omega
    rcases Int.lt_or_le 1099511627776 v with hhi | hhi
    · have d1 : decide (1099511627776 < v) = true := by simp; omega
      clear hlo hhi
      go_wp2_with (with_reducible refine upon_id ?_; go_simp)
      refine (fmt_late _ v W.heap.size 1 HL.out.1 HL.out.2 d0 d1).mono ?_
      rintro e w3 ⟨rfl, hb3⟩
      have HB3 := Lib.hid (HW2.out.trans (below_less hb3 HW2.out.size))
      clear hb3
      go_wp2_with (with_reducible refine upon_id ?_; go_simp)
      refine (awake45_any w3 m ((HB3.out.cell (p := ⟨0, 0, none⟩) HM.out.1).trans HM.out.2)).mono ?_
      rintro e w4 ⟨rfl, hb4⟩
      have HB4 := Lib.hid (HB3.out.trans (below_less hb4 HB3.out.size))
      clear hb4
      go_wp2_with (with_reducible refine upon_id ?_; go_simp)
      go_ret
      exact ⟨rfl, HB4.out⟩
    have d1 : decide (1099511627776 < v) = false := by simp; omega
    obtain ⟨u, rfl⟩ : ∃ u : Nat, v = (u : Int) := ⟨v.toNat, by omega⟩
    have hu : u ≤ 1099511627776 := by omega
    have hdl := dd_len hu
    have HI := Lib.hid (fun (V : World) (hV : Below w.heap.size w V) => call_itoa hu V (tab_below htab hV))
    have HA := Lib.hid (fun (V : World) => call_atoi (by omega) (atoi_dd u) V)
    clear hlo hhi
    go_wp2_with (with_reducible refine upon_id ?_; go_simp)
    refine (fmt_time _ (u : Int) W.heap.size 1 HL.out.1 HL.out.2 (str (Lib.decDigits u)) (by omega) (by omega) (by show (Lib.decDigits u).length ≤ 1000; omega) (fun V hV => HI.out V (HW2.out.trans (below_less hV HW2.out.size)))).mono ?_
    rintro e w3 ⟨rfl, hb3⟩
    have HB3 := Lib.hid (HW2.out.trans (below_less hb3 HW2.out.size))
    have hTT : (⟨#[116, 105, 109, 101]⟩ ++ (⟨#[32]⟩ ++ str (Lib.decDigits u)) : ByteArray) = str (116 :: 105 :: 109 :: 101 :: 32 :: Lib.decDigits u) := rfl_TT u
    have hTs : (⟨#[116, 105, 109, 101]⟩ ++ (⟨#[32]⟩ ++ str (Lib.decDigits u)) : ByteArray) ++ ⟨#[10]⟩ = str ((116 :: 105 :: 109 :: 101 :: 32 :: Lib.decDigits u) ++ [10]) := rfl_TTs u
    rw [hTs]
    clear hb3
    go_wp2_with (with_reducible refine upon_id ?_; go_simp)
    generalize hs : str (116 :: 105 :: 109 :: 101 :: 32 :: (Lib.decDigits u ++ [10])) = s at *
    have hne : (s.toList == []) = false := by
      rw [← hs, str_toList]
      rfl
    have hss : s.size = (Lib.decDigits u).length + 6 := by
      rw [← hs]
      show (116 :: 105 :: 109 :: 101 :: 32 :: (Lib.decDigits u ++ [10])).length = _
      simp
    have hsz : decide (65536 < (s.size : Int)) = false := by simp; omega
    have hgm : ∀ V, Below w.heap.size w V → V.cell? ⟨0, 0, none⟩ = some (.int .i64 m) := fun V hV => (hV.cell (p := ⟨0, 0, none⟩) HM.out.1).trans HM.out.2
    have HC := Lib.hid (fun (V : World) (hV : Below w.heap.size w V) => call_cut (x := (116 :: 105 :: 109 :: 101 :: 32 :: Lib.decDigits u)) (by
      intro b hb
      simp only [List.mem_cons] at hb
      rcases hb with rfl | rfl | rfl | rfl | rfl | hb
      · decide
      · decide
      · decide
      · decide
      · decide
      · exact dd_no (u := u) (c := 10) (by decide) b hb) (by simp; omega) V m (hgm V hV))
    have HSp := Lib.hid (fun (V : World) (hV : Below w.heap.size w V) => call_split (l := Lib.decDigits u) (dd_no (by decide)) (by omega) V m (hgm V hV))
    have hPT := parse_time w3 (u : Int) (str (Lib.decDigits u)) s (by omega) (by omega) (by show (Lib.decDigits u).length ≤ 1000; omega) hne hsz (fun V hV => by
      have h := HC.out V (HB3.out.trans (below_less hV HB3.out.size))
      rw [hTT, ← hs]
      exact h) (fun V hV => by
      have h := HSp.out V (HB3.out.trans (below_less hV HB3.out.size))
      rw [hTT]
      exact h) HA.out (fun V hV => HI.out V (HB3.out.trans (below_less hV HB3.out.size)))
    refine hPT.mono ?_
    rintro e w4 ⟨A, c, rfl, hx⟩
    obtain ⟨lb, cap, hv, -, hlt⟩ := (hx.row 0 rfl).form (by omega)
    have hA : A = some ⟨lb, 0, none⟩ := by
      injection hv with h1 _ _
    clear hv
    subst hA
    have z0 : w4.cell? ⟨lb, 0, none⟩ = some (.int .i64 3) := by
      have h := (hx.row 0 rfl).cells (g := lb) rfl 0 _ rfl
      rw [add_zero] at h
      exact h
    have z1 : w4.cell? ⟨lb, 1, none⟩ = some (.int .i64 (u : Int)) := by
      have h := (hx.row 0 rfl).cells (g := lb) rfl 1 _ rfl
      rw [add_zero] at h
      exact h
    have HZ := Lib.hid (And.intro hlt (And.intro z0 z1))
    have HB4 := Lib.hid (HB3.out.trans (below_less hx.ow.below HB3.out.size))
    have HS := Lib.hid hs
    have hsl : (5 : Int) ≤ (s.size : Int) := by omega
    have hmn : ((s.size : Int) < 5) = False := by simp; omega
    have hsn : 5 ≤ s.size := by omega
    have hm5 : min (5 : Int) (s.size : Int) = 5 := by omega
    have hs5 : s.extract 5 s.size = str (Lib.decDigits u ++ [10]) := by
      rw [← hs]
      apply ByteArray.ext
      apply Array.ext'
      rw [ByteArray.data_extract, Array.toList_extract]
      show ((116 :: 105 :: 109 :: 101 :: 32 :: (Lib.decDigits u ++ [10])).extract 5 (116 :: 105 :: 109 :: 101 :: 32 :: (Lib.decDigits u ++ [10])).length) = Lib.decDigits u ++ [10]
      simp only [List.extract, List.drop_succ_cons, List.drop_zero]
      exact List.take_of_length_le (by simp)
    have hcs : (9223372036854775807 < 6 + (str (Lib.decDigits u ++ [10])).size) = False := by
      have : (str (Lib.decDigits u ++ [10])).size = (Lib.decDigits u).length + 1 := by
        show (Lib.decDigits u ++ [10]).length = _
        simp
      simp
      omega
    have HFs := Lib.hid (And.intro hss hdl)
    clear hPT hx hlt z0 z1 hs hne hss hsz hTT hTs hgm HC HSp
    go_wp2_with (with_reducible refine upon_id ?_; go_simp)
    have hT1 : (⟨#[116, 105, 109, 101, 32, 48]⟩ ++ str (Lib.decDigits u ++ [10]) : ByteArray) = str ((116 :: 105 :: 109 :: 101 :: 32 :: (48 :: Lib.decDigits u)) ++ [10]) := by
      apply ByteArray.ext
      apply Array.ext'
      simp [str, ByteArray.data_append]
    have hgm : ∀ V, Below w.heap.size w V → V.cell? ⟨0, 0, none⟩ = some (.int .i64 m) := fun V hV => (hV.cell (p := ⟨0, 0, none⟩) HM.out.1).trans HM.out.2
    have hl32 : ∀ b ∈ (48 :: Lib.decDigits u : List UInt8), b ≠ 32 := by
      intro b hb
      rcases List.mem_cons.1 hb with rfl | hb
      · decide
      · exact dd_no (u := u) (c := 32) (by decide) b hb
    have hl10 : ∀ b ∈ ((116 :: 105 :: 109 :: 101 :: 32 :: (48 :: Lib.decDigits u)) : List UInt8), b ≠ 10 := by
      intro b hb
      simp only [List.mem_cons] at hb
      rcases hb with rfl | rfl | rfl | rfl | rfl | rfl | hb
      · decide
      · decide
      · decide
      · decide
      · decide
      · decide
      · exact dd_no (u := u) (c := 10) (by decide) b hb
    have hPL := parse_late w4 (u : Int) (str (48 :: Lib.decDigits u)) (str (Lib.decDigits u)) (str ((116 :: 105 :: 109 :: 101 :: 32 :: (48 :: Lib.decDigits u)) ++ [10])) (str (116 :: 105 :: 109 :: 101 :: 32 :: (48 :: Lib.decDigits u))) (by
      rw [str_toList, str_toList, beq_eq_false_iff_ne]
      intro e
      have := congrArg List.length e
      simp at this) (by rw [str_toList]; rfl) (by
      have : (str ((116 :: 105 :: 109 :: 101 :: 32 :: (48 :: Lib.decDigits u)) ++ [10])).size = (Lib.decDigits u).length + 7 := by
        show ((116 :: 105 :: 109 :: 101 :: 32 :: (48 :: Lib.decDigits u)) ++ [10]).length = _
        simp
      have h2 := HFs.out.2
      rw [this]
      simp
      omega) (fun V hV => call_cut hl10 (by have h2 := HFs.out.2; simp; omega) V m (hgm V (HB4.out.trans (below_less hV HB4.out.size)))) (fun V hV => call_split hl32 (by have h2 := HFs.out.2; simp; omega) V m (hgm V (HB4.out.trans (below_less hV HB4.out.size)))) (fun V => call_atoi (by have h2 := HFs.out.2; simp; omega) (atoi_zero_dd u) V) (fun V hV => HI.out V (HB4.out.trans (below_less hV HB4.out.size)))
    rw [hT1]
    refine hPL.mono ?_
    rintro e w5 ⟨rfl, hb⟩
    have HB5 := Lib.hid (HB4.out.trans (below_less hb HB4.out.size))
    have HC5 := Lib.hid hb
    clear hPL hT1 hgm hl32 hl10 hb
    go_wp2_with (with_reducible refine upon_id ?_; go_simp)
    have hT1 : (⟨#[116, 105, 109, 101, 32, 43]⟩ ++ str (Lib.decDigits u ++ [10]) : ByteArray) = str ((116 :: 105 :: 109 :: 101 :: 32 :: (43 :: Lib.decDigits u)) ++ [10]) := by
      apply ByteArray.ext
      apply Array.ext'
      simp [str, ByteArray.data_append]
    have hgm : ∀ V, Below w.heap.size w V → V.cell? ⟨0, 0, none⟩ = some (.int .i64 m) := fun V hV => (hV.cell (p := ⟨0, 0, none⟩) HM.out.1).trans HM.out.2
    have hl32 : ∀ b ∈ (43 :: Lib.decDigits u : List UInt8), b ≠ 32 := by
      intro b hb
      rcases List.mem_cons.1 hb with rfl | hb
      · decide
      · exact dd_no (u := u) (c := 32) (by decide) b hb
    have hl10 : ∀ b ∈ ((116 :: 105 :: 109 :: 101 :: 32 :: (43 :: Lib.decDigits u)) : List UInt8), b ≠ 10 := by
      intro b hb
      simp only [List.mem_cons] at hb
      rcases hb with rfl | rfl | rfl | rfl | rfl | rfl | hb
      · decide
      · decide
      · decide
      · decide
      · decide
      · decide
      · exact dd_no (u := u) (c := 10) (by decide) b hb
    have hPL := parse_late w5 (u : Int) (str (43 :: Lib.decDigits u)) (str (Lib.decDigits u)) (str ((116 :: 105 :: 109 :: 101 :: 32 :: (43 :: Lib.decDigits u)) ++ [10])) (str (116 :: 105 :: 109 :: 101 :: 32 :: (43 :: Lib.decDigits u))) (by
      rw [str_toList, str_toList, beq_eq_false_iff_ne]
      intro e
      have := congrArg List.length e
      simp at this) (by rw [str_toList]; rfl) (by
      have : (str ((116 :: 105 :: 109 :: 101 :: 32 :: (43 :: Lib.decDigits u)) ++ [10])).size = (Lib.decDigits u).length + 7 := by
        show ((116 :: 105 :: 109 :: 101 :: 32 :: (43 :: Lib.decDigits u)) ++ [10]).length = _
        simp
      have h2 := HFs.out.2
      rw [this]
      simp
      omega) (fun V hV => call_cut hl10 (by have h2 := HFs.out.2; simp; omega) V m (hgm V (HB5.out.trans (below_less hV HB5.out.size)))) (fun V hV => call_split hl32 (by have h2 := HFs.out.2; simp; omega) V m (hgm V (HB5.out.trans (below_less hV HB5.out.size)))) (fun V => call_atoi (by have h2 := HFs.out.2; simp; omega) (atoi_plus_dd u) V) (fun V hV => HI.out V (HB5.out.trans (below_less hV HB5.out.size)))
    rw [hT1]
    refine hPL.mono ?_
    rintro e w6 ⟨rfl, hb⟩
    have HB6 := Lib.hid (HB5.out.trans (below_less hb HB5.out.size))
    have HC6 := Lib.hid hb
    clear hPL hT1 hgm hl32 hl10 hb
    have y0 : w6.cell? ⟨lb, 0, none⟩ = some (.int .i64 3) := ((HC5.out.trans (below_less HC6.out HC5.out.size)).cell (p := ⟨lb, 0, none⟩) HZ.out.1).trans HZ.out.2.1
    have y1 : w6.cell? ⟨lb, 1, none⟩ = some (.int .i64 (u : Int)) := ((HC5.out.trans (below_less HC6.out HC5.out.size)).cell (p := ⟨lb, 1, none⟩) HZ.out.1).trans HZ.out.2.2
    clear HC5 HC6 HZ
    go_wp2_with (with_reducible refine upon_id ?_; go_simp)
    refine (awake45_any w6 m ((HB6.out.cell (p := ⟨0, 0, none⟩) HM.out.1).trans HM.out.2)).mono ?_
    rintro e w7 ⟨rfl, hb7⟩
    have HB7 := Lib.hid (HB6.out.trans (below_less hb7 HB6.out.size))
    clear hb7
    go_wp2_with (with_reducible refine upon_id ?_; go_simp)
    go_ret
    exact ⟨rfl, HB7.out⟩
end Go.Proofs.YtpcmbmabmfghkaaDoor
