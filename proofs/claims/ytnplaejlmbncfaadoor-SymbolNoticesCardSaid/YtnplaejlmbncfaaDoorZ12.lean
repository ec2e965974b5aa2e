/- Yf -/
import Derived.Test.YtnplaejlmbncfaaDoorZ11
namespace Go.Proofs.YtnplaejlmbncfaaDoor
open Go.RowKit
set_option linter.unusedVariables false
set_option maxRecDepth 100000
def RNot1 (w : World) (g cb d m f gw nn cw : Nat) (Al : Option Addr) (kl cl gt : Nat) (V : List UInt8) (E : List Nat) (x : Value) (wr : World) : Prop :=
  ∃ (i : Nat) (W : List UInt8) (B : List Bool), i ≤ kl ∧ x = .int .i64 (i : Int) ∧ Hid (W.length = nn ∧ Sy.Off E V W ∧ B.length = nn ∧ ∀ p, p < nn → B[p]? = some ((E.take i).contains p)) ∧ Hid (Ow w wr (some g) [] [] [codeR cb d m f, ⟨some ⟨gw, 0, none⟩, nn, cw, 5, bys W⟩, ⟨Al, kl, cl, 3, nats E⟩, ⟨some ⟨gt, 0, none⟩, nn, nn, 4, bls B⟩]) ∧ Hid (Dice wr g w.heap.size)
def RNot2 (w : World) (g cb d m f gw nn cw : Nat) (Al : Option Addr) (kl cl gt mn : Nat) (V : List UInt8) (E : List Nat) (x y : Value) (wr : World) : Prop :=
  ∃ (k j : Nat) (W : List UInt8) (B : List Bool), j ≤ nn ∧ k + mn + kl ≤ m ∧ x = .int .i64 (k : Int) ∧ y = .int .i64 (j : Int) ∧ Hid (W.length = nn ∧ Sy.oth nn E V W = k ∧ B.length = nn ∧ ∀ p, p < nn → ∃ b, B[p]? = some b ∧ (b = false → p ∉ E ∧ Sy.wd W p = Sy.wd V p)) ∧ Hid (Ow w wr (some g) [] [] [codeR cb d m f, ⟨some ⟨gw, 0, none⟩, nn, cw, 5, bys W⟩, ⟨Al, kl, cl, 3, nats E⟩, ⟨some ⟨gt, 0, none⟩, nn, nn, 4, bls B⟩]) ∧ Hid (Dice wr g w.heap.size)

set_option maxHeartbeats 8000000 in
theorem symbolNotices_any (A : Option Addr) (n c : Nat) (ts : List Int) (w : World) (hn : ts.length = n) (hl : n ≤ 9223372036854775807) (hs : Sl w w.heap.size A (ints ts)) :
    Calls Tryd.prog 4 #[.slice A n c] w fun e w' => e = .returned (.bool true) ∧ Below w.heap.size w w' := by
  rcases Nat.lt_or_ge 400 n with hbig | hsm
  · have HLi := Lib.hid (light_no A n c w hbig hl)
    have HAw := Lib.hid (awake07_any w)
    clear hs
    go_enter Tryd.func4, Tryd.ntmps4
    go_wp2_with (first | (go_at_call 6; refine HLi.out.mono ?_; rintro e w1 ⟨rfl, rfl⟩) | (go_at_call 7; refine HAw.out.mono ?_; rintro e w2 ⟨rfl, hb⟩))
    go_ret
    exact ⟨rfl, hb⟩
  have HLi := Lib.hid (light_yes A n c w hsm)
  have HR := Lib.hid (roll_at (St.refl w) A n c w.heap.size ts hn (by omega) (Nat.le_refl _) hs)
  clear hs hn hl hsm
  go_enter Tryd.func4, Tryd.ntmps4
  go_wp2_with fail
  refine HLi.out.mono ?_
  rintro e w1 ⟨rfl, rfl⟩
  go_wp2_with fail
  refine HR.out.mono ?_
  rintro e w1 ⟨g, rfl, hd1, hst1⟩
  have HN := Lib.hid (symbols_ow (Ow.of hst1) hd1 (Nat.le_refl _))
  clear HR HLi hd1 hst1
  go_wp2_with fail
  refine HN.out.mono ?_
  rintro e w2 ⟨d, m, f, rfl, hcd, hfm, hd2, h2⟩
  have h3 := h2.code d m f
  have HD := Lib.hid (hd2.alloc1 (.cells #[.int .i64 2, .int .i64 (d : Int), .int .i64 (m : Int), .int .i64 (f : Int)] 28))
  have HO : Hid (Ow w (w2.alloc (.cells #[.int .i64 2, .int .i64 (d : Int), .int .i64 (m : Int), .int .i64 (f : Int)] 28)) (some g) [] [] [codeR w2.heap.size d m f]) := h3
  have hcd0 := Lib.hid hcd
  obtain ⟨hd1', hd2', hm1', hm2', hf5'⟩ := hcd
  clear h2 hd2 h3 HN
  go_upto_region 5 with (fail)
  refine reg_monoT [some 27, some 28, some 29, some 30, some 31, some 32, some 26, some 33, some 34, some 5, some 6] (fun v => Ow w v (some g) [] [] [codeR w2.heap.size d m f] ∧ Dice v g w.heap.size) (fun _ => True) 11 (fun _ => 11) (lw5 w g w2.heap.size d m f) (by kernel_rfl) (by kernel_rfl) (by kernel_rfl) ?_ trivial ?_ ?_
  · exact ⟨HO.out.drew, HD.out.drew⟩
  · rintro j us v hj hl HS hS hp
    replace hl : us.length = 11 := hl
    obtain ⟨u0, us0, rfl, hl0⟩ := us_cons (n := 10) hl
    obtain ⟨u1, us1, rfl, hl1⟩ := us_cons (n := 9) hl0
    obtain ⟨u2, us2, rfl, hl2⟩ := us_cons (n := 8) hl1
    obtain ⟨u3, us3, rfl, hl3⟩ := us_cons (n := 7) hl2
    obtain ⟨u4, us4, rfl, hl4⟩ := us_cons (n := 6) hl3
    obtain ⟨u5, us5, rfl, hl5⟩ := us_cons (n := 5) hl4
    obtain ⟨u6, us6, rfl, hl6⟩ := us_cons (n := 4) hl5
    obtain ⟨u7, us7, rfl, hl7⟩ := us_cons (n := 3) hl6
    obtain ⟨u8, us8, rfl, hl8⟩ := us_cons (n := 2) hl7
    obtain ⟨u9, us9, rfl, hl9⟩ := us_cons (n := 1) hl8
    obtain ⟨u10, us10, rfl, hl10⟩ := us_cons (n := 0) hl9
    obtain rfl := us_nil hl10
    clear hl hl0 hl1 hl2 hl3 hl4 hl5 hl6 hl7 hl8 hl9
    clear hS
    have hj' : j < 11 := hj
    have hcase : j = 0 ∨ j = 1 ∨ j = 2 ∨ j = 3 ∨ j = 4 ∨ j = 5 ∨ j = 6 ∨ j = 7 ∨ j = 8 ∨ j = 9 ∨ j = 10 := by omega
    clear hj hj'
    replace HS : Ow w v (some g) [] [] [codeR w2.heap.size d m f] ∧ Dice v g w.heap.size := HS
    rcases hcase with rfl | rfl | rfl | rfl | rfl | rfl | rfl | rfl | rfl | rfl | rfl
    · obtain ⟨hx0, hx1, hx2, hx3⟩ := HS.1.cdc 0 rfl
      have HS2 := Lib.hid HS
      clear HS hp
      refine wpOp_step rfl (fun K hK => ?_)
      simp only [putL, Act.put, List.setIfInBounds_toArray, List.set_cons_zero, List.set_cons_succ]
      go_simp
      refine hK _ _ ⟨.agg #[.int .i64 2, .int .i64 (d : Int), .int .i64 (m : Int), .int .i64 (f : Int)], ?_, HS2.out, fun _ _ _ => trivial, rfl, fun _ _ _ _ _ _ h => h⟩
      simp only [putL, Act.put, List.getD_cons_zero, List.setIfInBounds_toArray, List.set_cons_zero, List.set_cons_succ]
    · have HS2 := Lib.hid HS
      clear HS hp
      refine wpOp_step rfl (fun K hK => ?_)
      simp only [putL, Act.put, List.setIfInBounds_toArray, List.set_cons_zero, List.set_cons_succ]
      go_simp
      refine hK _ _ ⟨.pointer (some ⟨g, 0, none⟩), ?_, HS2.out, fun _ _ _ => trivial, rfl, fun _ _ _ _ _ _ h => h⟩
      simp only [putL, Act.put, List.getD_cons_zero, List.getD_cons_succ, List.setIfInBounds_toArray, List.set_cons_zero, List.set_cons_succ]
    · have HS2 := Lib.hid HS
      clear HS hp
      refine wpOp_step rfl (fun K hK => ?_)
      simp only [putL, Act.put, List.setIfInBounds_toArray, List.set_cons_zero, List.set_cons_succ]
      go_simp
      refine hK _ _ ⟨.pointer (some ⟨w2.heap.size, 1, none⟩), ?_, HS2.out, fun _ _ _ => trivial, rfl, fun _ _ _ _ _ _ h => h⟩
      simp only [putL, Act.put, List.getD_cons_zero, List.getD_cons_succ, List.setIfInBounds_toArray, List.set_cons_zero, List.set_cons_succ]
    · obtain rfl : u2 = .pointer (some ⟨w2.heap.size, 1, none⟩) := hp 2 (by kernel_rfl) (.inr (by decide))
      obtain ⟨-, hx, -, -⟩ := HS.1.cdc 0 rfl
      have HS2 := Lib.hid HS
      clear HS hp
      refine wpOp_step rfl (fun K hK => ?_)
      simp only [putL, Act.put, List.setIfInBounds_toArray, List.set_cons_zero, List.set_cons_succ]
      go_simp
      refine hK _ _ ⟨.int .i64 (d : Int), ?_, HS2.out, fun _ _ _ => trivial, rfl, fun _ _ _ _ _ _ h => h⟩
      simp only [putL, Act.put, List.getD_cons_zero, List.getD_cons_succ, List.setIfInBounds_toArray, List.set_cons_zero, List.set_cons_succ]
    · obtain rfl : u1 = .pointer (some ⟨g, 0, none⟩) := hp 1 (by kernel_rfl) (.inr (by decide))
      obtain rfl : u3 = .int .i64 (d : Int) := hp 3 (by kernel_rfl) (.inr (by decide))
      have HS2 := Lib.hid HS
      clear HS hp
      refine wpOp_step rfl (fun K hK => ?_)
      simp only [putL, Act.put, List.setIfInBounds_toArray, List.set_cons_zero, List.set_cons_succ]
      go_simp
      refine (bytes_any g w.heap.size d v (by omega) HS2.out.2).mono ?_
      rintro en v' ⟨A', c', l, rfl, hl', ho, hd', hg⟩
      refine hK _ _ ⟨.slice A' d c', ?_, ⟨HS2.out.1.roll hg, hd'⟩, fun _ _ _ => trivial, ⟨A', c', l, rfl, hl', HS2.out.1.pushG ho hg (by omega)⟩, fun i y _ _ _ _ h => lw5_st (fun _ _ h => h.roll hg) i y h⟩
      simp only [putL, Act.put, List.getD_cons_zero, List.getD_cons_succ, List.setIfInBounds_toArray, List.set_cons_zero, List.set_cons_succ]
    · obtain rfl : u0 = .agg #[.int .i64 2, .int .i64 (d : Int), .int .i64 (m : Int), .int .i64 (f : Int)] := hp 0 (by kernel_rfl) (.inr (by decide))
      obtain ⟨A', c', l, rfl, hl', ho⟩ : lw5 w g w2.heap.size d m f 4 u4 v := hp 4 (by kernel_rfl) (.inr (by decide))
      have HS2 := Lib.hid HS
      have HE := Lib.hid (encode_ok hcd0.out hfm A' c' l v hl' (ho.sl (i := 0) rfl).2.2.2 (ho.sl (i := 0) rfl).2.1)
      clear HS hp
      refine wpOp_step rfl (fun K hK => ?_)
      simp only [putL, Act.put, List.setIfInBounds_toArray, List.set_cons_zero, List.set_cons_succ]
      go_simp
      refine HE.out.mono ?_
      rintro en v' ⟨Ax, nx, cx, rfl, hnx, hox, hbx⟩
      obtain rfl : d + m = nx := (by rw [← hnx, Sy.enc_length, hl'])
      refine hK _ _ ⟨.tuple #[.slice Ax (d + m) cx, .int .i64 0], ?_, ⟨HS2.out.1.go hbx, HS2.out.2.below hbx⟩, fun _ _ _ => trivial, ⟨Ax, cx, l, rfl, hl', HS2.out.1.add hox hbx⟩, fun i y _ _ _ _ h => lw5_st (fun _ _ h => h.go hbx) i y h⟩
      simp only [putL, Act.put, List.getD_cons_zero, List.getD_cons_succ, List.setIfInBounds_toArray, List.set_cons_zero, List.set_cons_succ]
    · obtain ⟨A', c', l, rfl, hl', ho⟩ : lw5 w g w2.heap.size d m f 5 u5 v := hp 5 (by kernel_rfl) (.inr (by decide))
      have HS2 := Lib.hid HS
      clear HS hp
      refine wpOp_step rfl (fun K hK => ?_)
      simp only [putL, Act.put, List.setIfInBounds_toArray, List.set_cons_zero, List.set_cons_succ]
      go_simp
      refine hK _ _ ⟨.tuple #[.slice A' (d + m) c', .int .i64 0], ?_, HS2.out, fun _ _ _ => trivial, ⟨A', c', l, rfl, hl', ho⟩, fun _ _ _ _ _ _ h => h⟩
      simp only [putL, Act.put, List.getD_cons_zero, List.getD_cons_succ, List.setIfInBounds_toArray, List.set_cons_zero, List.set_cons_succ]
    · obtain ⟨A', c', l, rfl, hl', ho⟩ : lw5 w g w2.heap.size d m f 6 u6 v := hp 6 (by kernel_rfl) (.inr (by decide))
      have HS2 := Lib.hid HS
      clear HS hp
      refine wpOp_step rfl (fun K hK => ?_)
      simp only [putL, Act.put, List.setIfInBounds_toArray, List.set_cons_zero, List.set_cons_succ]
      go_simp
      refine hK _ _ ⟨.slice A' (d + m) c', ?_, HS2.out, fun _ _ _ => trivial, ⟨A', c', l, rfl, hl', ho⟩, fun _ _ _ _ _ _ h => h⟩
      simp only [putL, Act.put, List.getD_cons_zero, List.getD_cons_succ, List.setIfInBounds_toArray, List.set_cons_zero, List.set_cons_succ]
    · obtain ⟨A', c', l, rfl, hl', ho⟩ : lw5 w g w2.heap.size d m f 6 u6 v := hp 6 (by kernel_rfl) (.inr (by decide))
      have HS2 := Lib.hid HS
      clear HS hp
      refine wpOp_step rfl (fun K hK => ?_)
      simp only [putL, Act.put, List.setIfInBounds_toArray, List.set_cons_zero, List.set_cons_succ]
      go_simp
      refine hK _ _ ⟨.int .i64 0, ?_, HS2.out, fun _ _ _ => trivial, rfl, fun _ _ _ _ _ _ h => h⟩
      simp only [putL, Act.put, List.getD_cons_zero, List.getD_cons_succ, List.setIfInBounds_toArray, List.set_cons_zero, List.set_cons_succ]
    · obtain ⟨A', c', l, rfl, hl', ho⟩ : lw5 w g w2.heap.size d m f 7 u7 v := hp 7 (by kernel_rfl) (.inr (by decide))
      have HS2 := Lib.hid HS
      clear HS hp
      refine wpOp_step rfl (fun K hK => ?_)
      simp only [putL, Act.put, List.setIfInBounds_toArray, List.set_cons_zero, List.set_cons_succ]
      go_simp
      refine hK _ _ ⟨.slice A' (d + m) c', ?_, HS2.out, fun _ _ _ => trivial, ⟨A', c', l, rfl, hl', ho⟩, fun _ _ _ _ _ _ h => h⟩
      simp only [putL, Act.put, List.getD_cons_zero, List.getD_cons_succ, List.setIfInBounds_toArray, List.set_cons_zero, List.set_cons_succ]
    · obtain rfl : u8 = .int .i64 0 := hp 8 (by kernel_rfl) (.inr (by decide))
      have HS2 := Lib.hid HS
      clear HS hp
      refine wpOp_step rfl (fun K hK => ?_)
      simp only [putL, Act.put, List.setIfInBounds_toArray, List.set_cons_zero, List.set_cons_succ]
      go_simp
      refine hK _ _ ⟨.int .i64 0, ?_, HS2.out, fun _ _ _ => trivial, rfl, fun _ _ _ _ _ _ h => h⟩
      simp only [putL, Act.put, List.getD_cons_zero, List.getD_cons_succ, List.setIfInBounds_toArray, List.set_cons_zero, List.set_cons_succ]
  · rintro us v hl HS hS hP
    replace hl : us.length = 11 := hl
    obtain ⟨u0, us0, rfl, hl0⟩ := us_cons (n := 10) hl
    obtain ⟨u1, us1, rfl, hl1⟩ := us_cons (n := 9) hl0
    obtain ⟨u2, us2, rfl, hl2⟩ := us_cons (n := 8) hl1
    obtain ⟨u3, us3, rfl, hl3⟩ := us_cons (n := 7) hl2
    obtain ⟨u4, us4, rfl, hl4⟩ := us_cons (n := 6) hl3
    obtain ⟨u5, us5, rfl, hl5⟩ := us_cons (n := 5) hl4
    obtain ⟨u6, us6, rfl, hl6⟩ := us_cons (n := 4) hl5
    obtain ⟨u7, us7, rfl, hl7⟩ := us_cons (n := 3) hl6
    obtain ⟨u8, us8, rfl, hl8⟩ := us_cons (n := 2) hl7
    obtain ⟨u9, us9, rfl, hl9⟩ := us_cons (n := 1) hl8
    obtain ⟨u10, us10, rfl, hl10⟩ := us_cons (n := 0) hl9
    obtain rfl := us_nil hl10
    clear hl hl0 hl1 hl2 hl3 hl4 hl5 hl6 hl7 hl8 hl9
    clear hS
    replace HS : Ow w v (some g) [] [] [codeR w2.heap.size d m f] ∧ Dice v g w.heap.size := HS
    obtain ⟨Aw, cw, data, rfl, hdl, hOw⟩ : lw5 w g w2.heap.size d m f 9 u9 v := hP 9 (by show 9 < 11; decide) (by decide)
    obtain rfl : u10 = .int .i64 0 := hP 10 (by show 10 < 11; decide) (by decide)
    have HDv := Lib.hid HS.2
    have HOv := Lib.hid hOw
    clear HS hP hOw HO HD
    simp only [putL, Act.put, List.setIfInBounds_toArray, List.set_cons_zero, List.set_cons_succ]
    have hgw := own_form (HOv.out.row 1 rfl) (by omega)
    obtain ⟨gw, rfl, -, -⟩ := hgw
    obtain ⟨nn, hnn⟩ : ∃ nn : Nat, Hid (nn = d + m) := ⟨_, rfl⟩
    rw [← hnn.out] at HOv ⊢
    have hnnI : (d : Int) + (m : Int) = (nn : Int) := by have := hnn.out; omega
    have hn40 : 2 ≤ nn ∧ nn ≤ 40 := by have := hnn.out; omega
    obtain ⟨hn2, hn40⟩ := hn40
    have HVl : Hid ((Sy.enc m data).length = nn) := by unfold Hid; rw [Sy.enc_length, hdl, hnn.out]
    have HVc : Hid (Sy.Cw m (Sy.enc m data)) := Sy.enc_cw m (by omega) data
    obtain ⟨V, hV⟩ : ∃ V, V = Sy.enc m data := ⟨_, rfl⟩
    rw [← hV] at HOv HVl HVc
    clear hV hdl
    go_wp2_with fail
    refine (awake07_any v).mono ?_
    rintro en w7 ⟨rfl, hb7⟩
    have HO1 := Lib.hid (HOv.out.go hb7)
    have HD1 := Lib.hid (HDv.out.below hb7)
    clear HOv HDv hb7
    obtain ⟨hc0, hc1, hc2, hc3⟩ := HO1.out.cdc 0 rfl
    obtain ⟨m1, hm1⟩ : ∃ m1 : Nat, Hid (m1 = m + 1) := ⟨_, rfl⟩
    have em1 : (m : Int) + 1 = (m1 : Int) := by have := hm1.out; omega
    have HN := Lib.hid (next_ow HO1.out HD1.out m1 (by have := hm1.out; omega) (by have := hm1.out; omega))
    go_wp2_with fail
    refine HN.out.mono ?_
    rintro en w8 ⟨mo, rfl, hmo, hd8, h8, -⟩
    have HN := Lib.hid (some_ow h8 hd8 (Nat.le_refl _) nn mo (by omega) (by have := hm1.out; omega))
    clear HO1 HD1 hd8 h8 hc0 hc1 hc2 hc3 em1
    go_wp2_with fail
    refine HN.out.mono ?_
    rintro en w9 ⟨Al, kl, cl, E, rfl, hkl, hE, h9, hd9⟩
    simp only [List.cons_append, List.nil_append] at h9
    have HE : Hid (Sy.Ers E nn m ∧ E.length = kl) := ⟨⟨hE.asc, hE.lt, Nat.le_trans hE.le (by have := hm1.out; omega)⟩, hkl⟩
    have hklm : kl ≤ m := by rw [← hkl]; exact HE.out.1.le
    have HO2 := Lib.hid h9
    have HD2 := Lib.hid hd9
    clear HN h9 hd9 hE hkl hmo hm1
    obtain ⟨hc0, hc1, hc2, hc3⟩ := HO2.out.cdc 0 rfl
    obtain ⟨q, hq⟩ : ∃ q : Nat, Hid (q = (m - kl) / 2) := ⟨_, rfl⟩
    have eq : ((m : Int) - (kl : Int)) / 2 = (q : Int) := by have := hq.out; omega
    obtain ⟨mn, hmn⟩ : ∃ mn : Nat, Hid ((if q < f then (q : Int) else (f : Int)) = (mn : Int)) := ⟨min f q, by unfold Hid; split <;> omega⟩
    have hmn2 : Hid (mn = min f ((m - E.length) / 2)) := by have h1 := hmn.out; have h2 := hq.out; unfold Hid; rw [HE.out.2]; split at h1 <;> omega
    go_upto_region 11 with (fail)
    rw [hmn.out]
    clear hmn eq hq hc0 hc1 hc2 hc3
    have hmn3 : 2 * mn + kl ≤ m := by have h1 := hmn2.out; have h2 := HE.out.2; omega
    have hmk := elemBl.make .i64 .i64 (nn : Int) (nn : Int) nn nn rfl rfl (Nat.le_refl _) (by omega) (by omega) w9
    have h3 := HO2.out.made 4 (.bool false) nn nn rfl (Nat.le_refl _) (by unfold maxLen; omega)
    simp only [List.cons_append, List.nil_append, bls_zeros] at h3
    have HD3 := Lib.hid (HD2.out.alloc1 (.cells (madeCells #[.bool false] nn) 4))
    have HO3 := Lib.hid h3
    clear h3 HO2 HD2
    go_wp2_with fail
    go_loopw [11] (fun x wr => RNot1 w g w2.heap.size d m f gw nn cw Al kl cl w9.heap.size V E x wr) (fun x _ => kl - (intOf x).toNat)
    case atStart => exact ⟨0, V, List.replicate nn false, Nat.zero_le _, rfl, ⟨HVl.out, fun _ _ => rfl, List.length_replicate, fun p hp => by rw [List.getElem?_replicate, if_pos hp]; rfl⟩, HO3.out, HD3.out⟩
    case round =>
      obtain ⟨i, W, B, hi, rfl, HF, HOr, HDr⟩ := hrel
      clear HO3 HD3 hmk
      rcases Nat.lt_or_ge i kl with hik | hik
      · have t1 : decide ((i : Int) < (kl : Int)) = true := decide_eq_true (by omega)
        obtain ⟨p, hp⟩ : ∃ p, E[i]? = some p := ⟨_, List.getElem?_eq_getElem (by rw [HE.out.2]; exact hik)⟩
        have hpn : p < nn := HE.out.1.lt p (List.mem_of_getElem? hp)
        have hEi := Lib.hid hp
        obtain ⟨gl, rfl, -, -⟩ := own_form (HOr.out.row 2 rfl) (by omega)
        have hxl := HOr.out.natO 2 rfl hp
        obtain ⟨b0, hb0⟩ : ∃ b0, B[p]? = some b0 := ⟨_, List.getElem?_eq_getElem (by rw [HF.out.2.2.1]; exact hpn)⟩
        have hxb := HOr.out.valO 3 rfl (bls_at hb0)
        have hfb := HOr.out.frzO 3 (vs := _) rfl p
        have G := HOr.out.put 3 rfl p (.bool true)
        have GD := Lib.hid (HDr.out.turned (Nat.le_refl _) HOr.out (i := 3) rfl (grown_set wr ⟨w9.heap.size, p, none⟩ (.bool true)))
        rw [bls_set] at G
        have HG := Lib.hid G
        have HF2 : Hid (W.length = nn ∧ Sy.Off E V W ∧ (B.set p true).length = nn ∧ ∀ q, q < nn → (B.set p true)[q]? = some ((E.take (i + 1)).contains q)) := ⟨HF.out.1, HF.out.2.1, by rw [List.length_set]; exact HF.out.2.2.1, fun q hq => by
          rw [List.getElem?_set]
          have e : E.take (i + 1) = E.take i ++ [p] := by rw [List.take_add_one, hp]; rfl
          rw [e]
          by_cases h : p = q
          · subst h
            rw [if_pos rfl, if_pos (by rw [HF.out.2.2.1]; exact hq)]
            simp
          · rw [if_neg h, HF.out.2.2.2 q hq]
            have h' : ¬ q = p := fun e => h e.symm
            simp [h']⟩
        have HD0 := Lib.hid HDr.out
        clear hb0 G HF hp
        go_upto_region 16 with (fail)
        generalize hw3 : World.setCell wr ⟨w9.heap.size, p, none⟩ _ = w10
        have HOr' := HG.out
        have HDr' := GD.out
        rw [hw3] at HOr' HDr'
        have HOr := Lib.hid HOr'
        have HDr := Lib.hid HDr'
        have hWl : Hid (W.length = nn) := HF2.out.1
        clear hw3 HG GD HOr' HDr' hxl hxb hfb HD0
        refine reg_monoT [some 84, some 85, some 86, some 87, some 88, some 89, some 90, some 91, some 92, none] (fun v => True) (fun v => Ow w v (some g) [] [] [codeR w2.heap.size d m f, ⟨some ⟨gw, 0, none⟩, nn, cw, 5, bys W⟩, ⟨some ⟨gl, 0, none⟩, kl, cl, 3, nats E⟩, ⟨some ⟨w9.heap.size, 0, none⟩, nn, nn, 4, bls (B.set p true)⟩] ∧ Dice v g w.heap.size) 9 (fun _ => 10) (lwS w g w.heap.size gw nn cw gl kl cl i p (fun b => [codeR w2.heap.size d m f, ⟨some ⟨gw, 0, none⟩, nn, cw, 5, bys (W.set p b)⟩, ⟨some ⟨gl, 0, none⟩, kl, cl, 3, nats E⟩, ⟨some ⟨w9.heap.size, 0, none⟩, nn, nn, 4, bls (B.set p true)⟩])) (by kernel_rfl) (by kernel_rfl) (by kernel_rfl) ?_ ?_ ?_ ?_
        · exact trivial
        · exact ⟨HOr.out.drew, HDr.out.drew⟩
        · rintro j us v hj hl HS hS hp
          replace hl : us.length = 10 := hl
          obtain ⟨u0, us0, rfl, hl0⟩ := us_cons (n := 9) hl
          obtain ⟨u1, us1, rfl, hl1⟩ := us_cons (n := 8) hl0
          obtain ⟨u2, us2, rfl, hl2⟩ := us_cons (n := 7) hl1
          obtain ⟨u3, us3, rfl, hl3⟩ := us_cons (n := 6) hl2
          obtain ⟨u4, us4, rfl, hl4⟩ := us_cons (n := 5) hl3
          obtain ⟨u5, us5, rfl, hl5⟩ := us_cons (n := 4) hl4
          obtain ⟨u6, us6, rfl, hl6⟩ := us_cons (n := 3) hl5
          obtain ⟨u7, us7, rfl, hl7⟩ := us_cons (n := 2) hl6
          obtain ⟨u8, us8, rfl, hl8⟩ := us_cons (n := 1) hl7
          obtain ⟨u9, us9, rfl, hl9⟩ := us_cons (n := 0) hl8
          obtain rfl := us_nil hl9
          clear hl hl0 hl1 hl2 hl3 hl4 hl5 hl6 hl7 hl8
          have hj' : j < 10 := hj
          have hcase : j = 0 ∨ j = 1 ∨ j = 2 ∨ j = 3 ∨ j = 4 ∨ j = 5 ∨ j = 6 ∨ j = 7 ∨ j = 8 ∨ j = 9 := by omega
          clear hj hj'
          replace HS : True := HS
          rcases hcase with rfl | rfl | rfl | rfl | rfl | rfl | rfl | rfl | rfl | rfl
          · have HS2 := Lib.hid (hS (.inl (by kernel_rfl)))
            clear HS hS hp
            refine wpOp_step rfl (fun K hK => ?_)
            simp only [putL, Act.put, List.setIfInBounds_toArray, List.set_cons_zero, List.set_cons_succ]
            go_simp
            refine hK _ _ ⟨.slice (some ⟨gw, 0, none⟩) nn cw, ?_, trivial, fun _ _ h => h, rfl, fun _ _ _ _ _ _ h => h⟩
            simp only [putL, Act.put, List.getD_cons_zero, List.setIfInBounds_toArray, List.set_cons_zero, List.set_cons_succ]
          · have HS2 := Lib.hid (hS (.inl (by kernel_rfl)))
            clear HS hS hp
            refine wpOp_step rfl (fun K hK => ?_)
            simp only [putL, Act.put, List.setIfInBounds_toArray, List.set_cons_zero, List.set_cons_succ]
            go_simp
            refine hK _ _ ⟨.slice (some ⟨gl, 0, none⟩) kl cl, ?_, trivial, fun _ _ h => h, rfl, fun _ _ _ _ _ _ h => h⟩
            simp only [putL, Act.put, List.getD_cons_zero, List.getD_cons_succ, List.setIfInBounds_toArray, List.set_cons_zero, List.set_cons_succ]
          · have HS2 := Lib.hid (hS (.inl (by kernel_rfl)))
            clear HS hS hp
            refine wpOp_step rfl (fun K hK => ?_)
            simp only [putL, Act.put, List.setIfInBounds_toArray, List.set_cons_zero, List.set_cons_succ]
            go_simp
            refine hK _ _ ⟨.int .i64 (i : Int), ?_, trivial, fun _ _ h => h, rfl, fun _ _ _ _ _ _ h => h⟩
            simp only [putL, Act.put, List.getD_cons_zero, List.getD_cons_succ, List.setIfInBounds_toArray, List.set_cons_zero, List.set_cons_succ]
          · obtain rfl : u1 = .slice (some ⟨gl, 0, none⟩) kl cl := hp 1 (by kernel_rfl) (.inr (by decide))
            obtain rfl : u2 = .int .i64 (i : Int) := hp 2 (by kernel_rfl) (.inr (by decide))
            have HS2 := Lib.hid (hS (.inl (by kernel_rfl)))
            clear HS hS hp
            refine wpOp_step rfl (fun K hK => ?_)
            simp only [putL, Act.put, List.setIfInBounds_toArray, List.set_cons_zero, List.set_cons_succ]
            go_simp
            refine hK _ _ ⟨.pointer (some ⟨gl, i, none⟩), ?_, trivial, fun _ _ h => h, rfl, fun _ _ _ _ _ _ h => h⟩
            simp only [putL, Act.put, List.getD_cons_zero, List.getD_cons_succ, List.setIfInBounds_toArray, List.set_cons_zero, List.set_cons_succ]
          · obtain rfl : u3 = .pointer (some ⟨gl, i, none⟩) := hp 3 (by kernel_rfl) (.inr (by decide))
            have HS2 := Lib.hid (hS (.inl (by kernel_rfl)))
            clear HS hS hp
            have hx := HS2.out.1.natO 2 rfl hEi.out
            refine wpOp_step rfl (fun K hK => ?_)
            simp only [putL, Act.put, List.setIfInBounds_toArray, List.set_cons_zero, List.set_cons_succ]
            go_simp
            refine hK _ _ ⟨.int .i64 (p : Int), ?_, trivial, fun _ _ h => h, rfl, fun _ _ _ _ _ _ h => h⟩
            simp only [putL, Act.put, List.getD_cons_zero, List.getD_cons_succ, List.setIfInBounds_toArray, List.set_cons_zero, List.set_cons_succ]
          · have HS2 := Lib.hid (hS (.inl (by kernel_rfl)))
            clear HS hS hp
            refine wpOp_step rfl (fun K hK => ?_)
            simp only [putL, Act.put, List.setIfInBounds_toArray, List.set_cons_zero, List.set_cons_succ]
            go_simp
            refine hK _ _ ⟨.pointer (some ⟨g, 0, none⟩), ?_, trivial, fun _ _ h => h, rfl, fun _ _ _ _ _ _ h => h⟩
            simp only [putL, Act.put, List.getD_cons_zero, List.getD_cons_succ, List.setIfInBounds_toArray, List.set_cons_zero, List.set_cons_succ]
          · obtain rfl : u5 = .pointer (some ⟨g, 0, none⟩) := hp 5 (by kernel_rfl) (.inr (by decide))
            have HS2 := Lib.hid (hS (.inl (by kernel_rfl)))
            clear HS hS hp
            refine wpOp_step rfl (fun K hK => ?_)
            simp only [putL, Act.put, List.setIfInBounds_toArray, List.set_cons_zero, List.set_cons_succ]
            go_simp
            refine (next_ow HS2.out.1 HS2.out.2 256 (by omega) (by omega)).mono ?_
            rintro en v' ⟨r, rfl, hr, hd', ho, hg⟩
            obtain ⟨b, hb⟩ := byte_of hr
            rw [hb]
            refine hK _ _ ⟨.int .i64 (b.toNat : Int), ?_, trivial, fun _ _ _ => ⟨ho, hd'⟩, ⟨b, rfl⟩, fun k y _ _ ha _ h => ?_⟩
            · simp only [putL, Act.put, List.getD_cons_zero, List.getD_cons_succ, List.setIfInBounds_toArray, List.set_cons_zero, List.set_cons_succ]
            by_cases hk9 : k = 9
            · subst hk9; exact absurd (ha.symm.trans (show _ = true by kernel_rfl)) (by decide)
            · exact lwS_any k y hk9 h
          · obtain ⟨b, rfl⟩ : lwS w g w.heap.size gw nn cw gl kl cl i p (fun b => [codeR w2.heap.size d m f, ⟨some ⟨gw, 0, none⟩, nn, cw, 5, bys (W.set p b)⟩, ⟨some ⟨gl, 0, none⟩, kl, cl, 3, nats E⟩, ⟨some ⟨w9.heap.size, 0, none⟩, nn, nn, 4, bls (B.set p true)⟩]) 6 u6 v := hp 6 (by kernel_rfl) (.inr (by decide))
            have hwb : IntKind.u8.wrap (b.toNat : Int) = (b.toNat : Int) := IntWalk.u8_in _ (by have := u8_lt' b; omega)
            have HS2 := Lib.hid (hS (.inl (by kernel_rfl)))
            clear HS hS hp
            refine wpOp_step rfl (fun K hK => ?_)
            simp only [putL, Act.put, List.setIfInBounds_toArray, List.set_cons_zero, List.set_cons_succ]
            go_simp
            refine hK _ _ ⟨.int .u8 (b.toNat : Int), ?_, trivial, fun _ _ h => h, ⟨b, rfl⟩, fun _ _ _ _ _ _ h => h⟩
            simp only [putL, Act.put, List.getD_cons_zero, List.getD_cons_succ, List.setIfInBounds_toArray, List.set_cons_zero, List.set_cons_succ]
          · obtain rfl : u0 = .slice (some ⟨gw, 0, none⟩) nn cw := hp 0 (by kernel_rfl) (.inr (by decide))
            obtain rfl : u4 = .int .i64 (p : Int) := hp 4 (by kernel_rfl) (.inr (by decide))
            have HS2 := Lib.hid (hS (.inl (by kernel_rfl)))
            clear HS hS hp
            refine wpOp_step rfl (fun K hK => ?_)
            simp only [putL, Act.put, List.setIfInBounds_toArray, List.set_cons_zero, List.set_cons_succ]
            go_simp
            refine hK _ _ ⟨.pointer (some ⟨gw, p, none⟩), ?_, trivial, fun _ _ h => h, rfl, fun _ _ _ _ _ _ h => h⟩
            simp only [putL, Act.put, List.getD_cons_zero, List.getD_cons_succ, List.setIfInBounds_toArray, List.set_cons_zero, List.set_cons_succ]
          · obtain ⟨b, rfl⟩ : lwS w g w.heap.size gw nn cw gl kl cl i p (fun b => [codeR w2.heap.size d m f, ⟨some ⟨gw, 0, none⟩, nn, cw, 5, bys (W.set p b)⟩, ⟨some ⟨gl, 0, none⟩, kl, cl, 3, nats E⟩, ⟨some ⟨w9.heap.size, 0, none⟩, nn, nn, 4, bls (B.set p true)⟩]) 7 u7 v := hp 7 (by kernel_rfl) (.inr (by decide))
            obtain rfl : u8 = .pointer (some ⟨gw, p, none⟩) := hp 8 (by kernel_rfl) (.inr (by decide))
            have HS2 := Lib.hid (hS (.inr (.inl rfl)))
            clear HS hS hp
            obtain ⟨x0, hx0⟩ : ∃ x0, W[p]? = some x0 := ⟨_, List.getElem?_eq_getElem (by rw [hWl.out]; exact hpn)⟩
            have hcl := HS2.out.1.byteO 1 rfl hx0
            have hfr := HS2.out.1.frzO 1 (vs := _) rfl p
            have G := HS2.out.1.putB 1 rfl p b
            have GD := HS2.out.2.turned (Nat.le_refl _) HS2.out.1 (i := 1) rfl (grown_set v ⟨gw, p, none⟩ (.int .u8 (b.toNat : Int)))
            clear hx0
            refine wpOp_step rfl (fun K hK => ?_)
            simp only [putL, Act.put, List.setIfInBounds_toArray, List.set_cons_zero, List.set_cons_succ]
            go_simp
            refine hK _ _ ⟨undef, ?_, trivial, fun h => absurd rfl h, ⟨b, G, GD⟩, fun k y hk _ _ _ h => lwS_any k y hk h⟩
            simp only [putL, Act.put, List.getD_cons_zero, List.getD_cons_succ, List.setIfInBounds_toArray, List.set_cons_zero, List.set_cons_succ]
        · rintro us v hl HS hS hP
          replace hl : us.length = 10 := hl
          obtain ⟨u0, us0, rfl, hl0⟩ := us_cons (n := 9) hl
          obtain ⟨u1, us1, rfl, hl1⟩ := us_cons (n := 8) hl0
          obtain ⟨u2, us2, rfl, hl2⟩ := us_cons (n := 7) hl1
          obtain ⟨u3, us3, rfl, hl3⟩ := us_cons (n := 6) hl2
          obtain ⟨u4, us4, rfl, hl4⟩ := us_cons (n := 5) hl3
          obtain ⟨u5, us5, rfl, hl5⟩ := us_cons (n := 4) hl4
          obtain ⟨u6, us6, rfl, hl6⟩ := us_cons (n := 3) hl5
          obtain ⟨u7, us7, rfl, hl7⟩ := us_cons (n := 2) hl6
          obtain ⟨u8, us8, rfl, hl8⟩ := us_cons (n := 1) hl7
          obtain ⟨u9, us9, rfl, hl9⟩ := us_cons (n := 0) hl8
          obtain rfl := us_nil hl9
          clear hl hl0 hl1 hl2 hl3 hl4 hl5 hl6 hl7 hl8
          clear hS
          replace HS : True := HS
          obtain ⟨b, hGo, hGd⟩ : lwS w g w.heap.size gw nn cw gl kl cl i p (fun b => [codeR w2.heap.size d m f, ⟨some ⟨gw, 0, none⟩, nn, cw, 5, bys (W.set p b)⟩, ⟨some ⟨gl, 0, none⟩, kl, cl, 3, nats E⟩, ⟨some ⟨w9.heap.size, 0, none⟩, nn, nn, 4, bls (B.set p true)⟩]) 9 u9 v := hP 9 (by show 9 < 10; decide) (by decide)
          have HOs := Lib.hid hGo
          have HDs := Lib.hid hGd
          clear HS hP hGo hGd
          simp only [putL, Act.put, List.setIfInBounds_toArray, List.set_cons_zero, List.set_cons_succ]
          go_wp2_with fail
          go_roundw
          case rel => exact ⟨i + 1, W.set p b, B.set p true, by omega, by go_num, ⟨by rw [List.length_set]; exact HF2.out.1, HF2.out.2.1.set (List.mem_of_getElem? hEi.out) b, HF2.out.2.2⟩, HOs.out, HDs.out⟩
          case measure => simp [intOf]; omega
      · have t1 : decide ((i : Int) < (kl : Int)) = false := decide_eq_false (by omega)
        have hik' : i = kl := by omega
        subst hik'
        have HF2 : Hid (W.length = nn ∧ Sy.oth nn E V W = 0 ∧ B.length = nn ∧ ∀ p, p < nn → ∃ b, B[p]? = some b ∧ (b = false → p ∉ E ∧ Sy.wd W p = Sy.wd V p)) := ⟨HF.out.1, Sy.oth_off HF.out.2.1, HF.out.2.2.1, fun p hp => ⟨_, HF.out.2.2.2 p hp, fun h => by
          rw [List.take_of_length_le (by rw [HE.out.2]; exact Nat.le_refl _)] at h
          have h5 : p ∉ E := fun hm => by rw [List.contains_iff_mem.2 hm] at h; cases h
          exact ⟨h5, HF.out.2.1 p h5⟩⟩⟩
        have HN := Lib.hid (next_ow HOr.out HDr.out nn (by omega) (by omega))
        clear HF hik
        go_wp2_with fail
        refine HN.out.mono ?_
        rintro en w11 ⟨fr, rfl, hfr, hd11, h11, -⟩
        have HO4 := Lib.hid h11
        have HD4 := Lib.hid hd11
        clear HN HOr HDr hd11 h11
        go_wp2_with fail
        go_loopw [12, 14, 15] (fun x12 x14 x15 wr => RNot2 w g w2.heap.size d m f gw nn cw Al i cl w9.heap.size mn V E x12 x14 wr) (fun _ x _ _ => nn - (intOf x).toNat)
        case atStart => exact ⟨0, 0, W, B, Nat.zero_le _, by omega, rfl, rfl, HF2, HO4.out, HD4.out⟩
        case round =>
          obtain ⟨k, j, W, B, hj, hk, rfl, rfl, HF, HOr, HDr⟩ := hrel
          clear HO4 HD4 HF2
          obtain ⟨hc0, hc1, hc2, hc3⟩ := HOr.out.cdc 0 rfl
          rcases Nat.lt_or_ge j nn with hjn | hjn
          · have t1 : decide ((j : Int) < (nn : Int)) = true := decide_eq_true (by omega)
            rcases Nat.lt_or_ge (k + mn + i) m with hkm | hkm
            · have t2 : decide ((k : Int) < (m : Int) - (mn : Int) - (i : Int)) = true := decide_eq_true (by omega)
              have hat1 : (fr + 3 * j) % nn < nn := Nat.mod_lt _ (by omega)
              have hat2 : (fr + j) % nn < nn := Nat.mod_lt _ (by omega)
              obtain ⟨at1, ha1⟩ : ∃ a : Nat, Hid (a = (fr + 3 * j) % nn) := ⟨_, rfl⟩
              obtain ⟨at2, ha2⟩ : ∃ a : Nat, Hid (a = (fr + j) % nn) := ⟨_, rfl⟩
              have ea1 : ((fr : Int) + 3 * (j : Int)) % (nn : Int) = (at1 : Int) := by rw [ha1.out, Int.natCast_emod]; push_cast; rfl
              have ea2 : ((fr : Int) + (j : Int)) % (nn : Int) = (at2 : Int) := by rw [ha2.out, Int.natCast_emod]; push_cast; rfl
              rw [← ha1.out] at hat1
              rw [← ha2.out] at hat2
              obtain ⟨at0, h0n, h0⟩ : ∃ a : Nat, a < nn ∧ ((a = at2 ∧ nn % 3 = 0) ∨ (a = at1 ∧ nn % 3 ≠ 0)) := by
                rcases Nat.eq_zero_or_pos (nn % 3) with h | h
                · exact ⟨at2, hat2, .inl ⟨rfl, h⟩⟩
                · exact ⟨at1, hat1, .inr ⟨rfl, by omega⟩⟩
              rcases h0 with ⟨h0, h3⟩ | ⟨h0, h3⟩
              · have t3 : ((nn : Int) % 3 == 0) = true := beq_iff_eq.2 (by omega)
                have t3b : decide (nn % 3 = 0) = true := decide_eq_true h3
                have t3c : (nn % 3 == 0) = true := beq_iff_eq.2 h3
                clear h3
                rw [← h0] at ea2
                clear h0 ha1 ha2 hat1 hat2
                go_upto_region 25 with (fail)
                rw [ea2]
                clear t3 t3b t3c ea1 ea2
                obtain ⟨bt, hB0, hbf⟩ := HF.out.2.2.2 at0 h0n
                have hxb := HOr.out.valO 3 rfl (bls_at hB0)
                cases bt with
                | true =>
                  clear hB0 hbf
                  go_wp2_with fail
                  go_roundw
                  case rel => exact ⟨k, j + 1, W, B, by omega, hk, rfl, by go_num, HF.out, HOr.out, HDr.out⟩
                  case measure => simp [intOf]; omega
                | false =>
                  rcases Nat.lt_or_ge mn k with hmk | hmk
                  · have t4 : decide ((k : Int) > (mn : Int)) = true := decide_eq_true (by omega)
                    have t5 : decide ((mn : Int) < (k : Int)) = true := decide_eq_true (by omega)
                    have HN := Lib.hid (one_ow HOr.out HDr.out 4 (by omega) (by omega))
                    have HB0 := Lib.hid hB0
                    have HBf := Lib.hid hbf
                    clear hB0 hbf
                    go_wp2_with fail
                    refine HN.out.mono ?_
                    rintro en w20 ⟨q4, rfl, hd20, h20⟩
                    have HOr := Lib.hid h20
                    have HDr := Lib.hid hd20
                    clear HN hd20 h20 hxb t4 t5 hc0 hc1 hc2 hc3
                    cases q4 with
                    | true =>
                      go_wp2_with fail
                      go_roundw
                      case rel => exact ⟨k, j + 1, W, B, by omega, hk, rfl, by go_num, HF.out, HOr.out, HDr.out⟩
                      case measure => simp [intOf]; omega
                    | false =>
                      have hB0 := HB0.out
                      have hbf := HBf.out
                      clear HB0 HBf
                      have hxb := HOr.out.valO 3 rfl (bls_at hB0)
                      have hfb := HOr.out.frzO 3 (vs := _) rfl at0
                      have G := HOr.out.put 3 rfl at0 (.bool true)
                      have GD := Lib.hid (HDr.out.turned (Nat.le_refl _) HOr.out (i := 3) rfl (grown_set w20 ⟨w9.heap.size, at0, none⟩ (.bool true)))
                      rw [bls_set] at G
                      have HG := Lib.hid G
                      have hx0 : Hid (W[at0]? = some (Sy.wd W at0)) := Sy.wd_lt (by rw [HF.out.1]; exact h0n)
                      have HF3 : Hid (∀ c : UInt8, c ≠ 0 → (W.set at0 (Sy.wd W at0 ^^^ c)).length = nn ∧ Sy.oth nn E V (W.set at0 (Sy.wd W at0 ^^^ c)) = k + 1 ∧ (B.set at0 true).length = nn ∧ ∀ p, p < nn → ∃ b, (B.set at0 true)[p]? = some b ∧ (b = false → p ∉ E ∧ Sy.wd (W.set at0 (Sy.wd W at0 ^^^ c)) p = Sy.wd V p)) := fun c hc => by
                        obtain ⟨f1, f2, f3, f4⟩ := HF.out
                        obtain ⟨hbE, hbV⟩ := hbf (by first | trivial | rfl)
                        refine ⟨by rw [List.length_set]; exact f1, by rw [Sy.oth_set f1.symm h0n hbE hbV hc, f2], by rw [List.length_set]; exact f3, fun p hp => ?_⟩
                        by_cases h : at0 = p
                        · subst h
                          exact ⟨true, by rw [List.getElem?_set_self (by omega)], fun h => by cases h⟩
                        · obtain ⟨b, h1, h2⟩ := f4 p hp
                          exact ⟨b, by rw [List.getElem?_set_ne h]; exact h1, fun h3 => ⟨(h2 h3).1, by rw [Sy.wd_set_ne h]; exact (h2 h3).2⟩⟩
                      generalize Sy.wd W at0 = x0 at hx0 HF3
                      have HOr0 := Lib.hid HOr.out
                      clear hB0 G hbf
                      go_upto_region 27 with (fail)
                      generalize hw3 : World.setCell w20 ⟨w9.heap.size, at0, none⟩ _ = w10
                      have HOr' := HG.out
                      have HDr' := GD.out
                      rw [hw3] at HOr' HDr'
                      have HOr := Lib.hid HOr'
                      have HDr := Lib.hid HDr'
                      clear hw3 HG GD HOr' HDr' hxb hfb HOr0
                      refine reg_monoT [some 142, some 143, some 144, some 145, some 146, some 147, some 148, some 149, some 150, some 151, none] (fun v => True) (fun v => Ow w v (some g) [] [] [codeR w2.heap.size d m f, ⟨some ⟨gw, 0, none⟩, nn, cw, 5, bys W⟩, ⟨Al, i, cl, 3, nats E⟩, ⟨some ⟨w9.heap.size, 0, none⟩, nn, nn, 4, bls (B.set at0 true)⟩] ∧ Dice v g w.heap.size) 10 (fun _ => 11) (lwX w g w.heap.size gw nn cw at0 x0 (fun b => [codeR w2.heap.size d m f, ⟨some ⟨gw, 0, none⟩, nn, cw, 5, bys (W.set at0 b)⟩, ⟨Al, i, cl, 3, nats E⟩, ⟨some ⟨w9.heap.size, 0, none⟩, nn, nn, 4, bls (B.set at0 true)⟩])) (by kernel_rfl) (by kernel_rfl) (by kernel_rfl) ?_ ?_ ?_ ?_
                      · exact trivial
                      · exact ⟨HOr.out.drew, HDr.out.drew⟩
                      · rintro j us v hj hl HS hS hp
                        replace hl : us.length = 11 := hl
                        obtain ⟨u0, us0, rfl, hl0⟩ := us_cons (n := 10) hl
                        obtain ⟨u1, us1, rfl, hl1⟩ := us_cons (n := 9) hl0
                        obtain ⟨u2, us2, rfl, hl2⟩ := us_cons (n := 8) hl1
                        obtain ⟨u3, us3, rfl, hl3⟩ := us_cons (n := 7) hl2
                        obtain ⟨u4, us4, rfl, hl4⟩ := us_cons (n := 6) hl3
                        obtain ⟨u5, us5, rfl, hl5⟩ := us_cons (n := 5) hl4
                        obtain ⟨u6, us6, rfl, hl6⟩ := us_cons (n := 4) hl5
                        obtain ⟨u7, us7, rfl, hl7⟩ := us_cons (n := 3) hl6
                        obtain ⟨u8, us8, rfl, hl8⟩ := us_cons (n := 2) hl7
                        obtain ⟨u9, us9, rfl, hl9⟩ := us_cons (n := 1) hl8
                        obtain ⟨u10, us10, rfl, hl10⟩ := us_cons (n := 0) hl9
                        obtain rfl := us_nil hl10
                        clear hl hl0 hl1 hl2 hl3 hl4 hl5 hl6 hl7 hl8 hl9
                        have hj' : j < 11 := hj
                        have hcase : j = 0 ∨ j = 1 ∨ j = 2 ∨ j = 3 ∨ j = 4 ∨ j = 5 ∨ j = 6 ∨ j = 7 ∨ j = 8 ∨ j = 9 ∨ j = 10 := by omega
                        clear hj hj'
                        replace HS : True := HS
                        rcases hcase with rfl | rfl | rfl | rfl | rfl | rfl | rfl | rfl | rfl | rfl | rfl
                        · have HS2 := Lib.hid (hS (.inl (by kernel_rfl)))
                          clear HS hS hp
                          refine wpOp_step rfl (fun K hK => ?_)
                          simp only [putL, Act.put, List.setIfInBounds_toArray, List.set_cons_zero, List.set_cons_succ]
                          go_simp
                          refine hK _ _ ⟨.slice (some ⟨gw, 0, none⟩) nn cw, ?_, trivial, fun _ _ h => h, rfl, fun _ _ _ _ _ _ h => h⟩
                          simp only [putL, Act.put, List.getD_cons_zero, List.setIfInBounds_toArray, List.set_cons_zero, List.set_cons_succ]
                        · have HS2 := Lib.hid (hS (.inl (by kernel_rfl)))
                          clear HS hS hp
                          refine wpOp_step rfl (fun K hK => ?_)
                          simp only [putL, Act.put, List.setIfInBounds_toArray, List.set_cons_zero, List.set_cons_succ]
                          go_simp
                          refine hK _ _ ⟨.int .i64 (at0 : Int), ?_, trivial, fun _ _ h => h, rfl, fun _ _ _ _ _ _ h => h⟩
                          simp only [putL, Act.put, List.getD_cons_zero, List.getD_cons_succ, List.setIfInBounds_toArray, List.set_cons_zero, List.set_cons_succ]
                        · obtain rfl : u0 = .slice (some ⟨gw, 0, none⟩) nn cw := hp 0 (by kernel_rfl) (.inr (by decide))
                          obtain rfl : u1 = .int .i64 (at0 : Int) := hp 1 (by kernel_rfl) (.inr (by decide))
                          have HS2 := Lib.hid (hS (.inl (by kernel_rfl)))
                          clear HS hS hp
                          refine wpOp_step rfl (fun K hK => ?_)
                          simp only [putL, Act.put, List.setIfInBounds_toArray, List.set_cons_zero, List.set_cons_succ]
                          go_simp
                          refine hK _ _ ⟨.pointer (some ⟨gw, at0, none⟩), ?_, trivial, fun _ _ h => h, rfl, fun _ _ _ _ _ _ h => h⟩
                          simp only [putL, Act.put, List.getD_cons_zero, List.getD_cons_succ, List.setIfInBounds_toArray, List.set_cons_zero, List.set_cons_succ]
                        · obtain rfl : u2 = .pointer (some ⟨gw, at0, none⟩) := hp 2 (by kernel_rfl) (.inr (by decide))
                          have HS2 := Lib.hid (hS (.inl (by kernel_rfl)))
                          clear HS hS hp
                          have hx := HS2.out.1.byteO 1 rfl hx0.out
                          refine wpOp_step rfl (fun K hK => ?_)
                          simp only [putL, Act.put, List.setIfInBounds_toArray, List.set_cons_zero, List.set_cons_succ]
                          go_simp
                          refine hK _ _ ⟨.int .u8 (x0.toNat : Int), ?_, trivial, fun _ _ h => h, rfl, fun _ _ _ _ _ _ h => h⟩
                          simp only [putL, Act.put, List.getD_cons_zero, List.getD_cons_succ, List.setIfInBounds_toArray, List.set_cons_zero, List.set_cons_succ]
                        · have HS2 := Lib.hid (hS (.inl (by kernel_rfl)))
                          clear HS hS hp
                          refine wpOp_step rfl (fun K hK => ?_)
                          simp only [putL, Act.put, List.setIfInBounds_toArray, List.set_cons_zero, List.set_cons_succ]
                          go_simp
                          refine hK _ _ ⟨.pointer (some ⟨g, 0, none⟩), ?_, trivial, fun _ _ h => h, rfl, fun _ _ _ _ _ _ h => h⟩
                          simp only [putL, Act.put, List.getD_cons_zero, List.getD_cons_succ, List.setIfInBounds_toArray, List.set_cons_zero, List.set_cons_succ]
                        · obtain rfl : u4 = .pointer (some ⟨g, 0, none⟩) := hp 4 (by kernel_rfl) (.inr (by decide))
                          have HS2 := Lib.hid (hS (.inl (by kernel_rfl)))
                          clear HS hS hp
                          refine wpOp_step rfl (fun K hK => ?_)
                          simp only [putL, Act.put, List.setIfInBounds_toArray, List.set_cons_zero, List.set_cons_succ]
                          go_simp
                          refine (next_ow HS2.out.1 HS2.out.2 255 (by omega) (by omega)).mono ?_
                          rintro en v' ⟨r, rfl, hr, hd', ho, hg⟩
                          refine hK _ _ ⟨.int .i64 (r : Int), ?_, trivial, fun _ _ _ => ⟨ho, hd'⟩, ⟨r, hr, rfl⟩, fun k y _ _ ha _ h => ?_⟩
                          · simp only [putL, Act.put, List.getD_cons_zero, List.getD_cons_succ, List.setIfInBounds_toArray, List.set_cons_zero, List.set_cons_succ]
                          by_cases hk9 : k = 10
                          · subst hk9; exact absurd (ha.symm.trans (show _ = true by kernel_rfl)) (by decide)
                          · exact lwX_any k y hk9 h
                        · obtain ⟨r, hr, rfl⟩ : lwX w g w.heap.size gw nn cw at0 x0 (fun b => [codeR w2.heap.size d m f, ⟨some ⟨gw, 0, none⟩, nn, cw, 5, bys (W.set at0 b)⟩, ⟨Al, i, cl, 3, nats E⟩, ⟨some ⟨w9.heap.size, 0, none⟩, nn, nn, 4, bls (B.set at0 true)⟩]) 5 u5 v := hp 5 (by kernel_rfl) (.inr (by decide))
                          obtain ⟨b, hb0, hb⟩ := byte_suc hr
                          have hbI := Lib.hid hb
                          clear hb
                          have HS2 := Lib.hid (hS (.inl (by kernel_rfl)))
                          clear HS hS hp
                          refine wpOp_step rfl (fun K hK => ?_)
                          simp only [putL, Act.put, List.setIfInBounds_toArray, List.set_cons_zero, List.set_cons_succ]
                          go_simp
                          rw [hbI.out, IntWalk.i64_in (b.toNat : Int) (by have := u8_lt' b; omega)]
                          refine hK _ _ ⟨.int .i64 (b.toNat : Int), ?_, trivial, fun _ _ h => h, ⟨b, hb0, rfl⟩, fun _ _ _ _ _ _ h => h⟩
                          simp only [putL, Act.put, List.getD_cons_zero, List.getD_cons_succ, List.setIfInBounds_toArray, List.set_cons_zero, List.set_cons_succ]
                        · obtain ⟨b, hb0, rfl⟩ : lwX w g w.heap.size gw nn cw at0 x0 (fun b => [codeR w2.heap.size d m f, ⟨some ⟨gw, 0, none⟩, nn, cw, 5, bys (W.set at0 b)⟩, ⟨Al, i, cl, 3, nats E⟩, ⟨some ⟨w9.heap.size, 0, none⟩, nn, nn, 4, bls (B.set at0 true)⟩]) 6 u6 v := hp 6 (by kernel_rfl) (.inr (by decide))
                          have hwb : IntKind.u8.wrap (b.toNat : Int) = (b.toNat : Int) := IntWalk.u8_in _ (by have := u8_lt' b; omega)
                          have HB0 := Lib.hid hb0
                          clear hb0
                          have HS2 := Lib.hid (hS (.inl (by kernel_rfl)))
                          clear HS hS hp
                          refine wpOp_step rfl (fun K hK => ?_)
                          simp only [putL, Act.put, List.setIfInBounds_toArray, List.set_cons_zero, List.set_cons_succ]
                          go_simp
                          refine hK _ _ ⟨.int .u8 (b.toNat : Int), ?_, trivial, fun _ _ h => h, ⟨b, HB0.out, rfl⟩, fun _ _ _ _ _ _ h => h⟩
                          simp only [putL, Act.put, List.getD_cons_zero, List.getD_cons_succ, List.setIfInBounds_toArray, List.set_cons_zero, List.set_cons_succ]
                        · obtain ⟨b, hb0, rfl⟩ : lwX w g w.heap.size gw nn cw at0 x0 (fun b => [codeR w2.heap.size d m f, ⟨some ⟨gw, 0, none⟩, nn, cw, 5, bys (W.set at0 b)⟩, ⟨Al, i, cl, 3, nats E⟩, ⟨some ⟨w9.heap.size, 0, none⟩, nn, nn, 4, bls (B.set at0 true)⟩]) 7 u7 v := hp 7 (by kernel_rfl) (.inr (by decide))
                          obtain rfl : u3 = .int .u8 (x0.toNat : Int) := hp 3 (by kernel_rfl) (.inr (by decide))
                          obtain ⟨z, hz, HZ⟩ := xor_ex x0 b
                          have HB0 := Lib.hid hb0
                          clear hb0
                          have HS2 := Lib.hid (hS (.inl (by kernel_rfl)))
                          clear HS hS hp
                          refine wpOp_step rfl (fun K hK => ?_)
                          simp only [putL, Act.put, List.setIfInBounds_toArray, List.set_cons_zero, List.set_cons_succ]
                          go_simp
                          refine hK _ _ ⟨.int .u8 (z.toNat : Int), ?_, trivial, fun _ _ h => h, ⟨b, z, HB0.out, rfl, HZ.out⟩, fun _ _ _ _ _ _ h => h⟩
                          simp only [putL, Act.put, List.getD_cons_zero, List.getD_cons_succ, List.setIfInBounds_toArray, List.set_cons_zero, List.set_cons_succ]
                        · obtain rfl : u0 = .slice (some ⟨gw, 0, none⟩) nn cw := hp 0 (by kernel_rfl) (.inr (by decide))
                          obtain rfl : u1 = .int .i64 (at0 : Int) := hp 1 (by kernel_rfl) (.inr (by decide))
                          have HS2 := Lib.hid (hS (.inl (by kernel_rfl)))
                          clear HS hS hp
                          refine wpOp_step rfl (fun K hK => ?_)
                          simp only [putL, Act.put, List.setIfInBounds_toArray, List.set_cons_zero, List.set_cons_succ]
                          go_simp
                          refine hK _ _ ⟨.pointer (some ⟨gw, at0, none⟩), ?_, trivial, fun _ _ h => h, rfl, fun _ _ _ _ _ _ h => h⟩
                          simp only [putL, Act.put, List.getD_cons_zero, List.getD_cons_succ, List.setIfInBounds_toArray, List.set_cons_zero, List.set_cons_succ]
                        · obtain ⟨b, z, hb0, rfl, hz⟩ : lwX w g w.heap.size gw nn cw at0 x0 (fun b => [codeR w2.heap.size d m f, ⟨some ⟨gw, 0, none⟩, nn, cw, 5, bys (W.set at0 b)⟩, ⟨Al, i, cl, 3, nats E⟩, ⟨some ⟨w9.heap.size, 0, none⟩, nn, nn, 4, bls (B.set at0 true)⟩]) 8 u8 v := hp 8 (by kernel_rfl) (.inr (by decide))
                          obtain rfl : u9 = .pointer (some ⟨gw, at0, none⟩) := hp 9 (by kernel_rfl) (.inr (by decide))
                          have HS2 := Lib.hid (hS (.inr (.inl rfl)))
                          clear HS hS hp
                          have HB0 := Lib.hid hb0
                          have HZ := Lib.hid hz
                          clear hb0 hz
                          have hcl := HS2.out.1.byteO 1 rfl hx0.out
                          have hfr := HS2.out.1.frzO 1 (vs := _) rfl at0
                          have G := Lib.hid (HS2.out.1.putB 1 rfl at0 z)
                          have GD := Lib.hid (HS2.out.2.turned (Nat.le_refl _) HS2.out.1 (i := 1) rfl (grown_set v ⟨gw, at0, none⟩ (.int .u8 (z.toNat : Int))))
                          refine wpOp_step rfl (fun K hK => ?_)
                          simp only [putL, Act.put, List.setIfInBounds_toArray, List.set_cons_zero, List.set_cons_succ]
                          go_simp
                          refine hK _ _ ⟨undef, ?_, trivial, fun h => absurd rfl h, ⟨b, HB0.out, by rw [← HZ.out]; exact G.out, GD.out⟩, fun k y hk _ _ _ h => lwX_any k y hk h⟩
                          simp only [putL, Act.put, List.getD_cons_zero, List.getD_cons_succ, List.setIfInBounds_toArray, List.set_cons_zero, List.set_cons_succ]
                      · rintro us v hl HS hS hP
                        replace hl : us.length = 11 := hl
                        obtain ⟨u0, us0, rfl, hl0⟩ := us_cons (n := 10) hl
                        obtain ⟨u1, us1, rfl, hl1⟩ := us_cons (n := 9) hl0
                        obtain ⟨u2, us2, rfl, hl2⟩ := us_cons (n := 8) hl1
                        obtain ⟨u3, us3, rfl, hl3⟩ := us_cons (n := 7) hl2
                        obtain ⟨u4, us4, rfl, hl4⟩ := us_cons (n := 6) hl3
                        obtain ⟨u5, us5, rfl, hl5⟩ := us_cons (n := 5) hl4
                        obtain ⟨u6, us6, rfl, hl6⟩ := us_cons (n := 4) hl5
                        obtain ⟨u7, us7, rfl, hl7⟩ := us_cons (n := 3) hl6
                        obtain ⟨u8, us8, rfl, hl8⟩ := us_cons (n := 2) hl7
                        obtain ⟨u9, us9, rfl, hl9⟩ := us_cons (n := 1) hl8
                        obtain ⟨u10, us10, rfl, hl10⟩ := us_cons (n := 0) hl9
                        obtain rfl := us_nil hl10
                        clear hl hl0 hl1 hl2 hl3 hl4 hl5 hl6 hl7 hl8 hl9
                        clear hS
                        replace HS : True := HS
                        obtain ⟨b, hb0, hGo, hGd⟩ : lwX w g w.heap.size gw nn cw at0 x0 (fun b => [codeR w2.heap.size d m f, ⟨some ⟨gw, 0, none⟩, nn, cw, 5, bys (W.set at0 b)⟩, ⟨Al, i, cl, 3, nats E⟩, ⟨some ⟨w9.heap.size, 0, none⟩, nn, nn, 4, bls (B.set at0 true)⟩]) 10 u10 v := hP 10 (by show 10 < 11; decide) (by decide)
                        have HOs := Lib.hid hGo
                        have HDs := Lib.hid hGd
                        clear HS hP hGo hGd
                        simp only [putL, Act.put, List.setIfInBounds_toArray, List.set_cons_zero, List.set_cons_succ]
                        go_wp2_with fail
                        go_roundw
                        case rel => exact ⟨k + 1, j + 1, W.set at0 (x0 ^^^ b), B.set at0 true, by omega, by omega, by go_num, by go_num, HF3.out b hb0, HOs.out, HDs.out⟩
                        case measure => simp [intOf]; omega
                  · have t4 : decide ((k : Int) > (mn : Int)) = false := decide_eq_false (by omega)
                    have t5 : decide ((mn : Int) < (k : Int)) = false := decide_eq_false (by omega)
                    clear hxb hc0 hc1 hc2 hc3
                    have hxb := HOr.out.valO 3 rfl (bls_at hB0)
                    have hfb := HOr.out.frzO 3 (vs := _) rfl at0
                    have G := HOr.out.put 3 rfl at0 (.bool true)
                    have GD := Lib.hid (HDr.out.turned (Nat.le_refl _) HOr.out (i := 3) rfl (grown_set wr ⟨w9.heap.size, at0, none⟩ (.bool true)))
                    rw [bls_set] at G
                    have HG := Lib.hid G
                    have hx0 : Hid (W[at0]? = some (Sy.wd W at0)) := Sy.wd_lt (by rw [HF.out.1]; exact h0n)
                    have HF3 : Hid (∀ c : UInt8, c ≠ 0 → (W.set at0 (Sy.wd W at0 ^^^ c)).length = nn ∧ Sy.oth nn E V (W.set at0 (Sy.wd W at0 ^^^ c)) = k + 1 ∧ (B.set at0 true).length = nn ∧ ∀ p, p < nn → ∃ b, (B.set at0 true)[p]? = some b ∧ (b = false → p ∉ E ∧ Sy.wd (W.set at0 (Sy.wd W at0 ^^^ c)) p = Sy.wd V p)) := fun c hc => by
                      obtain ⟨f1, f2, f3, f4⟩ := HF.out
                      obtain ⟨hbE, hbV⟩ := hbf (by first | trivial | rfl)
                      refine ⟨by rw [List.length_set]; exact f1, by rw [Sy.oth_set f1.symm h0n hbE hbV hc, f2], by rw [List.length_set]; exact f3, fun p hp => ?_⟩
                      by_cases h : at0 = p
                      · subst h
                        exact ⟨true, by rw [List.getElem?_set_self (by omega)], fun h => by cases h⟩
                      · obtain ⟨b, h1, h2⟩ := f4 p hp
                        exact ⟨b, by rw [List.getElem?_set_ne h]; exact h1, fun h3 => ⟨(h2 h3).1, by rw [Sy.wd_set_ne h]; exact (h2 h3).2⟩⟩
                    generalize Sy.wd W at0 = x0 at hx0 HF3
                    have HOr0 := Lib.hid HOr.out
                    clear hB0 G hbf
                    go_upto_region 27 with (fail)
                    generalize hw3 : World.setCell wr ⟨w9.heap.size, at0, none⟩ _ = w10
                    have HOr' := HG.out
                    have HDr' := GD.out
                    rw [hw3] at HOr' HDr'
                    have HOr := Lib.hid HOr'
                    have HDr := Lib.hid HDr'
                    clear hw3 HG GD HOr' HDr' hxb hfb HOr0
                    refine reg_monoT [some 142, some 143, some 144, some 145, some 146, some 147, some 148, some 149, some 150, some 151, none] (fun v => True) (fun v => Ow w v (some g) [] [] [codeR w2.heap.size d m f, ⟨some ⟨gw, 0, none⟩, nn, cw, 5, bys W⟩, ⟨Al, i, cl, 3, nats E⟩, ⟨some ⟨w9.heap.size, 0, none⟩, nn, nn, 4, bls (B.set at0 true)⟩] ∧ Dice v g w.heap.size) 10 (fun _ => 11) (lwX w g w.heap.size gw nn cw at0 x0 (fun b => [codeR w2.heap.size d m f, ⟨some ⟨gw, 0, none⟩, nn, cw, 5, bys (W.set at0 b)⟩, ⟨Al, i, cl, 3, nats E⟩, ⟨some ⟨w9.heap.size, 0, none⟩, nn, nn, 4, bls (B.set at0 true)⟩])) (by kernel_rfl) (by kernel_rfl) (by kernel_rfl) ?_ ?_ ?_ ?_
                    · exact trivial
                    · exact ⟨HOr.out.drew, HDr.out.drew⟩
                    · rintro j us v hj hl HS hS hp
                      replace hl : us.length = 11 := hl
                      obtain ⟨u0, us0, rfl, hl0⟩ := us_cons (n := 10) hl
                      obtain ⟨u1, us1, rfl, hl1⟩ := us_cons (n := 9) hl0
                      obtain ⟨u2, us2, rfl, hl2⟩ := us_cons (n := 8) hl1
                      obtain ⟨u3, us3, rfl, hl3⟩ := us_cons (n := 7) hl2
                      obtain ⟨u4, us4, rfl, hl4⟩ := us_cons (n := 6) hl3
                      obtain ⟨u5, us5, rfl, hl5⟩ := us_cons (n := 5) hl4
                      obtain ⟨u6, us6, rfl, hl6⟩ := us_cons (n := 4) hl5
                      obtain ⟨u7, us7, rfl, hl7⟩ := us_cons (n := 3) hl6
                      obtain ⟨u8, us8, rfl, hl8⟩ := us_cons (n := 2) hl7
                      obtain ⟨u9, us9, rfl, hl9⟩ := us_cons (n := 1) hl8
                      obtain ⟨u10, us10, rfl, hl10⟩ := us_cons (n := 0) hl9
                      obtain rfl := us_nil hl10
                      clear hl hl0 hl1 hl2 hl3 hl4 hl5 hl6 hl7 hl8 hl9
                      have hj' : j < 11 := hj
                      have hcase : j = 0 ∨ j = 1 ∨ j = 2 ∨ j = 3 ∨ j = 4 ∨ j = 5 ∨ j = 6 ∨ j = 7 ∨ j = 8 ∨ j = 9 ∨ j = 10 := by omega
                      clear hj hj'
                      replace HS : True := HS
                      rcases hcase with rfl | rfl | rfl | rfl | rfl | rfl | rfl | rfl | rfl | rfl | rfl
                      · have HS2 := Lib.hid (hS (.inl (by kernel_rfl)))
                        clear HS hS hp
                        refine wpOp_step rfl (fun K hK => ?_)
                        simp only [putL, Act.put, List.setIfInBounds_toArray, List.set_cons_zero, List.set_cons_succ]
                        go_simp
                        refine hK _ _ ⟨.slice (some ⟨gw, 0, none⟩) nn cw, ?_, trivial, fun _ _ h => h, rfl, fun _ _ _ _ _ _ h => h⟩
                        simp only [putL, Act.put, List.getD_cons_zero, List.setIfInBounds_toArray, List.set_cons_zero, List.set_cons_succ]
                      · have HS2 := Lib.hid (hS (.inl (by kernel_rfl)))
                        clear HS hS hp
                        refine wpOp_step rfl (fun K hK => ?_)
                        simp only [putL, Act.put, List.setIfInBounds_toArray, List.set_cons_zero, List.set_cons_succ]
                        go_simp
                        refine hK _ _ ⟨.int .i64 (at0 : Int), ?_, trivial, fun _ _ h => h, rfl, fun _ _ _ _ _ _ h => h⟩
                        simp only [putL, Act.put, List.getD_cons_zero, List.getD_cons_succ, List.setIfInBounds_toArray, List.set_cons_zero, List.set_cons_succ]
                      · obtain rfl : u0 = .slice (some ⟨gw, 0, none⟩) nn cw := hp 0 (by kernel_rfl) (.inr (by decide))
                        obtain rfl : u1 = .int .i64 (at0 : Int) := hp 1 (by kernel_rfl) (.inr (by decide))
                        have HS2 := Lib.hid (hS (.inl (by kernel_rfl)))
                        clear HS hS hp
                        refine wpOp_step rfl (fun K hK => ?_)
                        simp only [putL, Act.put, List.setIfInBounds_toArray, List.set_cons_zero, List.set_cons_succ]
                        go_simp
                        refine hK _ _ ⟨.pointer (some ⟨gw, at0, none⟩), ?_, trivial, fun _ _ h => h, rfl, fun _ _ _ _ _ _ h => h⟩
                        simp only [putL, Act.put, List.getD_cons_zero, List.getD_cons_succ, List.setIfInBounds_toArray, List.set_cons_zero, List.set_cons_succ]
                      · obtain rfl : u2 = .pointer (some ⟨gw, at0, none⟩) := hp 2 (by kernel_rfl) (.inr (by decide))
                        have HS2 := Lib.hid (hS (.inl (by kernel_rfl)))
                        clear HS hS hp
                        have hx := HS2.out.1.byteO 1 rfl hx0.out
                        refine wpOp_step rfl (fun K hK => ?_)
                        simp only [putL, Act.put, List.setIfInBounds_toArray, List.set_cons_zero, List.set_cons_succ]
                        go_simp
                        refine hK _ _ ⟨.int .u8 (x0.toNat : Int), ?_, trivial, fun _ _ h => h, rfl, fun _ _ _ _ _ _ h => h⟩
                        simp only [putL, Act.put, List.getD_cons_zero, List.getD_cons_succ, List.setIfInBounds_toArray, List.set_cons_zero, List.set_cons_succ]
                      · have HS2 := Lib.hid (hS (.inl (by kernel_rfl)))
                        clear HS hS hp
                        refine wpOp_step rfl (fun K hK => ?_)
                        simp only [putL, Act.put, List.setIfInBounds_toArray, List.set_cons_zero, List.set_cons_succ]
                        go_simp
                        refine hK _ _ ⟨.pointer (some ⟨g, 0, none⟩), ?_, trivial, fun _ _ h => h, rfl, fun _ _ _ _ _ _ h => h⟩
                        simp only [putL, Act.put, List.getD_cons_zero, List.getD_cons_succ, List.setIfInBounds_toArray, List.set_cons_zero, List.set_cons_succ]
                      · obtain rfl : u4 = .pointer (some ⟨g, 0, none⟩) := hp 4 (by kernel_rfl) (.inr (by decide))
                        have HS2 := Lib.hid (hS (.inl (by kernel_rfl)))
                        clear HS hS hp
                        refine wpOp_step rfl (fun K hK => ?_)
                        simp only [putL, Act.put, List.setIfInBounds_toArray, List.set_cons_zero, List.set_cons_succ]
                        go_simp
                        refine (next_ow HS2.out.1 HS2.out.2 255 (by omega) (by omega)).mono ?_
                        rintro en v' ⟨r, rfl, hr, hd', ho, hg⟩
                        refine hK _ _ ⟨.int .i64 (r : Int), ?_, trivial, fun _ _ _ => ⟨ho, hd'⟩, ⟨r, hr, rfl⟩, fun k y _ _ ha _ h => ?_⟩
                        · simp only [putL, Act.put, List.getD_cons_zero, List.getD_cons_succ, List.setIfInBounds_toArray, List.set_cons_zero, List.set_cons_succ]
                        by_cases hk9 : k = 10
                        · subst hk9; exact absurd (ha.symm.trans (show _ = true by kernel_rfl)) (by decide)
                        · exact lwX_any k y hk9 h
                      · obtain ⟨r, hr, rfl⟩ : lwX w g w.heap.size gw nn cw at0 x0 (fun b => [codeR w2.heap.size d m f, ⟨some ⟨gw, 0, none⟩, nn, cw, 5, bys (W.set at0 b)⟩, ⟨Al, i, cl, 3, nats E⟩, ⟨some ⟨w9.heap.size, 0, none⟩, nn, nn, 4, bls (B.set at0 true)⟩]) 5 u5 v := hp 5 (by kernel_rfl) (.inr (by decide))
                        obtain ⟨b, hb0, hb⟩ := byte_suc hr
                        have hbI := Lib.hid hb
                        clear hb
                        have HS2 := Lib.hid (hS (.inl (by kernel_rfl)))
                        clear HS hS hp
                        refine wpOp_step rfl (fun K hK => ?_)
                        simp only [putL, Act.put, List.setIfInBounds_toArray, List.set_cons_zero, List.set_cons_succ]
                        go_simp
                        rw [hbI.out, IntWalk.i64_in (b.toNat : Int) (by have := u8_lt' b; omega)]
                        refine hK _ _ ⟨.int .i64 (b.toNat : Int), ?_, trivial, fun _ _ h => h, ⟨b, hb0, rfl⟩, fun _ _ _ _ _ _ h => h⟩
                        simp only [putL, Act.put, List.getD_cons_zero, List.getD_cons_succ, List.setIfInBounds_toArray, List.set_cons_zero, List.set_cons_succ]
                      · obtain ⟨b, hb0, rfl⟩ : lwX w g w.heap.size gw nn cw at0 x0 (fun b => [codeR w2.heap.size d m f, ⟨some ⟨gw, 0, none⟩, nn, cw, 5, bys (W.set at0 b)⟩, ⟨Al, i, cl, 3, nats E⟩, ⟨some ⟨w9.heap.size, 0, none⟩, nn, nn, 4, bls (B.set at0 true)⟩]) 6 u6 v := hp 6 (by kernel_rfl) (.inr (by decide))
                        have hwb : IntKind.u8.wrap (b.toNat : Int) = (b.toNat : Int) := IntWalk.u8_in _ (by have := u8_lt' b; omega)
                        have HB0 := Lib.hid hb0
                        clear hb0
                        have HS2 := Lib.hid (hS (.inl (by kernel_rfl)))
                        clear HS hS hp
                        refine wpOp_step rfl (fun K hK => ?_)
                        simp only [putL, Act.put, List.setIfInBounds_toArray, List.set_cons_zero, List.set_cons_succ]
                        go_simp
                        refine hK _ _ ⟨.int .u8 (b.toNat : Int), ?_, trivial, fun _ _ h => h, ⟨b, HB0.out, rfl⟩, fun _ _ _ _ _ _ h => h⟩
                        simp only [putL, Act.put, List.getD_cons_zero, List.getD_cons_succ, List.setIfInBounds_toArray, List.set_cons_zero, List.set_cons_succ]
                      · obtain ⟨b, hb0, rfl⟩ : lwX w g w.heap.size gw nn cw at0 x0 (fun b => [codeR w2.heap.size d m f, ⟨some ⟨gw, 0, none⟩, nn, cw, 5, bys (W.set at0 b)⟩, ⟨Al, i, cl, 3, nats E⟩, ⟨some ⟨w9.heap.size, 0, none⟩, nn, nn, 4, bls (B.set at0 true)⟩]) 7 u7 v := hp 7 (by kernel_rfl) (.inr (by decide))
                        obtain rfl : u3 = .int .u8 (x0.toNat : Int) := hp 3 (by kernel_rfl) (.inr (by decide))
                        obtain ⟨z, hz, HZ⟩ := xor_ex x0 b
                        have HB0 := Lib.hid hb0
                        clear hb0
                        have HS2 := Lib.hid (hS (.inl (by kernel_rfl)))
                        clear HS hS hp
                        refine wpOp_step rfl (fun K hK => ?_)
                        simp only [putL, Act.put, List.setIfInBounds_toArray, List.set_cons_zero, List.set_cons_succ]
                        go_simp
                        refine hK _ _ ⟨.int .u8 (z.toNat : Int), ?_, trivial, fun _ _ h => h, ⟨b, z, HB0.out, rfl, HZ.out⟩, fun _ _ _ _ _ _ h => h⟩
                        simp only [putL, Act.put, List.getD_cons_zero, List.getD_cons_succ, List.setIfInBounds_toArray, List.set_cons_zero, List.set_cons_succ]
                      · obtain rfl : u0 = .slice (some ⟨gw, 0, none⟩) nn cw := hp 0 (by kernel_rfl) (.inr (by decide))
                        obtain rfl : u1 = .int .i64 (at0 : Int) := hp 1 (by kernel_rfl) (.inr (by decide))
                        have HS2 := Lib.hid (hS (.inl (by kernel_rfl)))
                        clear HS hS hp
                        refine wpOp_step rfl (fun K hK => ?_)
                        simp only [putL, Act.put, List.setIfInBounds_toArray, List.set_cons_zero, List.set_cons_succ]
                        go_simp
                        refine hK _ _ ⟨.pointer (some ⟨gw, at0, none⟩), ?_, trivial, fun _ _ h => h, rfl, fun _ _ _ _ _ _ h => h⟩
                        simp only [putL, Act.put, List.getD_cons_zero, List.getD_cons_succ, List.setIfInBounds_toArray, List.set_cons_zero, List.set_cons_succ]
                      · obtain ⟨b, z, hb0, rfl, hz⟩ : lwX w g w.heap.size gw nn cw at0 x0 (fun b => [codeR w2.heap.size d m f, ⟨some ⟨gw, 0, none⟩, nn, cw, 5, bys (W.set at0 b)⟩, ⟨Al, i, cl, 3, nats E⟩, ⟨some ⟨w9.heap.size, 0, none⟩, nn, nn, 4, bls (B.set at0 true)⟩]) 8 u8 v := hp 8 (by kernel_rfl) (.inr (by decide))
                        obtain rfl : u9 = .pointer (some ⟨gw, at0, none⟩) := hp 9 (by kernel_rfl) (.inr (by decide))
                        have HS2 := Lib.hid (hS (.inr (.inl rfl)))
                        clear HS hS hp
                        have HB0 := Lib.hid hb0
                        have HZ := Lib.hid hz
                        clear hb0 hz
                        have hcl := HS2.out.1.byteO 1 rfl hx0.out
                        have hfr := HS2.out.1.frzO 1 (vs := _) rfl at0
                        have G := Lib.hid (HS2.out.1.putB 1 rfl at0 z)
                        have GD := Lib.hid (HS2.out.2.turned (Nat.le_refl _) HS2.out.1 (i := 1) rfl (grown_set v ⟨gw, at0, none⟩ (.int .u8 (z.toNat : Int))))
                        refine wpOp_step rfl (fun K hK => ?_)
                        simp only [putL, Act.put, List.setIfInBounds_toArray, List.set_cons_zero, List.set_cons_succ]
                        go_simp
                        refine hK _ _ ⟨undef, ?_, trivial, fun h => absurd rfl h, ⟨b, HB0.out, by rw [← HZ.out]; exact G.out, GD.out⟩, fun k y hk _ _ _ h => lwX_any k y hk h⟩
                        simp only [putL, Act.put, List.getD_cons_zero, List.getD_cons_succ, List.setIfInBounds_toArray, List.set_cons_zero, List.set_cons_succ]
                    · rintro us v hl HS hS hP
                      replace hl : us.length = 11 := hl
                      obtain ⟨u0, us0, rfl, hl0⟩ := us_cons (n := 10) hl
                      obtain ⟨u1, us1, rfl, hl1⟩ := us_cons (n := 9) hl0
                      obtain ⟨u2, us2, rfl, hl2⟩ := us_cons (n := 8) hl1
                      obtain ⟨u3, us3, rfl, hl3⟩ := us_cons (n := 7) hl2
                      obtain ⟨u4, us4, rfl, hl4⟩ := us_cons (n := 6) hl3
                      obtain ⟨u5, us5, rfl, hl5⟩ := us_cons (n := 5) hl4
                      obtain ⟨u6, us6, rfl, hl6⟩ := us_cons (n := 4) hl5
                      obtain ⟨u7, us7, rfl, hl7⟩ := us_cons (n := 3) hl6
                      obtain ⟨u8, us8, rfl, hl8⟩ := us_cons (n := 2) hl7
                      obtain ⟨u9, us9, rfl, hl9⟩ := us_cons (n := 1) hl8
                      obtain ⟨u10, us10, rfl, hl10⟩ := us_cons (n := 0) hl9
                      obtain rfl := us_nil hl10
                      clear hl hl0 hl1 hl2 hl3 hl4 hl5 hl6 hl7 hl8 hl9
                      clear hS
                      replace HS : True := HS
                      obtain ⟨b, hb0, hGo, hGd⟩ : lwX w g w.heap.size gw nn cw at0 x0 (fun b => [codeR w2.heap.size d m f, ⟨some ⟨gw, 0, none⟩, nn, cw, 5, bys (W.set at0 b)⟩, ⟨Al, i, cl, 3, nats E⟩, ⟨some ⟨w9.heap.size, 0, none⟩, nn, nn, 4, bls (B.set at0 true)⟩]) 10 u10 v := hP 10 (by show 10 < 11; decide) (by decide)
                      have HOs := Lib.hid hGo
                      have HDs := Lib.hid hGd
                      clear HS hP hGo hGd
                      simp only [putL, Act.put, List.setIfInBounds_toArray, List.set_cons_zero, List.set_cons_succ]
                      go_wp2_with fail
                      go_roundw
                      case rel => exact ⟨k + 1, j + 1, W.set at0 (x0 ^^^ b), B.set at0 true, by omega, by omega, by go_num, by go_num, HF3.out b hb0, HOs.out, HDs.out⟩
                      case measure => simp [intOf]; omega
              · have t3 : ((nn : Int) % 3 == 0) = false := beq_eq_false_iff_ne.2 (by omega)
                have t3b : decide (nn % 3 = 0) = false := decide_eq_false h3
                have t3c : (nn % 3 == 0) = false := beq_eq_false_iff_ne.2 h3
                clear h3
                rw [← h0] at ea1
                clear h0 ha1 ha2 hat1 hat2
                go_upto_region 25 with (fail)
                rw [ea1]
                clear t3 t3b t3c ea1 ea2
                obtain ⟨bt, hB0, hbf⟩ := HF.out.2.2.2 at0 h0n
                have hxb := HOr.out.valO 3 rfl (bls_at hB0)
                cases bt with
                | true =>
                  clear hB0 hbf
                  go_wp2_with fail
                  go_roundw
                  case rel => exact ⟨k, j + 1, W, B, by omega, hk, rfl, by go_num, HF.out, HOr.out, HDr.out⟩
                  case measure => simp [intOf]; omega
                | false =>
                  rcases Nat.lt_or_ge mn k with hmk | hmk
                  · have t4 : decide ((k : Int) > (mn : Int)) = true := decide_eq_true (by omega)
                    have t5 : decide ((mn : Int) < (k : Int)) = true := decide_eq_true (by omega)
                    have HN := Lib.hid (one_ow HOr.out HDr.out 4 (by omega) (by omega))
                    have HB0 := Lib.hid hB0
                    have HBf := Lib.hid hbf
                    clear hB0 hbf
                    go_wp2_with fail
                    refine HN.out.mono ?_
                    rintro en w20 ⟨q4, rfl, hd20, h20⟩
                    have HOr := Lib.hid h20
                    have HDr := Lib.hid hd20
                    clear HN hd20 h20 hxb t4 t5 hc0 hc1 hc2 hc3
                    cases q4 with
                    | true =>
                      go_wp2_with fail
                      go_roundw
                      case rel => exact ⟨k, j + 1, W, B, by omega, hk, rfl, by go_num, HF.out, HOr.out, HDr.out⟩
                      case measure => simp [intOf]; omega
                    | false =>
                      have hB0 := HB0.out
                      have hbf := HBf.out
                      clear HB0 HBf
                      have hxb := HOr.out.valO 3 rfl (bls_at hB0)
                      have hfb := HOr.out.frzO 3 (vs := _) rfl at0
                      have G := HOr.out.put 3 rfl at0 (.bool true)
                      have GD := Lib.hid (HDr.out.turned (Nat.le_refl _) HOr.out (i := 3) rfl (grown_set w20 ⟨w9.heap.size, at0, none⟩ (.bool true)))
                      rw [bls_set] at G
                      have HG := Lib.hid G
                      have hx0 : Hid (W[at0]? = some (Sy.wd W at0)) := Sy.wd_lt (by rw [HF.out.1]; exact h0n)
                      have HF3 : Hid (∀ c : UInt8, c ≠ 0 → (W.set at0 (Sy.wd W at0 ^^^ c)).length = nn ∧ Sy.oth nn E V (W.set at0 (Sy.wd W at0 ^^^ c)) = k + 1 ∧ (B.set at0 true).length = nn ∧ ∀ p, p < nn → ∃ b, (B.set at0 true)[p]? = some b ∧ (b = false → p ∉ E ∧ Sy.wd (W.set at0 (Sy.wd W at0 ^^^ c)) p = Sy.wd V p)) := fun c hc => by
                        obtain ⟨f1, f2, f3, f4⟩ := HF.out
                        obtain ⟨hbE, hbV⟩ := hbf (by first | trivial | rfl)
                        refine ⟨by rw [List.length_set]; exact f1, by rw [Sy.oth_set f1.symm h0n hbE hbV hc, f2], by rw [List.length_set]; exact f3, fun p hp => ?_⟩
                        by_cases h : at0 = p
                        · subst h
                          exact ⟨true, by rw [List.getElem?_set_self (by omega)], fun h => by cases h⟩
                        · obtain ⟨b, h1, h2⟩ := f4 p hp
                          exact ⟨b, by rw [List.getElem?_set_ne h]; exact h1, fun h3 => ⟨(h2 h3).1, by rw [Sy.wd_set_ne h]; exact (h2 h3).2⟩⟩
                      generalize Sy.wd W at0 = x0 at hx0 HF3
                      have HOr0 := Lib.hid HOr.out
                      clear hB0 G hbf
                      go_upto_region 27 with (fail)
                      generalize hw3 : World.setCell w20 ⟨w9.heap.size, at0, none⟩ _ = w10
                      have HOr' := HG.out
                      have HDr' := GD.out
                      rw [hw3] at HOr' HDr'
                      have HOr := Lib.hid HOr'
                      have HDr := Lib.hid HDr'
                      clear hw3 HG GD HOr' HDr' hxb hfb HOr0
                      refine reg_monoT [some 142, some 143, some 144, some 145, some 146, some 147, some 148, some 149, some 150, some 151, none] (fun v => True) (fun v => Ow w v (some g) [] [] [codeR w2.heap.size d m f, ⟨some ⟨gw, 0, none⟩, nn, cw, 5, bys W⟩, ⟨Al, i, cl, 3, nats E⟩, ⟨some ⟨w9.heap.size, 0, none⟩, nn, nn, 4, bls (B.set at0 true)⟩] ∧ Dice v g w.heap.size) 10 (fun _ => 11) (lwX w g w.heap.size gw nn cw at0 x0 (fun b => [codeR w2.heap.size d m f, ⟨some ⟨gw, 0, none⟩, nn, cw, 5, bys (W.set at0 b)⟩, ⟨Al, i, cl, 3, nats E⟩, ⟨some ⟨w9.heap.size, 0, none⟩, nn, nn, 4, bls (B.set at0 true)⟩])) (by kernel_rfl) (by kernel_rfl) (by kernel_rfl) ?_ ?_ ?_ ?_
                      · exact trivial
                      · exact ⟨HOr.out.drew, HDr.out.drew⟩
                      · rintro j us v hj hl HS hS hp
                        replace hl : us.length = 11 := hl
                        obtain ⟨u0, us0, rfl, hl0⟩ := us_cons (n := 10) hl
                        obtain ⟨u1, us1, rfl, hl1⟩ := us_cons (n := 9) hl0
                        obtain ⟨u2, us2, rfl, hl2⟩ := us_cons (n := 8) hl1
                        obtain ⟨u3, us3, rfl, hl3⟩ := us_cons (n := 7) hl2
                        obtain ⟨u4, us4, rfl, hl4⟩ := us_cons (n := 6) hl3
                        obtain ⟨u5, us5, rfl, hl5⟩ := us_cons (n := 5) hl4
                        obtain ⟨u6, us6, rfl, hl6⟩ := us_cons (n := 4) hl5
                        obtain ⟨u7, us7, rfl, hl7⟩ := us_cons (n := 3) hl6
                        obtain ⟨u8, us8, rfl, hl8⟩ := us_cons (n := 2) hl7
                        obtain ⟨u9, us9, rfl, hl9⟩ := us_cons (n := 1) hl8
                        obtain ⟨u10, us10, rfl, hl10⟩ := us_cons (n := 0) hl9
                        obtain rfl := us_nil hl10
                        clear hl hl0 hl1 hl2 hl3 hl4 hl5 hl6 hl7 hl8 hl9
                        have hj' : j < 11 := hj
                        have hcase : j = 0 ∨ j = 1 ∨ j = 2 ∨ j = 3 ∨ j = 4 ∨ j = 5 ∨ j = 6 ∨ j = 7 ∨ j = 8 ∨ j = 9 ∨ j = 10 := by omega
                        clear hj hj'
                        replace HS : True := HS
                        rcases hcase with rfl | rfl | rfl | rfl | rfl | rfl | rfl | rfl | rfl | rfl | rfl
                        · have HS2 := Lib.hid (hS (.inl (by kernel_rfl)))
                          clear HS hS hp
                          refine wpOp_step rfl (fun K hK => ?_)
                          simp only [putL, Act.put, List.setIfInBounds_toArray, List.set_cons_zero, List.set_cons_succ]
                          go_simp
                          refine hK _ _ ⟨.slice (some ⟨gw, 0, none⟩) nn cw, ?_, trivial, fun _ _ h => h, rfl, fun _ _ _ _ _ _ h => h⟩
                          simp only [putL, Act.put, List.getD_cons_zero, List.setIfInBounds_toArray, List.set_cons_zero, List.set_cons_succ]
                        · have HS2 := Lib.hid (hS (.inl (by kernel_rfl)))
                          clear HS hS hp
                          refine wpOp_step rfl (fun K hK => ?_)
                          simp only [putL, Act.put, List.setIfInBounds_toArray, List.set_cons_zero, List.set_cons_succ]
                          go_simp
                          refine hK _ _ ⟨.int .i64 (at0 : Int), ?_, trivial, fun _ _ h => h, rfl, fun _ _ _ _ _ _ h => h⟩
                          simp only [putL, Act.put, List.getD_cons_zero, List.getD_cons_succ, List.setIfInBounds_toArray, List.set_cons_zero, List.set_cons_succ]
                        · obtain rfl : u0 = .slice (some ⟨gw, 0, none⟩) nn cw := hp 0 (by kernel_rfl) (.inr (by decide))
                          obtain rfl : u1 = .int .i64 (at0 : Int) := hp 1 (by kernel_rfl) (.inr (by decide))
                          have HS2 := Lib.hid (hS (.inl (by kernel_rfl)))
                          clear HS hS hp
                          refine wpOp_step rfl (fun K hK => ?_)
                          simp only [putL, Act.put, List.setIfInBounds_toArray, List.set_cons_zero, List.set_cons_succ]
                          go_simp
                          refine hK _ _ ⟨.pointer (some ⟨gw, at0, none⟩), ?_, trivial, fun _ _ h => h, rfl, fun _ _ _ _ _ _ h => h⟩
                          simp only [putL, Act.put, List.getD_cons_zero, List.getD_cons_succ, List.setIfInBounds_toArray, List.set_cons_zero, List.set_cons_succ]
                        · obtain rfl : u2 = .pointer (some ⟨gw, at0, none⟩) := hp 2 (by kernel_rfl) (.inr (by decide))
                          have HS2 := Lib.hid (hS (.inl (by kernel_rfl)))
                          clear HS hS hp
                          have hx := HS2.out.1.byteO 1 rfl hx0.out
                          refine wpOp_step rfl (fun K hK => ?_)
                          simp only [putL, Act.put, List.setIfInBounds_toArray, List.set_cons_zero, List.set_cons_succ]
                          go_simp
                          refine hK _ _ ⟨.int .u8 (x0.toNat : Int), ?_, trivial, fun _ _ h => h, rfl, fun _ _ _ _ _ _ h => h⟩
                          simp only [putL, Act.put, List.getD_cons_zero, List.getD_cons_succ, List.setIfInBounds_toArray, List.set_cons_zero, List.set_cons_succ]
                        · have HS2 := Lib.hid (hS (.inl (by kernel_rfl)))
                          clear HS hS hp
                          refine wpOp_step rfl (fun K hK => ?_)
                          simp only [putL, Act.put, List.setIfInBounds_toArray, List.set_cons_zero, List.set_cons_succ]
                          go_simp
                          refine hK _ _ ⟨.pointer (some ⟨g, 0, none⟩), ?_, trivial, fun _ _ h => h, rfl, fun _ _ _ _ _ _ h => h⟩
                          simp only [putL, Act.put, List.getD_cons_zero, List.getD_cons_succ, List.setIfInBounds_toArray, List.set_cons_zero, List.set_cons_succ]
                        · obtain rfl : u4 = .pointer (some ⟨g, 0, none⟩) := hp 4 (by kernel_rfl) (.inr (by decide))
                          have HS2 := Lib.hid (hS (.inl (by kernel_rfl)))
                          clear HS hS hp
                          refine wpOp_step rfl (fun K hK => ?_)
                          simp only [putL, Act.put, List.setIfInBounds_toArray, List.set_cons_zero, List.set_cons_succ]
                          go_simp
                          refine (next_ow HS2.out.1 HS2.out.2 255 (by omega) (by omega)).mono ?_
                          rintro en v' ⟨r, rfl, hr, hd', ho, hg⟩
                          refine hK _ _ ⟨.int .i64 (r : Int), ?_, trivial, fun _ _ _ => ⟨ho, hd'⟩, ⟨r, hr, rfl⟩, fun k y _ _ ha _ h => ?_⟩
                          · simp only [putL, Act.put, List.getD_cons_zero, List.getD_cons_succ, List.setIfInBounds_toArray, List.set_cons_zero, List.set_cons_succ]
                          by_cases hk9 : k = 10
                          · subst hk9; exact absurd (ha.symm.trans (show _ = true by kernel_rfl)) (by decide)
                          · exact lwX_any k y hk9 h
                        · obtain ⟨r, hr, rfl⟩ : lwX w g w.heap.size gw nn cw at0 x0 (fun b => [codeR w2.heap.size d m f, ⟨some ⟨gw, 0, none⟩, nn, cw, 5, bys (W.set at0 b)⟩, ⟨Al, i, cl, 3, nats E⟩, ⟨some ⟨w9.heap.size, 0, none⟩, nn, nn, 4, bls (B.set at0 true)⟩]) 5 u5 v := hp 5 (by kernel_rfl) (.inr (by decide))
                          obtain ⟨b, hb0, hb⟩ := byte_suc hr
                          have hbI := Lib.hid hb
                          clear hb
                          have HS2 := Lib.hid (hS (.inl (by kernel_rfl)))
                          clear HS hS hp
                          refine wpOp_step rfl (fun K hK => ?_)
                          simp only [putL, Act.put, List.setIfInBounds_toArray, List.set_cons_zero, List.set_cons_succ]
                          go_simp
                          rw [hbI.out, IntWalk.i64_in (b.toNat : Int) (by have := u8_lt' b; omega)]
                          refine hK _ _ ⟨.int .i64 (b.toNat : Int), ?_, trivial, fun _ _ h => h, ⟨b, hb0, rfl⟩, fun _ _ _ _ _ _ h => h⟩
                          simp only [putL, Act.put, List.getD_cons_zero, List.getD_cons_succ, List.setIfInBounds_toArray, List.set_cons_zero, List.set_cons_succ]
                        · obtain ⟨b, hb0, rfl⟩ : lwX w g w.heap.size gw nn cw at0 x0 (fun b => [codeR w2.heap.size d m f, ⟨some ⟨gw, 0, none⟩, nn, cw, 5, bys (W.set at0 b)⟩, ⟨Al, i, cl, 3, nats E⟩, ⟨some ⟨w9.heap.size, 0, none⟩, nn, nn, 4, bls (B.set at0 true)⟩]) 6 u6 v := hp 6 (by kernel_rfl) (.inr (by decide))
                          have hwb : IntKind.u8.wrap (b.toNat : Int) = (b.toNat : Int) := IntWalk.u8_in _ (by have := u8_lt' b; omega)
                          have HB0 := Lib.hid hb0
                          clear hb0
                          have HS2 := Lib.hid (hS (.inl (by kernel_rfl)))
                          clear HS hS hp
                          refine wpOp_step rfl (fun K hK => ?_)
                          simp only [putL, Act.put, List.setIfInBounds_toArray, List.set_cons_zero, List.set_cons_succ]
                          go_simp
                          refine hK _ _ ⟨.int .u8 (b.toNat : Int), ?_, trivial, fun _ _ h => h, ⟨b, HB0.out, rfl⟩, fun _ _ _ _ _ _ h => h⟩
                          simp only [putL, Act.put, List.getD_cons_zero, List.getD_cons_succ, List.setIfInBounds_toArray, List.set_cons_zero, List.set_cons_succ]
                        · obtain ⟨b, hb0, rfl⟩ : lwX w g w.heap.size gw nn cw at0 x0 (fun b => [codeR w2.heap.size d m f, ⟨some ⟨gw, 0, none⟩, nn, cw, 5, bys (W.set at0 b)⟩, ⟨Al, i, cl, 3, nats E⟩, ⟨some ⟨w9.heap.size, 0, none⟩, nn, nn, 4, bls (B.set at0 true)⟩]) 7 u7 v := hp 7 (by kernel_rfl) (.inr (by decide))
                          obtain rfl : u3 = .int .u8 (x0.toNat : Int) := hp 3 (by kernel_rfl) (.inr (by decide))
                          obtain ⟨z, hz, HZ⟩ := xor_ex x0 b
                          have HB0 := Lib.hid hb0
                          clear hb0
                          have HS2 := Lib.hid (hS (.inl (by kernel_rfl)))
                          clear HS hS hp
                          refine wpOp_step rfl (fun K hK => ?_)
                          simp only [putL, Act.put, List.setIfInBounds_toArray, List.set_cons_zero, List.set_cons_succ]
                          go_simp
                          refine hK _ _ ⟨.int .u8 (z.toNat : Int), ?_, trivial, fun _ _ h => h, ⟨b, z, HB0.out, rfl, HZ.out⟩, fun _ _ _ _ _ _ h => h⟩
                          simp only [putL, Act.put, List.getD_cons_zero, List.getD_cons_succ, List.setIfInBounds_toArray, List.set_cons_zero, List.set_cons_succ]
                        · obtain rfl : u0 = .slice (some ⟨gw, 0, none⟩) nn cw := hp 0 (by kernel_rfl) (.inr (by decide))
                          obtain rfl : u1 = .int .i64 (at0 : Int) := hp 1 (by kernel_rfl) (.inr (by decide))
                          have HS2 := Lib.hid (hS (.inl (by kernel_rfl)))
                          clear HS hS hp
                          refine wpOp_step rfl (fun K hK => ?_)
                          simp only [putL, Act.put, List.setIfInBounds_toArray, List.set_cons_zero, List.set_cons_succ]
                          go_simp
                          refine hK _ _ ⟨.pointer (some ⟨gw, at0, none⟩), ?_, trivial, fun _ _ h => h, rfl, fun _ _ _ _ _ _ h => h⟩
                          simp only [putL, Act.put, List.getD_cons_zero, List.getD_cons_succ, List.setIfInBounds_toArray, List.set_cons_zero, List.set_cons_succ]
                        · obtain ⟨b, z, hb0, rfl, hz⟩ : lwX w g w.heap.size gw nn cw at0 x0 (fun b => [codeR w2.heap.size d m f, ⟨some ⟨gw, 0, none⟩, nn, cw, 5, bys (W.set at0 b)⟩, ⟨Al, i, cl, 3, nats E⟩, ⟨some ⟨w9.heap.size, 0, none⟩, nn, nn, 4, bls (B.set at0 true)⟩]) 8 u8 v := hp 8 (by kernel_rfl) (.inr (by decide))
                          obtain rfl : u9 = .pointer (some ⟨gw, at0, none⟩) := hp 9 (by kernel_rfl) (.inr (by decide))
                          have HS2 := Lib.hid (hS (.inr (.inl rfl)))
                          clear HS hS hp
                          have HB0 := Lib.hid hb0
                          have HZ := Lib.hid hz
                          clear hb0 hz
                          have hcl := HS2.out.1.byteO 1 rfl hx0.out
                          have hfr := HS2.out.1.frzO 1 (vs := _) rfl at0
                          have G := Lib.hid (HS2.out.1.putB 1 rfl at0 z)
                          have GD := Lib.hid (HS2.out.2.turned (Nat.le_refl _) HS2.out.1 (i := 1) rfl (grown_set v ⟨gw, at0, none⟩ (.int .u8 (z.toNat : Int))))
                          refine wpOp_step rfl (fun K hK => ?_)
                          simp only [putL, Act.put, List.setIfInBounds_toArray, List.set_cons_zero, List.set_cons_succ]
                          go_simp
                          refine hK _ _ ⟨undef, ?_, trivial, fun h => absurd rfl h, ⟨b, HB0.out, by rw [← HZ.out]; exact G.out, GD.out⟩, fun k y hk _ _ _ h => lwX_any k y hk h⟩
                          simp only [putL, Act.put, List.getD_cons_zero, List.getD_cons_succ, List.setIfInBounds_toArray, List.set_cons_zero, List.set_cons_succ]
                      · rintro us v hl HS hS hP
                        replace hl : us.length = 11 := hl
                        obtain ⟨u0, us0, rfl, hl0⟩ := us_cons (n := 10) hl
                        obtain ⟨u1, us1, rfl, hl1⟩ := us_cons (n := 9) hl0
                        obtain ⟨u2, us2, rfl, hl2⟩ := us_cons (n := 8) hl1
                        obtain ⟨u3, us3, rfl, hl3⟩ := us_cons (n := 7) hl2
                        obtain ⟨u4, us4, rfl, hl4⟩ := us_cons (n := 6) hl3
                        obtain ⟨u5, us5, rfl, hl5⟩ := us_cons (n := 5) hl4
                        obtain ⟨u6, us6, rfl, hl6⟩ := us_cons (n := 4) hl5
                        obtain ⟨u7, us7, rfl, hl7⟩ := us_cons (n := 3) hl6
                        obtain ⟨u8, us8, rfl, hl8⟩ := us_cons (n := 2) hl7
                        obtain ⟨u9, us9, rfl, hl9⟩ := us_cons (n := 1) hl8
                        obtain ⟨u10, us10, rfl, hl10⟩ := us_cons (n := 0) hl9
                        obtain rfl := us_nil hl10
                        clear hl hl0 hl1 hl2 hl3 hl4 hl5 hl6 hl7 hl8 hl9
                        clear hS
                        replace HS : True := HS
                        obtain ⟨b, hb0, hGo, hGd⟩ : lwX w g w.heap.size gw nn cw at0 x0 (fun b => [codeR w2.heap.size d m f, ⟨some ⟨gw, 0, none⟩, nn, cw, 5, bys (W.set at0 b)⟩, ⟨Al, i, cl, 3, nats E⟩, ⟨some ⟨w9.heap.size, 0, none⟩, nn, nn, 4, bls (B.set at0 true)⟩]) 10 u10 v := hP 10 (by show 10 < 11; decide) (by decide)
                        have HOs := Lib.hid hGo
                        have HDs := Lib.hid hGd
                        clear HS hP hGo hGd
                        simp only [putL, Act.put, List.setIfInBounds_toArray, List.set_cons_zero, List.set_cons_succ]
                        go_wp2_with fail
                        go_roundw
                        case rel => exact ⟨k + 1, j + 1, W.set at0 (x0 ^^^ b), B.set at0 true, by omega, by omega, by go_num, by go_num, HF3.out b hb0, HOs.out, HDs.out⟩
                        case measure => simp [intOf]; omega
                  · have t4 : decide ((k : Int) > (mn : Int)) = false := decide_eq_false (by omega)
                    have t5 : decide ((mn : Int) < (k : Int)) = false := decide_eq_false (by omega)
                    clear hxb hc0 hc1 hc2 hc3
                    have hxb := HOr.out.valO 3 rfl (bls_at hB0)
                    have hfb := HOr.out.frzO 3 (vs := _) rfl at0
                    have G := HOr.out.put 3 rfl at0 (.bool true)
                    have GD := Lib.hid (HDr.out.turned (Nat.le_refl _) HOr.out (i := 3) rfl (grown_set wr ⟨w9.heap.size, at0, none⟩ (.bool true)))
                    rw [bls_set] at G
                    have HG := Lib.hid G
                    have hx0 : Hid (W[at0]? = some (Sy.wd W at0)) := Sy.wd_lt (by rw [HF.out.1]; exact h0n)
                    have HF3 : Hid (∀ c : UInt8, c ≠ 0 → (W.set at0 (Sy.wd W at0 ^^^ c)).length = nn ∧ Sy.oth nn E V (W.set at0 (Sy.wd W at0 ^^^ c)) = k + 1 ∧ (B.set at0 true).length = nn ∧ ∀ p, p < nn → ∃ b, (B.set at0 true)[p]? = some b ∧ (b = false → p ∉ E ∧ Sy.wd (W.set at0 (Sy.wd W at0 ^^^ c)) p = Sy.wd V p)) := fun c hc => by
                      obtain ⟨f1, f2, f3, f4⟩ := HF.out
                      obtain ⟨hbE, hbV⟩ := hbf (by first | trivial | rfl)
                      refine ⟨by rw [List.length_set]; exact f1, by rw [Sy.oth_set f1.symm h0n hbE hbV hc, f2], by rw [List.length_set]; exact f3, fun p hp => ?_⟩
                      by_cases h : at0 = p
                      · subst h
                        exact ⟨true, by rw [List.getElem?_set_self (by omega)], fun h => by cases h⟩
                      · obtain ⟨b, h1, h2⟩ := f4 p hp
                        exact ⟨b, by rw [List.getElem?_set_ne h]; exact h1, fun h3 => ⟨(h2 h3).1, by rw [Sy.wd_set_ne h]; exact (h2 h3).2⟩⟩
                    generalize Sy.wd W at0 = x0 at hx0 HF3
                    have HOr0 := Lib.hid HOr.out
                    clear hB0 G hbf
                    go_upto_region 27 with (fail)
                    generalize hw3 : World.setCell wr ⟨w9.heap.size, at0, none⟩ _ = w10
                    have HOr' := HG.out
                    have HDr' := GD.out
                    rw [hw3] at HOr' HDr'
                    have HOr := Lib.hid HOr'
                    have HDr := Lib.hid HDr'
                    clear hw3 HG GD HOr' HDr' hxb hfb HOr0
                    refine reg_monoT [some 142, some 143, some 144, some 145, some 146, some 147, some 148, some 149, some 150, some 151, none] (fun v => True) (fun v => Ow w v (some g) [] [] [codeR w2.heap.size d m f, ⟨some ⟨gw, 0, none⟩, nn, cw, 5, bys W⟩, ⟨Al, i, cl, 3, nats E⟩, ⟨some ⟨w9.heap.size, 0, none⟩, nn, nn, 4, bls (B.set at0 true)⟩] ∧ Dice v g w.heap.size) 10 (fun _ => 11) (lwX w g w.heap.size gw nn cw at0 x0 (fun b => [codeR w2.heap.size d m f, ⟨some ⟨gw, 0, none⟩, nn, cw, 5, bys (W.set at0 b)⟩, ⟨Al, i, cl, 3, nats E⟩, ⟨some ⟨w9.heap.size, 0, none⟩, nn, nn, 4, bls (B.set at0 true)⟩])) (by kernel_rfl) (by kernel_rfl) (by kernel_rfl) ?_ ?_ ?_ ?_
                    · exact trivial
                    · exact ⟨HOr.out.drew, HDr.out.drew⟩
                    · rintro j us v hj hl HS hS hp
                      replace hl : us.length = 11 := hl
                      obtain ⟨u0, us0, rfl, hl0⟩ := us_cons (n := 10) hl
                      obtain ⟨u1, us1, rfl, hl1⟩ := us_cons (n := 9) hl0
                      obtain ⟨u2, us2, rfl, hl2⟩ := us_cons (n := 8) hl1
                      obtain ⟨u3, us3, rfl, hl3⟩ := us_cons (n := 7) hl2
                      obtain ⟨u4, us4, rfl, hl4⟩ := us_cons (n := 6) hl3
                      obtain ⟨u5, us5, rfl, hl5⟩ := us_cons (n := 5) hl4
                      obtain ⟨u6, us6, rfl, hl6⟩ := us_cons (n := 4) hl5
                      obtain ⟨u7, us7, rfl, hl7⟩ := us_cons (n := 3) hl6
                      obtain ⟨u8, us8, rfl, hl8⟩ := us_cons (n := 2) hl7
                      obtain ⟨u9, us9, rfl, hl9⟩ := us_cons (n := 1) hl8
                      obtain ⟨u10, us10, rfl, hl10⟩ := us_cons (n := 0) hl9
                      obtain rfl := us_nil hl10
                      clear hl hl0 hl1 hl2 hl3 hl4 hl5 hl6 hl7 hl8 hl9
                      have hj' : j < 11 := hj
                      have hcase : j = 0 ∨ j = 1 ∨ j = 2 ∨ j = 3 ∨ j = 4 ∨ j = 5 ∨ j = 6 ∨ j = 7 ∨ j = 8 ∨ j = 9 ∨ j = 10 := by omega
                      clear hj hj'
                      replace HS : True := HS
                      rcases hcase with rfl | rfl | rfl | rfl | rfl | rfl | rfl | rfl | rfl | rfl | rfl
                      · have HS2 := Lib.hid (hS (.inl (by kernel_rfl)))
                        clear HS hS hp
                        refine wpOp_step rfl (fun K hK => ?_)
                        simp only [putL, Act.put, List.setIfInBounds_toArray, List.set_cons_zero, List.set_cons_succ]
                        go_simp
                        refine hK _ _ ⟨.slice (some ⟨gw, 0, none⟩) nn cw, ?_, trivial, fun _ _ h => h, rfl, fun _ _ _ _ _ _ h => h⟩
                        simp only [putL, Act.put, List.getD_cons_zero, List.setIfInBounds_toArray, List.set_cons_zero, List.set_cons_succ]
                      · have HS2 := Lib.hid (hS (.inl (by kernel_rfl)))
                        clear HS hS hp
                        refine wpOp_step rfl (fun K hK => ?_)
                        simp only [putL, Act.put, List.setIfInBounds_toArray, List.set_cons_zero, List.set_cons_succ]
                        go_simp
                        refine hK _ _ ⟨.int .i64 (at0 : Int), ?_, trivial, fun _ _ h => h, rfl, fun _ _ _ _ _ _ h => h⟩
                        simp only [putL, Act.put, List.getD_cons_zero, List.getD_cons_succ, List.setIfInBounds_toArray, List.set_cons_zero, List.set_cons_succ]
                      · obtain rfl : u0 = .slice (some ⟨gw, 0, none⟩) nn cw := hp 0 (by kernel_rfl) (.inr (by decide))
                        obtain rfl : u1 = .int .i64 (at0 : Int) := hp 1 (by kernel_rfl) (.inr (by decide))
                        have HS2 := Lib.hid (hS (.inl (by kernel_rfl)))
                        clear HS hS hp
                        refine wpOp_step rfl (fun K hK => ?_)
                        simp only [putL, Act.put, List.setIfInBounds_toArray, List.set_cons_zero, List.set_cons_succ]
                        go_simp
                        refine hK _ _ ⟨.pointer (some ⟨gw, at0, none⟩), ?_, trivial, fun _ _ h => h, rfl, fun _ _ _ _ _ _ h => h⟩
                        simp only [putL, Act.put, List.getD_cons_zero, List.getD_cons_succ, List.setIfInBounds_toArray, List.set_cons_zero, List.set_cons_succ]
                      · obtain rfl : u2 = .pointer (some ⟨gw, at0, none⟩) := hp 2 (by kernel_rfl) (.inr (by decide))
                        have HS2 := Lib.hid (hS (.inl (by kernel_rfl)))
                        clear HS hS hp
                        have hx := HS2.out.1.byteO 1 rfl hx0.out
                        refine wpOp_step rfl (fun K hK => ?_)
                        simp only [putL, Act.put, List.setIfInBounds_toArray, List.set_cons_zero, List.set_cons_succ]
                        go_simp
                        refine hK _ _ ⟨.int .u8 (x0.toNat : Int), ?_, trivial, fun _ _ h => h, rfl, fun _ _ _ _ _ _ h => h⟩
                        simp only [putL, Act.put, List.getD_cons_zero, List.getD_cons_succ, List.setIfInBounds_toArray, List.set_cons_zero, List.set_cons_succ]
                      · have HS2 := Lib.hid (hS (.inl (by kernel_rfl)))
                        clear HS hS hp
                        refine wpOp_step rfl (fun K hK => ?_)
                        simp only [putL, Act.put, List.setIfInBounds_toArray, List.set_cons_zero, List.set_cons_succ]
                        go_simp
                        refine hK _ _ ⟨.pointer (some ⟨g, 0, none⟩), ?_, trivial, fun _ _ h => h, rfl, fun _ _ _ _ _ _ h => h⟩
                        simp only [putL, Act.put, List.getD_cons_zero, List.getD_cons_succ, List.setIfInBounds_toArray, List.set_cons_zero, List.set_cons_succ]
                      · obtain rfl : u4 = .pointer (some ⟨g, 0, none⟩) := hp 4 (by kernel_rfl) (.inr (by decide))
                        have HS2 := Lib.hid (hS (.inl (by kernel_rfl)))
                        clear HS hS hp
                        refine wpOp_step rfl (fun K hK => ?_)
                        simp only [putL, Act.put, List.setIfInBounds_toArray, List.set_cons_zero, List.set_cons_succ]
                        go_simp
                        refine (next_ow HS2.out.1 HS2.out.2 255 (by omega) (by omega)).mono ?_
                        rintro en v' ⟨r, rfl, hr, hd', ho, hg⟩
                        refine hK _ _ ⟨.int .i64 (r : Int), ?_, trivial, fun _ _ _ => ⟨ho, hd'⟩, ⟨r, hr, rfl⟩, fun k y _ _ ha _ h => ?_⟩
                        · simp only [putL, Act.put, List.getD_cons_zero, List.getD_cons_succ, List.setIfInBounds_toArray, List.set_cons_zero, List.set_cons_succ]
                        by_cases hk9 : k = 10
                        · subst hk9; exact absurd (ha.symm.trans (show _ = true by kernel_rfl)) (by decide)
                        · exact lwX_any k y hk9 h
                      · obtain ⟨r, hr, rfl⟩ : lwX w g w.heap.size gw nn cw at0 x0 (fun b => [codeR w2.heap.size d m f, ⟨some ⟨gw, 0, none⟩, nn, cw, 5, bys (W.set at0 b)⟩, ⟨Al, i, cl, 3, nats E⟩, ⟨some ⟨w9.heap.size, 0, none⟩, nn, nn, 4, bls (B.set at0 true)⟩]) 5 u5 v := hp 5 (by kernel_rfl) (.inr (by decide))
                        obtain ⟨b, hb0, hb⟩ := byte_suc hr
                        have hbI := Lib.hid hb
                        clear hb
                        have HS2 := Lib.hid (hS (.inl (by kernel_rfl)))
                        clear HS hS hp
                        refine wpOp_step rfl (fun K hK => ?_)
                        simp only [putL, Act.put, List.setIfInBounds_toArray, List.set_cons_zero, List.set_cons_succ]
                        go_simp
                        rw [hbI.out, IntWalk.i64_in (b.toNat : Int) (by have := u8_lt' b; omega)]
                        refine hK _ _ ⟨.int .i64 (b.toNat : Int), ?_, trivial, fun _ _ h => h, ⟨b, hb0, rfl⟩, fun _ _ _ _ _ _ h => h⟩
                        simp only [putL, Act.put, List.getD_cons_zero, List.getD_cons_succ, List.setIfInBounds_toArray, List.set_cons_zero, List.set_cons_succ]
                      · obtain ⟨b, hb0, rfl⟩ : lwX w g w.heap.size gw nn cw at0 x0 (fun b => [codeR w2.heap.size d m f, ⟨some ⟨gw, 0, none⟩, nn, cw, 5, bys (W.set at0 b)⟩, ⟨Al, i, cl, 3, nats E⟩, ⟨some ⟨w9.heap.size, 0, none⟩, nn, nn, 4, bls (B.set at0 true)⟩]) 6 u6 v := hp 6 (by kernel_rfl) (.inr (by decide))
                        have hwb : IntKind.u8.wrap (b.toNat : Int) = (b.toNat : Int) := IntWalk.u8_in _ (by have := u8_lt' b; omega)
                        have HB0 := Lib.hid hb0
                        clear hb0
                        have HS2 := Lib.hid (hS (.inl (by kernel_rfl)))
                        clear HS hS hp
                        refine wpOp_step rfl (fun K hK => ?_)
                        simp only [putL, Act.put, List.setIfInBounds_toArray, List.set_cons_zero, List.set_cons_succ]
                        go_simp
                        refine hK _ _ ⟨.int .u8 (b.toNat : Int), ?_, trivial, fun _ _ h => h, ⟨b, HB0.out, rfl⟩, fun _ _ _ _ _ _ h => h⟩
                        simp only [putL, Act.put, List.getD_cons_zero, List.getD_cons_succ, List.setIfInBounds_toArray, List.set_cons_zero, List.set_cons_succ]
                      · obtain ⟨b, hb0, rfl⟩ : lwX w g w.heap.size gw nn cw at0 x0 (fun b => [codeR w2.heap.size d m f, ⟨some ⟨gw, 0, none⟩, nn, cw, 5, bys (W.set at0 b)⟩, ⟨Al, i, cl, 3, nats E⟩, ⟨some ⟨w9.heap.size, 0, none⟩, nn, nn, 4, bls (B.set at0 true)⟩]) 7 u7 v := hp 7 (by kernel_rfl) (.inr (by decide))
                        obtain rfl : u3 = .int .u8 (x0.toNat : Int) := hp 3 (by kernel_rfl) (.inr (by decide))
                        obtain ⟨z, hz, HZ⟩ := xor_ex x0 b
                        have HB0 := Lib.hid hb0
                        clear hb0
                        have HS2 := Lib.hid (hS (.inl (by kernel_rfl)))
                        clear HS hS hp
                        refine wpOp_step rfl (fun K hK => ?_)
                        simp only [putL, Act.put, List.setIfInBounds_toArray, List.set_cons_zero, List.set_cons_succ]
                        go_simp
                        refine hK _ _ ⟨.int .u8 (z.toNat : Int), ?_, trivial, fun _ _ h => h, ⟨b, z, HB0.out, rfl, HZ.out⟩, fun _ _ _ _ _ _ h => h⟩
                        simp only [putL, Act.put, List.getD_cons_zero, List.getD_cons_succ, List.setIfInBounds_toArray, List.set_cons_zero, List.set_cons_succ]
                      · obtain rfl : u0 = .slice (some ⟨gw, 0, none⟩) nn cw := hp 0 (by kernel_rfl) (.inr (by decide))
                        obtain rfl : u1 = .int .i64 (at0 : Int) := hp 1 (by kernel_rfl) (.inr (by decide))
                        have HS2 := Lib.hid (hS (.inl (by kernel_rfl)))
                        clear HS hS hp
                        refine wpOp_step rfl (fun K hK => ?_)
                        simp only [putL, Act.put, List.setIfInBounds_toArray, List.set_cons_zero, List.set_cons_succ]
                        go_simp
                        refine hK _ _ ⟨.pointer (some ⟨gw, at0, none⟩), ?_, trivial, fun _ _ h => h, rfl, fun _ _ _ _ _ _ h => h⟩
                        simp only [putL, Act.put, List.getD_cons_zero, List.getD_cons_succ, List.setIfInBounds_toArray, List.set_cons_zero, List.set_cons_succ]
                      · obtain ⟨b, z, hb0, rfl, hz⟩ : lwX w g w.heap.size gw nn cw at0 x0 (fun b => [codeR w2.heap.size d m f, ⟨some ⟨gw, 0, none⟩, nn, cw, 5, bys (W.set at0 b)⟩, ⟨Al, i, cl, 3, nats E⟩, ⟨some ⟨w9.heap.size, 0, none⟩, nn, nn, 4, bls (B.set at0 true)⟩]) 8 u8 v := hp 8 (by kernel_rfl) (.inr (by decide))
                        obtain rfl : u9 = .pointer (some ⟨gw, at0, none⟩) := hp 9 (by kernel_rfl) (.inr (by decide))
                        have HS2 := Lib.hid (hS (.inr (.inl rfl)))
                        clear HS hS hp
                        have HB0 := Lib.hid hb0
                        have HZ := Lib.hid hz
                        clear hb0 hz
                        have hcl := HS2.out.1.byteO 1 rfl hx0.out
                        have hfr := HS2.out.1.frzO 1 (vs := _) rfl at0
                        have G := Lib.hid (HS2.out.1.putB 1 rfl at0 z)
                        have GD := Lib.hid (HS2.out.2.turned (Nat.le_refl _) HS2.out.1 (i := 1) rfl (grown_set v ⟨gw, at0, none⟩ (.int .u8 (z.toNat : Int))))
                        refine wpOp_step rfl (fun K hK => ?_)
                        simp only [putL, Act.put, List.setIfInBounds_toArray, List.set_cons_zero, List.set_cons_succ]
                        go_simp
                        refine hK _ _ ⟨undef, ?_, trivial, fun h => absurd rfl h, ⟨b, HB0.out, by rw [← HZ.out]; exact G.out, GD.out⟩, fun k y hk _ _ _ h => lwX_any k y hk h⟩
                        simp only [putL, Act.put, List.getD_cons_zero, List.getD_cons_succ, List.setIfInBounds_toArray, List.set_cons_zero, List.set_cons_succ]
                    · rintro us v hl HS hS hP
                      replace hl : us.length = 11 := hl
                      obtain ⟨u0, us0, rfl, hl0⟩ := us_cons (n := 10) hl
                      obtain ⟨u1, us1, rfl, hl1⟩ := us_cons (n := 9) hl0
                      obtain ⟨u2, us2, rfl, hl2⟩ := us_cons (n := 8) hl1
                      obtain ⟨u3, us3, rfl, hl3⟩ := us_cons (n := 7) hl2
                      obtain ⟨u4, us4, rfl, hl4⟩ := us_cons (n := 6) hl3
                      obtain ⟨u5, us5, rfl, hl5⟩ := us_cons (n := 5) hl4
                      obtain ⟨u6, us6, rfl, hl6⟩ := us_cons (n := 4) hl5
                      obtain ⟨u7, us7, rfl, hl7⟩ := us_cons (n := 3) hl6
                      obtain ⟨u8, us8, rfl, hl8⟩ := us_cons (n := 2) hl7
                      obtain ⟨u9, us9, rfl, hl9⟩ := us_cons (n := 1) hl8
                      obtain ⟨u10, us10, rfl, hl10⟩ := us_cons (n := 0) hl9
                      obtain rfl := us_nil hl10
                      clear hl hl0 hl1 hl2 hl3 hl4 hl5 hl6 hl7 hl8 hl9
                      clear hS
                      replace HS : True := HS
                      obtain ⟨b, hb0, hGo, hGd⟩ : lwX w g w.heap.size gw nn cw at0 x0 (fun b => [codeR w2.heap.size d m f, ⟨some ⟨gw, 0, none⟩, nn, cw, 5, bys (W.set at0 b)⟩, ⟨Al, i, cl, 3, nats E⟩, ⟨some ⟨w9.heap.size, 0, none⟩, nn, nn, 4, bls (B.set at0 true)⟩]) 10 u10 v := hP 10 (by show 10 < 11; decide) (by decide)
                      have HOs := Lib.hid hGo
                      have HDs := Lib.hid hGd
                      clear HS hP hGo hGd
                      simp only [putL, Act.put, List.setIfInBounds_toArray, List.set_cons_zero, List.set_cons_succ]
                      go_wp2_with fail
                      go_roundw
                      case rel => exact ⟨k + 1, j + 1, W.set at0 (x0 ^^^ b), B.set at0 true, by omega, by omega, by go_num, by go_num, HF3.out b hb0, HOs.out, HDs.out⟩
                      case measure => simp [intOf]; omega
            · have t2 : decide ((k : Int) < (m : Int) - (mn : Int) - (i : Int)) = false := decide_eq_false (by omega)
              have HDec : Hid (Calls Tryd.prog 14 #[.agg #[.int .i64 2, .int .i64 (d : Int), .int .i64 (m : Int), .int .i64 (f : Int)], .slice (some ⟨gw, 0, none⟩) nn cw, .slice Al i cl] wr (DecR wr (Sy.decM m f W E))) := by
                unfold Hid
                have h1 := HOr.out.row 1 rfl
                have h2 := HOr.out.row 2 rfl
                have h3 := HF.out.1
                rw [hnn.out] at h1 h3 ⊢
                exact decode_any hcd0.out hfm (some ⟨gw, 0, none⟩) cw Al i cl W E wr h3 (Sl.of_own h1) (own_cap h1).1 HE.out.2 (Sl.of_own h2) (own_cap h2).1 (by rw [← hnn.out]; exact HE.out.1)
              have HLost : Hid (mn < k → Sy.decM m f W E = (2, [], [])) := fun hlt => by
                have h1 := HF.out.2.1
                exact Sy.dec_lost (by omega) HF.out.1 HE.out.1 HVl.out HVc.out (by rw [h1, ← hmn2.out]; exact hlt) (by rw [h1, ← hmn2.out, HE.out.2]; exact hk)
              have HOz := Lib.hid HOr.out
              clear HF HOr HDr
              rcases Nat.lt_or_ge mn k with hmk | hmk
              · have t3 : decide ((k : Int) ≤ (mn : Int)) = false := decide_eq_false (by omega)
                rw [HLost.out hmk] at HDec
                go_wp2_with fail
                refine HDec.out.mono ?_
                rintro en w12 ⟨A1, n1, c1, A2, n2, c2, rfl, hn1, hn2, ho1, ho2, hb⟩
                obtain rfl : 0 = n1 := hn1
                obtain rfl : 0 = n2 := hn2
                have HOw := Lib.hid ((HOz.out.go hb).arr #[.int .i64 ((2 : Nat) : Int), .slice A1 0 c1, .slice A2 0 c2] 3 rfl (by omega) 38)
                obtain ⟨hy0, hy1, hy2⟩ := HOw.out.dec 4 rfl
                clear hb ho1 ho2
                go_wp2_with fail
                go_ret
                exact ⟨rfl, HOw.out.below⟩
              · have t3 : decide ((k : Int) ≤ (mn : Int)) = true := decide_eq_true (by omega)
                clear HLost
                go_wp2_with fail
                refine HDec.out.mono ?_
                rintro en w12 ⟨A1, n1, c1, A2, n2, c2, rfl, hn1, hn2, ho1, ho2, hb⟩
                have HOw := Lib.hid ((HOz.out.go hb).arr #[.int .i64 ((Sy.decM m f W E).1 : Int), .slice A1 n1 c1, .slice A2 n2 c2] 3 rfl (by omega) 38)
                clear hb ho1 ho2 hn1 hn2
                go_wp2_with fail
                go_ret
                exact ⟨rfl, HOw.out.below⟩
          · have t1 : decide ((j : Int) < (nn : Int)) = false := decide_eq_false (by omega)
            have HDec : Hid (Calls Tryd.prog 14 #[.agg #[.int .i64 2, .int .i64 (d : Int), .int .i64 (m : Int), .int .i64 (f : Int)], .slice (some ⟨gw, 0, none⟩) nn cw, .slice Al i cl] wr (DecR wr (Sy.decM m f W E))) := by
              unfold Hid
              have h1 := HOr.out.row 1 rfl
              have h2 := HOr.out.row 2 rfl
              have h3 := HF.out.1
              rw [hnn.out] at h1 h3 ⊢
              exact decode_any hcd0.out hfm (some ⟨gw, 0, none⟩) cw Al i cl W E wr h3 (Sl.of_own h1) (own_cap h1).1 HE.out.2 (Sl.of_own h2) (own_cap h2).1 (by rw [← hnn.out]; exact HE.out.1)
            have HLost : Hid (mn < k → Sy.decM m f W E = (2, [], [])) := fun hlt => by
              have h1 := HF.out.2.1
              exact Sy.dec_lost (by omega) HF.out.1 HE.out.1 HVl.out HVc.out (by rw [h1, ← hmn2.out]; exact hlt) (by rw [h1, ← hmn2.out, HE.out.2]; exact hk)
            have HOz := Lib.hid HOr.out
            clear HF HOr HDr
            rcases Nat.lt_or_ge mn k with hmk | hmk
            · have t3 : decide ((k : Int) ≤ (mn : Int)) = false := decide_eq_false (by omega)
              rw [HLost.out hmk] at HDec
              go_wp2_with fail
              refine HDec.out.mono ?_
              rintro en w12 ⟨A1, n1, c1, A2, n2, c2, rfl, hn1, hn2, ho1, ho2, hb⟩
              obtain rfl : 0 = n1 := hn1
              obtain rfl : 0 = n2 := hn2
              have HOw := Lib.hid ((HOz.out.go hb).arr #[.int .i64 ((2 : Nat) : Int), .slice A1 0 c1, .slice A2 0 c2] 3 rfl (by omega) 38)
              obtain ⟨hy0, hy1, hy2⟩ := HOw.out.dec 4 rfl
              clear hb ho1 ho2
              go_wp2_with fail
              go_ret
              exact ⟨rfl, HOw.out.below⟩
            · have t3 : decide ((k : Int) ≤ (mn : Int)) = true := decide_eq_true (by omega)
              clear HLost
              go_wp2_with fail
              refine HDec.out.mono ?_
              rintro en w12 ⟨A1, n1, c1, A2, n2, c2, rfl, hn1, hn2, ho1, ho2, hb⟩
              have HOw := Lib.hid ((HOz.out.go hb).arr #[.int .i64 ((Sy.decM m f W E).1 : Int), .slice A1 n1 c1, .slice A2 n2 c2] 3 rfl (by omega) 38)
              clear hb ho1 ho2 hn1 hn2
              go_wp2_with fail
              go_ret
              exact ⟨rfl, HOw.out.below⟩
end Go.Proofs.YtnplaejlmbncfaaDoor
