/- Sj Su -/
import Derived.Test.YtnplaejlmbncfaaGreatDoorM04
import Derived.Test.YtnplaejlmbncfaaGreatDoorM06
import Derived.Test.YtnplaejlmbncfaaGreatDoorM09
import Derived.Test.YtnplaejlmbncfaaGreatDoorM10
namespace Go.Proofs.YtnplaejlmbncfaaGreatDoor
open Go.RowKit
set_option linter.unusedVariables false
set_option maxRecDepth 100000
namespace Sy
/-- so many check bytes are written -/
def encTo (m : Nat) (data : List UInt8) (k : Nat) : List UInt8 := data ++ (List.range m).map fun i => if m - 1 - i < k then Po.co (rest m data) (m - 1 - i) else 0
theorem encTo_zero (m : Nat) (data : List UInt8) : encTo m data 0 = data ++ List.replicate m 0 := by
  unfold encTo
  congr 1
  refine List.ext_getElem? fun i => ?_
  rw [List.getElem?_map]
  rcases Nat.lt_or_ge i m with h | h
  · rw [List.getElem?_range h, List.getElem?_replicate, if_pos h]; simp
  · rw [List.getElem?_eq_none (by simpa using h), List.getElem?_eq_none (by simpa using h)]; rfl
theorem encTo_length (m : Nat) (data : List UInt8) (k : Nat) : (encTo m data k).length = data.length + m := by unfold encTo; simp
theorem encTo_succ (m : Nat) (data : List UInt8) {k : Nat} {b : UInt8} (hk : k < m) (hb : (rest m data)[k]? = some b) : (encTo m data k).set (data.length + m - 1 - k) b = encTo m data (k + 1) := by
  unfold encTo
  rw [List.set_append_right _ _ (by omega)]
  congr 1
  refine List.ext_getElem? fun i => ?_
  rw [List.getElem?_set]
  rcases Nat.lt_or_ge i m with h | h
  · rw [List.getElem?_map, List.getElem?_map, List.getElem?_range h]
    by_cases e : data.length + m - 1 - k - data.length = i
    · rw [if_pos e, if_pos (by simp; omega)]
      have e2 : m - 1 - i = k := by omega
      show some b = some (if m - 1 - i < k + 1 then _ else _)
      rw [e2, if_pos (by omega)]
      unfold Po.co
      rw [hb]; rfl
    · rw [if_neg e]
      show some (if m - 1 - i < k then _ else _) = some (if m - 1 - i < k + 1 then _ else _)
      by_cases e2 : m - 1 - i < k
      · rw [if_pos e2, if_pos (by omega)]
      · rw [if_neg e2, if_neg (by omega)]
  · rw [if_neg (by omega), List.getElem?_eq_none (by simpa using h), List.getElem?_eq_none (by simpa using h)]
theorem encTo_all (m : Nat) (data : List UInt8) {k : Nat} (hk : (rest m data).length ≤ k) : encTo m data k = enc m data := by
  unfold encTo enc
  congr 1
  refine List.map_congr_left fun i hi => ?_
  by_cases h : m - 1 - i < k
  · rw [if_pos h]
  · rw [if_neg h, Po.co_big _ _ (by omega)]
end Sy
abbrev codeR (b d m f : Nat) : Rw := ⟨some ⟨b, 0, none⟩, 4, 4, 28, (cdv d m f).toList⟩
def encP (w : World) (b : Nat) (A : Option Addr) (n c d m f : Nat) (data : List UInt8) (k : Nat) (l : List UInt8) (x : Value) (v : World) : Prop := ∃ (A1 : Option Addr) (c1 : Nat), x = .slice A1 k c1 ∧ Ow w v none [] [⟨A, n, c, bys data⟩] [codeR b d m f, ⟨A1, k, c1, 5, bys l⟩]
def encPr (w : World) (b : Nat) (A : Option Addr) (n c d m f : Nat) (data : List UInt8) (i : Nat) (x : Value) (v : World) : Prop :=
  match i with
  | 0 => x = .slice A n c
  | 1 => encP w b A n c d m f data d data x v
  | 2 => x = .pointer (some ⟨b, 2, none⟩)
  | 3 => x = .int .i64 (m : Int)
  | 4 => encP w b A n c d m f data (d + m) (data ++ List.replicate m 0) x v
  | 5 => encP w b A n c d m f data (d + m) (data ++ List.replicate m 0) x v
  | _ => True
theorem encP_go {w : World} {b : Nat} {A : Option Addr} {n c d m f k : Nat} {data l : List UInt8} {x : Value} {v v' : World} (hb : Below v.heap.size v v') (h : encP w b A n c d m f data k l x v) : encP w b A n c d m f data k l x v' := by
  obtain ⟨A1, c1, rfl, h⟩ := h
  exact ⟨A1, c1, rfl, h.go hb⟩
theorem encPr_go {w : World} {b : Nat} {A : Option Addr} {n c d m f : Nat} {data : List UInt8} {v v' : World} (hb : Below v.heap.size v v') : ∀ (i : Nat) (x : Value), encPr w b A n c d m f data i x v → encPr w b A n c d m f data i x v'
  | 0, _, h => h
  | 1, _, h => encP_go hb h
  | 2, _, h => h
  | 3, _, h => h
  | 4, _, h => encP_go hb h
  | 5, _, h => encP_go hb h
  | _ + 6, _, _ => trivial
def encT (w : World) (L : List Ob) (O : List Rw) (l : List UInt8) (x : Value) (v : World) : Prop := ∃ (A1 : Option Addr) (n1 c1 : Nat) (A2 : Option Addr) (n2 c2 : Nat), x = .tuple #[.slice A1 n1 c1, .slice A2 n2 c2, .int .i64 0] ∧ l.length = n2 ∧ Ow w v none [] L (O ++ [⟨A2, n2, c2, 5, bys l⟩])
def encQ (w : World) (L : List Ob) (O : List Rw) (l : List UInt8) (x : Value) (v : World) : Prop := ∃ (A2 : Option Addr) (n2 c2 : Nat), x = .slice A2 n2 c2 ∧ l.length = n2 ∧ Ow w v none [] L (O ++ [⟨A2, n2, c2, 5, bys l⟩])
def slF (l : List UInt8) (x : Value) (v : World) : Prop := ∃ (A : Option Addr) (n c : Nat), x = .slice A n c ∧ l.length = n ∧ Sl v v.heap.size A (bys l)
theorem slF_go {l : List UInt8} {x : Value} {v v' : World} (hb : Below v.heap.size v v') (h : slF l x v) : slF l x v' := by
  obtain ⟨A, n, c, h1, h2, h3⟩ := h
  exact ⟨A, n, c, h1, h2, (h3.below hb).more hb.size⟩
def enc8Pr (w : World) (L : List Ob) (O : List Rw) (b m : Nat) (A3 : Option Addr) (n3 c3 : Nat) (p q l : List UInt8) (i : Nat) (x : Value) (v : World) : Prop :=
  match i with
  | 0 => x = .slice A3 n3 c3
  | 1 => slF p x v
  | 2 => x = .pointer (some ⟨b, 2, none⟩)
  | 3 => x = .int .i64 (m : Int)
  | 4 => slF q x v
  | 5 => encT w L O l x v
  | 6 => encT w L O l x v
  | 8 => encQ w L O l x v
  | 11 => encQ w L O l x v
  | _ => True
theorem enc8_go {w : World} {L : List Ob} {O : List Rw} {b m : Nat} {A3 : Option Addr} {n3 c3 : Nat} {p q l : List UInt8} {v v' : World} (hb : Below v.heap.size v v') : ∀ (i : Nat) (x : Value), enc8Pr w L O b m A3 n3 c3 p q l i x v → enc8Pr w L O b m A3 n3 c3 p q l i x v'
  | 0, _, h => h
  | 1, _, h => slF_go hb h
  | 2, _, h => h
  | 3, _, h => h
  | 4, _, h => slF_go hb h
  | 5, _, ⟨A1, n1, c1, A2, n2, c2, h1, h2, h3⟩ => ⟨A1, n1, c1, A2, n2, c2, h1, h2, h3.go hb⟩
  | 6, _, ⟨A1, n1, c1, A2, n2, c2, h1, h2, h3⟩ => ⟨A1, n1, c1, A2, n2, c2, h1, h2, h3.go hb⟩
  | 7, _, _ => trivial
  | 8, _, ⟨A2, n2, c2, h1, h2, h3⟩ => ⟨A2, n2, c2, h1, h2, h3.go hb⟩
  | 9, _, _ => trivial
  | 10, _, _ => trivial
  | 11, _, ⟨A2, n2, c2, h1, h2, h3⟩ => ⟨A2, n2, c2, h1, h2, h3.go hb⟩
  | _ + 12, _, _ => trivial
def REnc (w : World) (L : List Ob) (b d m f : Nat) (r3 r4 : Rw) (A1 : Option Addr) (c1 : Nat) (data : List UInt8) (n4 : Nat) (v : Value) (wr : World) : Prop := ∃ k : Nat, k ≤ n4 ∧ v = .int .i64 (k : Int) ∧ Hid (Ow w wr none [] L [codeR b d m f, ⟨A1, d + m, c1, 5, bys (Sy.encTo m data k)⟩, r3, r4])
set_option maxHeartbeats 8000000 in
theorem encode_ok {d m f : Nat} (h : Cd d m f) (hf : f ≤ m / 2) (A : Option Addr) (c : Nat) (data : List UInt8) (w : World) (hn : data.length = d) (hs : Sl w w.heap.size A (bys data)) (hnc : d ≤ c) :
    Calls Tryz.prog 46 #[.agg #[.int .i64 2, .int .i64 (d : Int), .int .i64 (m : Int), .int .i64 (f : Int)], .slice A d c] w (ResB w (Sy.enc m data) 0) := by
  have hc := h
  obtain ⟨h1, h2, h3, h4, h5⟩ := h
  have H0 := ((Ow.of (St.refl w)).old hs (by rw [bys_length]; exact hn) hnc (by omega)).code d m f
  simp only [List.nil_append] at H0
  obtain ⟨hc0, hc1, hc2, hc3⟩ := H0.cdc 0 rfl
  have HO := Lib.hid H0
  have HV := Lib.hid (fun W => good_any hc W)
  have HN := Lib.hid hn
  have hne : ((d : Int) != (d : Int)) = false := by simp
  rw [decide_eq_true hf] at HV
  clear H0 hs hn hc
  go_enter Tryz.func46, Tryz.ntmps46
  go_upto_region 5 with (go_at_call 86; refine (HV.out _).mono ?_; rintro e w1 ⟨rfl, hb⟩; have HO1 := Lib.hid (HO.out.go hb); obtain ⟨hd0, hd1, hd2, hd3⟩ := HO1.out.cdc 0 rfl; clear hb)
  clear hd0 hd1 hd2 hd3 hc0 hc1 hc2 hc3
  refine reg_mono [some 23, some 24, some 25, some 26, some 27, some 6] (fun v => Ow w v none [] [⟨A, d, c, bys data⟩] [codeR w.heap.size d m f]) 6 (fun i => if i = 1 then 4 else 6) (encPr w w.heap.size A d c d m f data) (by kernel_rfl) (by kernel_rfl) (by kernel_rfl) ?_ ?_ ?_
  · exact HO1.out.drew
  · rintro j us v hj hl hS hp
    replace hl : us.length = 6 := hl
    obtain ⟨u0, us0, rfl, hl0⟩ := us_cons (n := 5) hl
    obtain ⟨u1, us1, rfl, hl1⟩ := us_cons (n := 4) hl0
    obtain ⟨u2, us2, rfl, hl2⟩ := us_cons (n := 3) hl1
    obtain ⟨u3, us3, rfl, hl3⟩ := us_cons (n := 2) hl2
    obtain ⟨u4, us4, rfl, hl4⟩ := us_cons (n := 1) hl3
    obtain ⟨u5, us5, rfl, hl5⟩ := us_cons (n := 0) hl4
    obtain rfl := us_nil hl5
    have hj' : j < 6 := hj
    have hcase : j = 0 ∨ j = 1 ∨ j = 2 ∨ j = 3 ∨ j = 4 ∨ j = 5 := by omega
    clear hj hj'
    rcases hcase with rfl | rfl | rfl | rfl | rfl | rfl
    · refine wpOp_step rfl (fun K hK => ?_)
      simp only [putL, Act.put, List.setIfInBounds_toArray, List.set_cons_zero, List.set_cons_succ]
      go_simp
      refine hK _ _ ⟨.slice A d c, ?_, fun _ _ h => h, rfl, fun _ _ _ _ _ _ h => h⟩
      simp only [putL, Act.put, List.getD_cons_zero, List.setIfInBounds_toArray, List.set_cons_zero, List.set_cons_succ]
    · obtain rfl : u0 = .slice A d c := hp 0 (by kernel_rfl) (.inr (by decide))
      have HS : Ow w v none [] [⟨A, d, c, bys data⟩] [codeR w.heap.size d m f] := hS (.inr (.inr (by decide)))
      clear hS hp
      refine wpOp_step rfl (fun K hK => ?_)
      simp only [putL, Act.put, List.setIfInBounds_toArray, List.set_cons_zero, List.set_cons_succ]
      go_simp
      refine (cloneB_fresh A d c v.heap.size data v HN.out (HS.sl (i := 0) rfl).2.2.2 (Nat.le_refl _) (by omega)).mono ?_
      rintro e v' ⟨A1, n1, c1, rfl, hn1, ho, hb⟩
      obtain rfl : d = n1 := HN.out.symm.trans hn1
      refine hK _ _ ⟨.slice A1 d c1, ?_, fun _ _ h => Ow.go h hb, ⟨A1, c1, rfl, HS.add ho hb⟩, fun i y _ _ _ _ h => encPr_go hb i y h⟩
      simp only [putL, Act.put, List.getD_cons_zero, List.getD_cons_succ, List.setIfInBounds_toArray, List.set_cons_zero, List.set_cons_succ]
    · refine wpOp_step rfl (fun K hK => ?_)
      simp only [putL, Act.put, List.setIfInBounds_toArray, List.set_cons_zero, List.set_cons_succ]
      go_simp
      refine hK _ _ ⟨.pointer (some ⟨w.heap.size, 2, none⟩), ?_, fun _ _ h => h, rfl, fun _ _ _ _ _ _ h => h⟩
      simp only [putL, Act.put, List.getD_cons_zero, List.getD_cons_succ, List.setIfInBounds_toArray, List.set_cons_zero, List.set_cons_succ]
    · obtain rfl : u2 = .pointer (some ⟨w.heap.size, 2, none⟩) := hp 2 (by kernel_rfl) (.inr (by decide))
      have HS : Ow w v none [] [⟨A, d, c, bys data⟩] [codeR w.heap.size d m f] := hS (.inr (.inr (by decide)))
      obtain ⟨-, -, hx, -⟩ := HS.cdc 0 rfl
      clear hS hp
      refine wpOp_step rfl (fun K hK => ?_)
      simp only [putL, Act.put, List.setIfInBounds_toArray, List.set_cons_zero, List.set_cons_succ]
      go_simp
      refine hK _ _ ⟨.int .i64 (m : Int), ?_, fun _ _ h => h, rfl, fun _ _ _ _ _ _ h => h⟩
      simp only [putL, Act.put, List.getD_cons_zero, List.getD_cons_succ, List.setIfInBounds_toArray, List.set_cons_zero, List.set_cons_succ]
    · obtain rfl : u3 = .int .i64 (m : Int) := hp 3 (by kernel_rfl) (.inr (by decide))
      obtain ⟨A1, c1, rfl, HA⟩ : encP w w.heap.size A d c d m f data d data u1 v := hp 1 (by kernel_rfl) (.inl (by decide))
      clear hS hp
      refine wpOp_step rfl (fun K hK => ?_)
      simp only [putL, Act.put, List.setIfInBounds_toArray, List.set_cons_zero, List.set_cons_succ]
      refine owp_append_zeros elemB Tryz.underlying3 rfl HA 1 (.tmp 24) (.tmp 26) rfl m (by unfold maxLen; omega) (by omega) rfl rfl rfl rfl ?_
      intro A' c' v' how
      rw [bys_zeros, bys_app] at how
      refine hK _ _ ⟨.slice A' (d + m) c', ?_, fun _ _ _ => how.few 1, ⟨A', c', rfl, how⟩, fun i y hi hk ha _ h => ?_⟩
      · show Act.put _ (some 27) (.slice A' (d + m) c') = _
        simp only [putL, Act.put, List.getD_cons_zero, List.getD_cons_succ, List.setIfInBounds_toArray, List.set_cons_zero, List.set_cons_succ]
      rcases i with _ | _ | _ | _ | _ | _ | i
      · exact h
      · exact absurd rfl hk
      · exact h
      · exact h
      · exact absurd rfl hi
      · exact absurd (ha.symm.trans (show _ = true by kernel_rfl)) (by decide)
      · trivial
    · obtain ⟨A1, c1, rfl, HA⟩ : encP w w.heap.size A d c d m f data (d + m) (data ++ List.replicate m 0) u4 v := hp 4 (by kernel_rfl) (.inr (by decide))
      clear hS hp
      refine wpOp_step rfl (fun K hK => ?_)
      simp only [putL, Act.put, List.setIfInBounds_toArray, List.set_cons_zero, List.set_cons_succ]
      go_simp
      refine hK _ _ ⟨.slice A1 (d + m) c1, ?_, fun _ _ h => h, ⟨A1, c1, rfl, HA⟩, fun _ _ _ _ _ _ h => h⟩
      simp only [putL, Act.put, List.getD_cons_zero, List.getD_cons_succ, List.setIfInBounds_toArray, List.set_cons_zero, List.set_cons_succ]
  · rintro us v hl hS hP
    replace hl : us.length = 6 := hl
    obtain ⟨u0, us0, rfl, hl0⟩ := us_cons (n := 5) hl
    obtain ⟨u1, us1, rfl, hl1⟩ := us_cons (n := 4) hl0
    obtain ⟨u2, us2, rfl, hl2⟩ := us_cons (n := 3) hl1
    obtain ⟨u3, us3, rfl, hl3⟩ := us_cons (n := 2) hl2
    obtain ⟨u4, us4, rfl, hl4⟩ := us_cons (n := 1) hl3
    obtain ⟨u5, us5, rfl, hl5⟩ := us_cons (n := 0) hl4
    obtain rfl := us_nil hl5
    obtain ⟨A1, c1, rfl, HA⟩ : encP w w.heap.size A d c d m f data (d + m) (data ++ List.replicate m 0) u5 v := hP 5 (by show 5 < 6; decide) (by decide)
    clear hS hP
    simp only [putL, Act.put, List.setIfInBounds_toArray, List.set_cons_zero, List.set_cons_succ]
    have HL : Hid ((data ++ List.replicate m 0).length = d + m) := by unfold Hid; rw [List.length_append, List.length_replicate, HN.out]
    have HA2 := Lib.hid HA
    obtain ⟨w4, hw4⟩ : ∃ W, W = v := ⟨_, rfl⟩
    subst hw4
    clear HA HO1
    go_upto_region 8 with (first | (go_at_call 87; refine (cloneB_fresh A1 (d + m) c1 w4.heap.size _ w4 HL.out (Sl.of_own (HA2.out.row 1 rfl)) (Nat.le_refl _) (by omega)).mono ?_; rintro e w5 ⟨A3, n3, c3, rfl, hn3, ho3, hb3⟩; obtain rfl : d + m = n3 := HL.out.symm.trans hn3; have HO3 := Lib.hid ho3; have HB3 := Lib.hid hb3; clear hn3 ho3 hb3) | (go_at_call 88; refine (reverse_any A3 (d + m) c3 w4.heap.size _ w5 HL.out HO3.out (by omega) HB3.out.size).mono ?_; rintro e w6 ⟨rfl, ho6, hb6⟩; have HO6 := Lib.hid (HA2.out.add ho6 (HB3.out.trans hb6)); clear ho6 hb6))
    clear HB3 HO3
    have HG := Lib.hid (Sy.gen_ok m (by omega))
    have HH : Hid (Sy.high m data = (data ++ List.replicate m 0).reverse) := rfl
    have HHL : Hid ((Sy.high m data).length = d + m) := by unfold Hid; rw [Sy.high_length, HN.out]
    have HD : Hid (Po.divR (Po.trim (Sy.high m data)) (Sy.gen m) = Sy.rest m data ∧ Po.divE (Po.trim (Sy.high m data)) (Sy.gen m) = 0) := (Po.div_some (by rw [Po.trim_vld _ (by rw [HHL.out]; omega), HG.out.1]; rfl) (by rw [HG.out.2]; omega)).2
    have HRl : Hid ((Sy.rest m data).length ≤ m) := Sy.rest_length m (by omega) data
    have HO6 : Hid (Ow w w6 none [] [⟨A, d, c, bys data⟩] [codeR w.heap.size d m f, ⟨A1, d + m, c1, 5, bys (data ++ List.replicate m 0)⟩, ⟨A3, d + m, c3, 5, bys (Sy.high m data)⟩]) := HO6.out
    refine reg_mono [some 33, some 34, some 35, some 36, some 37, some 38, some 32, some 39, some 40, some 41, some 8, some 9, some 10] (fun v => Ow w v none [] [⟨A, d, c, bys data⟩] [codeR w.heap.size d m f, ⟨A1, d + m, c1, 5, bys (data ++ List.replicate m 0)⟩, ⟨A3, d + m, c3, 5, bys (Sy.high m data)⟩]) 13 (fun _ => 13) (enc8Pr w [⟨A, d, c, bys data⟩] [codeR w.heap.size d m f, ⟨A1, d + m, c1, 5, bys (data ++ List.replicate m 0)⟩, ⟨A3, d + m, c3, 5, bys (Sy.high m data)⟩] w.heap.size m A3 (d + m) c3 (Po.trim (Sy.high m data)) (Sy.gen m) (Sy.rest m data)) (by kernel_rfl) (by kernel_rfl) (by kernel_rfl) ?_ ?_ ?_
    · exact HO6.out.drew
    · rintro j us v hj hl hS hp
      replace hl : us.length = 13 := hl
      obtain ⟨u0, us0, rfl, hl0⟩ := us_cons (n := 12) hl
      obtain ⟨u1, us1, rfl, hl1⟩ := us_cons (n := 11) hl0
      obtain ⟨u2, us2, rfl, hl2⟩ := us_cons (n := 10) hl1
      obtain ⟨u3, us3, rfl, hl3⟩ := us_cons (n := 9) hl2
      obtain ⟨u4, us4, rfl, hl4⟩ := us_cons (n := 8) hl3
      obtain ⟨u5, us5, rfl, hl5⟩ := us_cons (n := 7) hl4
      obtain ⟨u6, us6, rfl, hl6⟩ := us_cons (n := 6) hl5
      obtain ⟨u7, us7, rfl, hl7⟩ := us_cons (n := 5) hl6
      obtain ⟨u8, us8, rfl, hl8⟩ := us_cons (n := 4) hl7
      obtain ⟨u9, us9, rfl, hl9⟩ := us_cons (n := 3) hl8
      obtain ⟨u10, us10, rfl, hl10⟩ := us_cons (n := 2) hl9
      obtain ⟨u11, us11, rfl, hl11⟩ := us_cons (n := 1) hl10
      obtain ⟨u12, us12, rfl, hl12⟩ := us_cons (n := 0) hl11
      obtain rfl := us_nil hl12
      have hj' : j < 13 := hj
      have hcase : j = 0 ∨ j = 1 ∨ j = 2 ∨ j = 3 ∨ j = 4 ∨ j = 5 ∨ j = 6 ∨ j = 7 ∨ j = 8 ∨ j = 9 ∨ j = 10 ∨ j = 11 ∨ j = 12 := by omega
      clear hj hj'
      rcases hcase with rfl | rfl | rfl | rfl | rfl | rfl | rfl | rfl | rfl | rfl | rfl | rfl | rfl
      · refine wpOp_step rfl (fun K hK => ?_)
        simp only [putL, Act.put, List.setIfInBounds_toArray, List.set_cons_zero, List.set_cons_succ]
        go_simp
        refine hK _ _ ⟨.slice A3 (d + m) c3, ?_, fun _ _ h => h, rfl, fun _ _ _ _ _ _ h => h⟩
        simp only [putL, Act.put, List.getD_cons_zero, List.setIfInBounds_toArray, List.set_cons_zero, List.set_cons_succ]
      · obtain rfl : u0 = .slice A3 (d + m) c3 := hp 0 (by kernel_rfl) (.inr (by decide))
        have HS : Ow w v none [] [⟨A, d, c, bys data⟩] [codeR w.heap.size d m f, ⟨A1, d + m, c1, 5, bys (data ++ List.replicate m 0)⟩, ⟨A3, d + m, c3, 5, bys (Sy.high m data)⟩] := hS (.inr (.inr (by decide)))
        clear hS hp
        refine wpOp_step rfl (fun K hK => ?_)
        simp only [putL, Act.put, List.setIfInBounds_toArray, List.set_cons_zero, List.set_cons_succ]
        go_simp
        refine (ptrim_any A3 (d + m) c3 (Sy.high m data) v HHL.out (Sl.of_own (HS.row 2 rfl)) (own_cap (HS.row 2 rfl)).1 (by omega)).mono ?_
        rintro e v' ⟨A4, n4, c4, rfl, hn4, ho, hb⟩
        refine hK _ _ ⟨.slice A4 n4 c4, ?_, fun _ _ h => Ow.go h hb, ⟨A4, n4, c4, rfl, hn4, Sl.of_own ho⟩, fun i y _ _ _ _ h => enc8_go hb i y h⟩
        simp only [putL, Act.put, List.getD_cons_zero, List.getD_cons_succ, List.setIfInBounds_toArray, List.set_cons_zero, List.set_cons_succ]
      · refine wpOp_step rfl (fun K hK => ?_)
        simp only [putL, Act.put, List.setIfInBounds_toArray, List.set_cons_zero, List.set_cons_succ]
        go_simp
        refine hK _ _ ⟨.pointer (some ⟨w.heap.size, 2, none⟩), ?_, fun _ _ h => h, rfl, fun _ _ _ _ _ _ h => h⟩
        simp only [putL, Act.put, List.getD_cons_zero, List.getD_cons_succ, List.setIfInBounds_toArray, List.set_cons_zero, List.set_cons_succ]
      · obtain rfl : u2 = .pointer (some ⟨w.heap.size, 2, none⟩) := hp 2 (by kernel_rfl) (.inr (by decide))
        have HS : Ow w v none [] [⟨A, d, c, bys data⟩] [codeR w.heap.size d m f, ⟨A1, d + m, c1, 5, bys (data ++ List.replicate m 0)⟩, ⟨A3, d + m, c3, 5, bys (Sy.high m data)⟩] := hS (.inr (.inr (by decide)))
        obtain ⟨-, -, hx, -⟩ := HS.cdc 0 rfl
        clear hS hp
        refine wpOp_step rfl (fun K hK => ?_)
        simp only [putL, Act.put, List.setIfInBounds_toArray, List.set_cons_zero, List.set_cons_succ]
        go_simp
        refine hK _ _ ⟨.int .i64 (m : Int), ?_, fun _ _ h => h, rfl, fun _ _ _ _ _ _ h => h⟩
        simp only [putL, Act.put, List.getD_cons_zero, List.getD_cons_succ, List.setIfInBounds_toArray, List.set_cons_zero, List.set_cons_succ]
      · obtain rfl : u3 = .int .i64 (m : Int) := hp 3 (by kernel_rfl) (.inr (by decide))
        clear hS hp
        refine wpOp_step rfl (fun K hK => ?_)
        simp only [putL, Act.put, List.setIfInBounds_toArray, List.set_cons_zero, List.set_cons_succ]
        go_simp
        refine (generator_any m (by omega) v).mono ?_
        rintro e v' ⟨A4, n4, c4, rfl, hn4, ho, hb⟩
        refine hK _ _ ⟨.slice A4 n4 c4, ?_, fun _ _ h => Ow.go h hb, ⟨A4, n4, c4, rfl, hn4, Sl.of_own ho⟩, fun i y _ _ _ _ h => enc8_go hb i y h⟩
        simp only [putL, Act.put, List.getD_cons_zero, List.getD_cons_succ, List.setIfInBounds_toArray, List.set_cons_zero, List.set_cons_succ]
      · obtain ⟨B1, k1, e1, rfl, hk1, hs1⟩ : slF (Po.trim (Sy.high m data)) u1 v := hp 1 (by kernel_rfl) (.inr (by decide))
        obtain ⟨B2, k2, e2, rfl, hk2, hs2⟩ : slF (Sy.gen m) u4 v := hp 4 (by kernel_rfl) (.inr (by decide))
        have HS : Ow w v none [] [⟨A, d, c, bys data⟩] [codeR w.heap.size d m f, ⟨A1, d + m, c1, 5, bys (data ++ List.replicate m 0)⟩, ⟨A3, d + m, c3, 5, bys (Sy.high m data)⟩] := hS (.inr (.inr (by decide)))
        have hk1' : k1 ≤ 1000 := by rw [← hk1, Po.trim_length]; have := Po.tl_le (Sy.high m data) (Sy.high m data).length; have := HHL.out; omega
        have hk2' : k2 ≤ 1000 := by rw [← hk2, HG.out.2]; omega
        clear hS hp
        refine wpOp_step rfl (fun K hK => ?_)
        simp only [putL, Act.put, List.setIfInBounds_toArray, List.set_cons_zero, List.set_cons_succ]
        go_simp
        refine (pdivide_any B1 B2 k1 e1 k2 e2 _ _ v hk1 hk2 hs1 hs2 (by omega) (by omega)).mono ?_
        rw [HD.out.1, HD.out.2]
        rintro e v' ⟨C1, i1, j1, C2, i2, j2, rfl, hi1, hi2, ho1, ho2, hb⟩
        refine hK _ _ ⟨.tuple #[.slice C1 i1 j1, .slice C2 i2 j2, .int .i64 0], ?_, fun _ _ h => Ow.go h hb, ⟨C1, i1, j1, C2, i2, j2, rfl, hi2, HS.add ho2 hb⟩, fun i y _ _ _ _ h => enc8_go hb i y h⟩
        simp only [putL, Act.put, List.getD_cons_zero, List.getD_cons_succ, List.setIfInBounds_toArray, List.set_cons_zero, List.set_cons_succ]
      · obtain ⟨C1, i1, j1, C2, i2, j2, rfl, hi2, HT⟩ : encT w [⟨A, d, c, bys data⟩] [codeR w.heap.size d m f, ⟨A1, d + m, c1, 5, bys (data ++ List.replicate m 0)⟩, ⟨A3, d + m, c3, 5, bys (Sy.high m data)⟩] (Sy.rest m data) u5 v := hp 5 (by kernel_rfl) (.inr (by decide))
        clear hS hp
        refine wpOp_step rfl (fun K hK => ?_)
        simp only [putL, Act.put, List.setIfInBounds_toArray, List.set_cons_zero, List.set_cons_succ]
        go_simp
        refine hK _ _ ⟨.tuple #[.slice C1 i1 j1, .slice C2 i2 j2, .int .i64 0], ?_, fun _ _ h => h, ⟨C1, i1, j1, C2, i2, j2, rfl, hi2, HT⟩, fun _ _ _ _ _ _ h => h⟩
        simp only [putL, Act.put, List.getD_cons_zero, List.getD_cons_succ, List.setIfInBounds_toArray, List.set_cons_zero, List.set_cons_succ]
      · obtain ⟨C1, i1, j1, C2, i2, j2, rfl, hi2, HT⟩ : encT w [⟨A, d, c, bys data⟩] [codeR w.heap.size d m f, ⟨A1, d + m, c1, 5, bys (data ++ List.replicate m 0)⟩, ⟨A3, d + m, c3, 5, bys (Sy.high m data)⟩] (Sy.rest m data) u6 v := hp 6 (by kernel_rfl) (.inr (by decide))
        clear hS hp
        refine wpOp_step rfl (fun K hK => ?_)
        simp only [putL, Act.put, List.setIfInBounds_toArray, List.set_cons_zero, List.set_cons_succ]
        go_simp
        refine hK _ _ ⟨.slice C1 i1 j1, ?_, fun _ _ h => h, trivial, fun _ _ _ _ _ _ h => h⟩
        simp only [putL, Act.put, List.getD_cons_zero, List.getD_cons_succ, List.setIfInBounds_toArray, List.set_cons_zero, List.set_cons_succ]
      · obtain ⟨C1, i1, j1, C2, i2, j2, rfl, hi2, HT⟩ : encT w [⟨A, d, c, bys data⟩] [codeR w.heap.size d m f, ⟨A1, d + m, c1, 5, bys (data ++ List.replicate m 0)⟩, ⟨A3, d + m, c3, 5, bys (Sy.high m data)⟩] (Sy.rest m data) u6 v := hp 6 (by kernel_rfl) (.inr (by decide))
        clear hS hp
        refine wpOp_step rfl (fun K hK => ?_)
        simp only [putL, Act.put, List.setIfInBounds_toArray, List.set_cons_zero, List.set_cons_succ]
        go_simp
        refine hK _ _ ⟨.slice C2 i2 j2, ?_, fun _ _ h => h, ⟨C2, i2, j2, rfl, hi2, HT⟩, fun _ _ _ _ _ _ h => h⟩
        simp only [putL, Act.put, List.getD_cons_zero, List.getD_cons_succ, List.setIfInBounds_toArray, List.set_cons_zero, List.set_cons_succ]
      · obtain ⟨C1, i1, j1, C2, i2, j2, rfl, hi2, HT⟩ : encT w [⟨A, d, c, bys data⟩] [codeR w.heap.size d m f, ⟨A1, d + m, c1, 5, bys (data ++ List.replicate m 0)⟩, ⟨A3, d + m, c3, 5, bys (Sy.high m data)⟩] (Sy.rest m data) u6 v := hp 6 (by kernel_rfl) (.inr (by decide))
        clear hS hp
        refine wpOp_step rfl (fun K hK => ?_)
        simp only [putL, Act.put, List.setIfInBounds_toArray, List.set_cons_zero, List.set_cons_succ]
        go_simp
        refine hK _ _ ⟨.int .i64 0, ?_, fun _ _ h => h, trivial, fun _ _ _ _ _ _ h => h⟩
        simp only [putL, Act.put, List.getD_cons_zero, List.getD_cons_succ, List.setIfInBounds_toArray, List.set_cons_zero, List.set_cons_succ]
      · clear hS hp
        refine wpOp_step rfl (fun K hK => ?_)
        simp only [putL, Act.put, List.setIfInBounds_toArray, List.set_cons_zero, List.set_cons_succ]
        go_simp
        refine hK _ _ ⟨u7, ?_, fun _ _ h => h, trivial, fun _ _ _ _ _ _ h => h⟩
        simp only [putL, Act.put, List.getD_cons_zero, List.getD_cons_succ, List.setIfInBounds_toArray, List.set_cons_zero, List.set_cons_succ]
      · obtain ⟨C2, i2, j2, rfl, hi2, HT⟩ : encQ w [⟨A, d, c, bys data⟩] [codeR w.heap.size d m f, ⟨A1, d + m, c1, 5, bys (data ++ List.replicate m 0)⟩, ⟨A3, d + m, c3, 5, bys (Sy.high m data)⟩] (Sy.rest m data) u8 v := hp 8 (by kernel_rfl) (.inr (by decide))
        clear hS hp
        refine wpOp_step rfl (fun K hK => ?_)
        simp only [putL, Act.put, List.setIfInBounds_toArray, List.set_cons_zero, List.set_cons_succ]
        go_simp
        refine hK _ _ ⟨.slice C2 i2 j2, ?_, fun _ _ h => h, ⟨C2, i2, j2, rfl, hi2, HT⟩, fun _ _ _ _ _ _ h => h⟩
        simp only [putL, Act.put, List.getD_cons_zero, List.getD_cons_succ, List.setIfInBounds_toArray, List.set_cons_zero, List.set_cons_succ]
      · clear hS hp
        refine wpOp_step rfl (fun K hK => ?_)
        simp only [putL, Act.put, List.setIfInBounds_toArray, List.set_cons_zero, List.set_cons_succ]
        go_simp
        refine hK _ _ ⟨u9, ?_, fun _ _ h => h, trivial, fun _ _ _ _ _ _ h => h⟩
        simp only [putL, Act.put, List.getD_cons_zero, List.getD_cons_succ, List.setIfInBounds_toArray, List.set_cons_zero, List.set_cons_succ]
    · rintro us v hl hS hP
      replace hl : us.length = 13 := hl
      obtain ⟨u0, us0, rfl, hl0⟩ := us_cons (n := 12) hl
      obtain ⟨u1, us1, rfl, hl1⟩ := us_cons (n := 11) hl0
      obtain ⟨u2, us2, rfl, hl2⟩ := us_cons (n := 10) hl1
      obtain ⟨u3, us3, rfl, hl3⟩ := us_cons (n := 9) hl2
      obtain ⟨u4, us4, rfl, hl4⟩ := us_cons (n := 8) hl3
      obtain ⟨u5, us5, rfl, hl5⟩ := us_cons (n := 7) hl4
      obtain ⟨u6, us6, rfl, hl6⟩ := us_cons (n := 6) hl5
      obtain ⟨u7, us7, rfl, hl7⟩ := us_cons (n := 5) hl6
      obtain ⟨u8, us8, rfl, hl8⟩ := us_cons (n := 4) hl7
      obtain ⟨u9, us9, rfl, hl9⟩ := us_cons (n := 3) hl8
      obtain ⟨u10, us10, rfl, hl10⟩ := us_cons (n := 2) hl9
      obtain ⟨u11, us11, rfl, hl11⟩ := us_cons (n := 1) hl10
      obtain ⟨u12, us12, rfl, hl12⟩ := us_cons (n := 0) hl11
      obtain rfl := us_nil hl12
      obtain ⟨A4, n4, c4, rfl, hn4, HT⟩ : encQ w [⟨A, d, c, bys data⟩] [codeR w.heap.size d m f, ⟨A1, d + m, c1, 5, bys (data ++ List.replicate m 0)⟩, ⟨A3, d + m, c3, 5, bys (Sy.high m data)⟩] (Sy.rest m data) u11 v := hP 11 (by show 11 < 13; decide) (by decide)
      clear hS hP
      simp only [putL, Act.put, List.setIfInBounds_toArray, List.set_cons_zero, List.set_cons_succ]
      have HT2 : Hid (Ow w v none [] [⟨A, d, c, bys data⟩] [codeR w.heap.size d m f, ⟨A1, d + m, c1, 5, bys (Sy.encTo m data 0)⟩, ⟨A3, d + m, c3, 5, bys (Sy.high m data)⟩, ⟨A4, n4, c4, 5, bys (Sy.rest m data)⟩]) := by unfold Hid; rw [Sy.encTo_zero]; exact HT
      have HN4 := Lib.hid hn4
      have hn4m : n4 ≤ m := by rw [← hn4]; exact HRl.out
      clear HT HO6 hn4 HA2
      go_wp2_with fail
      go_loopw [44] (fun x wr => REnc w [⟨A, d, c, bys data⟩] w.heap.size d m f ⟨A3, d + m, c3, 5, bys (Sy.high m data)⟩ ⟨A4, n4, c4, 5, bys (Sy.rest m data)⟩ A1 c1 data n4 x wr) (fun x _ => n4 - (intOf x).toNat)
      case atStart => exact ⟨0, Nat.zero_le _, rfl, HT2.out⟩
      case round =>
        clear HT2
        obtain ⟨k, hk, rfl, HK⟩ := hrel
        rcases Nat.lt_or_ge k n4 with hlt | hge
        · have hd : decide ((k : Int) < (n4 : Int)) = true := decide_eq_true (by omega)
          obtain ⟨x, hx⟩ := byte_at (Sy.rest m data) k (by rw [HN4.out]; exact hlt)
          obtain ⟨g4, rfl, -, -⟩ := own_form (HK.out.row 3 rfl) (by omega)
          obtain ⟨g1, rfl, -, -⟩ := own_form (HK.out.row 1 rfl) (by omega)
          have hcx := HK.out.byteO 3 rfl hx
          obtain ⟨y, hy⟩ := byte_at (Sy.encTo m data k) (d + m - 1 - k) (by rw [Sy.encTo_length, HN.out]; omega)
          have hcy := HK.out.byteO 1 rfl hy
          have hfy := HK.out.frzO 1 rfl (d + m - 1 - k)
          have HX : Hid ((Sy.encTo m data k).set (d + m - 1 - k) x = Sy.encTo m data (k + 1)) := by
            have e := Sy.encTo_succ m data (k := k) (b := x) (by omega) hx
            rw [HN.out] at e
            exact e
          have hidx : ((d : Int) + (m : Int) - 1 - (k : Int)) = ((d + m - 1 - k : Nat) : Int) := by omega
          clear hx hy
          go_wp2_with fail
          go_roundw
          case rel =>
            have h5 := HK.out.putB 1 rfl (d + m - 1 - k) x
            rw [HX.out] at h5
            exact ⟨k + 1, by omega, by go_num, h5⟩
          case measure => simp [intOf]; omega
        · have hd : decide ((k : Int) < (n4 : Int)) = false := decide_eq_false (by omega)
          have hkn : k = n4 := by omega
          go_wp2_with fail
          go_ret2
          have h5 := HK.out
          rw [Sy.encTo_all m data (by rw [HN4.out, hkn]; exact Nat.le_refl _)] at h5
          exact ⟨_, _, _, rfl, by rw [Sy.enc_length, HN.out], h5.row 1 rfl, h5.below⟩
end Go.Proofs.YtnplaejlmbncfaaGreatDoor

namespace Go.Proofs.YtnplaejlmbncfaaGreatDoor
open Go.RowKit
set_option linter.unusedVariables false
set_option maxRecDepth 100000
namespace Sy
theorem amt_succ (P : List Nat) (ch : List UInt8) {i : Nat} (h : i < P.length) (p : Nat) : amt (P.take (i + 1)) ch p = amt (P.take i) ch p ^^^ (if pl P i = p then wd ch i else 0) := by
  have e : ∀ k, k ≤ P.length → amt (P.take k) ch p = ls (fun j => if pl P j = p then wd ch j else 0) (List.range k) := fun k hk => by
    unfold amt
    rw [List.length_take, Nat.min_eq_left hk]
    refine ls_congr fun j hj => ?_
    have hj := List.mem_range.1 hj
    have : pl (P.take k) j = pl P j := by unfold pl; rw [List.getElem?_take, if_pos hj]
    rw [this]
  rw [e (i + 1) (by omega), e i (by omega), ls_range_succ]
theorem amt_not {P : List Nat} (hP : Asc P) (ch : List UInt8) {i : Nat} (h : i < P.length) : amt (P.take i) ch (pl P i) = 0 := by
  refine amt_out ch fun hm => ?_
  obtain ⟨j, hj⟩ := List.mem_iff_getElem?.1 hm
  rw [List.getElem?_take] at hj
  split at hj
  · rename_i h2
    have := pl_inj hP (i := j) (j := i) (by omega) h (pl_some hj)
    omega
  · cases hj
theorem fixW_zero (word : List UInt8) (ch : List UInt8) : fixW word ([] : List Nat) ch = word := by
  refine wd_ext (fixW_length _ _ _) fun p hp => ?_
  rw [fixW_length] at hp
  rw [wd_fixW _ _ _ hp]
  exact UInt8.xor_zero
theorem fixW_skip (word : List UInt8) {P : List Nat} {ch : List UInt8} {i : Nat} (h : i < P.length) (h0 : wd ch i = 0) : fixW word (P.take (i + 1)) ch = fixW word (P.take i) ch := by
  unfold fixW
  refine List.map_congr_left fun p _ => ?_
  rw [amt_succ P ch h, h0]
  congr 1
  split <;> exact UInt8.xor_zero
theorem fixW_step (word : List UInt8) {P : List Nat} {ch : List UInt8} {i p : Nat} (h : P[i]? = some p) (hp : p < word.length) : (fixW word (P.take i) ch).set p (wd (fixW word (P.take i) ch) p ^^^ wd ch i) = fixW word (P.take (i + 1)) ch := by
  have hi : i < P.length := get_lt h
  have hpl : pl P i = p := pl_some h
  refine wd_ext (by rw [List.length_set, fixW_length, fixW_length]) fun j hj => ?_
  rw [List.length_set, fixW_length] at hj
  rw [wd_fixW _ _ _ hj, amt_succ P ch hi, hpl]
  by_cases e : j = p
  · subst e
    rw [if_pos rfl, wd_some (List.getElem?_set_self (by rw [fixW_length]; exact hj)), wd_fixW _ _ _ hj, UInt8.xor_assoc]
  · have e2 : wd ((fixW word (P.take i) ch).set p (wd (fixW word (P.take i) ch) p ^^^ wd ch i)) j = wd (fixW word (P.take i) ch) j := by
      unfold wd
      rw [List.getElem?_set_ne (fun e' => e e'.symm)]
    rw [e2, if_neg (fun e' => e e'.symm), UInt8.xor_zero, wd_fixW _ _ _ hj]
theorem chips_step {P : List Nat} (hP : Asc P) (ch : List UInt8) {i p : Nat} (h : P[i]? = some p) : chipsOf (P.take (i + 1)) ch = chipsOf (P.take i) ch ++ (if wd ch i = 0 then [] else [p]) := by
  have hi : i < P.length := get_lt h
  have hpl : pl P i = p := pl_some h
  unfold chipsOf
  have e1 : P.take (i + 1) = P.take i ++ [p] := by rw [List.take_add_one, h]; rfl
  have e0 : ∀ q, amt (P.take i ++ [p]) ch q = amt (P.take i) ch q ^^^ (if p = q then wd ch i else 0) := fun q => by rw [← e1, amt_succ P ch hi, hpl]
  rw [e1, List.filter_append]
  congr 1
  · refine List.filter_congr fun q hq => ?_
    rw [e0, if_neg, UInt8.xor_zero]
    intro e
    obtain ⟨j, hj⟩ := List.mem_iff_getElem?.1 hq
    rw [List.getElem?_take] at hj
    split at hj
    · rename_i h2
      have := pl_inj hP (i := j) (j := i) (by omega) hi (by rw [pl_some hj, hpl, e])
      omega
    · cases hj
  · rw [List.filter_cons, List.filter_nil]
    have e3 : amt (P.take i ++ [p]) ch p = wd ch i := by
      rw [e0, if_pos rfl, ← hpl, amt_not hP ch hi, UInt8.zero_xor]
    rw [e3]
    by_cases e : wd ch i = 0
    · rw [e]; rfl
    · rw [if_pos (bne_iff_ne.2 e), if_neg e]
end Sy
/-- what 'Decode' leaves -/
def DecR (w : World) (r : Nat × List UInt8 × List Nat) (en : Ending) (w' : World) : Prop :=
  ∃ (A1 : Option Addr) (n1 c1 : Nat) (A2 : Option Addr) (n2 c2 : Nat), en = .returned (.tuple #[.agg #[.int .i64 (r.1 : Int), .slice A1 n1 c1, .slice A2 n2 c2], .int .i64 0]) ∧ r.2.1.length = n1 ∧ r.2.2.length = n2 ∧
    w'.ownsRow w.heap.size 5 1 (.slice A1 n1 c1) n1 (bys r.2.1) ∧ w'.ownsRow w.heap.size 3 1 (.slice A2 n2 c2) n2 (nats r.2.2) ∧ Below w.heap.size w w'
abbrev decRw (b : Nat) (o : Nat) (A1 : Option Addr) (n1 c1 : Nat) (A2 : Option Addr) (n2 c2 : Nat) : Rw := ⟨some ⟨b, 0, none⟩, 3, 3, 83, [.int .i64 (o : Int), .slice A1 n1 c1, .slice A2 n2 c2]⟩
section
variable {w0 w : World} {g : Option Nat} {M : List (Nat × Value)} {L : List Ob} {O : List Rw}
theorem Ow.dec (h : Ow w0 w g M L O) (i : Nat) {b o : Nat} {A1 : Option Addr} {n1 c1 : Nat} {A2 : Option Addr} {n2 c2 : Nat} (hi : O[i]? = some (decRw b o A1 n1 c1 A2 n2 c2)) : w.cell? ⟨b, 0, none⟩ = some (.int .i64 (o : Int)) ∧ w.cell? ⟨b, 1, none⟩ = some (.slice A1 n1 c1) ∧ w.cell? ⟨b, 2, none⟩ = some (.slice A2 n2 c2) :=
  ⟨(h.row i hi).cellAt 0 (by decide), (h.row i hi).cellAt 1 (by decide), (h.row i hi).cellAt 2 (by decide)⟩
end
def RDec (w : World) (L : List Ob) (r0 r1 : Rw) (ob d m k6 : Nat) (A3 : Option Addr) (c3 : Nat) (word : List UInt8) (P : List Nat) (ch : List UInt8) (v : Value) (wr : World) : Prop :=
  ∃ (i : Nat) (A8 : Option Addr) (n8 c8 : Nat), i ≤ k6 ∧ v = .int .i64 (i : Int) ∧ n8 ≤ i ∧ Hid (Ow w wr none [] L [r0, r1, ⟨A3, d + m, c3, 5, bys (Sy.fixW word (P.take i) ch)⟩, decRw ob 1 A3 (d + m) c3 A8 n8 c8, ⟨A8, n8, c8, 3, nats (Sy.chipsOf (P.take i) ch)⟩])
set_option maxHeartbeats 16000000 in
theorem decode_any {d m f : Nat} (h : Cd d m f) (hf : f ≤ m / 2) (A : Option Addr) (c : Nat) (A2 : Option Addr) (ne c2 : Nat) (word : List UInt8) (E : List Nat) (w : World) (hn : word.length = d + m) (hs : Sl w w.heap.size A (bys word)) (hnc : d + m ≤ c) (hne : E.length = ne) (hs2 : Sl w w.heap.size A2 (nats E)) (hnc2 : ne ≤ c2) (hE : Sy.Ers E (d + m) m) :
    Calls Tryz.prog 47 #[.agg #[.int .i64 2, .int .i64 (d : Int), .int .i64 (m : Int), .int .i64 (f : Int)], .slice A (d + m) c, .slice A2 ne c2] w (DecR w (Sy.decM m f word E)) := by
  have hc := h
  obtain ⟨h1, h2, h3, h4, h5⟩ := h
  have hnem : ne ≤ m := by rw [← hne]; exact hE.le
  have H0 := ((((Ow.of (St.refl w)).old hs (by rw [bys_length]; exact hn) hnc (by omega)).old hs2 (by rw [nats_length]; exact hne) hnc2 (by omega)).code d m f).arr #[.int .i64 0, .slice none 0 0, .slice none 0 0] 3 rfl (by omega) 83
  simp only [List.nil_append, List.cons_append, World.size_alloc] at H0
  have HO := Lib.hid H0
  have HV := Lib.hid (fun W => good_any hc W)
  have HN := Lib.hid hn
  have HNE := Lib.hid hne
  have HEr := Lib.hid hE
  obtain ⟨hc0, hc1, hc2', hc3⟩ := H0.cdc 0 rfl
  have hrc := H0.dec 1 rfl
  have hnn2 : (((d : Int) + (m : Int)) != ((d : Int) + (m : Int))) = false := by simp
  have HWL : Hid (∀ W, Below w.heap.size w W → Calls Tryz.prog 92 #[.slice A2 ne c2, .int .i64 ((d : Int) + (m : Int)), .int .i64 (m : Int)] W fun e w' => e = .returned (.int .i64 0) ∧ Below W.heap.size W w') := by
    intro W hW
    have h6 := wrongList_ok A2 ne c2 (d + m) m E W hne ((hs2.below hW).more hW.size) hnc2 (by omega) (by omega) (by omega) hE
    rw [show ((d + m : Nat) : Int) = (d : Int) + (m : Int) by omega] at h6
    exact h6
  rw [decide_eq_true hf] at HV
  clear H0 hs hs2 hn hne hE hc
  go_enter Tryz.func47, Tryz.ntmps47
  go_upto_region 9 with (first | (go_at_call 86; refine (HV.out _).mono ?_; rintro e w1 ⟨rfl, hb⟩; have HO1 := Lib.hid (HO.out.go hb); obtain ⟨hd0, hd1, hd2, hd3⟩ := HO1.out.cdc 0 rfl; clear hb) | (go_at_call 92; refine (HWL.out _ HO1.out.below).mono ?_; rintro e w2 ⟨rfl, hb⟩; have HO2 := Lib.hid (HO1.out.go hb); clear hb))
  go_upto_region 10 with (go_at_call 87; refine (cloneB_fresh A (d + m) c w2.heap.size word w2 HN.out (HO2.out.sl (i := 0) rfl).2.2.2 (Nat.le_refl _) (by omega)).mono ?_; rintro e w3 ⟨A3, n3, c3, rfl, hn3, ho3, hb3⟩; obtain rfl : d + m = n3 := HN.out.symm.trans hn3; have HO3 := Lib.hid ((HO2.out.add ho3 hb3).arr #[.int .i64 0, .slice A3 (d + m) c3, .slice none 0 0] 3 rfl (by omega) 83); clear hn3 ho3 hb3)
  obtain ⟨w4, hw4⟩ : ∃ W, W = w3.alloc (.cells #[.int .i64 0, .slice A3 (d + m) c3, .slice none 0 0] 83) := ⟨_, rfl⟩
  obtain ⟨ob, hob⟩ : ∃ b, b = w3.heap.size := ⟨_, rfl⟩
  rw [← hw4, ← hob] at HO3 ⊢
  have HO4 : Hid (Ow w w4 none [] [⟨A, d + m, c, bys word⟩, ⟨A2, ne, c2, nats E⟩] [codeR w.heap.size d m f, decRw (w.heap.size + 1) 0 none 0 0 none 0 0, ⟨A3, d + m, c3, 5, bys word⟩, decRw ob 0 A3 (d + m) c3 none 0 0]) := HO3
  clear hw4 hob HO3 HO2 HO1 hc0 hc1 hc2' hc3 hrc
  obtain ⟨hc0, hc1, hc2', hc3⟩ := HO4.out.cdc 0 rfl
  have hlo := HO4.out.dec 3 rfl
  obtain ⟨ho0, ho1, ho2⟩ := hlo
  obtain ⟨hr0, hr1, hr2⟩ := HO4.out.dec 1 rfl
  have hrf := fun k => HO4.out.frzO 1 (vs := _) rfl k
  have hrf0 := hrf 0
  clear hrf
  cases hcl : Sy.isClean (Sy.synL word m) with
  | true =>
    have HR : Hid (Sy.decM m f word E = (0, word, [])) := by unfold Hid Sy.decM; rw [hcl, if_pos rfl]
    have HCl := Lib.hid hcl
    clear hcl
    go_upto_region 12 with (first | (go_at_call 93; refine (syndromes_any A (d + m) c m word w4 HN.out (HO4.out.sl (i := 0) rfl).2.2.2 hnc (by omega) (by omega)).mono ?_; rintro e w5 ⟨A5, n5, c5, rfl, hn5, ho5, hb5⟩; obtain rfl : m = n5 := (Sy.synL_length word m).symm.trans hn5; have HO5 := Lib.hid (HO4.out.push ho5 (by omega) hb5); clear hn5 ho5 hb5 hc0 hc1 hc2' hc3 ho0 ho1 ho2 hr0 hr1 hr2 hrf0) | (go_at_call 94; refine (clean_any A5 m c5 (Sy.synL word m) w5 (Sy.synL_length word m) (HO5.out.sl (i := 2) rfl).2.2.2 (by omega)).mono ?_; rw [HCl.out]; rintro e w' ⟨rfl, rfl⟩))
    obtain ⟨ho0, ho1, ho2⟩ := HO5.out.dec 3 rfl
    obtain ⟨hr0, hr1, hr2⟩ := HO5.out.dec 1 rfl
    have hrf0 := HO5.out.frzO 1 (vs := _) rfl 0
    have hrf1 := HO5.out.frzO 1 (vs := _) rfl 1
    have hrf2 := HO5.out.frzO 1 (vs := _) rfl 2
    go_wp2_with fail
    have G := ((HO5.out.put 1 rfl 0 (.int .i64 0)).put 1 rfl 1 (.slice A3 (d + m) c3)).put 1 rfl 2 (.slice none 0 0)
    obtain ⟨k0, k1, k2⟩ := G.dec (o := 0) (A1 := A3) (n1 := d + m) (c1 := c3) (A2 := none) (n2 := 0) (c2 := 0) 1 rfl
    refine bodyPost_ret (v := .tuple #[.agg #[.int .i64 0, .slice A3 (d + m) c3, .slice none 0 0], .int .i64 0]) (by simp [results, Tryz.results47, go_sem, k0, k1, k2]) rfl ?_
    rw [HR.out]
    exact ⟨A3, d + m, c3, none, 0, 0, rfl, HN.out, rfl, G.row 2 rfl, World.ownsRow_nil _ _ _ _, G.below⟩
  | false =>
    have HCl := Lib.hid hcl
    clear hcl
    go_upto_region 13 with (first | (go_at_call 93; refine (syndromes_any A (d + m) c m word w4 HN.out (HO4.out.sl (i := 0) rfl).2.2.2 hnc (by omega) (by omega)).mono ?_; rintro e w5 ⟨A5, n5, c5, rfl, hn5, ho5, hb5⟩; obtain rfl : m = n5 := (Sy.synL_length word m).symm.trans hn5; have HO5 := Lib.hid (HO4.out.push ho5 (by omega) hb5); clear hn5 ho5 hb5 hc0 hc1 hc2' hc3 ho0 ho1 ho2 hr0 hr1 hr2 hrf0) | (go_at_call 94; refine (clean_any A5 m c5 (Sy.synL word m) w5 (Sy.synL_length word m) (HO5.out.sl (i := 2) rfl).2.2.2 (by omega)).mono ?_; rw [HCl.out]; rintro e w' ⟨rfl, rfl⟩))
    obtain ⟨hc0, hc1, hc2', hc3⟩ := HO5.out.cdc 0 rfl
    have HLo : Hid (∀ (mv : Int), mv = ((min f ((m - E.length) / 2) : Nat) : Int) → Calls Tryz.prog 95 #[.slice A5 m c5, .int .i64 ((d : Int) + (m : Int)), .slice A2 ne c2, .int .i64 mv] w5 (LocR w5 (Sy.locM (Sy.synL word m) (d + m) E (min f ((m - E.length) / 2))))) := by
      intro mv hmv
      subst hmv
      have h6 := locate_any A5 m c5 (d + m) (min f ((m - E.length) / 2)) A2 ne c2 (Sy.synL word m) E w5 (Sy.synL_length word m) (HO5.out.sl (i := 2) rfl).2.2.2 (HO5.out.sl (i := 2) rfl).2.1 HNE.out (HO5.out.sl (i := 1) rfl).2.2.2 hnc2 (by omega) (by omega) (by omega) HEr.out (by rw [HNE.out]; omega)
      rw [show ((d + m : Nat) : Int) = (d : Int) + (m : Int) by omega] at h6
      exact h6
    have hmin : ((min f ((m - E.length) / 2) : Nat) : Int) = ((min f ((m - ne) / 2) : Nat) : Int) := by rw [HNE.out]
    have HMin := Lib.hid hmin
    have HDec : Hid (Sy.decM m f word E = match Sy.locM (Sy.synL word m) (d + m) E (min f ((m - E.length) / 2)) with
      | none => (2, [], [])
      | some P => match Sy.solve (Sy.rows0 (Sy.synL word m) (d + m) P) P.length with
        | none => (2, [], [])
        | some ch => (1, Sy.fixW word P ch, Sy.chipsOf P ch)) := by
      unfold Hid Sy.decM
      rw [HCl.out, if_neg (by simp), HN.out]
      rfl
    clear hmin
    go_wp2_with fail
    all_goals (
      refine (HLo.out _ (by rw [HMin.out]; omega)).mono ?_
      rintro e w6 ⟨A6, k6, c6, b6, rfl, hb6, ⟨rfl, P, hP, hPl, hPo⟩ | ⟨rfl, hP⟩⟩
      · have HP := Lib.hid hP
        have HPl := Lib.hid hPl
        have HPf : Hid (Sy.Asc P ∧ (∀ p ∈ P, p < d + m) ∧ P.length ≤ m) := by
          obtain ⟨a1, a2, a3, t, a4⟩ := Sy.locM_some HEr.out hP
          refine ⟨a1, a2, ?_⟩
          have a5 := Sy.cnt_split (fun p => P.contains p) (fun p => E.contains p) (List.range (d + m))
          have a6 : (List.range (d + m)).filter (fun p => P.contains p) = P := Sy.asc_ext (Sy.asc_filter _ _) a1 fun x => by
            rw [List.mem_filter, List.mem_range, List.contains_iff_mem]
            exact ⟨fun h => h.2, fun h => ⟨a2 x h, h⟩⟩
          have a7 : ((List.range (d + m)).filter fun p => P.contains p && E.contains p).length ≤ E.length := by
            have a8 := Sy.cnt_mono (a := fun p => P.contains p && E.contains p) (b := fun p => E.contains p) (l := List.range (d + m)) (fun p _ h => (Bool.and_eq_true_iff.1 h).2)
            rw [Sy.ers_eq HEr.out] at a8
            exact a8
          rw [a6] at a5
          have a9 := HEr.out.le
          omega
        have HO6 := Lib.hid (HO5.out.push hPo (by have := HPf.out.2.2; omega) hb6)
        have hk6 : k6 ≤ m := by rw [← hPl]; exact HPf.out.2.2
        clear hP hPl hPo hb6
        have HMg : Hid (Calls Tryz.prog 96 #[.slice A5 m c5, .int .i64 ((d : Int) + (m : Int)), .slice A6 k6 c6] w6 (MagR w6 (Sy.solve (Sy.rows0 (Sy.synL word m) (d + m) P) k6))) := by
          have h6 := magnitudes_any A5 m c5 (d + m) A6 k6 c6 (Sy.synL word m) P w6 (Sy.synL_length word m) (HO6.out.sl (i := 2) rfl).2.2.2 (HO6.out.sl (i := 2) rfl).2.1 HPl.out (HO6.out.sl (i := 3) rfl).2.2.2 (HO6.out.sl (i := 3) rfl).2.1 (by omega) (by omega) HPf.out.2.1 hk6
          rw [show ((d + m : Nat) : Int) = (d : Int) + (m : Int) by omega] at h6
          exact h6
        clear hc0 hc1 hc2' hc3
        go_wp2_with fail
        refine HMg.out.mono ?_
        rintro e w7 ⟨A7, k7, c7, b7, rfl, hb7, ⟨rfl, ch, hch, hchl, hcho⟩ | ⟨rfl, hch⟩⟩
        · have hk7 : k6 = k7 := by
            have h6 := (Sy.solve_sound (by have h7 := Sy.wid_rows0 (Sy.synL word m) (d + m) P; rw [HPl.out] at h7; exact h7) hch).1
            omega
          subst hk7
          have HO7 := Lib.hid (((HO6.out.push hcho (by omega) hb7).nil 3))
          have HO7 : Hid (Ow w w7 none [] [⟨A, d + m, c, bys word⟩, ⟨A2, ne, c2, nats E⟩, ⟨A5, m, c5, bys (Sy.synL word m)⟩, ⟨A6, k6, c6, nats P⟩, ⟨A7, k6, c7, bys ch⟩] [codeR w.heap.size d m f, decRw (w.heap.size + 1) 0 none 0 0 none 0 0, ⟨A3, d + m, c3, 5, bys word⟩, decRw ob 0 A3 (d + m) c3 none 0 0, ⟨none, 0, 0, 3, []⟩]) := HO7
          have HR : Hid (Sy.decM m f word E = (1, Sy.fixW word P ch, Sy.chipsOf P ch)) := by
            unfold Hid
            rw [HDec.out, HP.out]
            dsimp only
            rw [HPl.out, hch]
          have HCh := Lib.hid hchl
          clear hch hchl hcho hb7 HMg HO6 HLo HDec
          obtain ⟨ho0, ho1, ho2⟩ := HO7.out.dec 3 rfl
          have hof := HO7.out.frzO 3 (vs := _) rfl 0
          have HO8 : Hid (Ow w (w7.setCell ⟨ob, 0, none⟩ (.int .i64 1)) none [] [⟨A, d + m, c, bys word⟩, ⟨A2, ne, c2, nats E⟩, ⟨A5, m, c5, bys (Sy.synL word m)⟩, ⟨A6, k6, c6, nats P⟩, ⟨A7, k6, c7, bys ch⟩] [codeR w.heap.size d m f, decRw (w.heap.size + 1) 0 none 0 0 none 0 0, ⟨A3, d + m, c3, 5, bys (Sy.fixW word (P.take 0) ch)⟩, decRw ob 1 A3 (d + m) c3 none 0 0, ⟨none, 0, 0, 3, nats (Sy.chipsOf (P.take 0) ch)⟩]) := by
            have h6 := HO7.out.put 3 rfl 0 (.int .i64 1)
            unfold Hid
            rw [show P.take 0 = [] from rfl, Sy.fixW_zero]
            exact h6
          go_wp2_with fail
          clear ho0 ho1 ho2 hof
          go_loopw [84] (fun v wr => RDec w [⟨A, d + m, c, bys word⟩, ⟨A2, ne, c2, nats E⟩, ⟨A5, m, c5, bys (Sy.synL word m)⟩, ⟨A6, k6, c6, nats P⟩, ⟨A7, k6, c7, bys ch⟩] (codeR w.heap.size d m f) (decRw (w.heap.size + 1) 0 none 0 0 none 0 0) ob d m k6 A3 c3 word P ch v wr) (fun v _ => k6 - (intOf v).toNat)
          case atStart => exact ⟨0, none, 0, 0, Nat.zero_le _, rfl, Nat.le_refl _, HO8.out⟩
          case round =>
            clear HO8 HO7
            obtain ⟨i, A8, n8, c8, hi, rfl, hn8, HJ⟩ := hrel
            rcases Nat.lt_or_ge i k6 with h6 | h6
            · have hd6 : decide ((i : Int) < (k6 : Int)) = true := decide_eq_true (by omega)
              obtain ⟨p, hp⟩ : ∃ p, P[i]? = some p := ⟨_, Sy.pl_lt (by rw [HPl.out]; exact h6)⟩
              obtain ⟨ad6, rfl, -, hc6⟩ := (HJ.out.sl (i := 3) rfl).2.2.2 (by rw [nats_length, HPl.out]; omega)
              have hcp := hc6 i _ (nats_at hp)
              have hpn : p < d + m := HPf.out.2.1 p (List.mem_of_getElem? hp)
              obtain ⟨b, hb⟩ := byte_at ch i (by rw [HCh.out]; exact h6)
              obtain ⟨ad7, rfl, hcb⟩ := HJ.out.byteL 4 rfl hb
              have HB : Hid (Sy.wd ch i = b) := Sy.wd_some hb
              have HCs := Lib.hid (Sy.chips_step HPf.out.1 ch hp)
              have HPi := Lib.hid hp
              clear hc6 hb hp
              rcases zero_or b with rfl | ⟨hbn, hbz⟩
              · have HF : Hid (Sy.fixW word (P.take (i + 1)) ch = Sy.fixW word (P.take i) ch) := Sy.fixW_skip word (by rw [HPl.out]; exact h6) HB.out
                have HC2 : Hid (Sy.chipsOf (P.take (i + 1)) ch = Sy.chipsOf (P.take i) ch) := by unfold Hid; rw [HCs.out, if_pos HB.out, List.append_nil]
                go_wp2_with fail
                go_roundw
                case rel => exact ⟨i + 1, A8, n8, c8, by omega, by go_num, by omega, by rw [HF.out, HC2.out]; exact HJ⟩
                case measure => simp [intOf]; omega
              · have hq2 : ((b.toNat : Int) != 0) = true := by rw [bne_iff_ne]; have := u8_pos hbn; omega
                have HC2 : Hid (Sy.chipsOf (P.take (i + 1)) ch = Sy.chipsOf (P.take i) ch ++ [p]) := by unfold Hid; rw [HCs.out, if_neg (by rw [HB.out]; exact hbn)]
                have hlen : (Sy.fixW word (P.take i) ch).length = d + m := by rw [Sy.fixW_length, HN.out]
                obtain ⟨x, hx⟩ := byte_at (Sy.fixW word (P.take i) ch) p (by rw [hlen]; exact hpn)
                obtain ⟨g3, rfl, -, -⟩ := own_form (HJ.out.row 2 rfl) (by omega)
                have hcx := HJ.out.byteO 2 rfl hx
                have hfx := HJ.out.frzO 2 rfl p
                obtain ⟨ho0, ho1, ho2⟩ := HJ.out.dec 3 rfl
                obtain ⟨z, hz, HZ⟩ := xor_ex x b
                have HF : Hid ((Sy.fixW word (P.take i) ch).set p z = Sy.fixW word (P.take (i + 1)) ch) := by
                  have h7 := Sy.fixW_step word HPi.out (ch := ch) (by rw [HN.out]; exact hpn)
                  rw [Sy.wd_some hx, HB.out] at h7
                  rw [HZ.out]
                  exact h7
                have HJ2 : Hid (Ow w (wr.setCell ⟨g3, p, none⟩ (.int .u8 (z.toNat : Int))) none [] [⟨A, d + m, c, bys word⟩, ⟨A2, ne, c2, nats E⟩, ⟨A5, m, c5, bys (Sy.synL word m)⟩, ⟨some ad6, k6, c6, nats P⟩, ⟨some ad7, k6, c7, bys ch⟩] [codeR w.heap.size d m f, decRw (w.heap.size + 1) 0 none 0 0 none 0 0, ⟨some ⟨g3, 0, none⟩, d + m, c3, 5, bys (Sy.fixW word (P.take (i + 1)) ch)⟩, decRw ob 1 (some ⟨g3, 0, none⟩) (d + m) c3 A8 n8 c8, ⟨A8, n8, c8, 3, nats (Sy.chipsOf (P.take i) ch)⟩]) := by
                  have h7 := HJ.out.putB 2 rfl p z
                  rw [HF.out] at h7
                  exact h7
                obtain ⟨hq0, hq1, hq3⟩ := HJ2.out.dec 3 rfl
                have hpd : (p : Int) < (d : Int) + (m : Int) := by omega
                clear hx hbn hlen
                go_upto_region 24 with fail
                refine wp_region_still_tail 11 (by kernel_rfl) (by kernel_rfl) ?_
                simp only [List.take_succ_cons, List.take_zero, List.drop_succ_cons, List.drop_zero]
                repeat (first | still_step)
                refine wpStill_nil ?_
                change wpList _ _ _ _ _ (World.drew _)
                go_upto_region 25 with fail
                obtain ⟨w9, hw9⟩ : ∃ W, W = (wr.setCell ⟨g3, p, none⟩ (.int .u8 (z.toNat : Int))).drew := ⟨_, rfl⟩
                have HJ9 := Lib.hid HJ2.out.drew
                rw [← hw9] at HJ9 ⊢
                clear hw9 hq0 hq1 hq3
                obtain ⟨hq0, hq1, hq3⟩ := HJ9.out.dec 3 rfl
                go_wp2_with (at_builtin; refine ow_append1 elemI HJ9.out 4 (.tmp 106) (.tmp 108) _ _ rfl rfl (by unfold maxLen; omega) (by omega) rfl rfl rfl rfl ?_; intro A' c' w8 how; have hy2 := (how.dec 3 rfl).2.2; have hyf := how.frzO 3 (vs := _) rfl 2)
                go_roundw
                case rel =>
                  rw [nats_snoc, ← HC2.out] at how
                  exact ⟨i + 1, A', n8 + 1, c', by omega, by go_num, by omega, how.put 3 rfl 2 (.slice A' (n8 + 1) c')⟩
                case measure => simp [intOf]; omega
            · have hd6 : decide ((i : Int) < (k6 : Int)) = false := decide_eq_false (by omega)
              have hT : P.take i = P := List.take_of_length_le (by rw [HPl.out]; exact h6)
              rw [hT] at HJ
              obtain ⟨ho0, ho1, ho2⟩ := HJ.out.dec 3 rfl
              obtain ⟨hr0, hr1, hr2⟩ := HJ.out.dec 1 rfl
              have hrf0 := HJ.out.frzO 1 (vs := _) rfl 0
              have hrf1 := HJ.out.frzO 1 (vs := _) rfl 1
              have hrf2 := HJ.out.frzO 1 (vs := _) rfl 2
              clear hT
              go_wp2_with fail
              have G := ((HJ.out.put 1 rfl 0 (.int .i64 1)).put 1 rfl 1 (.slice A3 (d + m) c3)).put 1 rfl 2 (.slice A8 n8 c8)
              obtain ⟨k0, k1, k2⟩ := G.dec (o := 1) (A1 := A3) (n1 := d + m) (c1 := c3) (A2 := A8) (n2 := n8) (c2 := c8) 1 rfl
              refine bodyPost_ret (v := .tuple #[.agg #[.int .i64 1, .slice A3 (d + m) c3, .slice A8 n8 c8], .int .i64 0]) (by simp [results, Tryz.results47, go_sem, k0, k1, k2]) rfl ?_
              rw [HR.out]
              have h8 := own_len (G.row 4 rfl)
              rw [nats_length] at h8
              exact ⟨A3, d + m, c3, A8, n8, c8, rfl, by rw [Sy.fixW_length, HN.out], h8, G.row 2 rfl, G.row 4 rfl, G.below⟩
        · have HO7 := Lib.hid (HO6.out.go hb7)
          have HR : Hid (Sy.decM m f word E = (2, [], [])) := by
            unfold Hid
            rw [HDec.out, HP.out]
            dsimp only
            rw [HPl.out, hch]
          clear hch hb7 HMg
          obtain ⟨hr0, hr1, hr2⟩ := HO7.out.dec 1 rfl
          have hrf0 := HO7.out.frzO 1 (vs := _) rfl 0
          have hrf1 := HO7.out.frzO 1 (vs := _) rfl 1
          have hrf2 := HO7.out.frzO 1 (vs := _) rfl 2
          go_wp2_with fail
          have G := ((HO7.out.put 1 rfl 0 (.int .i64 2)).put 1 rfl 1 (.slice none 0 0)).put 1 rfl 2 (.slice none 0 0)
          obtain ⟨k0, k1, k2⟩ := G.dec (o := 2) (A1 := none) (n1 := 0) (c1 := 0) (A2 := none) (n2 := 0) (c2 := 0) 1 rfl
          refine bodyPost_ret (v := .tuple #[.agg #[.int .i64 2, .slice none 0 0, .slice none 0 0], .int .i64 0]) (by simp [results, Tryz.results47, go_sem, k0, k1, k2]) rfl ?_
          rw [HR.out]
          exact ⟨none, 0, 0, none, 0, 0, rfl, rfl, rfl, World.ownsRow_nil _ _ _ _, World.ownsRow_nil _ _ _ _, G.below⟩
      · have HO6 := Lib.hid (HO5.out.go hb6)
        have HR : Hid (Sy.decM m f word E = (2, [], [])) := by
          unfold Hid
          rw [HDec.out, hP]
        clear hP hb6 hc0 hc1 hc2' hc3
        obtain ⟨hr0, hr1, hr2⟩ := HO6.out.dec 1 rfl
        have hrf0 := HO6.out.frzO 1 (vs := _) rfl 0
        have hrf1 := HO6.out.frzO 1 (vs := _) rfl 1
        have hrf2 := HO6.out.frzO 1 (vs := _) rfl 2
        go_wp2_with fail
        have G := ((HO6.out.put 1 rfl 0 (.int .i64 2)).put 1 rfl 1 (.slice none 0 0)).put 1 rfl 2 (.slice none 0 0)
        obtain ⟨k0, k1, k2⟩ := G.dec (o := 2) (A1 := none) (n1 := 0) (c1 := 0) (A2 := none) (n2 := 0) (c2 := 0) 1 rfl
        refine bodyPost_ret (v := .tuple #[.agg #[.int .i64 2, .slice none 0 0, .slice none 0 0], .int .i64 0]) (by simp [results, Tryz.results47, go_sem, k0, k1, k2]) rfl ?_
        rw [HR.out]
        exact ⟨none, 0, 0, none, 0, 0, rfl, rfl, rfl, World.ownsRow_nil _ _ _ _, World.ownsRow_nil _ _ _ _, G.below⟩)
end Go.Proofs.YtnplaejlmbncfaaGreatDoor
