/- The walk of the law NatReturns. -/
import Derived.Test.YtflgfkelbniblaaDoorNatR
import Derived.Test.YtflgfkelbniblaaDoorNatOrderW
import Derived.Test.YtflgfkelbniblaaDoorDivX
import Derived.Test.YtflgfkelbniblaaDoorNPar
namespace Go.Proofs.YtflgfkelbniblaaDoor
open Go.RowKit
set_option linter.unusedVariables false
set_option maxRecDepth 100000
namespace De
theorem pv_rev : ∀ ds : List Nat, Lim ds → pv ((ds.map asc).reverse) = val ds
  | [], _ => rfl
  | d :: ds, h => by
    rw [List.map_cons, List.reverse_cons, pv_snoc, pv_rev ds h.tail, asc_toNat h.head, val]
    omega
theorem pv_text (x : Nat) : pv (text x) = x := by
  unfold text
  split
  · rename_i h; rw [h]; rfl
  · rw [pv_rev _ (dig_lim x), val_dig]
theorem text_digs (x : Nat) : Digs (text x) := by
  unfold text
  split
  · intro c hc; rw [List.mem_singleton] at hc; subst hc; decide
  · intro c hc
    rw [List.mem_reverse, List.mem_map] at hc
    obtain ⟨d, hd, rfl⟩ := hc
    have := dig_lim x d hd
    rw [asc_toNat this]
    omega
theorem text_nil (x : Nat) : text x ≠ [] := by
  unfold text
  split
  · simp
  · rename_i h
    intro e
    have := congrArg List.length e
    simp at this
    have h2 := val_dig x
    rw [this] at h2
    exact h h2.symm
theorem text_len (x : Nat) (m : Nat) (hx : x < 16777216 ^ m) (hm : 0 < m) : (text x).length ≤ 8 * m := by
  unfold text
  split
  · simp; omega
  · rw [List.length_reverse, List.length_map]
    refine dig_len_le (Nat.lt_of_lt_of_le hx ?_)
    rw [Nat.pow_mul]
    exact Nat.pow_le_pow_left (by omega) m
theorem text_head (x : Nat) : (text x).length ≤ 1 ∨ ∃ b, (text x)[0]? = some b ∧ b ≠ 48 := by
  unfold text
  split
  · exact .inl (Nat.le_refl _)
  · rename_i h
    refine .inr ?_
    have hl := dig_last x
    have h0 : 0 < (dig x).length := by
      rcases Nat.eq_zero_or_pos (dig x).length with e | e
      · exfalso
        have h2 := val_dig x
        rw [List.length_eq_zero_iff.1 e] at h2
        exact h h2.symm
      · exact e
    have h1 : (dig x)[(dig x).length - 1]? = some ((dig x)[(dig x).length - 1]'(by omega)) := List.getElem?_eq_getElem (by omega)
    obtain ⟨d, hd⟩ : ∃ d, (dig x)[(dig x).length - 1]'(by omega) = d := ⟨_, rfl⟩
    rw [hd] at h1
    refine ⟨asc d, ?_, ?_⟩
    · rw [List.getElem?_reverse (by rw [List.length_map]; exact h0), List.length_map, Nat.sub_zero, List.getElem?_map, h1]
      rfl
    · intro e
      have hlim := dig_lim x d (List.mem_of_getElem? h1)
      have := (asc_zero hlim).1 e
      rw [this] at h1
      rcases hl with hl | hl
      · omega
      · exact hl h1
end De
section
variable {w0 w : World} {g : Option Nat} {M : List (Nat × Value)} {L : List Ob} {A A2 : Option Addr} {n c m c2 x y : Nat}
theorem parse_st (h : St w0 w g M L) (x : Nat) (hx : x < 16777216 ^ 100) : Calls Tryd.prog 29 #[.string (str (De.text x))] w (GotN w0 g M L (Na.dig x) 0) := by
  have ht : x < Na.top := small_top (m := 100) hx (by omega)
  have hl := De.text_len x 100 hx (by omega)
  refine (nparse_ok (De.text x) w (De.text_nil x) (by omega) (De.text_head x) (De.text_digs x)).mono fun en w' hr => ?_
  rw [De.pv_text] at hr
  exact got_res h (resL_ok ht) (resE_ok ht) (Nat.le_trans ((Na.dig_200 x).2 ht) (by omega)) hr
theorem valid_st (h : St w0 w g M L) (i : Nat) (hi : L[i]? = some ⟨A, n, c, nats (Na.dig x)⟩) (hx : x < Na.top) :
    Calls Tryd.prog 36 #[.agg #[.slice A n c]] w fun e w' => e = .returned (.bool true) ∧ St w0 w' g M L := by
  obtain ⟨h1, h2, h3, h4⟩ := h.sl hi
  rw [nats_length] at h1
  have hv := nvalid_any A n c w.heap.size (Na.up (Na.dig x)) w (by rw [Na.up_length]; exact h1) (by rw [nats_up]; exact h4) (Nat.le_refl _) (by omega)
  rw [Na.vld_dig hx] at hv
  exact hv.mono fun e w' ⟨he, hb⟩ => ⟨he, h.go hb⟩
end
set_option maxHeartbeats 8000000 in
theorem returns_any (A : Option Addr) (n c : Nat) (ts : List Int) (w : World) (hn : ts.length = n) (hl : n ≤ 9223372036854775807) (hs : Sl w w.heap.size A (ints ts)) :
    Calls Tryd.prog 8 #[.slice A n c] w fun e w' => e = .returned (.bool true) ∧ Below w.heap.size w w' := by
  rcases Nat.lt_or_ge 400 n with h400 | h400
  · have HL := Lib.hid (light_no A n c w h400 hl)
    clear hs hn h400
    go_enter Tryd.func8, Tryd.ntmps8
    go_wp2_with fail
    refine HL.out.mono ?_
    rintro e w1 ⟨rfl, rfl⟩
    go_wp2_with fail
    refine (awakeN_any _).mono ?_
    rintro e w1 ⟨rfl, hb⟩
    have HB := Lib.hid hb
    clear hb
    go_wp2_with fail
    go_ret
    exact ⟨rfl, HB.out⟩
  · have HL := Lib.hid (light_yes A n c w h400)
    have HRo := Lib.hid (roll_at (St.refl w) A n c w.heap.size ts hn (by omega) (Nat.le_refl _) hs)
    clear hs hn h400 hl
    go_enter Tryd.func8, Tryd.ntmps8
    go_wp2_with fail
    refine HL.out.mono ?_
    rintro e w1 ⟨rfl, rfl⟩
    go_wp2_with fail
    refine HRo.out.mono ?_
    rintro e w2 ⟨g, rfl, HD, HS⟩
    clear HL HRo
    go_wp2_with fail
    refine (dnat_st HS HD 20 (by omega)).mono ?_
    rintro e w3 ⟨A1, n1, c1, x, rfl, -, hx1, HD1, HSx⟩
    clear HD HS
    go_wp2_with fail
    refine (dnat_st HSx HD1 8 (by omega)).mono ?_
    rintro e w4 ⟨A2, n2, c2, y, rfl, hn2, hx2, HD2, HSy⟩
    clear HD1 HSx
    have HX : Hid (x < Na.top) := small_top hx1 (by omega)
    have HY : Hid (y < Na.top) := small_top hx2 (by omega)
    have HX100 : Hid (x < 16777216 ^ 100) := Nat.lt_of_lt_of_le hx1 (Nat.pow_le_pow_right (by omega) (by omega))
    have HN2 := Lib.hid hn2
    clear hx1 hx2 HD2 hn2
    go_wp2_with fail
    have HS2 := (HSy.boxed (.slice A1 n1 c1) 29).boxed (.slice A2 n2 c2) 29
    simp only [World.size_alloc, List.nil_append, List.cons_append] at HS2
    clear HSy
    refine (print_st HS2 0 rfl HX.out).mono ?_
    rintro e w5 ⟨rfl, HS3⟩
    clear HS2
    go_wp2_with fail
    refine (parse_st HS3 x HX100.out).mono ?_
    rintro e w6 ⟨A3, n3, c3, rfl, HS4, -⟩
    have HS5 := HS4.boxed (.slice A3 n3 c3) 29
    clear HS3 HS4
    go_wp2_with fail
    refine (awakeN_any _).mono ?_
    rintro e w7 ⟨rfl, hb⟩
    have HS6 := HS5.go hb
    clear hb HS5
    have hc1 := HS6.cell 2 rfl
    have hc2 := HS6.cell 0 rfl
    go_wp2_with fail
    refine (same_st HS6 2 0 rfl rfl rfl).mono ?_
    rintro e w8 ⟨rfl, HS7⟩
    clear HS6 hc1 hc2
    have hc1 := HS7.cell 0 rfl
    have hc2 := HS7.cell 1 rfl
    rcases Nat.eq_zero_or_pos n2 with hn0 | hn0
    · subst hn0
      have hy0 : y = 0 := Na.dig_len0.1 HN2.out
      subst hy0
      go_wp2_with fail
      refine (divide_zero_st HS7 0 1 rfl rfl HX.out).mono ?_
      rintro e w9 ⟨B1, m1, k1, B2, m2, k2, rfl, HS8, -, -⟩
      have HS9 := (HS8.boxed (.slice B1 m1 k1) 29).boxed (.slice B2 m2 k2) 29
      simp only [World.size_alloc, List.nil_append, List.cons_append] at HS9
      have hc3 := HS9.cell 1 rfl
      clear HS7 hc1 hc2 HS8
      go_wp2_with fail
      go_ret
      exact ⟨rfl, HS9.below⟩
    · have hY0 : 0 < y := by
        rcases Nat.eq_zero_or_pos y with e | e
        · have := HN2.out; rw [e, Na.dig_zero] at this; simp at this; omega
        · exact e
      have HY0 := Lib.hid hY0
      have HQ : Hid (x / y < Na.top) := Nat.lt_of_le_of_lt (Nat.div_le_self x y) HX.out
      have HR : Hid (x % y < Na.top) := Nat.lt_of_le_of_lt (Nat.mod_le x y) HX.out
      have HM : Hid (x / y * y < Na.top) := Nat.lt_of_le_of_lt (Nat.div_mul_le_self x y) HX.out
      have HE : Hid (x / y * y + x % y = x) := by unfold Hid; rw [Nat.mul_comm]; exact Nat.div_add_mod x y
      have HC : Hid (Na.sgn (x % y) y = -1) := Na.sgn_lt (Nat.mod_lt x hY0)
      have hne : ((n2 : Int) == 0) = false := nat_ne0 hn0
      clear hY0
      go_wp2_with fail
      refine (divide_st HS7 0 1 rfl rfl HX.out HY.out HY0.out).mono ?_
      rintro e w9 ⟨B1, m1, k1, B2, m2, k2, rfl, HS8, -, -⟩
      have HS9 := (HS8.boxed (.slice B1 m1 k1) 29).boxed (.slice B2 m2 k2) 29
      simp only [World.size_alloc, List.nil_append, List.cons_append] at HS9
      clear HS7 hc1 hc2 HS8
      have hc3 := HS9.cell 1 rfl
      have hc4 := HS9.cell 3 rfl
      go_wp2_with fail
      refine (mul_st HS9 3 1 rfl rfl HQ.out HY.out).mono ?_
      rw [resL_ok HM.out, resE_ok HM.out]
      rintro e v1 ⟨B3, m3, k3, rfl, HSa, -⟩
      have HSb := HSa.boxed (.slice B3 m3 k3) 29
      clear HS9 HSa hc3 hc4
      have hc4 := HSb.cell 4 rfl
      have hc5 := HSb.cell 5 rfl
      go_wp2_with fail
      refine (add_st HSb 5 4 rfl rfl HM.out HR.out).mono ?_
      rw [HE.out, resL_ok HX.out, resE_ok HX.out]
      rintro e v2 ⟨B4, m4, k4, rfl, HSc, -⟩
      have hc6 := HSc.cell 5 rfl
      have hf6 := HSc.free 5 rfl
      have HSd := HSc.put 5 rfl (.slice B4 m4 k4)
      clear HSb hc4 hc5
      have hc7 := HSd.cell 5 rfl
      have hc8 := HSd.cell 0 rfl
      go_wp2_with fail
      refine (same_st HSd 6 0 rfl rfl rfl).mono ?_
      rintro e v3 ⟨rfl, HSe⟩
      clear HSc HSd hc6 hf6 hc7 hc8
      have hc4 := HSe.cell 4 rfl
      have hc5 := HSe.cell 1 rfl
      go_wp2_with fail
      refine (cmp_st HSe 4 1 rfl rfl).mono ?_
      rw [HC.out]
      rintro e v4 ⟨rfl, HSf⟩
      clear HSe hc4 hc5
      have hc4 := HSf.cell 3 rfl
      go_wp2_with fail
      refine (valid_st HSf 3 rfl HQ.out).mono ?_
      rintro e v5 ⟨rfl, HSg⟩
      clear HSf hc4
      have hc4 := HSg.cell 4 rfl
      go_wp2_with fail
      refine (valid_st HSg 4 rfl HR.out).mono ?_
      rintro e v6 ⟨rfl, HSh⟩
      clear HSg hc4
      go_wp2_with fail
      go_ret
      exact ⟨rfl, HSh.below⟩
end Go.Proofs.YtflgfkelbniblaaDoor
