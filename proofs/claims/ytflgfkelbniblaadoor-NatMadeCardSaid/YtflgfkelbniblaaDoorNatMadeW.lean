/- The law NatMade. -/
import Derived.Test.YtflgfkelbniblaaDoorAg
import Derived.Test.YtflgfkelbniblaaDoorNatU
import Derived.Test.YtflgfkelbniblaaDoorOdd
namespace Go.Proofs.YtflgfkelbniblaaDoor
open Go.RowKit Go.Sort
set_option linter.unusedVariables false
set_option maxRecDepth 100000
theorem agree_ow {w0 w : World} {g : Option Nat} {M : List (Nat × Value)} {L : List Ob} {O : List Rw} {A A2 : Option Addr} {n c m c2 : Nat} {zs ys : List Int} (h : Ow w0 w g M L O) (i j : Nat) (hi : L[i]? = some ⟨A, n, c, ints zs⟩) (hj : L[j]? = some ⟨A2, m, c2, ints ys⟩) (ht : Tab w0) :
    Calls Tryd.prog 38 #[.agg #[.slice A n c], .agg #[.slice A2 m c2]] w fun e w' => e = .returned (.bool true) ∧ Ow w0 w' g M L O := by
  have p := h.raw hi
  have q := h.raw hj
  exact (agree_any A A2 n c m c2 zs ys w p.1 q.1 p.2.1 q.2.1 p.2.2.2 q.2.2.2 p.2.2.1 q.2.2.1 (ht.below h.below)).mono fun e w' ⟨he, hb⟩ => ⟨he, h.go hb⟩
set_option maxHeartbeats 4000000 in
theorem natMade_any (A : Option Addr) (n c : Nat) (ts : List Int) (w : World) (hn : ts.length = n) (hl : n ≤ 9223372036854775807) (hs : Sl w w.heap.size A (ints ts)) (ht : Tab w) :
    Calls Tryd.prog 11 #[.slice A n c] w fun e w' => e = .returned (.bool true) ∧ Below w.heap.size w w' := by
  have HT := Lib.hid ht
  clear ht
  rcases Nat.lt_or_ge 400 n with h400 | h400
  · have HL := Lib.hid (light_no A n c w h400 hl)
    clear hs hn h400
    go_enter Tryd.func11, Tryd.ntmps11
    go_wp2_with fail
    refine HL.out.mono ?_
    rintro e w1 ⟨rfl, rfl⟩
    go_wp2_with fail
    refine (awakeN_any _).mono ?_
    rintro e w1 ⟨rfl, hb⟩
    have HB := Lib.hid hb
    clear hb
    go_wp2_with fail
    go_ret
    exact ⟨rfl, HB.out⟩
  · have HL := Lib.hid (light_yes A n c w h400)
    have HRo := Lib.hid (roll_at (St.refl w) A n c w.heap.size ts hn (by omega) (Nat.le_refl _) hs)
    clear hs hn h400 hl
    go_enter Tryd.func11, Tryd.ntmps11
    go_wp2_with fail
    refine HL.out.mono ?_
    rintro e w1 ⟨rfl, rfl⟩
    go_wp2_with fail
    refine HRo.out.mono ?_
    rintro e w2 ⟨g, rfl, HD, HS⟩
    clear HL HRo
    go_wp2_with fail
    refine (dnat_st HS HD 12 (by omega)).mono ?_
    rintro e w3 ⟨A1, n1, c1, x, rfl, hl1, hx1, HD1, HSx⟩
    clear HD HS
    go_wp2_with fail
    refine (dnat_st HSx HD1 12 (by omega)).mono ?_
    rintro e w4 ⟨A2, n2, c2, y, rfl, -, hx2, HD2, HSy⟩
    have hn1 : n1 ≤ 12 := by rw [← hl1]; exact (Na.dig_len_iff x 12).2 hx1
    clear HD1 HSx hx1 hx2 hl1
    have HS0 := (Ow.of ((HSy.boxed (.slice A1 n1 c1) 29).boxed (.slice A2 n2 c2) 29))
    simp only [World.size_alloc, List.nil_append, List.cons_append] at HS0
    have HD3 : Dice ((w4.alloc (.cells #[.slice A1 n1 c1] 29)).alloc (.cells #[.slice A2 n2 c2] 29)) g w.heap.size := (HD2.below (own_box1 _ _)).below (own_box1 _ _)
    rw [← nats_up (Na.dig x), ← nats_up (Na.dig y)] at HS0
    have HOn := Lib.hid (one_ow HS0 HD3 4 (by omega) (by omega))
    clear HSy HD2 HS0 HD3
    go_wp2_with fail
    refine HOn.out.mono ?_
    rintro e w5 ⟨b, rfl, HD4, H5⟩
    clear HOn
    cases b
    · clear HD4
      go_wp2_with fail
      refine (awakeN_any _).mono ?_
      rintro e v1 ⟨rfl, hb⟩
      have K1 := H5.go hb
      have hc0 := K1.cell 0 rfl
      have hc1 := K1.cell 1 rfl
      have HA := Lib.hid (agree_ow K1 0 1 rfl rfl HT.out)
      clear H5 hb K1
      go_wp2_with fail
      refine HA.out.mono ?_
      rintro e v2 ⟨rfl, K2⟩
      have HB := Lib.hid (agree_ow K2 1 0 rfl rfl HT.out)
      clear HA hc0 hc1
      have hc0 := K2.cell 0 rfl
      have hc1 := K2.cell 1 rfl
      clear K2
      go_wp2_with fail
      refine HB.out.mono ?_
      rintro e v3 ⟨rfl, K3⟩
      clear HB hc0 hc1
      go_wp2_with fail
      go_ret
      exact ⟨rfl, K3.below⟩
    · have hc0 := H5.cell 0 rfl
      have HOd := Lib.hid (oddnat_ow H5 HD4 0 rfl (by omega) (Nat.le_refl _))
      clear H5 HD4
      go_wp2_with fail
      refine HOd.out.mono ?_
      rintro e w6 ⟨A3, n3, c3, ys, rfl, hn3, -, H6⟩
      have hs0 := H6.cell 0 rfl
      have hf0 := H6.free 0 rfl
      have H7 := H6.setv 0 rfl (.slice A3 n3 c3)
      simp only [List.set_cons_zero] at H7
      clear hc0 HOd H6
      go_wp2_with fail
      refine (awakeN_any _).mono ?_
      rintro e v1 ⟨rfl, hb⟩
      have K1 := H7.go hb
      have hc0 := K1.cell 0 rfl
      have hc1 := K1.cell 1 rfl
      have HA := Lib.hid (agree_ow K1 2 1 rfl rfl HT.out)
      clear H7 hb K1 hs0 hf0
      go_wp2_with fail
      refine HA.out.mono ?_
      rintro e v2 ⟨rfl, K2⟩
      have HB := Lib.hid (agree_ow K2 1 2 rfl rfl HT.out)
      clear HA hc0 hc1
      have hc0 := K2.cell 0 rfl
      have hc1 := K2.cell 1 rfl
      clear K2
      go_wp2_with fail
      refine HB.out.mono ?_
      rintro e v3 ⟨rfl, K3⟩
      clear HB hc0 hc1
      go_wp2_with fail
      go_ret
      exact ⟨rfl, K3.below⟩
end Go.Proofs.YtflgfkelbniblaaDoor
