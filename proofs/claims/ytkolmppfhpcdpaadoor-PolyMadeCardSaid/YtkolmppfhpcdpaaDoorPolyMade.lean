/- The walk of PolyMade. -/
import Derived.Test.YtkolmppfhpcdpaaDoorPolyAgree
namespace Go.Proofs.YtkolmppfhpcdpaaDoor
open Go.RowKit
set_option linter.unusedVariables false
set_option maxRecDepth 100000
theorem agree_st {w0 w : World} {g : Option Nat} {L : List Ob} {A A2 : Option Addr} {n c m c2 : Nat} {p q : List UInt8} (h : St w0 w g L) (i j : Nat) (hi : L[i]? = some ⟨A, n, c, p⟩) (hj : L[j]? = some ⟨A2, m, c2, q⟩) (x : UInt8) :
    Calls Tryd.prog 25 #[.slice A n c, .slice A2 m c2, .int .u8 (x.toNat : Int)] w fun e w' => e = .returned (.bool true) ∧ St w0 w' g L := by
  obtain ⟨h1, h2, h3, h4⟩ := h.sl hi
  obtain ⟨k1, k2, k3, k4⟩ := h.sl hj
  exact (agree_any A n c A2 m c2 p q x w h1 k1 h2 k2 h3 k3 h4 k4).mono fun en w' ⟨he, hb⟩ => ⟨he, h.go hb⟩
set_option maxHeartbeats 4000000 in
theorem polyMade_any (A : Option Addr) (n c : Nat) (ts : List Int) (x : UInt8) (w : World) (hn : ts.length = n) (hl : n ≤ 9223372036854775807) (hs : Sl w w.heap.size A (ints ts)) :
    Calls Tryd.prog 8 #[.slice A n c, .int .u8 (x.toNat : Int)] w fun e w' => e = .returned (.bool true) ∧ Below w.heap.size w w' := by
  rcases Nat.lt_or_ge 400 n with h400 | h400
  · have HL := Lib.hid (light_no A n c w h400 hl)
    clear hs hn h400
    go_enter Tryd.func8, Tryd.ntmps8
    go_wp2_with fail
    refine HL.out.mono ?_
    rintro e w1 ⟨rfl, rfl⟩
    go_wp2_with fail
    refine (awakeP_any _).mono ?_
    rintro e w1 ⟨rfl, hb⟩
    go_wp2_with fail
    go_ret
    exact ⟨rfl, hb⟩
  · have HL := Lib.hid (light_yes A n c w h400)
    have HRo := Lib.hid (roll_st A n c ts w hn (by omega) hs)
    clear hs hn h400 hl
    go_enter Tryd.func8, Tryd.ntmps8
    go_wp2_with fail
    refine HL.out.mono ?_
    rintro e w1 ⟨rfl, rfl⟩
    go_wp2_with fail
    refine HRo.out.mono ?_
    rintro e w1 ⟨rfl, HD, HS⟩
    go_wp2_with fail
    refine (poly_st HS HD 12 12 rfl (by omega)).mono ?_
    rintro e w2 ⟨A0, n0, c0, p, rfl, hp, hp12, vp, HD2, HS2⟩
    clear HD HS hp
    go_wp2_with fail
    refine (poly_st HS2 HD2 12 12 rfl (by omega)).mono ?_
    rintro e w3 ⟨A1, n1, c1, q, rfl, hq, hq12, vq, HD3, HS3⟩
    clear HD2 HS2 hq
    go_wp2_with fail
    refine (poly_st HS3 HD3 6 6 rfl (by omega)).mono ?_
    rintro e w4 ⟨A2, n2, c2, r, rfl, hr, hr6, vr, HD4, HS4⟩
    clear HD3 HS3 hr
    go_wp2_with fail
    refine (one_any w.heap.size w.heap.size 2 w4 (by omega) (by omega) HD4).mono ?_
    rintro e w5 ⟨b, rfl, HD5, hg5⟩
    have HS5 := HS4.roll hg5
    clear HD4 HD5 HS4 hg5
    cases b
    · go_wp2_with fail
      refine (awakeP_any _).mono ?_
      rintro e w6 ⟨rfl, hb⟩
      have HS6 := HS5.go hb
      clear HS5 hb
      go_wp2_with fail
      refine (agree_st HS6 0 1 rfl rfl x).mono ?_
      rintro e w7 ⟨rfl, HS7⟩
      clear HS6
      go_wp2_with fail
      refine (agree_st HS7 1 0 rfl rfl x).mono ?_
      rintro e w8 ⟨rfl, HS8⟩
      clear HS7
      go_wp2_with fail
      go_ret
      exact ⟨rfl, HS8.below⟩
    · go_wp2_with fail
      refine (rmul_gt HS5 0 2 rfl rfl _ _ rfl rfl).mono ?_
      rintro e w6 ⟨A3, n3, c3, rfl, HS6, -⟩
      clear HS5
      go_wp2_with fail
      refine (rmul_gt HS6 1 2 rfl rfl _ _ rfl rfl).mono ?_
      rintro e w7 ⟨A4, n4, c4, rfl, HS7, -⟩
      clear HS6
      go_wp2_with fail
      refine (awakeP_any _).mono ?_
      rintro e w8 ⟨rfl, hb⟩
      have HS8 := HS7.go hb
      clear HS7 hb
      go_wp2_with fail
      refine (agree_st HS8 3 4 rfl rfl x).mono ?_
      rintro e w9 ⟨rfl, HS9⟩
      clear HS8
      go_wp2_with fail
      refine (agree_st HS9 4 3 rfl rfl x).mono ?_
      rintro e w10 ⟨rfl, HS10⟩
      clear HS9
      go_wp2_with fail
      go_ret
      exact ⟨rfl, HS10.below⟩
end Go.Proofs.YtkolmppfhpcdpaaDoor
