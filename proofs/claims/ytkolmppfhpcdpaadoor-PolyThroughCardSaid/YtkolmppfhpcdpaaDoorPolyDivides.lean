/- The walk of PolyDivides. -/
import Derived.Test.YtkolmppfhpcdpaaDoorPolyP
import Derived.Test.YtkolmppfhpcdpaaDoorPolyQ
namespace Go.Proofs.YtkolmppfhpcdpaaDoor
open Go.RowKit
set_option linter.unusedVariables false
set_option maxRecDepth 100000
theorem St.add_own {w0 w : World} {g : Option Nat} {L : List Ob} (h : St w0 w g L) {base : Nat} {A : Option Addr} {n c : Nat} {l : List UInt8} (ho : w.ownsRow base 5 1 (.slice A n c) n (bys l)) (hb : ∀ x, g = some x → x < base) (hn : l.length = n) (hl : n ≤ 300) :
    St w0 w g (L ++ [⟨A, n, c, l⟩]) :=
  h.add (Sl.of_own ho) (Nat.le_refl _) hn (own_cap ho).1 hl (fun x e h0 ad hA hx => by
    obtain ⟨g', hg', h1, _⟩ := own_form ho h0
    rw [hA] at hg'
    obtain rfl := Option.some.inj hg'
    have := hb x e
    simp only at hx
    omega)
/-- what a call leaves: two lists more, and an error number -/
def GotT (w0 : World) (g : Option Nat) (L : List Ob) (q r : List UInt8) (err : Int) (en : Ending) (w' : World) : Prop :=
  ∃ (A1 : Option Addr) (n1 c1 : Nat) (A2 : Option Addr) (n2 c2 : Nat), en = .returned (.tuple #[.slice A1 n1 c1, .slice A2 n2 c2, .int .i64 err]) ∧ St w0 w' g (L ++ [⟨A1, n1, c1, q⟩] ++ [⟨A2, n2, c2, r⟩]) ∧ q.length = n1 ∧ r.length = n2
theorem got_two {w0 w : World} {g : Option Nat} {L : List Ob} (h : St w0 w g L) {q r q' r' : List UInt8} {e e' : Int} (hq : q = q') (hr : r = r') (he : e = e') (h3 : q'.length ≤ 300) (h4 : r'.length ≤ 300) {en : Ending} {w' : World} (hres : ResE w q r e en w') : GotT w0 g L q' r' e' en w' := by
  subst hq hr he
  obtain ⟨A1, n1, c1, A2, n2, c2, rfl, h1, h2, o1, o2, hb⟩ := hres
  exact ⟨A1, n1, c1, A2, n2, c2, rfl, (h.push o1 h1 (by omega) hb).add_own o2 (fun x e => (h.lt x e).1) h2 (by omega), h1, h2⟩
section
variable {w0 w : World} {g : Option Nat} {L : List Ob} {A A2 : Option Addr} {n c m c2 : Nat} {p q : List UInt8}
theorem pdivide_st (h : St w0 w g L) (i j : Nat) (hi : L[i]? = some ⟨A, n, c, p⟩) (hj : L[j]? = some ⟨A2, m, c2, q⟩) (vp : Po.vld p = true) (vq : Po.vld q = true) (h0 : 0 < q.length) :
    Calls Tryd.prog 23 #[.slice A n c, .slice A2 m c2] w (GotT w0 g L (Po.quo p q) (Po.rem p q) 0) := by
  obtain ⟨h1, h2, h3, h4⟩ := h.sl hi
  obtain ⟨k1, k2, k3, k4⟩ := h.sl hj
  obtain ⟨e1, e2, e3⟩ := Po.div_some (p := p) (q := q) (by rw [vp, vq]; rfl) h0
  exact (pdivide_any A A2 n c m c2 p q w h1 k1 h4 k4 (by omega) (by omega)).mono fun en w' hr => got_two h e1 e2 e3 (by have := Po.vld_len (Po.quo_vld p q vp h0 (Po.vld_top q vq h0)); omega) (by have := Po.rem_lt p q h0; omega) hr
theorem pdivide_zero (h : St w0 w g L) (i j : Nat) (hi : L[i]? = some ⟨A, n, c, p⟩) (hj : L[j]? = some ⟨A2, m, c2, q⟩) (vp : Po.vld p = true) (vq : Po.vld q = true) (h0 : q.length = 0) :
    Calls Tryd.prog 23 #[.slice A n c, .slice A2 m c2] w (GotT w0 g L [] [] 4) := by
  obtain ⟨h1, h2, h3, h4⟩ := h.sl hi
  obtain ⟨k1, k2, k3, k4⟩ := h.sl hj
  obtain ⟨e1, e2, e3⟩ := Po.div_zero (p := p) (q := q) (by rw [vp, vq]; rfl) h0
  exact (pdivide_any A A2 n c m c2 p q w h1 k1 h4 k4 (by omega) (by omega)).mono fun en w' hr => got_two h e1 e2 e3 (Nat.zero_le _) (Nat.zero_le _) hr
theorem pgcd_st (h : St w0 w g L) (i j : Nat) (hi : L[i]? = some ⟨A, n, c, p⟩) (hj : L[j]? = some ⟨A2, m, c2, q⟩) (vp : Po.vld p = true) (vq : Po.vld q = true) (G : List UInt8) (hG : Po.monic (Po.gcdF q.length p q) = G) :
    Calls Tryd.prog 24 #[.slice A n c, .slice A2 m c2] w (GotE w0 g L G 0) := by
  obtain ⟨h1, h2, h3, h4⟩ := h.sl hi
  obtain ⟨k1, k2, k3, k4⟩ := h.sl hj
  have e1 : Po.gcdR p q = G := by unfold Po.gcdR; rw [vp, vq]; exact hG
  have l1 := (Po.gcd_vld q.length p q (Nat.le_refl _) vp vq).2.2
  exact (pgcd_any A A2 n c m c2 p q w h1 k1 h4 k4 (by omega) (by omega)).mono fun en w' hr => got_res h e1 (Po.errs_ok vp vq) (by rw [← hG, Po.monic_length]; omega) hr
end
set_option maxHeartbeats 2000000 in
theorem polyDivides_any (A : Option Addr) (n c : Nat) (ts : List Int) (x : UInt8) (w : World) (hn : ts.length = n) (hl : n ≤ 9223372036854775807) (hs : Sl w w.heap.size A (ints ts)) :
    Calls Tryd.prog 6 #[.slice A n c, .int .u8 (x.toNat : Int)] w fun e w' => e = .returned (.bool true) ∧ Below w.heap.size w w' := by
  rcases Nat.lt_or_ge 400 n with h400 | h400
  · have HL := Lib.hid (light_no A n c w h400 hl)
    clear hs hn h400
    go_enter Tryd.func6, Tryd.ntmps6
    go_wp2_with fail
    refine HL.out.mono ?_
    rintro e w1 ⟨rfl, rfl⟩
    go_wp2_with fail
    refine (awakeP_any _).mono ?_
    rintro e w1 ⟨rfl, hb⟩
    go_wp2_with fail
    go_ret
    exact ⟨rfl, hb⟩
  · have HL := Lib.hid (light_yes A n c w h400)
    have HRo := Lib.hid (roll_st A n c ts w hn (by omega) hs)
    clear hs hn h400 hl
    go_enter Tryd.func6, Tryd.ntmps6
    go_wp2_with fail
    refine HL.out.mono ?_
    rintro e w1 ⟨rfl, rfl⟩
    go_wp2_with fail
    refine HRo.out.mono ?_
    rintro e w1 ⟨rfl, HD, HS⟩
    go_wp2_with fail
    refine (poly_st HS HD 20 20 rfl (by omega)).mono ?_
    rintro e w2 ⟨A0, n0, c0, p, rfl, hp, hp20, vp, HD2, HS2⟩
    clear HD HS
    go_wp2_with fail
    refine (poly_st HS2 HD2 10 10 rfl (by omega)).mono ?_
    rintro e w3 ⟨A1, n1, c1, q, rfl, hq, hq10, vq, HD3, HS3⟩
    clear HD2 HS2 HD3
    rcases Nat.eq_zero_or_pos n1 with h0 | h0
    · subst h0
      have HQ := Lib.hid hq
      clear hq hp hp20 hq10
      go_wp2_with fail
      refine (pdivide_zero HS3 0 1 rfl rfl vp vq HQ.out).mono ?_
      rintro e w4 ⟨A2, n2, c2, A3, n3, c3, rfl, HS4, -, -⟩
      clear HS3
      go_wp2_with fail
      refine (awakeP_any _).mono ?_
      rintro e w5 ⟨rfl, hb⟩
      have HB := Lib.hid (HS4.go hb).below
      clear HS4 hb
      go_wp2_with fail
      go_ret
      exact ⟨rfl, HB.out⟩
    · have hz1 := nat_ne0 h0
      have hq0 : 0 < q.length := by omega
      have hne := Po.vld_top q vq hq0
      have vqu := Po.quo_vld p q vp hq0 hne
      have vre := Po.rem_vld p q vp (by omega)
      have hrl := Po.rem_lt p q hq0
      obtain ⟨l1, l2⟩ := Po.quo_len p q
      have b1 : (Po.quo p q).length + q.length - 1 ≤ 255 := by omega
      have vm := Po.mulV_vld _ q vqu vq b1
      have hid := Lib.hid (Po.div_id p q vp vq hq0)
      obtain ⟨vg, g0, g1⟩ := Po.gcd_vld q.length p q (Nat.le_refl _) vp vq
      have hg0 := g0 (.inr hq0)
      obtain ⟨d1, d2⟩ := Po.gcd_div q.length p q (Nat.le_refl _) vp vq
      obtain ⟨G, hG⟩ : ∃ G, Hid (Po.monic (Po.gcdF q.length p q) = G) := ⟨_, rfl⟩
      have vG : Po.vld G = true := by rw [← hG.out]; exact Po.monic_vld _ vg
      have hGl : 0 < G.length := by rw [← hG.out, Po.monic_length]; exact hg0
      have hGt : Hid (Po.co G (G.length - 1) = 1) := by unfold Hid; rw [← hG.out]; exact Po.monic_top _ vg hg0
      have hr1 : Hid (Po.rem p G = []) := Po.rem_of_dv p G vp vG hGl (by rw [← hG.out]; exact Po.monic_dv _ _ vg hg0 d1)
      have hr2 : Hid (Po.rem q G = []) := Po.rem_of_dv q G vq vG hGl (by rw [← hG.out]; exact Po.monic_dv _ _ vg hg0 d2)
      obtain ⟨es, hes⟩ : ∃ y, Hid (Po.eval (Po.addV (Po.mulV (Po.quo p q) q) (Po.rem p q)) x = y) := ⟨_, rfl⟩
      obtain ⟨em, hem⟩ : ∃ y, Hid (Po.eval (Po.mulV (Po.quo p q) q) x = y) := ⟨_, rfl⟩
      obtain ⟨er, her⟩ : ∃ y, Hid (Po.eval (Po.rem p q) x = y) := ⟨_, rfl⟩
      have hx1 : bits .xor .u8 (em.toNat : Int) (er.toNat : Int) = (es.toNat : Int) := by
        rw [u8_xor8, ← hem.out, ← her.out, ← hes.out, Po.eval_addV]
      have HQ : Hid (q.length = n1) := hq
      have hrn : (Po.rem p q).length < n1 := by omega
      clear hne l1 l2 g0 g1 hg0 d1 d2 vg hp hq hp20 hq10 hrl
      go_wp2_with fail
      refine (pdivide_st HS3 0 1 rfl rfl vp vq hq0).mono ?_
      rintro e w4 ⟨A2, n2, c2, A3, n3, c3, rfl, HS4, -, hn3⟩
      rw [hn3] at hrn
      clear HS3 hn3
      go_wp2_with fail
      refine (pmul_st HS4 2 1 rfl rfl vqu vq b1).mono ?_
      rintro e w5 ⟨A4, n4, c4, rfl, HS5, -⟩
      clear HS4
      go_wp2_with fail
      refine (padd_st HS5 4 3 rfl rfl vm vre).mono ?_
      rintro e w6 ⟨A5, n5, c5, rfl, HS6, -⟩
      clear HS5
      go_wp2_with fail
      refine (pgcd_st HS6 0 1 rfl rfl vp vq G hG.out).mono ?_
      rintro e w7 ⟨A6, n6, c6, rfl, HS7, hn6⟩
      have hz6 : ((n6 : Int) == 0) = false := nat_ne0 (by omega)
      have hp6 : 0 < n6 := by omega
      have hb6 : n6 ≤ 300 := (HS7.sl (i := 6) rfl).2.2.1
      have HN6 := Lib.hid hn6
      clear HS6 hn6
      go_wp2_with fail
      refine (awakeP_any _).mono ?_
      rintro e w8 ⟨rfl, hb⟩
      have HS8 := HS7.go hb
      clear HS7 hb
      go_wp2_with fail
      refine (same_st HS8 5 0 rfl rfl hid.out).mono ?_
      rintro e w9 ⟨rfl, HS9⟩
      clear HS8
      go_wp2_with fail
      refine (pdivide_st HS9 0 6 rfl rfl vp vG hGl).mono ?_
      rintro e w10 ⟨A7, n7, c7, A8, n8, c8, rfl, HS10, -, hn8⟩
      rw [hr1.out] at hn8
      obtain rfl : 0 = n8 := hn8
      clear HS9
      go_wp2_with fail
      refine (pdivide_st HS10 1 6 rfl rfl vq vG hGl).mono ?_
      rintro e w11 ⟨A9, n9, c9, A10, n10, c10, rfl, HS11, -, hn10⟩
      rw [hr2.out] at hn10
      obtain rfl : 0 = n10 := hn10
      clear HS10
      obtain ⟨ad, rfl, _, hc⟩ := (HS11.sl (i := 6) rfl).2.2.2.byte (k := n6 - 1) (b := 1) (by
        have h := hGt.out
        rw [HN6.out] at h
        unfold Po.co at h
        rw [List.getElem?_eq_getElem (by rw [HN6.out]; omega)] at h ⊢
        exact congrArg some h)
      have hc1 : w11.cell? (ad.add (n6 - 1)) = some (.int .u8 1) := hc
      clear hc
      go_wp2_with fail
      refine (eval_st HS11 5 rfl x _ rfl es hes.out).mono ?_
      rintro e w12 ⟨rfl, HS12⟩
      clear HS11
      go_wp2_with fail
      refine (eval_st HS12 4 rfl x _ rfl em hem.out).mono ?_
      rintro e w13 ⟨rfl, HS13⟩
      clear HS12
      go_wp2_with fail
      refine (eval_st HS13 3 rfl x _ rfl er her.out).mono ?_
      rintro e w14 ⟨rfl, HS14⟩
      clear HS13
      go_wp2_with fail
      go_ret
      exact ⟨rfl, HS14.below⟩
end Go.Proofs.YtkolmppfhpcdpaaDoor
