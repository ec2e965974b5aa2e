/- The walk of 'agree', and those of PolyRaw and PolyMade. -/
import Derived.Test.YtkolmppfhpcdpaaDoorPolyU
namespace Go.Proofs.YtkolmppfhpcdpaaDoor
open Go.RowKit
set_option linter.unusedVariables false
set_option maxRecDepth 100000
set_option maxHeartbeats 4000000 in
theorem agree_any (A : Option Addr) (n c : Nat) (A2 : Option Addr) (m c2 : Nat) (p q : List UInt8) (x : UInt8) (w : World) (hn : p.length = n) (hm : q.length = m) (hnc : n ≤ c) (hmc : m ≤ c2) (hl : n ≤ 300) (hl2 : m ≤ 300)
    (hp : Sl w w.heap.size A (bys p)) (hq : Sl w w.heap.size A2 (bys q)) :
    Calls Tryd.prog 25 #[.slice A n c, .slice A2 m c2, .int .u8 (x.toNat : Int)] w fun e w' => e = .returned (.bool true) ∧ Below w.heap.size w w' := by
  have HS0 := ((St.refl w).add hp (Nat.le_refl _) hn hnc hl (fun _ e => by cases e)).add hq (Nat.le_refl _) hm hmc hl2 (fun _ e => by cases e)
  obtain ⟨aR, haR⟩ : ∃ l, Hid (Po.addR p q = l) := ⟨_, rfl⟩
  obtain ⟨mR, hmR⟩ : ∃ l, Hid (Po.mulR p q = l) := ⟨_, rfl⟩
  obtain ⟨dQ, hdQ⟩ : ∃ l, Hid (Po.divQ p q = l) := ⟨_, rfl⟩
  obtain ⟨dR, hdR⟩ : ∃ l, Hid (Po.divR p q = l) := ⟨_, rfl⟩
  obtain ⟨gR, hgR⟩ : ∃ l, Hid (Po.gcdR p q = l) := ⟨_, rfl⟩
  obtain ⟨tR, htR⟩ : ∃ l, Hid (Po.trim p = l) := ⟨_, rfl⟩
  obtain ⟨eR, heR⟩ : ∃ l, Hid (Po.derR p = l) := ⟨_, rfl⟩
  obtain ⟨rR, hrR⟩ : ∃ l, Hid (Po.rootsR p = l) := ⟨_, rfl⟩
  obtain ⟨vR, hvR⟩ : ∃ l, Hid (Po.vld p = l) := ⟨_, rfl⟩
  obtain ⟨yR, hyR⟩ : ∃ l, Hid (Po.eval p x = l) := ⟨_, rfl⟩
  obtain ⟨e1, he1⟩ : ∃ l, Hid (Po.errR p q = l) := ⟨_, rfl⟩
  obtain ⟨e2, he2⟩ : ∃ l, Hid (Po.mulE p q = l) := ⟨_, rfl⟩
  obtain ⟨e3, he3⟩ : ∃ l, Hid (Po.divE p q = l) := ⟨_, rfl⟩
  clear hp hq hn hm hnc hmc hl hl2
  go_enter Tryd.func25, Tryd.ntmps25
  go_wp2_with fail
  refine (padd_gt HS0 0 1 rfl rfl aR e1 haR.out he1.out).mono ?_
  rintro e w1 ⟨A3, n3, c3, rfl, HS1, -⟩
  clear HS0
  go_wp2_with fail
  refine (radd_gt HS1 0 1 rfl rfl aR e1 haR.out he1.out).mono ?_
  rintro e w2 ⟨A4, n4, c4, rfl, HS2, -⟩
  clear HS1
  go_wp2_with fail
  refine (pmul_gt HS2 0 1 rfl rfl mR e2 hmR.out he2.out).mono ?_
  rintro e w3 ⟨A5, n5, c5, rfl, HS3, -⟩
  clear HS2
  go_wp2_with fail
  refine (rmul_gt HS3 0 1 rfl rfl mR e2 hmR.out he2.out).mono ?_
  rintro e w4 ⟨A6, n6, c6, rfl, HS4, -⟩
  clear HS3
  go_wp2_with fail
  refine (same_st HS4 2 3 rfl rfl rfl).mono ?_
  rintro e w5 ⟨rfl, HS5⟩
  clear HS4
  go_wp2_with fail
  refine (same_st HS5 4 5 rfl rfl rfl).mono ?_
  rintro e w6 ⟨rfl, HS6⟩
  clear HS5
  go_wp2_with fail
  refine (pdivide_gt HS6 0 1 rfl rfl dQ dR e3 hdQ.out hdR.out he3.out).mono ?_
  rintro e w7 ⟨A7, n7, c7, A8, n8, c8, rfl, HS7, -, -⟩
  clear HS6
  go_wp2_with fail
  refine (rdivide_gt HS7 0 1 rfl rfl dQ dR e3 hdQ.out hdR.out he3.out).mono ?_
  rintro e w8 ⟨A9, n9, c9, A10, n10, c10, rfl, HS8, -, -⟩
  clear HS7
  go_wp2_with fail
  refine (pgcd_gt HS8 0 1 rfl rfl gR e1 hgR.out he1.out).mono ?_
  rintro e w9 ⟨A11, n11, c11, rfl, HS9, -⟩
  clear HS8
  go_wp2_with fail
  refine (rgcd_gt HS9 0 1 rfl rfl gR e1 hgR.out he1.out).mono ?_
  rintro e w10 ⟨A12, n12, c12, rfl, HS10, -⟩
  clear HS9
  go_wp2_with fail
  refine (same_st HS10 6 8 rfl rfl rfl).mono ?_
  rintro e w11 ⟨rfl, HS11⟩
  clear HS10
  go_wp2_with fail
  refine (same_st HS11 7 9 rfl rfl rfl).mono ?_
  rintro e w12 ⟨rfl, HS12⟩
  clear HS11
  go_wp2_with fail
  refine (same_st HS12 10 11 rfl rfl rfl).mono ?_
  rintro e w13 ⟨rfl, HS13⟩
  clear HS12
  go_wp2_with fail
  refine (pvalid_gt HS13 0 rfl vR hvR.out).mono ?_
  rintro e w14 ⟨rfl, rfl⟩
  go_wp2_with fail
  refine (rvalid_gt HS13 0 rfl vR hvR.out).mono ?_
  rintro e w14 ⟨rfl, rfl⟩
  go_wp2_with fail
  refine (ptrim_gt HS13 0 rfl tR htR.out).mono ?_
  rintro e w15 ⟨A13, n13, c13, rfl, HS15, -⟩
  clear HS13
  go_wp2_with fail
  refine (rtrim_gt HS15 0 rfl tR htR.out).mono ?_
  rintro e w16 ⟨A14, n14, c14, rfl, HS16, -⟩
  clear HS15
  go_wp2_with fail
  refine (same_st HS16 12 13 rfl rfl rfl).mono ?_
  rintro e w17 ⟨rfl, HS17⟩
  clear HS16
  go_wp2_with fail
  refine (eval_st HS17 0 rfl x _ rfl yR hyR.out).mono ?_
  rintro e w18 ⟨rfl, HS18⟩
  clear HS17
  go_wp2_with fail
  refine (reval_gt HS18 0 rfl x yR hyR.out).mono ?_
  rintro e w19 ⟨rfl, HS19⟩
  clear HS18
  go_wp2_with fail
  refine (pderive_gt HS19 0 rfl eR heR.out).mono ?_
  rintro e w20 ⟨A15, n15, c15, rfl, HS20, -⟩
  clear HS19
  go_wp2_with fail
  refine (rderive_gt HS20 0 rfl eR heR.out).mono ?_
  rintro e w21 ⟨A16, n16, c16, rfl, HS21, -⟩
  clear HS20
  go_wp2_with fail
  refine (same_st HS21 14 15 rfl rfl rfl).mono ?_
  rintro e w22 ⟨rfl, HS22⟩
  clear HS21
  go_wp2_with fail
  refine (proots_gt HS22 0 rfl rR hrR.out).mono ?_
  rintro e w23 ⟨A17, n17, c17, rfl, HS23, -⟩
  clear HS22
  go_wp2_with fail
  refine (rroots_gt HS23 0 rfl rR hrR.out).mono ?_
  rintro e w24 ⟨A18, n18, c18, rfl, HS24, -⟩
  clear HS23
  go_wp2_with fail
  refine (same_st HS24 16 17 rfl rfl rfl).mono ?_
  rintro e w25 ⟨rfl, HS25⟩
  clear HS24
  go_wp2_with fail
  go_ret
  exact ⟨rfl, HS25.below⟩
theorem polyRaw_any (A : Option Addr) (n c : Nat) (p : List UInt8) (A2 : Option Addr) (m c2 : Nat) (q : List UInt8) (x : UInt8) (w : World) (hn : p.length = n) (hnc : n ≤ c) (hl : n ≤ 9223372036854775807) (hp : Sl w w.heap.size A (bys p))
    (hm : q.length = m) (hmc : m ≤ c2) (hl2 : m ≤ 9223372036854775807) (hq : Sl w w.heap.size A2 (bys q)) :
    Calls Tryd.prog 7 #[.slice A n c, .slice A2 m c2, .int .u8 (x.toNat : Int)] w fun e w' => e = .returned (.bool true) ∧ Below w.heap.size w w' := by
  rcases Nat.lt_or_ge 300 n with h1 | h1
  · clear hp hq hn hm
    go_enter Tryd.func7, Tryd.ntmps7
    go_wp2_with fail
    refine (awakeP_any _).mono ?_
    rintro e w1 ⟨rfl, hb⟩
    go_wp2_with fail
    go_ret
    exact ⟨rfl, hb⟩
  · rcases Nat.lt_or_ge 300 m with h2 | h2
    · clear hp hq hn hm
      go_enter Tryd.func7, Tryd.ntmps7
      go_wp2_with fail
      refine (awakeP_any _).mono ?_
      rintro e w1 ⟨rfl, hb⟩
      go_wp2_with fail
      go_ret
      exact ⟨rfl, hb⟩
    · have HA : Hid (∀ w1, Below w.heap.size w w1 → Calls Tryd.prog 25 #[.slice A n c, .slice A2 m c2, .int .u8 (x.toNat : Int)] w1 fun e w' => e = .returned (.bool true) ∧ Below w1.heap.size w1 w') := fun w1 hb =>
        agree_any A n c A2 m c2 p q x w1 hn hm hnc hmc h1 h2 ((hp.below hb).more hb.size) ((hq.below hb).more hb.size)
      clear hp hq hn hm
      go_enter Tryd.func7, Tryd.ntmps7
      go_wp2_with fail
      refine (awakeP_any _).mono ?_
      rintro e w1 ⟨rfl, hb⟩
      have HB := Lib.hid hb
      have HA1 := Lib.hid (HA.out w1 hb)
      clear hb HA
      go_wp2_with fail
      refine HA1.out.mono ?_
      rintro e w2 ⟨rfl, hb⟩
      go_wp2_with fail
      go_ret
      exact ⟨rfl, below_trans HB.out hb (Nat.le_refl _)⟩
end Go.Proofs.YtkolmppfhpcdpaaDoor
