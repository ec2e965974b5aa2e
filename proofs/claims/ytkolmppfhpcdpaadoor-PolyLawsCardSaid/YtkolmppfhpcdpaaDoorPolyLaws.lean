/- The walk of PolyLaws. -/
import Derived.Test.YtkolmppfhpcdpaaDoorPolyP
namespace Go.Proofs.YtkolmppfhpcdpaaDoor
open Go.RowKit
set_option linter.unusedVariables false
set_option maxRecDepth 100000
set_option maxHeartbeats 2000000 in
theorem polyLaws_any (A : Option Addr) (n c : Nat) (ts : List Int) (x : UInt8) (w : World) (hn : ts.length = n) (hl : n ≤ 9223372036854775807) (hs : Sl w w.heap.size A (ints ts)) :
    Calls Tryd.prog 4 #[.slice A n c, .int .u8 (x.toNat : Int)] w fun e w' => e = .returned (.bool true) ∧ Below w.heap.size w w' := by
  rcases Nat.lt_or_ge 400 n with h400 | h400
  · have HL := Lib.hid (light_no A n c w h400 hl)
    clear hs hn h400
    go_enter Tryd.func4, Tryd.ntmps4
    go_wp2_with fail
    refine HL.out.mono ?_
    rintro e w1 ⟨rfl, rfl⟩
    go_wp2_with fail
    refine (awakeP_any _).mono ?_
    rintro e w1 ⟨rfl, hb⟩
    go_wp2_with fail
    go_ret
    exact ⟨rfl, hb⟩
  · have HL := Lib.hid (light_yes A n c w h400)
    have HRo := Lib.hid (roll_st A n c ts w hn (by omega) hs)
    clear hs hn h400 hl
    go_enter Tryd.func4, Tryd.ntmps4
    go_wp2_with fail
    refine HL.out.mono ?_
    rintro e w1 ⟨rfl, rfl⟩
    go_wp2_with fail
    refine HRo.out.mono ?_
    rintro e w1 ⟨rfl, HD, HS⟩
    go_wp2_with fail
    refine (poly_st HS HD 12 12 rfl (by omega)).mono ?_
    rintro e w2 ⟨A0, n0, c0, p, rfl, hp, hp12, vp, HD2, HS2⟩
    clear HD HS
    go_wp2_with fail
    refine (poly_st HS2 HD2 12 12 rfl (by omega)).mono ?_
    rintro e w3 ⟨A1, n1, c1, q, rfl, hq, hq12, vq, HD3, HS3⟩
    clear HD2 HS2
    go_wp2_with fail
    refine (poly_st HS3 HD3 12 12 rfl (by omega)).mono ?_
    rintro e w4 ⟨A2, n2, c2, r, rfl, hr, hr12, vr, HD4, HS4⟩
    clear HD3 HS3
    rw [← hp] at hp12
    rw [← hq] at hq12
    rw [← hr] at hr12
    have l1 := Po.addV_len p q
    have l2 := Po.mulV_len p r
    have l3 := Po.mulV_len q r
    have l4 := Po.derR_len p
    have l5 := Po.derR_len r
    have l6 := Po.mulV_len (Po.derR p) r
    have l7 := Po.mulV_len p (Po.derR r)
    have vs := Po.addV_vld p q (by omega) (by omega)
    have vb := Po.mulV_vld p r vp vr (by omega)
    have vc := Po.mulV_vld q r vq vr (by omega)
    have vdp := Po.derR_vld p
    have vdr := Po.derR_vld r
    have vv := Po.mulV_vld (Po.derR p) r vdp vr (by omega)
    have vw := Po.mulV_vld p (Po.derR r) vp vdr (by omega)
    have hd1 := Lib.hid (Po.law_distrib p q r hp12 hq12 hr12 vr)
    have hd2 := Lib.hid (Po.law_leibniz p r hp12 hr12)
    have b1 : (Po.addV p q).length + r.length - 1 ≤ 255 := by omega
    have b2 : p.length + r.length - 1 ≤ 255 := by omega
    have b3 : q.length + r.length - 1 ≤ 255 := by omega
    have b4 : (Po.derR p).length + r.length - 1 ≤ 255 := by omega
    have b5 : p.length + (Po.derR r).length - 1 ≤ 255 := by omega
    obtain ⟨ep, hep⟩ : ∃ y, Hid (Po.eval p x = y) := ⟨_, rfl⟩
    obtain ⟨eq, heq⟩ : ∃ y, Hid (Po.eval q x = y) := ⟨_, rfl⟩
    obtain ⟨es, hes⟩ : ∃ y, Hid (Po.eval (Po.addV p q) x = y) := ⟨_, rfl⟩
    obtain ⟨e1, he1⟩ : ∃ y, Hid (Po.eval (Po.mulV p r) 0 = y) := ⟨_, rfl⟩
    obtain ⟨e2, he2⟩ : ∃ y, Hid (Po.eval (Po.mulV q r) 0 = y) := ⟨_, rfl⟩
    obtain ⟨e3, he3⟩ : ∃ y, Hid (Po.eval (Po.mulV (Po.addV p q) r) 0 = y) := ⟨_, rfl⟩
    have hx1 : bits .xor .u8 (ep.toNat : Int) (eq.toNat : Int) = (es.toNat : Int) := by
      rw [u8_xor8, ← hep.out, ← heq.out, ← hes.out, Po.eval_addV]
    have hx2 : bits .xor .u8 (e1.toNat : Int) (e2.toNat : Int) = (e3.toNat : Int) := by
      rw [u8_xor8, ← he1.out, ← he2.out, ← he3.out, hd1.out, Po.eval_addV]
    clear hp12 hq12 hr12 l1 l2 l3 l4 l5 l6 l7 HD4 hp hq hr
    go_wp2_with fail
    refine (padd_st HS4 0 1 rfl rfl vp vq).mono ?_
    rintro e w5 ⟨A3, n3, c3, rfl, HS5, -⟩
    clear HS4
    go_wp2_with fail
    refine (pmul_st HS5 3 2 rfl rfl vs vr b1).mono ?_
    rintro e w6 ⟨A4, n4, c4, rfl, HS6, -⟩
    clear HS5
    go_wp2_with fail
    refine (pmul_st HS6 0 2 rfl rfl vp vr b2).mono ?_
    rintro e w7 ⟨A5, n5, c5, rfl, HS7, -⟩
    clear HS6
    go_wp2_with fail
    refine (pmul_st HS7 1 2 rfl rfl vq vr b3).mono ?_
    rintro e w8 ⟨A6, n6, c6, rfl, HS8, -⟩
    clear HS7
    go_wp2_with fail
    refine (padd_st HS8 5 6 rfl rfl vb vc).mono ?_
    rintro e w9 ⟨A7, n7, c7, rfl, HS9, -⟩
    clear HS8
    go_wp2_with fail
    refine (derive_st HS9 0 rfl).mono ?_
    rintro e w10 ⟨A8, n8, c8, rfl, HS10, -⟩
    clear HS9
    go_wp2_with fail
    refine (pmul_st HS10 8 2 rfl rfl vdp vr b4).mono ?_
    rintro e w11 ⟨A9, n9, c9, rfl, HS11, -⟩
    clear HS10
    go_wp2_with fail
    refine (derive_st HS11 2 rfl).mono ?_
    rintro e w12 ⟨A10, n10, c10, rfl, HS12, -⟩
    clear HS11
    go_wp2_with fail
    refine (pmul_st HS12 0 10 rfl rfl vp vdr b5).mono ?_
    rintro e w13 ⟨A11, n11, c11, rfl, HS13, -⟩
    clear HS12
    go_wp2_with fail
    refine (padd_st HS13 9 11 rfl rfl vv vw).mono ?_
    rintro e w14 ⟨A12, n12, c12, rfl, HS14, -⟩
    clear HS13
    go_wp2_with fail
    refine (awakeP_any _).mono ?_
    rintro e w15 ⟨rfl, hb⟩
    have HS15 := HS14.go hb
    clear HS14 hb
    go_wp2_with fail
    refine (same_st HS15 4 7 rfl rfl hd1.out).mono ?_
    rintro e w16 ⟨rfl, HS16⟩
    clear HS15
    go_wp2_with fail
    refine (derive_st HS16 5 rfl).mono ?_
    rintro e w17 ⟨A13, n13, c13, rfl, HS17, -⟩
    clear HS16
    go_wp2_with fail
    refine (same_st HS17 13 12 rfl rfl hd2.out).mono ?_
    rintro e w18 ⟨rfl, HS18⟩
    clear HS17
    go_wp2_with fail
    refine (eval_st HS18 3 rfl x _ rfl es hes.out).mono ?_
    rintro e w19 ⟨rfl, HS19⟩
    clear HS18
    go_wp2_with fail
    refine (eval_st HS19 0 rfl x _ rfl ep hep.out).mono ?_
    rintro e w20 ⟨rfl, HS20⟩
    clear HS19
    go_wp2_with fail
    refine (eval_st HS20 1 rfl x _ rfl eq heq.out).mono ?_
    rintro e w21 ⟨rfl, HS21⟩
    clear HS20
    go_wp2_with fail
    refine (eval_st HS21 4 rfl 0 _ rfl e3 he3.out).mono ?_
    rintro e w22 ⟨rfl, HS22⟩
    clear HS21
    go_wp2_with fail
    refine (eval_st HS22 5 rfl 0 _ rfl e1 he1.out).mono ?_
    rintro e w23 ⟨rfl, HS23⟩
    clear HS22
    go_wp2_with fail
    refine (eval_st HS23 6 rfl 0 _ rfl e2 he2.out).mono ?_
    rintro e w24 ⟨rfl, HS24⟩
    clear HS23
    go_wp2_with fail
    go_ret
    exact ⟨rfl, HS24.below⟩
end Go.Proofs.YtkolmppfhpcdpaaDoor
