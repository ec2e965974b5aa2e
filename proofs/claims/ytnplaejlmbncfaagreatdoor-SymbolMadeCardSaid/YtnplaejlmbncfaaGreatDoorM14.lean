/- Yk -/
import Derived.Test.YtnplaejlmbncfaaGreatDoorM05
import Derived.Test.YtnplaejlmbncfaaGreatDoorM13
namespace Go.Proofs.YtnplaejlmbncfaaGreatDoor
open Go.RowKit
set_option linter.unusedVariables false
set_option maxRecDepth 100000
/-- what 'solve' leaves -/
def SolR (w0 : World) (M : List (Nat × Value)) (L : List Ob) (r : Option (List UInt8)) (en : Ending) (w' : World) : Prop :=
  ∃ (A : Option Addr) (k c : Nat) (b : Bool), en = .returned (.tuple #[.slice A k c, .bool b]) ∧ ((b = true ∧ ∃ l, r = some l ∧ l.length = k ∧ Ow w0 w' none M L [⟨A, k, c, 5, bys l⟩]) ∨ (b = false ∧ r = none ∧ Ow w0 w' none M L []))
def RSo1 (w0 : World) (M : List (Nat × Value)) (L : List Ob) (g m cap nw : Nat) (R : List (List UInt8)) (x y : Value) (wr : World) : Prop :=
  ∃ (cc : Nat) (R1 : List (List UInt8)) (H1 : List (Option Addr × Nat)), cc ≤ nw ∧ x = .int .i64 (cc : Int) ∧ y = .int .i64 (cc : Int) ∧ Hid (Sy.elim R cc = some R1) ∧ Hid (My w0 wr M L g m cap H1 R1 [])
def RSo2 (w0 : World) (M : List (Nat × Value)) (L : List Ob) (g m cap cc : Nat) (H1 : List (Option Addr × Nat)) (R1 : List (List UInt8)) (x : Value) (wr : World) : Prop :=
  ∃ p : Nat, cc ≤ p ∧ p ≤ m ∧ x = .int .i64 (p : Int) ∧ Hid (∀ j, cc ≤ j → j < p → Sy.wd (Sy.rw_ R1 j) cc = 0) ∧ Hid (My w0 wr M L g m cap H1 R1 [])
def RSo3 (w0 : World) (M : List (Nat × Value)) (L : List Ob) (g m cap nw cc : Nat) (H3 : List (Option Addr × Nat)) (R3 : List (List UInt8)) (Rc : List UInt8) (f : UInt8) (x : Value) (wr : World) : Prop :=
  ∃ q : Nat, q ≤ nw + 1 ∧ x = .int .i64 (q : Int) ∧ Hid (My w0 wr M L g m cap H3 (R3.set cc (Sy.upd (fun j => Gf.gmul (Sy.wd Rc j) f) Rc q)) [])
def RSo4 (w0 : World) (M : List (Nat × Value)) (L : List Ob) (g m cap cc : Nat) (H3 : List (Option Addr × Nat)) (R5 : List (List UInt8)) (x : Value) (wr : World) : Prop :=
  ∃ kk : Nat, kk ≤ m ∧ x = .int .i64 (kk : Int) ∧ Hid (My w0 wr M L g m cap H3 (Sy.clrTo R5 cc kk) [])
def RSo5 (w0 : World) (M : List (Nat × Value)) (L : List Ob) (g m cap nw kk : Nat) (H3 : List (Option Addr × Nat)) (Rl : List (List UInt8)) (Rk Rc : List UInt8) (t : UInt8) (x : Value) (wr : World) : Prop :=
  ∃ q : Nat, q ≤ nw + 1 ∧ x = .int .i64 (q : Int) ∧ Hid (My w0 wr M L g m cap H3 (Rl.set kk (Sy.upd (fun j => Sy.wd Rk j ^^^ Gf.gmul t (Sy.wd Rc j)) Rk q)) [])
def RSo6 (w0 : World) (M : List (Nat × Value)) (L : List Ob) (g m cap nw : Nat) (H : List (Option Addr × Nat)) (R : List (List UInt8)) (x y : Value) (wr : World) : Prop :=
  ∃ (k : Nat) (A' : Option Addr) (c' : Nat), k ≤ nw ∧ y = .int .i64 (k : Int) ∧ x = .slice A' k c' ∧ Hid (My w0 wr M L g m cap H R [⟨A', k, c', 5, bys ((R.take k).map fun r => Sy.wd r nw)⟩])
def RSo7 (w0 : World) (M : List (Nat × Value)) (L : List Ob) (g m cap nw : Nat) (H : List (Option Addr × Nat)) (R : List (List UInt8)) (X : List Rw) (x : Value) (wr : World) : Prop :=
  ∃ j : Nat, nw ≤ j ∧ j ≤ m ∧ x = .int .i64 (j : Int) ∧ Hid (∀ i, nw ≤ i → i < j → Sy.wd (Sy.rw_ R i) nw = 0) ∧ Hid (My w0 wr M L g m cap H R X)
def swQ (g m cap cc p : Nat) (hvp hvc : Value) (W1 W2 : World) (j : Nat) (x : Value) (v : World) : Prop :=
  match j with
  | 0 => x = .slice (some ⟨g, 0, none⟩) m cap
  | 1 => x = .int .i64 (cc : Int)
  | 2 => x = .slice (some ⟨g, 0, none⟩) m cap
  | 3 => x = .int .i64 (p : Int)
  | 4 => x = .slice (some ⟨g, 0, none⟩) m cap
  | 5 => x = .int .i64 (p : Int)
  | 6 => x = .pointer (some ⟨g, p, none⟩)
  | 7 => x = hvp
  | 8 => x = .slice (some ⟨g, 0, none⟩) m cap
  | 9 => x = .int .i64 (cc : Int)
  | 10 => x = .pointer (some ⟨g, cc, none⟩)
  | 11 => x = hvc
  | 12 => x = .pointer (some ⟨g, cc, none⟩)
  | 13 => v = W1
  | 14 => x = .pointer (some ⟨g, p, none⟩)
  | 15 => v = W2
  | _ => True
set_option maxHeartbeats 16000000 in
theorem rsolve_any {w0 w : World} {M : List (Nat × Value)} {L : List Ob} {g m cap nw : Nat} {H : List (Option Addr × Nat)} {R : List (List UInt8)} (h : My w0 w M L g m cap H R []) (hWd : ∀ k, k < m → (Sy.rw_ R k).length = nw + 1) (h8 : m ≤ 60) (hnw : nw ≤ 60) :
    Calls Tryz.prog 150 #[.slice (some ⟨g, 0, none⟩) m cap, .int .i64 (nw : Int)] w (SolR w0 M L (Sy.solve R nw)) := by
  have HW0 : Hid (Sy.Wid R (nw + 1)) := fun k hk => hWd k (by rw [h.rl] at hk; exact hk)
  have HX0 := Lib.hid h
  clear h hWd
  go_enter Tryz.func150, Tryz.ntmps150
  go_wp2_with fail
  go_loopw [6, 7] (fun x y wr => RSo1 w0 M L g m cap nw R x y wr) (fun _ y _ => nw - (intOf y).toNat)
  case atStart => exact ⟨0, R, H, Nat.zero_le _, rfl, rfl, rfl, HX0.out⟩
  case round =>
    clear HX0
    obtain ⟨cc, R1, H1, hcc0, rfl, rfl, HE, HX⟩ := hrel
    have HEl := Lib.hid (Sy.elim_ok HW0.out cc hcc0 R1 HE.out)
    have HWd : Hid (∀ k, k < m → (Sy.rw_ R1 k).length = nw + 1) := fun k hk => HEl.out.wid k (by rw [HX.out.rl]; exact hk)
    have hccm : cc ≤ m := by have h1 := HEl.out.le; rw [HX.out.rl] at h1; omega
    rcases Nat.lt_or_ge cc nw with hcn | hcn
    · have hd2 : decide ((cc : Int) < (nw : Int)) = true := decide_eq_true (by omega)
      go_wp2_with fail
      go_loopw [8] (fun x wr => RSo2 w0 M L g m cap cc H1 R1 x wr) (fun x _ => m - (intOf x).toNat)
      case atStart => exact ⟨cc, Nat.le_refl _, hccm, rfl, fun j h1 h2 => by omega, HX.out⟩
      case round =>
        clear HX
        obtain ⟨p, hp1, hp2, rfl, HZ, HX⟩ := hrel
        rcases Nat.lt_or_ge p m with hpm | hpm
        · have t1 : decide ((p : Int) < (m : Int)) = true := decide_eq_true (by omega)
          have hcm : cc < m := by omega
          obtain ⟨gp, cp, hgp⟩ := HX.out.form hpm (by rw [HWd.out p hpm]; omega)
          have hhp := HX.out.hd hpm
          rw [hgp, HWd.out p hpm] at hhp
          obtain ⟨b, hb⟩ : ∃ b, b = Sy.wd (Sy.rw_ R1 p) cc := ⟨_, rfl⟩
          have hbp := HX.out.byte hpm hgp (q := cc) (Sy.wd_lt (by rw [HWd.out p hpm]; omega))
          rw [← hb] at hbp
          have HB := Lib.hid hb
          have HGp := Lib.hid hgp
          have s1 : (cc : Int) < ((nw + 1 : Nat) : Int) := by omega
          clear hb hgp
          rcases zero_or b with rfl | ⟨hbn, hbz⟩
          · go_wp2_with fail
            go_roundw
            case rel =>
              exact ⟨p + 1, by omega, by omega, by go_num, fun j h1 h2 => by
                rcases Nat.lt_or_ge j p with h3 | h3
                · exact HZ.out j h1 h3
                · rw [show j = p by omega]; exact HB.out.symm, HX.out⟩
            case measure => simp [intOf]; omega
          · have hpv : Sy.piv cc R1 = some p := by
              have h5 := Sy.piv_at (c := cc) (i := p - cc) (rows := R1) (by rw [HX.out.rl]; omega) (fun j hj => HZ.out (cc + j) (by omega) (by omega)) (by rw [show cc + (p - cc) = p by omega, ← HB.out]; exact hbn)
              rw [show cc + (p - cc) = p by omega] at h5
              exact h5
            have HE2 : Hid (Sy.elim R (cc + 1) = some (Sy.stepC R1 cc p)) := by
              unfold Hid
              show (match Sy.elim R cc with | none => none | some R => match Sy.piv cc R with | none => none | some p => some (Sy.stepC R cc p)) = _
              rw [HE.out]
              dsimp only
              rw [hpv]
            have hq : ((p : Int) == (m : Int)) = false := beq_eq_false_iff_ne.2 (by omega)
            clear hpv hbn
            go_upto_region 10 with fail
            clear hhp hbp hbz hq t1 hd2
            obtain ⟨gc, cgc, hgc⟩ := HX.out.form hcm (by rw [HWd.out cc hcm]; omega)
            have ehp : ((.slice (some ⟨gp, 0, none⟩) (nw + 1) cp) : Value) = hdr (hAt H1 p) (Sy.rw_ R1 p) := by unfold hdr; rw [HGp.out, HWd.out _ hpm]
            have ehc : ((.slice (some ⟨gc, 0, none⟩) (nw + 1) cgc) : Value) = hdr (hAt H1 cc) (Sy.rw_ R1 cc) := by unfold hdr; rw [hgc, HWd.out _ hcm]
            clear hgc
            have hdc : wr.cell? ⟨g, cc, none⟩ = some (.slice (some ⟨gc, 0, none⟩) (nw + 1) cgc) := by rw [ehc]; exact HX.out.hd (k := cc) hcm
            have hdp : wr.cell? ⟨g, p, none⟩ = some (.slice (some ⟨gp, 0, none⟩) (nw + 1) cp) := by rw [ehp]; exact HX.out.hd (k := p) hpm
            have hfc := HX.out.hf cc
            have hfp := HX.out.hf p
            have hln : (hdrs H1 R1).length = m := by unfold hdrs; rw [List.length_zipWith, HX.out.hl, HX.out.rl]; omega
            obtain ⟨v1, hv1⟩ : ∃ v1, (wr.setCell ⟨g, cc, none⟩ (.slice (some ⟨gp, 0, none⟩) (nw + 1) cp)).cell? ⟨g, p, none⟩ = some v1 := by
              have o1 := HX.out.ow.put 0 rfl cc (.slice (some ⟨gp, 0, none⟩) (nw + 1) cp)
              exact ⟨_, ((o1.row 0 rfl).cellAt p (by omega)).trans (List.getElem?_eq_getElem (by rw [List.length_set]; omega))⟩
            have HEH := Lib.hid (And.intro ehp ehc)
            clear ehp ehc hln
            refine reg_mono [some 44, some 45, some 46, some 47, some 48, some 49, some 50, some 51, some 52, some 53, some 54, some 55, some 56, none, some 57, none] (fun v => v = wr.drew) 13 (fun i => if i = 13 then 15 else 16) (swQ g m cap cc p (.slice (some ⟨gp, 0, none⟩) (nw + 1) cp) (.slice (some ⟨gc, 0, none⟩) (nw + 1) cgc) ((wr.setCell ⟨g, cc, none⟩ (.slice (some ⟨gp, 0, none⟩) (nw + 1) cp)).drew) (((wr.setCell ⟨g, cc, none⟩ (.slice (some ⟨gp, 0, none⟩) (nw + 1) cp)).setCell ⟨g, p, none⟩ (.slice (some ⟨gc, 0, none⟩) (nw + 1) cgc)).drew)) (by kernel_rfl) (by kernel_rfl) (by kernel_rfl) ?_ ?_ ?_
            · exact rfl
            · rintro j us v hj hl hS hp
              replace hl : us.length = 16 := hl
              obtain ⟨u0, us0, rfl, hl0⟩ := us_cons (n := 15) hl
              obtain ⟨u1, us1, rfl, hl1⟩ := us_cons (n := 14) hl0
              obtain ⟨u2, us2, rfl, hl2⟩ := us_cons (n := 13) hl1
              obtain ⟨u3, us3, rfl, hl3⟩ := us_cons (n := 12) hl2
              obtain ⟨u4, us4, rfl, hl4⟩ := us_cons (n := 11) hl3
              obtain ⟨u5, us5, rfl, hl5⟩ := us_cons (n := 10) hl4
              obtain ⟨u6, us6, rfl, hl6⟩ := us_cons (n := 9) hl5
              obtain ⟨u7, us7, rfl, hl7⟩ := us_cons (n := 8) hl6
              obtain ⟨u8, us8, rfl, hl8⟩ := us_cons (n := 7) hl7
              obtain ⟨u9, us9, rfl, hl9⟩ := us_cons (n := 6) hl8
              obtain ⟨u10, us10, rfl, hl10⟩ := us_cons (n := 5) hl9
              obtain ⟨u11, us11, rfl, hl11⟩ := us_cons (n := 4) hl10
              obtain ⟨u12, us12, rfl, hl12⟩ := us_cons (n := 3) hl11
              obtain ⟨u13, us13, rfl, hl13⟩ := us_cons (n := 2) hl12
              obtain ⟨u14, us14, rfl, hl14⟩ := us_cons (n := 1) hl13
              obtain ⟨u15, us15, rfl, hl15⟩ := us_cons (n := 0) hl14
              obtain rfl := us_nil hl15
              clear hl hl0 hl1 hl2 hl3 hl4 hl5 hl6 hl7 hl8 hl9 hl10 hl11 hl12 hl13 hl14
              have hj' : j < 16 := hj
              have hcase : j = 0 ∨ j = 1 ∨ j = 2 ∨ j = 3 ∨ j = 4 ∨ j = 5 ∨ j = 6 ∨ j = 7 ∨ j = 8 ∨ j = 9 ∨ j = 10 ∨ j = 11 ∨ j = 12 ∨ j = 13 ∨ j = 14 ∨ j = 15 := by omega
              clear hj hj'
              rcases hcase with rfl | rfl | rfl | rfl | rfl | rfl | rfl | rfl | rfl | rfl | rfl | rfl | rfl | rfl | rfl | rfl
              · clear hS hp
                refine wpOp_step rfl (fun K hK => ?_)
                simp only [putL, Act.put, List.setIfInBounds_toArray, List.set_cons_zero, List.set_cons_succ]
                go_simp
                refine hK _ _ ⟨.slice (some ⟨g, 0, none⟩) m cap, ?_, fun _ _ h => h, rfl, fun _ _ _ _ _ _ h => h⟩
                simp only [putL, Act.put, List.getD_cons_zero, List.setIfInBounds_toArray, List.set_cons_zero, List.set_cons_succ]
              · clear hS hp
                refine wpOp_step rfl (fun K hK => ?_)
                simp only [putL, Act.put, List.setIfInBounds_toArray, List.set_cons_zero, List.set_cons_succ]
                go_simp
                refine hK _ _ ⟨.int .i64 (cc : Int), ?_, fun _ _ h => h, rfl, fun _ _ _ _ _ _ h => h⟩
                simp only [putL, Act.put, List.getD_cons_zero, List.getD_cons_succ, List.setIfInBounds_toArray, List.set_cons_zero, List.set_cons_succ]
              · clear hS hp
                refine wpOp_step rfl (fun K hK => ?_)
                simp only [putL, Act.put, List.setIfInBounds_toArray, List.set_cons_zero, List.set_cons_succ]
                go_simp
                refine hK _ _ ⟨.slice (some ⟨g, 0, none⟩) m cap, ?_, fun _ _ h => h, rfl, fun _ _ _ _ _ _ h => h⟩
                simp only [putL, Act.put, List.getD_cons_zero, List.getD_cons_succ, List.setIfInBounds_toArray, List.set_cons_zero, List.set_cons_succ]
              · clear hS hp
                refine wpOp_step rfl (fun K hK => ?_)
                simp only [putL, Act.put, List.setIfInBounds_toArray, List.set_cons_zero, List.set_cons_succ]
                go_simp
                refine hK _ _ ⟨.int .i64 (p : Int), ?_, fun _ _ h => h, rfl, fun _ _ _ _ _ _ h => h⟩
                simp only [putL, Act.put, List.getD_cons_zero, List.getD_cons_succ, List.setIfInBounds_toArray, List.set_cons_zero, List.set_cons_succ]
              · clear hS hp
                refine wpOp_step rfl (fun K hK => ?_)
                simp only [putL, Act.put, List.setIfInBounds_toArray, List.set_cons_zero, List.set_cons_succ]
                go_simp
                refine hK _ _ ⟨.slice (some ⟨g, 0, none⟩) m cap, ?_, fun _ _ h => h, rfl, fun _ _ _ _ _ _ h => h⟩
                simp only [putL, Act.put, List.getD_cons_zero, List.getD_cons_succ, List.setIfInBounds_toArray, List.set_cons_zero, List.set_cons_succ]
              · clear hS hp
                refine wpOp_step rfl (fun K hK => ?_)
                simp only [putL, Act.put, List.setIfInBounds_toArray, List.set_cons_zero, List.set_cons_succ]
                go_simp
                refine hK _ _ ⟨.int .i64 (p : Int), ?_, fun _ _ h => h, rfl, fun _ _ _ _ _ _ h => h⟩
                simp only [putL, Act.put, List.getD_cons_zero, List.getD_cons_succ, List.setIfInBounds_toArray, List.set_cons_zero, List.set_cons_succ]
              · obtain rfl : u4 = .slice (some ⟨g, 0, none⟩) m cap := hp 4 (by kernel_rfl) (.inr (by decide))
                obtain rfl : u5 = .int .i64 (p : Int) := hp 5 (by kernel_rfl) (.inr (by decide))
                clear hS hp
                refine wpOp_step rfl (fun K hK => ?_)
                simp only [putL, Act.put, List.setIfInBounds_toArray, List.set_cons_zero, List.set_cons_succ]
                go_simp
                refine hK _ _ ⟨.pointer (some ⟨g, p, none⟩), ?_, fun _ _ h => h, rfl, fun _ _ _ _ _ _ h => h⟩
                simp only [putL, Act.put, List.getD_cons_zero, List.getD_cons_succ, List.setIfInBounds_toArray, List.set_cons_zero, List.set_cons_succ]
              · obtain rfl : u6 = .pointer (some ⟨g, p, none⟩) := hp 6 (by kernel_rfl) (.inr (by decide))
                obtain rfl : v = wr.drew := hS (.inl (by kernel_rfl))
                clear hS hp
                refine wpOp_step rfl (fun K hK => ?_)
                simp only [putL, Act.put, List.setIfInBounds_toArray, List.set_cons_zero, List.set_cons_succ]
                go_simp
                refine hK _ _ ⟨.slice (some ⟨gp, 0, none⟩) (nw + 1) cp, ?_, fun _ _ h => h, rfl, fun _ _ _ _ _ _ h => h⟩
                simp only [putL, Act.put, List.getD_cons_zero, List.getD_cons_succ, List.setIfInBounds_toArray, List.set_cons_zero, List.set_cons_succ]
              · clear hS hp
                refine wpOp_step rfl (fun K hK => ?_)
                simp only [putL, Act.put, List.setIfInBounds_toArray, List.set_cons_zero, List.set_cons_succ]
                go_simp
                refine hK _ _ ⟨.slice (some ⟨g, 0, none⟩) m cap, ?_, fun _ _ h => h, rfl, fun _ _ _ _ _ _ h => h⟩
                simp only [putL, Act.put, List.getD_cons_zero, List.getD_cons_succ, List.setIfInBounds_toArray, List.set_cons_zero, List.set_cons_succ]
              · clear hS hp
                refine wpOp_step rfl (fun K hK => ?_)
                simp only [putL, Act.put, List.setIfInBounds_toArray, List.set_cons_zero, List.set_cons_succ]
                go_simp
                refine hK _ _ ⟨.int .i64 (cc : Int), ?_, fun _ _ h => h, rfl, fun _ _ _ _ _ _ h => h⟩
                simp only [putL, Act.put, List.getD_cons_zero, List.getD_cons_succ, List.setIfInBounds_toArray, List.set_cons_zero, List.set_cons_succ]
              · obtain rfl : u8 = .slice (some ⟨g, 0, none⟩) m cap := hp 8 (by kernel_rfl) (.inr (by decide))
                obtain rfl : u9 = .int .i64 (cc : Int) := hp 9 (by kernel_rfl) (.inr (by decide))
                clear hS hp
                refine wpOp_step rfl (fun K hK => ?_)
                simp only [putL, Act.put, List.setIfInBounds_toArray, List.set_cons_zero, List.set_cons_succ]
                go_simp
                refine hK _ _ ⟨.pointer (some ⟨g, cc, none⟩), ?_, fun _ _ h => h, rfl, fun _ _ _ _ _ _ h => h⟩
                simp only [putL, Act.put, List.getD_cons_zero, List.getD_cons_succ, List.setIfInBounds_toArray, List.set_cons_zero, List.set_cons_succ]
              · obtain rfl : u10 = .pointer (some ⟨g, cc, none⟩) := hp 10 (by kernel_rfl) (.inr (by decide))
                obtain rfl : v = wr.drew := hS (.inl (by kernel_rfl))
                clear hS hp
                refine wpOp_step rfl (fun K hK => ?_)
                simp only [putL, Act.put, List.setIfInBounds_toArray, List.set_cons_zero, List.set_cons_succ]
                go_simp
                refine hK _ _ ⟨.slice (some ⟨gc, 0, none⟩) (nw + 1) cgc, ?_, fun _ _ h => h, rfl, fun _ _ _ _ _ _ h => h⟩
                simp only [putL, Act.put, List.getD_cons_zero, List.getD_cons_succ, List.setIfInBounds_toArray, List.set_cons_zero, List.set_cons_succ]
              · obtain rfl : u0 = .slice (some ⟨g, 0, none⟩) m cap := hp 0 (by kernel_rfl) (.inr (by decide))
                obtain rfl : u1 = .int .i64 (cc : Int) := hp 1 (by kernel_rfl) (.inr (by decide))
                clear hS hp
                refine wpOp_step rfl (fun K hK => ?_)
                simp only [putL, Act.put, List.setIfInBounds_toArray, List.set_cons_zero, List.set_cons_succ]
                go_simp
                refine hK _ _ ⟨.pointer (some ⟨g, cc, none⟩), ?_, fun _ _ h => h, rfl, fun _ _ _ _ _ _ h => h⟩
                simp only [putL, Act.put, List.getD_cons_zero, List.getD_cons_succ, List.setIfInBounds_toArray, List.set_cons_zero, List.set_cons_succ]
              · obtain rfl : u12 = .pointer (some ⟨g, cc, none⟩) := hp 12 (by kernel_rfl) (.inr (by decide))
                obtain rfl : u7 = .slice (some ⟨gp, 0, none⟩) (nw + 1) cp := hp 7 (by kernel_rfl) (.inr (by decide))
                obtain rfl : v = wr.drew := hS (.inr (.inl rfl))
                clear hS hp
                refine wpOp_step rfl (fun K hK => ?_)
                simp only [putL, Act.put, List.setIfInBounds_toArray, List.set_cons_zero, List.set_cons_succ]
                go_simp
                refine hK _ _ ⟨undef, ?_, fun h => absurd rfl h, rfl, fun j' y hj hk ha hb h => ?_⟩
                · simp only [putL, Act.put, List.getD_cons_zero, List.getD_cons_succ, List.setIfInBounds_toArray, List.set_cons_zero, List.set_cons_succ]
                rcases j' with _ | _ | _ | _ | _ | _ | _ | _ | _ | _ | _ | _ | _ | _ | _ | _ | j'
                · exact h
                · exact h
                · exact h
                · exact h
                · exact h
                · exact h
                · exact h
                · exact h
                · exact h
                · exact h
                · exact h
                · exact h
                · exact h
                · exact absurd rfl hj
                · exact h
                · exact absurd (ha.symm.trans (show _ = true by kernel_rfl)) (by decide)
                · trivial
              · obtain rfl : u2 = .slice (some ⟨g, 0, none⟩) m cap := hp 2 (by kernel_rfl) (.inr (by decide))
                obtain rfl : u3 = .int .i64 (p : Int) := hp 3 (by kernel_rfl) (.inr (by decide))
                clear hS hp
                refine wpOp_step rfl (fun K hK => ?_)
                simp only [putL, Act.put, List.setIfInBounds_toArray, List.set_cons_zero, List.set_cons_succ]
                go_simp
                refine hK _ _ ⟨.pointer (some ⟨g, p, none⟩), ?_, fun _ _ h => h, rfl, fun _ _ _ _ _ _ h => h⟩
                simp only [putL, Act.put, List.getD_cons_zero, List.getD_cons_succ, List.setIfInBounds_toArray, List.set_cons_zero, List.set_cons_succ]
              · obtain rfl : u14 = .pointer (some ⟨g, p, none⟩) := hp 14 (by kernel_rfl) (.inr (by decide))
                obtain rfl : u11 = .slice (some ⟨gc, 0, none⟩) (nw + 1) cgc := hp 11 (by kernel_rfl) (.inr (by decide))
                obtain rfl : v = (wr.setCell ⟨g, cc, none⟩ (.slice (some ⟨gp, 0, none⟩) (nw + 1) cp)).drew := hp 13 (by kernel_rfl) (.inl (by decide))
                clear hS hp
                refine wpOp_step rfl (fun K hK => ?_)
                simp only [putL, Act.put, List.setIfInBounds_toArray, List.set_cons_zero, List.set_cons_succ]
                go_simp
                refine hK _ _ ⟨undef, ?_, fun _ ha _ => absurd (ha.symm.trans (show _ = true by kernel_rfl)) (by decide), rfl, fun j' y hj hk ha hb h => ?_⟩
                · simp only [putL, Act.put, List.getD_cons_zero, List.getD_cons_succ, List.setIfInBounds_toArray, List.set_cons_zero, List.set_cons_succ]
                rcases j' with _ | _ | _ | _ | _ | _ | _ | _ | _ | _ | _ | _ | _ | _ | _ | _ | j'
                · exact h
                · exact h
                · exact h
                · exact h
                · exact h
                · exact h
                · exact h
                · exact h
                · exact h
                · exact h
                · exact h
                · exact h
                · exact h
                · exact absurd rfl hk
                · exact h
                · exact absurd rfl hj
                · trivial
            · rintro us v hl hS hP
              replace hl : us.length = 16 := hl
              obtain ⟨u0, us0, rfl, hl0⟩ := us_cons (n := 15) hl
              obtain ⟨u1, us1, rfl, hl1⟩ := us_cons (n := 14) hl0
              obtain ⟨u2, us2, rfl, hl2⟩ := us_cons (n := 13) hl1
              obtain ⟨u3, us3, rfl, hl3⟩ := us_cons (n := 12) hl2
              obtain ⟨u4, us4, rfl, hl4⟩ := us_cons (n := 11) hl3
              obtain ⟨u5, us5, rfl, hl5⟩ := us_cons (n := 10) hl4
              obtain ⟨u6, us6, rfl, hl6⟩ := us_cons (n := 9) hl5
              obtain ⟨u7, us7, rfl, hl7⟩ := us_cons (n := 8) hl6
              obtain ⟨u8, us8, rfl, hl8⟩ := us_cons (n := 7) hl7
              obtain ⟨u9, us9, rfl, hl9⟩ := us_cons (n := 6) hl8
              obtain ⟨u10, us10, rfl, hl10⟩ := us_cons (n := 5) hl9
              obtain ⟨u11, us11, rfl, hl11⟩ := us_cons (n := 4) hl10
              obtain ⟨u12, us12, rfl, hl12⟩ := us_cons (n := 3) hl11
              obtain ⟨u13, us13, rfl, hl13⟩ := us_cons (n := 2) hl12
              obtain ⟨u14, us14, rfl, hl14⟩ := us_cons (n := 1) hl13
              obtain ⟨u15, us15, rfl, hl15⟩ := us_cons (n := 0) hl14
              obtain rfl := us_nil hl15
              clear hl hl0 hl1 hl2 hl3 hl4 hl5 hl6 hl7 hl8 hl9 hl10 hl11 hl12 hl13 hl14
              obtain rfl : v = ((wr.setCell ⟨g, cc, none⟩ (.slice (some ⟨gp, 0, none⟩) (nw + 1) cp)).setCell ⟨g, p, none⟩ (.slice (some ⟨gc, 0, none⟩) (nw + 1) cgc)).drew := hP 15 (by show 15 < 16; decide) (by decide)
              clear hS hP
              simp only [putL, Act.put, List.setIfInBounds_toArray, List.set_cons_zero, List.set_cons_succ]
              have HX3 := HX.out.swap (c := cc) (p := p) hcm hpm _ rfl
              rw [← HEH.out.1, ← HEH.out.2] at HX3
              obtain ⟨w3, hw3⟩ : ∃ W, W = ((wr.setCell ⟨g, cc, none⟩ (.slice (some ⟨gp, 0, none⟩) (nw + 1) cp)).setCell ⟨g, p, none⟩ (.slice (some ⟨gc, 0, none⟩) (nw + 1) cgc)).drew := ⟨_, rfl⟩
              have HX3 : Hid (My w0 w3 M L g m cap (swpA H1 (none, 0) cc p) (Sy.swapR R1 cc p) []) := by unfold Hid; rw [hw3]; exact HX3.go (Below.refl _ _).drew
              rw [← hw3]
              obtain ⟨H3, hH3⟩ : ∃ x, x = swpA H1 (none, 0) cc p := ⟨_, rfl⟩
              obtain ⟨R3, hR3⟩ : ∃ x, x = Sy.swapR R1 cc p := ⟨_, rfl⟩
              rw [← hH3, ← hR3] at HX3
              have HRow3 : Hid (∀ k, k < m → (Sy.rw_ R3 k).length = nw + 1) := by
                intro k hk
                rw [hR3, Sy.rw_swap (by rw [HX.out.rl]; exact hcm) (by rw [HX.out.rl]; exact hpm)]
                split
                · exact HWd.out _ hpm
                · split
                  · exact HWd.out _ hcm
                  · exact HWd.out _ hk
              have HSt : Hid (Sy.stepC R1 cc p = Sy.clearC (R3.set cc (Sy.scl (Sy.leadOf R3 cc) (Sy.rw_ R3 cc))) cc (Sy.rw_ (R3.set cc (Sy.scl (Sy.leadOf R3 cc) (Sy.rw_ R3 cc))) cc)) := by rw [hR3]; rfl
              clear hw3 hH3 hR3 hdc hdp hfc hfp hv1 HEH HX HGp HB
              obtain ⟨g3, c3, hg3⟩ := HX3.out.form hcm (by rw [HRow3.out cc hcm]; omega)
              have hh3 := HX3.out.hd hcm
              rw [hg3, HRow3.out cc hcm] at hh3
              obtain ⟨b, hb⟩ : ∃ b, b = Sy.wd (Sy.rw_ R3 cc) cc := ⟨_, rfl⟩
              have hb3 := HX3.out.byte hcm hg3 (q := cc) (Sy.wd_lt (by rw [HRow3.out cc hcm]; omega))
              rw [← hb] at hb3
              have HB := Lib.hid hb
              have HG3 := Lib.hid hg3
              clear hb hg3
              go_wp2_with fail
              with_reducible refine (refinverse_any _ _).mono ?_
              rintro e w' ⟨rfl, rfl⟩
              obtain ⟨f, hf⟩ : ∃ f, f = Gf.ginv b := ⟨_, rfl⟩
              rw [← hf]
              have HLd : Hid (f = Sy.leadOf R3 cc) := by unfold Hid; rw [hf, HB.out]; rfl
              obtain ⟨Rc, hRc⟩ : ∃ x, x = Sy.rw_ R3 cc := ⟨_, rfl⟩
              have HRc := Lib.hid hRc
              have HRcl : Hid (Rc.length = nw + 1) := by unfold Hid; rw [hRc]; exact HRow3.out cc hcm
              have HX4 : Hid (My w0 w3 M L g m cap H3 (R3.set cc (Sy.upd (fun j => Gf.gmul (Sy.wd Rc j) f) Rc 0)) []) := by
                unfold Hid
                rw [Sy.upd_zero]
                have e : R3.set cc Rc = R3 := by
                  have h6 := Sy.rw_lt (rows := R3) (k := cc) (by rw [HX3.out.rl]; exact hcm)
                  rw [← hRc] at h6
                  obtain ⟨h7, h8⟩ := List.getElem?_eq_some_iff.1 h6
                  conv => lhs; rw [← h8]
                  exact List.set_getElem_self h7
                rw [e]
                exact HX3.out
              have hR3l : R3.length = m := HX3.out.rl
              have HR3l := Lib.hid hR3l
              clear hf hRc hh3 hb3 HX3 HB hR3l
              go_wp2_with fail
              go_loopw [11] (fun x wr => RSo3 w0 M L g m cap nw cc H3 R3 Rc f x wr) (fun x _ => nw + 1 - (intOf x).toNat)
              case atStart => exact ⟨0, Nat.zero_le _, rfl, HX4.out⟩
              case round =>
                clear HX4
                obtain ⟨q, hq, rfl, HX⟩ := hrel
                have hRcq : Sy.rw_ (R3.set cc (Sy.upd (fun j => Gf.gmul (Sy.wd Rc j) f) Rc q)) cc = Sy.upd (fun j => Gf.gmul (Sy.wd Rc j) f) Rc q := by rw [Sy.rw_set (by rw [HR3l.out]; exact hcm), if_pos rfl]
                rcases Nat.lt_or_ge q (nw + 1) with h6 | h6
                · have hd6 : decide ((q : Int) ≤ (nw : Int)) = true := decide_eq_true (by omega)
                  have hd6' : q ≤ nw := by omega
                  have hhc := HX.out.hd hcm
                  rw [HG3.out, hRcq, Sy.upd_length, HRcl.out] at hhc
                  obtain ⟨a, ha⟩ : ∃ a, a = Sy.wd Rc q := ⟨_, rfl⟩
                  have hca := HX.out.byte hcm HG3.out (q := q) (by rw [hRcq]; exact wd_upd _ Rc (by rw [HRcl.out]; exact h6))
                  rw [← ha] at hca
                  have hfa := HX.out.frz hcm HG3.out q
                  have HA := Lib.hid ha
                  have HRcq := Lib.hid hRcq
                  have s8 : (q : Int) < ((nw + 1 : Nat) : Int) := by omega
                  have s9 : (q : Int) < (nw : Int) + 1 := by omega
                  have s5' : (cc : Int) < (m : Int) := by omega
                  clear ha hRcq
                  go_wp2_with fail
                  refine wp_region_still_tail 15 (by kernel_rfl) (by kernel_rfl) ?_
                  simp only [List.take_succ_cons, List.take_zero, List.drop_succ_cons, List.drop_zero]
                  repeat (first | still_step | still_call (flip_sameB (refmul_any _ _ _)))
                  refine wpStill_nil ?_
                  change wpList _ _ _ _ _ (World.drew _)
                  go_wp2_with fail
                  go_roundw
                  case rel =>
                    have h7 := (HX.out.go (Below.refl _ _).drew).setB hcm HG3.out q (Gf.gmul a f)
                    rw [HRcq.out, List.set_set, HA.out, Sy.upd_succ (fun j => Gf.gmul (Sy.wd Rc j) f) Rc (by rw [HRcl.out]; exact h6)] at h7
                    rw [HA.out]
                    exact ⟨q + 1, by omega, by go_num, h7⟩
                  case measure => simp [intOf]; omega
                · have hd6 : decide ((q : Int) ≤ (nw : Int)) = false := decide_eq_false (by omega)
                  have hd6' : nw < q := by omega
                  have hq7 : q = Rc.length := by rw [HRcl.out]; omega
                  have HX5 : Hid (My w0 wr M L g m cap H3 (R3.set cc (Sy.scl (Sy.leadOf R3 cc) (Sy.rw_ R3 cc))) []) := by
                    unfold Hid
                    rw [← HLd.out, ← HRc.out, Sy.scl_upd, ← hq7]
                    exact HX.out
                  obtain ⟨R5, hR5⟩ : ∃ x, x = R3.set cc (Sy.scl (Sy.leadOf R3 cc) (Sy.rw_ R3 cc)) := ⟨_, rfl⟩
                  have HRow5 : Hid (∀ k, k < m → (Sy.rw_ R5 k).length = nw + 1) := by
                    intro k hk
                    rw [hR5, Sy.rw_set (by rw [HR3l.out]; exact hcm)]
                    split
                    · rw [Sy.scl_length]; exact HRow3.out cc hcm
                    · exact HRow3.out k hk
                  rw [← hR5] at HX5 HSt
                  clear hR5 hq7 hRcq HX HRow3 HG3 HLd HRc HRcl HR3l
                  have hdq : decide (q ≤ nw) = false := decide_eq_false (by omega)
                  go_wp2_with fail
                  try rw [hdq]
                  go_loopw [12] (fun v wr => RSo4 w0 M L g m cap cc H3 R5 v wr) (fun v _ => m - (intOf v).toNat)
                  case atStart => exact ⟨0, Nat.zero_le _, rfl, by unfold Hid; rw [Sy.clrTo_zero]; exact HX5.out⟩
                  case round =>
                    clear HX5 h6 hd6 hd6' hq hdq
                    obtain ⟨kk, hkk, rfl, HX⟩ := hrel
                    have HRl : Hid (R5.length = m) := by unfold Hid; rw [← Sy.clrTo_length R5 cc kk]; exact HX.out.rl
                    rcases Nat.lt_or_ge kk m with h5 | h5
                    · have hd5 : decide ((kk : Int) < (m : Int)) = true := decide_eq_true (by omega)
                      by_cases hkc : kk = cc
                      · have hq1 : ((kk : Int) == (cc : Int)) = true := by rw [hkc]; simp
                        have HSk := Lib.hid (Sy.clrTo_skip (S := R5) (c := cc) (k := kk) (.inl hkc))
                        clear hkc
                        go_wp2_with fail
                        go_roundw
                        case rel => exact ⟨kk + 1, by omega, by go_num, by rw [HSk.out]; exact HX⟩
                        case measure => simp [intOf]; omega
                      · have hq1 : ((kk : Int) == (cc : Int)) = false := beq_eq_false_iff_ne.2 (by omega)
                        have HKc := Lib.hid hkc
                        clear hkc
                        have HRk : Hid (Sy.rw_ (Sy.clrTo R5 cc kk) kk = Sy.rw_ R5 kk) := by unfold Hid; rw [Sy.clrTo_at (by rw [HRl.out]; exact h5), if_neg (by omega)]
                        have HRc : Hid (Sy.rw_ (Sy.clrTo R5 cc kk) cc = Sy.rw_ R5 cc) := by unfold Hid; rw [Sy.clrTo_at (by rw [HRl.out]; exact hcm), if_neg (by omega)]
                        obtain ⟨gk, ck, hgk⟩ := HX.out.form h5 (by rw [HRk.out, HRow5.out kk h5]; omega)
                        have hhk := HX.out.hd h5
                        rw [hgk, HRk.out, HRow5.out kk h5] at hhk
                        obtain ⟨t, ht⟩ : ∃ t, t = Sy.wd (Sy.rw_ R5 kk) cc := ⟨_, rfl⟩
                        have htb := HX.out.byte h5 hgk (q := cc) (by rw [HRk.out]; exact Sy.wd_lt (by rw [HRow5.out kk h5]; omega))
                        rw [← ht] at htb
                        have HT := Lib.hid ht
                        have HGk := Lib.hid hgk
                        have s7 : (kk : Int) < (m : Int) := by omega
                        clear ht hgk
                        rcases zero_or t with rfl | ⟨htn, htz⟩
                        · have HSk := Lib.hid (Sy.clrTo_skip (S := R5) (c := cc) (k := kk) (.inr HT.out.symm))
                          go_wp2_with fail
                          go_roundw
                          case rel => exact ⟨kk + 1, by omega, by go_num, by rw [HSk.out]; exact HX⟩
                          case measure => simp [intOf]; omega
                        · clear htn
                          obtain ⟨gc, cgc, hgc⟩ := HX.out.form hcm (by rw [HRc.out, HRow5.out cc hcm]; omega)
                          have HGc := Lib.hid hgc
                          obtain ⟨Rk, hRk⟩ : ∃ x, x = Sy.rw_ R5 kk := ⟨_, rfl⟩
                          obtain ⟨Rc, hRc⟩ : ∃ x, x = Sy.rw_ R5 cc := ⟨_, rfl⟩
                          have HLk : Hid (Rk.length = nw + 1 ∧ Rc.length = nw + 1) := ⟨by rw [hRk]; exact HRow5.out kk h5, by rw [hRc]; exact HRow5.out cc hcm⟩
                          rw [← hRk] at HRk
                          rw [← hRc] at HRc
                          have HStp : Hid ((Sy.clrTo R5 cc kk).set kk (Sy.addRow t Rc Rk) = Sy.clrTo R5 cc (kk + 1)) := by
                            unfold Hid
                            rw [HT.out, hRk, hRc]
                            exact Sy.clrTo_step (by rw [HRl.out]; exact h5) HKc.out
                          have HX7 : Hid (My w0 wr M L g m cap H3 ((Sy.clrTo R5 cc kk).set kk (Sy.upd (fun j => Sy.wd Rk j ^^^ Gf.gmul t (Sy.wd Rc j)) Rk 0)) []) := by
                            unfold Hid
                            rw [Sy.upd_zero]
                            have e : (Sy.clrTo R5 cc kk).set kk Rk = Sy.clrTo R5 cc kk := by
                              have h6 := Sy.rw_lt (rows := Sy.clrTo R5 cc kk) (k := kk) (by rw [Sy.clrTo_length, HRl.out]; exact h5)
                              rw [HRk.out] at h6
                              obtain ⟨h7, h8⟩ := List.getElem?_eq_some_iff.1 h6
                              conv => lhs; rw [← h8]
                              exact List.set_getElem_self h7
                            rw [e]
                            exact HX.out
                          obtain ⟨Rl, hRl⟩ : ∃ x, x = Sy.clrTo R5 cc kk := ⟨_, rfl⟩
                          rw [← hRl] at HX7 HStp HRc
                          have HRlm : Hid (Rl.length = m) := by unfold Hid; rw [hRl, Sy.clrTo_length, HRl.out]
                          clear hgc hRk hRc HT HRk hRl
                          go_wp2_with fail
                          clear hhk htb HX
                          go_loopw [14] (fun v wr => RSo5 w0 M L g m cap nw kk H3 Rl Rk Rc t v wr) (fun v _ => nw + 1 - (intOf v).toNat)
                          case atStart => exact ⟨0, Nat.zero_le _, rfl, HX7⟩
                          case round =>
                            clear HX7
                            obtain ⟨q, hq, rfl, HX⟩ := hrel
                            have hRkq : Sy.rw_ (Rl.set kk (Sy.upd (fun j => Sy.wd Rk j ^^^ Gf.gmul t (Sy.wd Rc j)) Rk q)) kk = Sy.upd (fun j => Sy.wd Rk j ^^^ Gf.gmul t (Sy.wd Rc j)) Rk q := by rw [Sy.rw_set (by rw [HRlm.out]; exact h5), if_pos rfl]
                            have hRcq : Sy.rw_ (Rl.set kk (Sy.upd (fun j => Sy.wd Rk j ^^^ Gf.gmul t (Sy.wd Rc j)) Rk q)) cc = Rc := by rw [Sy.rw_set (by rw [HRlm.out]; exact h5), if_neg (fun e => HKc.out e.symm), HRc.out]
                            rcases Nat.lt_or_ge q (nw + 1) with h6 | h6
                            · have hd6 : decide ((q : Int) ≤ (nw : Int)) = true := decide_eq_true (by omega)
                              have hd6' : q ≤ nw := by omega
                              have hhk := HX.out.hd h5
                              rw [HGk.out, hRkq, Sy.upd_length, HLk.out.1] at hhk
                              have hhc := HX.out.hd hcm
                              rw [HGc.out, hRcq, HLk.out.2] at hhc
                              obtain ⟨a, ha⟩ : ∃ a, a = Sy.wd Rk q := ⟨_, rfl⟩
                              obtain ⟨b, hb⟩ : ∃ b, b = Sy.wd Rc q := ⟨_, rfl⟩
                              have hca := HX.out.byte h5 HGk.out (q := q) (by rw [hRkq]; exact wd_upd _ Rk (by rw [HLk.out.1]; exact h6))
                              have hcb := HX.out.byte hcm HGc.out (q := q) (by rw [hRcq]; exact Sy.wd_lt (by rw [HLk.out.2]; exact h6))
                              rw [← ha] at hca
                              rw [← hb] at hcb
                              have hfa := HX.out.frz h5 HGk.out q
                              obtain ⟨z, hz, HZ2⟩ := xor_ex a (Gf.gmul t b)
                              have HAB := Lib.hid (And.intro ha hb)
                              have HRkq := Lib.hid hRkq
                              have s8 : (q : Int) < ((nw + 1 : Nat) : Int) := by omega
                              have s9 : (q : Int) < (nw : Int) + 1 := by omega
                              have s5' : (cc : Int) < (m : Int) := by omega
                              clear ha hb hRkq hRcq
                              go_wp2_with fail
                              refine wp_region_still_tail 18 (by kernel_rfl) (by kernel_rfl) ?_
                              simp only [List.take_succ_cons, List.take_zero, List.drop_succ_cons, List.drop_zero]
                              repeat (first | still_step | still_call (flip_sameB (refmul_any _ _ _)))
                              refine wpStill_nil ?_
                              change wpList _ _ _ _ _ (World.drew _)
                              go_wp2_with fail
                              go_roundw
                              case rel =>
                                have h7 := (HX.out.go (Below.refl _ _).drew).setB h5 HGk.out q z
                                rw [HRkq.out, List.set_set, HZ2.out, HAB.out.1, HAB.out.2, Sy.upd_succ (fun j => Sy.wd Rk j ^^^ Gf.gmul t (Sy.wd Rc j)) Rk (by rw [HLk.out.1]; exact h6)] at h7
                                rw [HZ2.out, HAB.out.1, HAB.out.2]
                                exact ⟨q + 1, by omega, by go_num, h7⟩
                              case measure => simp [intOf]; omega
                            · have hd6 : decide ((q : Int) ≤ (nw : Int)) = false := decide_eq_false (by omega)
                              have hd6' : nw < q := by omega
                              have hq7 : q = Rk.length := by rw [HLk.out.1]; omega
                              have HX8 : Hid (My w0 wr M L g m cap H3 (Sy.clrTo R5 cc (kk + 1)) []) := by
                                unfold Hid
                                rw [← HStp.out, Sy.addRow_upd, ← hq7]
                                exact HX.out
                              clear hq7 hRkq hRcq
                              go_wp2_with fail
                              go_roundw
                              case rel => exact ⟨kk + 1, by omega, by go_num, HX8⟩
                              case measure => simp [intOf]; omega
                    · have hd5 : decide ((kk : Int) < (m : Int)) = false := decide_eq_false (by omega)
                      have HX8 : Hid (My w0 wr M L g m cap H3 (Sy.stepC R1 cc p) []) := by
                        unfold Hid
                        rw [HSt.out, ← Sy.clrTo_all R5 cc (k := kk) (by rw [HRl.out]; omega)]
                        exact HX.out
                      go_wp2_with fail
                      go_roundw
                      case rel => exact ⟨cc + 1, _, H3, by omega, by go_num, by go_num, HE2, HX8⟩
                      case measure => simp [intOf]; omega
        · have t1 : decide ((p : Int) < (m : Int)) = false := decide_eq_false (by omega)
          obtain rfl : p = m := by omega
          have hq : ((p : Int) == (p : Int)) = true := by simp
          have hpv : Sy.piv cc R1 = none := Sy.piv_no fun j hj => HZ.out (cc + j) (by omega) (by rw [HX.out.rl] at hj; exact hj)
          have HN : Hid (Sy.solve R nw = none) := by
            unfold Hid Sy.solve
            have e1 : Sy.elim R (cc + 1) = none := by
              show (match Sy.elim R cc with | none => none | some R => match Sy.piv cc R with | none => none | some p => some (Sy.stepC R cc p)) = none
              rw [HE.out]
              dsimp only
              rw [hpv]
            have e2 := Sy.elim_fail R (nw - (cc + 1)) (cc + 1) e1
            rw [show cc + 1 + (nw - (cc + 1)) = nw by omega] at e2
            rw [e2]
          clear hpv
          go_wp2_with fail
          go_ret2
          exact ⟨_, _, _, false, rfl, .inr ⟨rfl, HN.out, HX.out.ow.none0⟩⟩
    · have hd2 : decide ((cc : Int) < (nw : Int)) = false := decide_eq_false (by omega)
      have hcn2 : cc = nw := by omega
      have HSo : Hid (Sy.solve R nw = if Sy.badR R1 nw then none else some (Sy.outR R1 nw)) := by
        unfold Hid Sy.solve
        rw [← hcn2, HE.out]
      have hnm : nw ≤ m := by omega
      have HXo := Lib.hid (HX.out.more 5)
      clear HX HE HEl hcn2
      go_wp2_with fail
      go_loopw [15, 16] (fun x y wr => RSo6 w0 M L g m cap nw H1 R1 x y wr) (fun _ y _ => nw - (intOf y).toNat)
      case atStart => exact ⟨0, none, 0, Nat.zero_le _, rfl, rfl, HXo.out⟩
      case round =>
        clear HXo
        obtain ⟨k, A', c', hk, rfl, rfl, HX⟩ := hrel
        have hXi : (outQ g m cap H1 R1 :: (mkRs H1 R1 ++ [(⟨A', k, c', 5, bys ((R1.take k).map fun r => Sy.wd r nw)⟩ : Rw)]))[m + 1]? = some ⟨A', k, c', 5, bys ((R1.take k).map fun r => Sy.wd r nw)⟩ := by
          rw [List.getElem?_cons_succ, List.getElem?_append_right (by rw [HX.out.len]; exact Nat.le_refl _), HX.out.len, Nat.sub_self]
          rfl
        have HXi := Lib.hid hXi
        clear hXi
        rcases Nat.lt_or_ge k nw with h1 | h1
        · have hd3 : decide ((k : Int) < (nw : Int)) = true := decide_eq_true (by omega)
          have hkm : k < m := by omega
          obtain ⟨gk, ck, hgk⟩ := HX.out.form hkm (by rw [HWd.out k hkm]; omega)
          have hhk := HX.out.hd hkm
          rw [hgk, HWd.out k hkm] at hhk
          obtain ⟨b, hb⟩ : ∃ b, b = Sy.wd (Sy.rw_ R1 k) nw := ⟨_, rfl⟩
          have hbk := HX.out.byte hkm hgk (q := nw) (Sy.wd_lt (by rw [HWd.out k hkm]; omega))
          rw [← hb] at hbk
          have HB := Lib.hid hb
          have s6 : (nw : Int) < ((nw + 1 : Nat) : Int) := by omega
          clear hb hgk
          go_wp2_with (at_builtin; refine ow_append1 elemB HX.out.ow (m + 1) (.tmp 145) (.tmp 153) _ _ HXi.out rfl (by unfold maxLen; omega) (by omega) rfl rfl rfl rfl ?_; intro A'' c'' w8 how)
          go_roundw
          case rel =>
            have e1 : bys ((R1.take k).map fun r => Sy.wd r nw) ++ [Value.int .u8 (b.toNat : Int)] = bys ((R1.take (k + 1)).map fun r => Sy.wd r nw) := by
              rw [List.take_add_one, Sy.rw_lt (by rw [HX.out.rl]; exact hkm), List.map_append, HB.out]
              simp [bys, encB]
            rw [e1] at how
            have e2 : (outQ g m cap H1 R1 :: (mkRs H1 R1 ++ [(⟨A', k, c', 5, bys ((R1.take k).map fun r => Sy.wd r nw)⟩ : Rw)])).set (m + 1) ⟨A'', k + 1, c'', 5, bys ((R1.take (k + 1)).map fun r => Sy.wd r nw)⟩ = outQ g m cap H1 R1 :: (mkRs H1 R1 ++ [(⟨A'', k + 1, c'', 5, bys ((R1.take (k + 1)).map fun r => Sy.wd r nw)⟩ : Rw)]) := by
              rw [List.set_cons_succ, List.set_append_right _ _ (by rw [HX.out.len]; exact Nat.le_refl _), HX.out.len, Nat.sub_self]
              rfl
            rw [e2] at how
            exact ⟨k + 1, A'', c'', by omega, by go_num, rfl, ⟨how, HX.out.hl, HX.out.rl⟩⟩
          case measure => simp [intOf]; omega
        · have hd3 : decide ((k : Int) < (nw : Int)) = false := decide_eq_false (by omega)
          obtain rfl : k = nw := by omega
          go_wp2_with fail
          go_loopw [17] (fun x wr => RSo7 w0 M L g m cap k H1 R1 [⟨A', k, c', 5, bys ((R1.take k).map fun r => Sy.wd r k)⟩] x wr) (fun x _ => m - (intOf x).toNat)
          case atStart => exact ⟨k, Nat.le_refl _, hnm, rfl, fun i h1 h2 => by omega, HX.out⟩
          case round =>
            clear HX
            obtain ⟨j, hj1, hj2, rfl, HZ, HX⟩ := hrel
            rcases Nat.lt_or_ge j m with hjm | hjm
            · have hd4 : decide ((j : Int) < (m : Int)) = true := decide_eq_true (by omega)
              obtain ⟨gk, ck, hgk⟩ := HX.out.form hjm (by rw [HWd.out j hjm]; omega)
              have hhk := HX.out.hd hjm
              rw [hgk, HWd.out j hjm] at hhk
              obtain ⟨b, hb⟩ : ∃ b, b = Sy.wd (Sy.rw_ R1 j) k := ⟨_, rfl⟩
              have hbk := HX.out.byte hjm hgk (q := k) (Sy.wd_lt (by rw [HWd.out j hjm]; omega))
              rw [← hb] at hbk
              have HB := Lib.hid hb
              have s6 : (k : Int) < ((k + 1 : Nat) : Int) := by omega
              clear hb hgk
              rcases zero_or b with rfl | ⟨hbn, hbz⟩
              · go_wp2_with fail
                go_roundw
                case rel =>
                  exact ⟨j + 1, by omega, by omega, by go_num, fun i h1 h2 => by
                    rcases Nat.lt_or_ge i j with h3 | h3
                    · exact HZ.out i h1 h3
                    · rw [show i = j by omega]; exact HB.out.symm, HX.out⟩
                case measure => simp [intOf]; omega
              · have hq2 : ((b.toNat : Int) != 0) = true := by rw [bne_iff_ne]; have := u8_pos hbn; omega
                have HBn := Lib.hid hbn
                clear hbn
                go_wp2_with fail
                go_ret2
                have hbad : Sy.badR R1 k = true := by
                  cases e : Sy.badR R1 k with
                  | true => rfl
                  | false => exact absurd (HB.out.trans (Sy.bad_false.1 e j (by rw [HX.out.rl]; exact hjm) hj1)) HBn.out
                rw [HSo.out, hbad]
                exact ⟨_, _, _, false, rfl, .inr ⟨rfl, rfl, HX.out.ow.none0⟩⟩
            · have hd4 : decide ((j : Int) < (m : Int)) = false := decide_eq_false (by omega)
              go_wp2_with fail
              go_ret2
              have hbad : Sy.badR R1 k = false := Sy.bad_false.2 fun i hi1 hi2 => HZ.out i hi2 (by rw [HX.out.rl] at hi1; omega)
              rw [HSo.out, hbad]
              refine ⟨A', k, c', true, rfl, .inl ⟨rfl, _, rfl, ?_, HX.out.ow.re (fun i => m + 1 + i) (fun i j _ _ h => by omega) (fun i r hi => ?_)⟩⟩
              · unfold Sy.outR
                rw [List.length_map, List.length_take, HX.out.rl]
                omega
              · rcases i with _ | i
                · rw [← hi]
                  exact HXi.out
                · simp at hi
end Go.Proofs.YtnplaejlmbncfaaGreatDoor
