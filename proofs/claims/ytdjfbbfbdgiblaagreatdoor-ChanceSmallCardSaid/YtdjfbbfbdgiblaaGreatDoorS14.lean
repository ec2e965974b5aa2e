/- Ss -/
import Derived.Test.YtdjfbbfbdgiblaaGreatDoorS13
import Derived.Deep.RegionWith
import Derived.BigRegion
namespace Go.Proofs.YtdjfbbfbdgiblaaGreatDoor
open Go.RowKit
set_option linter.unusedVariables false
set_option maxRecDepth 100000
/-- what 'magnitudes' leaves -/
def MagR (w : World) (r : Option (List UInt8)) (en : Ending) (w' : World) : Prop :=
  ∃ (A : Option Addr) (k c : Nat) (b : Bool), en = .returned (.tuple #[.slice A k c, .bool b]) ∧ Below w.heap.size w w' ∧ ((b = true ∧ ∃ l, r = some l ∧ l.length = k ∧ w'.ownsRow w.heap.size 5 1 (.slice A k c) k (bys l)) ∨ (b = false ∧ r = none))
def RMa (w : World) (L : List Ob) (g m n : Nat) (s : List UInt8) (P : List Nat) (v30 : Value) (wr : World) : Prop :=
  ∃ (k : Nat) (H : List (Option Addr × Nat)), k ≤ m ∧ v30 = .int .i64 (k : Int) ∧ Hid (Mx w wr [] L g m H (Sy.bld s n P m k 0) [])
def RMb (w : World) (L : List Ob) (g m n nw k : Nat) (s : List UInt8) (P : List Nat) (v35 : Value) (wr : World) : Prop :=
  ∃ (i : Nat) (H : List (Option Addr × Nat)), i ≤ nw ∧ v35 = .int .i64 (i : Int) ∧ Hid (Mx w wr [] L g m H (Sy.bld s n P m k i) [])
def mgPr (w : World) (L : List Ob) (g m n nw k : Nat) (s : List UInt8) (P : List Nat) (H : List (Option Addr × Nat)) (A : Option Addr) (c : Nat) (ad : Addr) (Ak : Option Addr) (ck : Nat) (y : UInt8) (i : Nat) (x : Value) (v : World) : Prop :=
  match i with
  | 0 => x = .slice (some ⟨g, 0, none⟩) m m
  | 1 => x = .int .i64 (k : Int)
  | 2 => x = .slice (some ⟨g, 0, none⟩) m m
  | 3 => x = .int .i64 (k : Int)
  | 4 => x = .pointer (some ⟨g, k, none⟩)
  | 5 => x = .slice Ak nw ck
  | 6 => x = .slice A m c
  | 7 => x = .int .i64 (k : Int)
  | 8 => x = .pointer (some (ad.add k))
  | 9 => x = .int .u8 (y.toNat : Int)
  | 10 => ∃ b : Nat, x = .slice (some ⟨b, 0, none⟩) 1 1 ∧ Sl v v.heap.size (some ⟨b, 0, none⟩) [.int .u8 (y.toNat : Int)]
  | 11 => ∃ (A' : Option Addr) (c' : Nat), x = .slice A' (nw + 1) c' ∧ Ow w v none [] L ((outR g m H (Sy.bld s n P m k nw) :: (mkRs H (Sy.bld s n P m k nw) ++ [])).set (k + 1) ⟨A', nw + 1, c', 5, bys (Sy.powR n P k ++ [y])⟩)
  | 12 => x = .pointer (some ⟨g, k, none⟩)
  | 13 => ∃ H' : List (Option Addr × Nat), Mx w v [] L g m H' (Sy.bld s n P m (k + 1) 0) []
  | _ => True
theorem mgPr_go {w : World} {L : List Ob} {g m n nw k : Nat} {s : List UInt8} {P : List Nat} {H : List (Option Addr × Nat)} {A : Option Addr} {c : Nat} {ad : Addr} {Ak : Option Addr} {ck : Nat} {y : UInt8} {v v' : World} (hb : Below v.heap.size v v') : ∀ (i : Nat) (x : Value), mgPr w L g m n nw k s P H A c ad Ak ck y i x v → mgPr w L g m n nw k s P H A c ad Ak ck y i x v'
  | 0, _, h => h | 1, _, h => h | 2, _, h => h | 3, _, h => h | 4, _, h => h | 5, _, h => h | 6, _, h => h | 7, _, h => h | 8, _, h => h | 9, _, h => h
  | 10, _, ⟨b, h1, h2⟩ => ⟨b, h1, (h2.below hb).more hb.size⟩
  | 11, _, ⟨A', c', h1, h2⟩ => ⟨A', c', h1, h2.go hb⟩
  | 12, _, h => h
  | 13, _, ⟨H', h1⟩ => ⟨H', h1.go hb⟩
  | _ + 14, _, _ => trivial
def RMc (w : World) (L : List Ob) (g m nw : Nat) (R0 : List (List UInt8)) (v79 : Value) (wr : World) : Prop :=
  ∃ (cc : Nat) (R : List (List UInt8)) (H : List (Option Addr × Nat)), cc ≤ nw ∧ v79 = .int .i64 (cc : Int) ∧ Hid (Sy.elim R0 cc = some R) ∧ Hid (Mx w wr [] L g m H R [])
def RMe (w : World) (L : List Ob) (g m nw : Nat) (H : List (Option Addr × Nat)) (R : List (List UInt8)) (v22 v174 : Value) (wr : World) : Prop :=
  ∃ (k : Nat) (A' : Option Addr) (c' : Nat), k ≤ m ∧ v174 = .int .i64 (k : Int) ∧ v22 = .slice A' (min k nw) c' ∧ Hid (∀ j, nw ≤ j → j < k → Sy.wd (Sy.rw_ R j) nw = 0) ∧ Hid (Mx w wr [] L g m H R [⟨A', min k nw, c', 5, bys ((R.take (min k nw)).map fun r => Sy.wd r nw)⟩])
def RMd (w : World) (L : List Ob) (g m cb cc : Nat) (H : List (Option Addr × Nat)) (R : List (List UInt8)) (v : Value) (wr : World) : Prop :=
  ∃ kk : Nat, kk ≤ m ∧ v = .int .i64 (kk : Int) ∧ Hid (Mx w wr [(cb, .int .i64 (cc : Int))] L g m H (Sy.clrTo R cc kk) [])
def swPr (g m cc i : Nat) (hvp hvc : Value) (W1 W2 : World) (j : Nat) (x : Value) (v : World) : Prop :=
  match j with
  | 0 => x = .slice (some ⟨g, 0, none⟩) m m
  | 1 => x = .int .i64 (cc : Int)
  | 2 => x = .slice (some ⟨g, 0, none⟩) m m
  | 3 => x = .int .i64 (cc : Int)
  | 4 => x = .int .i64 (i : Int)
  | 5 => x = .int .i64 ((cc : Int) + (i : Int))
  | 6 => x = .slice (some ⟨g, 0, none⟩) m m
  | 7 => x = .int .i64 (cc : Int)
  | 8 => x = .int .i64 (i : Int)
  | 9 => x = .int .i64 ((cc : Int) + (i : Int))
  | 10 => x = .pointer (some ⟨g, cc + i, none⟩)
  | 11 => x = hvp
  | 12 => x = .slice (some ⟨g, 0, none⟩) m m
  | 13 => x = .int .i64 (cc : Int)
  | 14 => x = .pointer (some ⟨g, cc, none⟩)
  | 15 => x = hvc
  | 16 => x = .pointer (some ⟨g, cc, none⟩)
  | 17 => v = W1
  | 18 => x = .pointer (some ⟨g, cc + i, none⟩)
  | 19 => v = W2
  | _ => True
set_option maxHeartbeats 16000000 in
theorem magnitudes_any (A : Option Addr) (m c n : Nat) (A2 : Option Addr) (nw c2 : Nat) (s : List UInt8) (P : List Nat) (w : World) (hm : s.length = m) (hs : Sl w w.heap.size A (bys s)) (hmc : m ≤ c) (hw : P.length = nw) (hs2 : Sl w w.heap.size A2 (nats P)) (hnc : nw ≤ c2) (h8 : m ≤ 8) (hn : n ≤ 255) (hP : ∀ p ∈ P, p < n) (hwm : nw ≤ m) :
    Calls Tryz.prog 74 #[.slice A m c, .int .i64 (n : Int), .slice A2 nw c2] w (MagR w (Sy.solve (Sy.rows0 s n P) nw)) := by
  have H0 := ((Ow.of (St.refl w)).old hs (by rw [bys_length]; exact hm) hmc (by omega)).old hs2 (by rw [nats_length]; exact hw) hnc (by omega)
  simp only [List.nil_append, List.cons_append] at H0
  have H1 := H0.made 46 (.slice none 0 0) m m rfl (Nat.le_refl _) (by unfold maxLen; omega)
  simp only [List.nil_append] at H1
  have H2 := Mx.start H1
  rw [← Sy.bld_zero s n P m] at H2
  have HH := Lib.hid H2
  have HM := Lib.hid hm
  have HW := Lib.hid hw
  have HP := Lib.hid hP
  have hmk := elemS.make .i64 .i64 (m : Int) (m : Int) m m rfl rfl (Nat.le_refl _) (by omega) (by omega) w
  obtain ⟨g, hg⟩ : ∃ g, g = w.heap.size := ⟨_, rfl⟩
  rw [← hg] at HH hmk
  have HG := Lib.hid hg
  clear H0 H1 H2 hs hs2 hm hw hP hg
  go_enter Tryz.func74, Tryz.ntmps74
  go_wp2_with fail
  go_loopw [30] (fun v30 wr => RMa w [⟨A, m, c, bys s⟩, ⟨A2, nw, c2, nats P⟩] g m n s P v30 wr) (fun v _ => m - (intOf v).toNat)
  case atStart => exact ⟨0, _, Nat.zero_le _, rfl, HH.out⟩
  case round =>
    clear HH hmk
    obtain ⟨k, H, hk, rfl, HX⟩ := hrel
    rcases Nat.lt_or_ge k m with hkm | hkm
    · have hd : decide ((k : Int) < (m : Int)) = true := decide_eq_true (by omega)
      go_wp2_with fail
      go_loopw [35] (fun v35 wr => RMb w [⟨A, m, c, bys s⟩, ⟨A2, nw, c2, nats P⟩] g m n nw k s P v35 wr) (fun v _ => nw - (intOf v).toNat)
      case atStart => exact ⟨0, H, Nat.zero_le _, rfl, HX.out⟩
      case round =>
        clear HX
        obtain ⟨i, H, hi, rfl, HX⟩ := hrel
        have hck := HX.out.hd hkm
        have hat := HX.out.at_ hkm
        have hfk := HX.out.hf k
        have hrow := Sy.bld_at s n P (i := i) hkm
        have hlen : (Sy.powR n (P.take i) k).length = i := by rw [Sy.powR_length, List.length_take, HW.out]; omega
        obtain ⟨⟨Ak, ck⟩, hAk⟩ : ∃ h, h = hAt H k := ⟨_, rfl⟩
        rw [hrow, hlen, ← hAk] at hck
        unfold mkR at hat
        rw [hrow, hlen, ← hAk] at hat
        have HAt := Lib.hid hat
        have HLn := Lib.hid hlen
        have HAk := Lib.hid hAk
        have HGt := Lib.hid (HX.out.get hkm).2
        clear hrow hlen hAk hat
        rcases Nat.lt_or_ge i nw with h2 | h2
        · have hd2 : decide ((i : Int) < (nw : Int)) = true := decide_eq_true (by omega)
          obtain ⟨p, hp⟩ : ∃ p, P[i]? = some p := ⟨_, Sy.pl_lt (by rw [HW.out]; exact h2)⟩
          obtain ⟨ad2, rfl, -, hc2⟩ := (HX.out.ow.sl (i := 1) rfl).2.2.2 (by rw [nats_length, HW.out]; omega)
          have hcp := hc2 i _ (nats_at hp)
          have hpn : p < n := HP.out p (List.mem_of_getElem? hp)
          obtain ⟨x, hx⟩ : ∃ x, x = Sy.loc n p := ⟨_, rfl⟩
          have HL : Hid (∀ W, Calls Tryz.prog 106 #[.int .i64 (n : Int), .int .i64 (p : Int)] W fun e w' => e = .returned (.int .u8 (x.toNat : Int)) ∧ W = w') := by rw [hx]; exact fun W => locator_any n p hn hpn W
          obtain ⟨y, hy⟩ : ∃ y, y = Gf.gpow (Sy.loc n p) k := ⟨_, rfl⟩
          have HPw : Hid (∀ W, Calls Tryz.prog 112 #[.int .u8 (x.toNat : Int), .int .i64 (k : Int)] W fun e w' => e = .returned (.tuple #[.int .u8 (y.toNat : Int), .int .i64 (Gf.epw x (k : Int))]) ∧ W = w') := by
            rw [hy, ← Sy.pw_loc (show k < 255 by omega), ← hx]
            exact fun W => power_any x (k : Int) W
          have HSn : Hid (Sy.powR n (P.take i) k ++ [y] = Sy.powR n (P.take (i + 1)) k) := by unfold Hid; rw [hy]; exact (Sy.powR_snoc n hp k).symm
          clear hx hy hp hc2
          go_wp2_with (first | (go_at_call 106; refine (HL.out _).mono ?_; rintro e w' ⟨rfl, rfl⟩) | (go_at_call 112; refine (HPw.out _).mono ?_; rintro e w' ⟨rfl, rfl⟩) | (at_builtin; refine ow_append1 elemB HX.out.ow (k + 1) (.tmp 52) (.tmp 54) _ _ HAt.out rfl (by unfold maxLen; omega) (by omega) rfl rfl rfl rfl ?_; intro A' c' w8 how; have hcn := (how.row 0 rfl).cellAt k (by omega); rw [HGt.out] at hcn; have hfn := (how.row 0 rfl).frozenAt k))
          go_roundw
          case rel =>
            have e1 : bys (Sy.powR n (P.take i) k) ++ [Value.int .u8 (y.toNat : Int)] = bys (Sy.powR n (P.take (i + 1)) k) := by rw [← HSn.out]; simp [bys, encB]
            rw [e1] at how
            have h5 := HX.out.grow hkm (r := Sy.powR n (P.take (i + 1)) k) (n' := i + 1) (by rw [Sy.powR_length, List.length_take, HW.out]; omega) how
            rw [Sy.bld_step s n P hkm] at h5
            exact ⟨i + 1, _, by omega, by go_num, h5⟩
          case measure => simp [intOf]; omega
        · have hd2 : decide ((i : Int) < (nw : Int)) = false := decide_eq_false (by omega)
          have hie : i = nw := by omega
          subst hie
          obtain ⟨y, hy⟩ := byte_at s k (by rw [HM.out]; exact hkm)
          obtain ⟨ad, rfl, hcy⟩ := HX.out.ow.byteL 0 rfl hy
          have HY : Hid (Sy.wd s k = y) := Sy.wd_some hy
          have HTk : Hid (P.take i = P) := List.take_of_length_le (by rw [HW.out]; exact Nat.le_refl _)
          rw [HTk.out] at HAt HLn
          clear hy
          go_upto_region 11 with fail
          clear hck hfk hcy
          refine reg_mono [some 58, some 59, some 60, some 61, some 62, some 63, some 64, some 65, some 66, some 67, some 68, some 69, some 70, none] (fun v => Mx w v [] [⟨some ad, m, c, bys s⟩, ⟨A2, i, c2, nats P⟩] g m H (Sy.bld s n P m k i) []) 11 (fun i => if i = 10 then 11 else if i = 11 then 13 else 14) (mgPr w [⟨some ad, m, c, bys s⟩, ⟨A2, i, c2, nats P⟩] g m n i k s P H (some ad) c ad Ak ck y) (by kernel_rfl) (by kernel_rfl) (by kernel_rfl) ?_ ?_ ?_
          · exact HX.out.go (Below.refl _ _).drew
          · rintro j us v hj hl hS hp
            replace hl : us.length = 14 := hl
            obtain ⟨u0, us0, rfl, hl0⟩ := us_cons (n := 13) hl
            obtain ⟨u1, us1, rfl, hl1⟩ := us_cons (n := 12) hl0
            obtain ⟨u2, us2, rfl, hl2⟩ := us_cons (n := 11) hl1
            obtain ⟨u3, us3, rfl, hl3⟩ := us_cons (n := 10) hl2
            obtain ⟨u4, us4, rfl, hl4⟩ := us_cons (n := 9) hl3
            obtain ⟨u5, us5, rfl, hl5⟩ := us_cons (n := 8) hl4
            obtain ⟨u6, us6, rfl, hl6⟩ := us_cons (n := 7) hl5
            obtain ⟨u7, us7, rfl, hl7⟩ := us_cons (n := 6) hl6
            obtain ⟨u8, us8, rfl, hl8⟩ := us_cons (n := 5) hl7
            obtain ⟨u9, us9, rfl, hl9⟩ := us_cons (n := 4) hl8
            obtain ⟨u10, us10, rfl, hl10⟩ := us_cons (n := 3) hl9
            obtain ⟨u11, us11, rfl, hl11⟩ := us_cons (n := 2) hl10
            obtain ⟨u12, us12, rfl, hl12⟩ := us_cons (n := 1) hl11
            obtain ⟨u13, us13, rfl, hl13⟩ := us_cons (n := 0) hl12
            obtain rfl := us_nil hl13
            have hj' : j < 14 := hj
            have hcase : j = 0 ∨ j = 1 ∨ j = 2 ∨ j = 3 ∨ j = 4 ∨ j = 5 ∨ j = 6 ∨ j = 7 ∨ j = 8 ∨ j = 9 ∨ j = 10 ∨ j = 11 ∨ j = 12 ∨ j = 13 := by omega
            clear hj hj'
            rcases hcase with rfl | rfl | rfl | rfl | rfl | rfl | rfl | rfl | rfl | rfl | rfl | rfl | rfl | rfl
            · refine wpOp_step rfl (fun K hK => ?_)
              simp only [putL, Act.put, List.setIfInBounds_toArray, List.set_cons_zero, List.set_cons_succ]
              go_simp
              refine hK _ _ ⟨.slice (some ⟨g, 0, none⟩) m m, ?_, fun _ _ h => h, rfl, fun _ _ _ _ _ _ h => h⟩
              simp only [putL, Act.put, List.getD_cons_zero, List.setIfInBounds_toArray, List.set_cons_zero, List.set_cons_succ]
            · refine wpOp_step rfl (fun K hK => ?_)
              simp only [putL, Act.put, List.setIfInBounds_toArray, List.set_cons_zero, List.set_cons_succ]
              go_simp
              refine hK _ _ ⟨.int .i64 (k : Int), ?_, fun _ _ h => h, rfl, fun _ _ _ _ _ _ h => h⟩
              simp only [putL, Act.put, List.getD_cons_zero, List.getD_cons_succ, List.setIfInBounds_toArray, List.set_cons_zero, List.set_cons_succ]
            · refine wpOp_step rfl (fun K hK => ?_)
              simp only [putL, Act.put, List.setIfInBounds_toArray, List.set_cons_zero, List.set_cons_succ]
              go_simp
              refine hK _ _ ⟨.slice (some ⟨g, 0, none⟩) m m, ?_, fun _ _ h => h, rfl, fun _ _ _ _ _ _ h => h⟩
              simp only [putL, Act.put, List.getD_cons_zero, List.getD_cons_succ, List.setIfInBounds_toArray, List.set_cons_zero, List.set_cons_succ]
            · refine wpOp_step rfl (fun K hK => ?_)
              simp only [putL, Act.put, List.setIfInBounds_toArray, List.set_cons_zero, List.set_cons_succ]
              go_simp
              refine hK _ _ ⟨.int .i64 (k : Int), ?_, fun _ _ h => h, rfl, fun _ _ _ _ _ _ h => h⟩
              simp only [putL, Act.put, List.getD_cons_zero, List.getD_cons_succ, List.setIfInBounds_toArray, List.set_cons_zero, List.set_cons_succ]
            · obtain rfl : u2 = .slice (some ⟨g, 0, none⟩) m m := hp 2 (by kernel_rfl) (.inr (by decide))
              obtain rfl : u3 = .int .i64 (k : Int) := hp 3 (by kernel_rfl) (.inr (by decide))
              clear hS hp
              refine wpOp_step rfl (fun K hK => ?_)
              simp only [putL, Act.put, List.setIfInBounds_toArray, List.set_cons_zero, List.set_cons_succ]
              go_simp
              refine hK _ _ ⟨.pointer (some ⟨g, k, none⟩), ?_, fun _ _ h => h, rfl, fun _ _ _ _ _ _ h => h⟩
              simp only [putL, Act.put, List.getD_cons_zero, List.getD_cons_succ, List.setIfInBounds_toArray, List.set_cons_zero, List.set_cons_succ]
            · obtain rfl : u4 = .pointer (some ⟨g, k, none⟩) := hp 4 (by kernel_rfl) (.inr (by decide))
              have HS : Mx w v [] [⟨some ad, m, c, bys s⟩, ⟨A2, i, c2, nats P⟩] g m H (Sy.bld s n P m k i) [] := hS (.inl (by kernel_rfl))
              have hx := HS.hd hkm
              rw [Sy.bld_at s n P hkm, HTk.out, HLn.out, ← HAk.out] at hx
              clear hS hp
              refine wpOp_step rfl (fun K hK => ?_)
              simp only [putL, Act.put, List.setIfInBounds_toArray, List.set_cons_zero, List.set_cons_succ]
              go_simp
              refine hK _ _ ⟨.slice Ak i ck, ?_, fun _ _ h => h, rfl, fun _ _ _ _ _ _ h => h⟩
              simp only [putL, Act.put, List.getD_cons_zero, List.getD_cons_succ, List.setIfInBounds_toArray, List.set_cons_zero, List.set_cons_succ]
            · refine wpOp_step rfl (fun K hK => ?_)
              simp only [putL, Act.put, List.setIfInBounds_toArray, List.set_cons_zero, List.set_cons_succ]
              go_simp
              refine hK _ _ ⟨.slice (some ad) m c, ?_, fun _ _ h => h, rfl, fun _ _ _ _ _ _ h => h⟩
              simp only [putL, Act.put, List.getD_cons_zero, List.getD_cons_succ, List.setIfInBounds_toArray, List.set_cons_zero, List.set_cons_succ]
            · refine wpOp_step rfl (fun K hK => ?_)
              simp only [putL, Act.put, List.setIfInBounds_toArray, List.set_cons_zero, List.set_cons_succ]
              go_simp
              refine hK _ _ ⟨.int .i64 (k : Int), ?_, fun _ _ h => h, rfl, fun _ _ _ _ _ _ h => h⟩
              simp only [putL, Act.put, List.getD_cons_zero, List.getD_cons_succ, List.setIfInBounds_toArray, List.set_cons_zero, List.set_cons_succ]
            · obtain rfl : u6 = .slice (some ad) m c := hp 6 (by kernel_rfl) (.inr (by decide))
              obtain rfl : u7 = .int .i64 (k : Int) := hp 7 (by kernel_rfl) (.inr (by decide))
              clear hS hp
              refine wpOp_step rfl (fun K hK => ?_)
              simp only [putL, Act.put, List.setIfInBounds_toArray, List.set_cons_zero, List.set_cons_succ]
              go_simp
              refine hK _ _ ⟨.pointer (some (ad.add k)), ?_, fun _ _ h => h, rfl, fun _ _ _ _ _ _ h => h⟩
              simp only [putL, Act.put, List.getD_cons_zero, List.getD_cons_succ, List.setIfInBounds_toArray, List.set_cons_zero, List.set_cons_succ]
            · obtain rfl : u8 = .pointer (some (ad.add k)) := hp 8 (by kernel_rfl) (.inr (by decide))
              have HS : Mx w v [] [⟨some ad, m, c, bys s⟩, ⟨A2, i, c2, nats P⟩] g m H (Sy.bld s n P m k i) [] := hS (.inl (by kernel_rfl))
              obtain ⟨ad', e', hx⟩ := HS.ow.byteL 0 rfl (Sy.wd_lt (l := s) (i := k) (by rw [HM.out]; exact hkm))
              obtain rfl := Option.some.inj e'
              rw [HY.out] at hx
              clear hS hp
              refine wpOp_step rfl (fun K hK => ?_)
              simp only [putL, Act.put, List.setIfInBounds_toArray, List.set_cons_zero, List.set_cons_succ]
              go_simp
              refine hK _ _ ⟨.int .u8 (y.toNat : Int), ?_, fun _ _ h => h, rfl, fun _ _ _ _ _ _ h => h⟩
              simp only [putL, Act.put, List.getD_cons_zero, List.getD_cons_succ, List.setIfInBounds_toArray, List.set_cons_zero, List.set_cons_succ]
            · obtain rfl : u9 = .int .u8 (y.toNat : Int) := hp 9 (by kernel_rfl) (.inr (by decide))
              clear hS hp
              refine wpOp_step rfl (fun K hK => ?_)
              simp only [putL, Act.put, List.setIfInBounds_toArray, List.set_cons_zero, List.set_cons_succ]
              go_simp
              refine hK _ _ ⟨.slice (some ⟨v.heap.size, 0, none⟩) 1 1, ?_, fun _ _ h => Mx.go h (own_box1 _ _), ⟨v.heap.size, rfl, (sl_new1 v _ _).more (by simp)⟩, fun i y _ _ _ _ h => mgPr_go (own_box1 _ _) i y h⟩
              simp only [putL, Act.put, List.getD_cons_zero, List.getD_cons_succ, List.setIfInBounds_toArray, List.set_cons_zero, List.set_cons_succ]
            · obtain rfl : u5 = .slice Ak i ck := hp 5 (by kernel_rfl) (.inr (by decide))
              obtain ⟨b0, rfl, hsl⟩ : ∃ b0 : Nat, u10 = .slice (some ⟨b0, 0, none⟩) 1 1 ∧ Sl v v.heap.size (some ⟨b0, 0, none⟩) [.int .u8 (y.toNat : Int)] := hp 10 (by kernel_rfl) (.inl (by decide))
              have HS : Mx w v [] [⟨some ad, m, c, bys s⟩, ⟨A2, i, c2, nats P⟩] g m H (Sy.bld s n P m k i) [] := hS (.inr (.inl (by decide)))
              clear hS hp
              refine wpOp_step rfl (fun K hK => ?_)
              simp only [putL, Act.put, List.setIfInBounds_toArray, List.set_cons_zero, List.set_cons_succ]
              refine owp_append elemB HS.ow (k + 1) (.tmp 63) (.tmp 68) HAt.out (m := 1) (news := [.int .u8 (y.toNat : Int)]) rfl hsl (fun u hu => by rw [List.mem_singleton] at hu; subst hu; rfl) (by unfold maxLen; omega) (by omega) rfl rfl rfl ?_
              intro A' c' v' how
              have e1 : bys (Sy.powR n P k) ++ [Value.int .u8 (y.toNat : Int)] = bys (Sy.powR n P k ++ [y]) := by simp [bys, encB]
              rw [e1] at how
              refine hK _ _ ⟨.slice A' (i + 1) c', ?_, fun h => absurd rfl h, ⟨A', c', rfl, how⟩, fun j y' hj hk' ha hb h => ?_⟩
              · show Act.put _ (some 69) (.slice A' (i + 1) c') = _
                simp only [putL, Act.put, List.getD_cons_zero, List.getD_cons_succ, List.setIfInBounds_toArray, List.set_cons_zero, List.set_cons_succ]
              rcases j with _ | _ | _ | _ | _ | _ | _ | _ | _ | _ | _ | _ | _ | _ | j
              · exact h
              · exact h
              · exact h
              · exact h
              · exact h
              · exact h
              · exact h
              · exact h
              · exact h
              · exact h
              · exact absurd rfl hk'
              · exact absurd rfl hj
              · exact h
              · exact absurd (ha.symm.trans (show _ = true by kernel_rfl)) (by decide)
              · trivial
            · obtain rfl : u0 = .slice (some ⟨g, 0, none⟩) m m := hp 0 (by kernel_rfl) (.inr (by decide))
              obtain rfl : u1 = .int .i64 (k : Int) := hp 1 (by kernel_rfl) (.inr (by decide))
              clear hS hp
              refine wpOp_step rfl (fun K hK => ?_)
              simp only [putL, Act.put, List.setIfInBounds_toArray, List.set_cons_zero, List.set_cons_succ]
              go_simp
              refine hK _ _ ⟨.pointer (some ⟨g, k, none⟩), ?_, fun _ _ h => h, rfl, fun _ _ _ _ _ _ h => h⟩
              simp only [putL, Act.put, List.getD_cons_zero, List.getD_cons_succ, List.setIfInBounds_toArray, List.set_cons_zero, List.set_cons_succ]
            · obtain rfl : u12 = .pointer (some ⟨g, k, none⟩) := hp 12 (by kernel_rfl) (.inr (by decide))
              obtain ⟨A', c', rfl, how⟩ : ∃ (A' : Option Addr) (c' : Nat), u11 = .slice A' (i + 1) c' ∧ Ow w v none [] [⟨some ad, m, c, bys s⟩, ⟨A2, i, c2, nats P⟩] ((outR g m H (Sy.bld s n P m k i) :: (mkRs H (Sy.bld s n P m k i) ++ [])).set (k + 1) ⟨A', i + 1, c', 5, bys (Sy.powR n P k ++ [y])⟩) := hp 11 (by kernel_rfl) (.inl (by decide))
              have hcn := (how.row 0 rfl).cellAt k (by omega)
              rw [HGt.out] at hcn
              have hfn := (how.row 0 rfl).frozenAt k
              have h5 := HX.out.grow hkm (r := Sy.powR n P k ++ [y]) (n' := i + 1) (by rw [List.length_append, HLn.out]; rfl) how
              rw [← HY.out, Sy.bld_next s n P hkm] at h5
              clear hS hp
              refine wpOp_step rfl (fun K hK => ?_)
              simp only [putL, Act.put, List.setIfInBounds_toArray, List.set_cons_zero, List.set_cons_succ]
              go_simp
              refine hK _ _ ⟨undef, ?_, fun _ ha _ => absurd (ha.symm.trans (show _ = true by kernel_rfl)) (by decide), ⟨_, h5⟩, fun j y' hj hk' ha hb h => ?_⟩
              · simp only [putL, Act.put, List.getD_cons_zero, List.getD_cons_succ, List.setIfInBounds_toArray, List.set_cons_zero, List.set_cons_succ]
              rcases j with _ | _ | _ | _ | _ | _ | _ | _ | _ | _ | _ | _ | _ | _ | j
              · exact h
              · exact h
              · exact h
              · exact h
              · exact h
              · exact h
              · exact h
              · exact h
              · exact h
              · exact h
              · exact absurd (hb.symm.trans (show _ = true by kernel_rfl)) (by decide)
              · exact absurd rfl hk'
              · exact h
              · exact absurd rfl hj
              · trivial
          · rintro us v hl hS hP
            replace hl : us.length = 14 := hl
            obtain ⟨u0, us0, rfl, hl0⟩ := us_cons (n := 13) hl
            obtain ⟨u1, us1, rfl, hl1⟩ := us_cons (n := 12) hl0
            obtain ⟨u2, us2, rfl, hl2⟩ := us_cons (n := 11) hl1
            obtain ⟨u3, us3, rfl, hl3⟩ := us_cons (n := 10) hl2
            obtain ⟨u4, us4, rfl, hl4⟩ := us_cons (n := 9) hl3
            obtain ⟨u5, us5, rfl, hl5⟩ := us_cons (n := 8) hl4
            obtain ⟨u6, us6, rfl, hl6⟩ := us_cons (n := 7) hl5
            obtain ⟨u7, us7, rfl, hl7⟩ := us_cons (n := 6) hl6
            obtain ⟨u8, us8, rfl, hl8⟩ := us_cons (n := 5) hl7
            obtain ⟨u9, us9, rfl, hl9⟩ := us_cons (n := 4) hl8
            obtain ⟨u10, us10, rfl, hl10⟩ := us_cons (n := 3) hl9
            obtain ⟨u11, us11, rfl, hl11⟩ := us_cons (n := 2) hl10
            obtain ⟨u12, us12, rfl, hl12⟩ := us_cons (n := 1) hl11
            obtain ⟨u13, us13, rfl, hl13⟩ := us_cons (n := 0) hl12
            obtain rfl := us_nil hl13
            obtain ⟨H', h5⟩ : ∃ H' : List (Option Addr × Nat), Mx w v [] [⟨some ad, m, c, bys s⟩, ⟨A2, i, c2, nats P⟩] g m H' (Sy.bld s n P m (k + 1) 0) [] := hP 13 (by show 13 < 14; decide) (by decide)
            clear hS hP
            simp only [putL, Act.put, List.setIfInBounds_toArray, List.set_cons_zero, List.set_cons_succ]
            go_wp2_with fail
            go_roundw
            case rel => exact ⟨k + 1, H', by omega, by go_num, h5⟩
            case measure => simp [intOf]; omega
    · have hd : decide ((k : Int) < (m : Int)) = false := decide_eq_false (by omega)
      have hdN : decide (k < m) = false := decide_eq_false (by omega)
      have hwN : decide (m < nw) = false := decide_eq_false (by omega)
      have hkm2 : k = m := by omega
      have HX0 : Hid (Mx w wr [] [⟨A, m, c, bys s⟩, ⟨A2, nw, c2, nats P⟩] g m H (Sy.rows0 s n P) []) := by
        have h5 := HX.out
        rw [hkm2, Sy.bld_all s n P HM.out] at h5
        exact h5
      have hwm2 : decide ((m : Int) < (nw : Int)) = false := decide_eq_false (by omega)
      have HW0 : Hid (Sy.Wid (Sy.rows0 s n P) (nw + 1)) := by have h5 := Sy.wid_rows0 s n P; rw [HW.out] at h5; exact h5
      obtain ⟨R0, hR0⟩ : ∃ R0, R0 = Sy.rows0 s n P := ⟨_, rfl⟩
      rw [← hR0] at HX0 HW0 ⊢
      have HR0 := Lib.hid hR0
      clear HX hR0 hkm2
      go_wp2_with fail
      go_loopw [79] (fun v wr => RMc w [⟨A, m, c, bys s⟩, ⟨A2, nw, c2, nats P⟩] g m nw R0 v wr) (fun v _ => nw - (intOf v).toNat)
      case atStart => exact ⟨0, R0, H, Nat.zero_le _, rfl, rfl, HX0.out⟩
      case round =>
        clear HX0
        obtain ⟨cc, R, H, hcc0, rfl, HE, HX⟩ := hrel
        have HEl := Lib.hid (Sy.elim_ok HW0.out cc hcc0 R HE.out)
        have HWd : Hid (∀ k, k < m → (Sy.rw_ R k).length = nw + 1) := fun k hk => HEl.out.wid k (by rw [HX.out.rl]; exact hk)
        rcases Nat.lt_or_ge cc nw with hcn | hcn
        · have hd2 : decide ((cc : Int) < (nw : Int)) = true := decide_eq_true (by omega)
          have HX2 := Lib.hid (HX.out.boxed (.int .i64 (cc : Int)) 3)
          have HS := HX.out.ow.size
          clear HX
          go_upto_region 19 with fail
          obtain ⟨w2, hw2⟩ : ∃ W, W = wr.alloc (.cells #[.int .i64 (cc : Int)] 3) := ⟨_, rfl⟩
          obtain ⟨cb, hcb⟩ : ∃ cb, cb = wr.heap.size := ⟨_, rfl⟩
          rw [← hw2] at HX2 ⊢
          rw [← hcb] at HX2 ⊢
          have HX2 : Hid (Mx w w2 [(cb, .int .i64 (cc : Int))] [⟨A, m, c, bys s⟩, ⟨A2, nw, c2, nats P⟩] g m H R []) := HX2
          clear hw2 hcb HS
          have hcc := HX2.out.ow.cell 0 rfl
          cases hpv : Sy.piv cc R with
          | none =>
            have HN : Hid (Sy.solve R0 nw = none) := by
              unfold Hid Sy.solve
              have e1 : Sy.elim R0 (cc + 1) = none := by
                show (match Sy.elim R0 cc with | none => none | some R => match Sy.piv cc R with | none => none | some p => some (Sy.stepC R cc p)) = none
                rw [HE.out]
                dsimp only
                rw [hpv]
              have e2 := Sy.elim_fail R0 (nw - (cc + 1)) (cc + 1) e1
              rw [show cc + 1 + (nw - (cc + 1)) = nw by omega] at e2
              rw [e2]
            have HPv := Lib.hid hpv
            clear hpv
            go_wp2_with (refine (pivot_ow HX2.out 0 rfl HWd.out (by omega) (by omega) (by omega)).mono ?_; rintro e w' ⟨⟨p, h1, -⟩ | ⟨-, rfl⟩, rfl⟩; · exact absurd (h1.symm.trans HPv.out) (by simp))
            go_ret2
            rw [← HR0.out]
            exact ⟨_, _, _, false, rfl, HX2.out.ow.below, .inr ⟨rfl, HN.out⟩⟩
          | some p =>
            obtain ⟨hp1, hp2, hp3, -⟩ := Sy.piv_some hpv
            rw [HX2.out.rl] at hp2
            have HE2 : Hid (Sy.elim R0 (cc + 1) = some (Sy.stepC R cc p)) := by
              unfold Hid
              show (match Sy.elim R0 cc with | none => none | some R => match Sy.piv cc R with | none => none | some p => some (Sy.stepC R cc p)) = _
              rw [HE.out]
              dsimp only
              rw [hpv]
            obtain ⟨i, rfl⟩ : ∃ i, p = cc + i := ⟨p - cc, by omega⟩
            have HNZ := Lib.hid hp3
            have HPv := Lib.hid hpv
            clear hpv hp3
            have HPc : Hid (Calls Tryz.prog 113 #[.slice (some ⟨g, cc, none⟩) (m - cc) (m - cc), .func (.func 114) #[] #[.pointer (some ⟨cb, 0, none⟩)]] w2 fun e w' => e = .returned (.int .i64 (i : Int)) ∧ w2 = w') := by
              refine (pivot_ow HX2.out 0 rfl HWd.out (by omega) (by omega) (by omega)).mono ?_
              rintro e w' ⟨⟨p, h1, rfl⟩ | ⟨h1, -⟩, h2⟩
              · obtain rfl : cc + i = p := Option.some.inj (HPv.out.symm.trans h1)
                rw [Nat.add_sub_cancel_left]
                exact ⟨rfl, h2⟩
              · exact absurd (h1.symm.trans HPv.out) (by simp)
            go_upto_region 22 with (refine HPc.out.mono ?_; rintro e w' ⟨rfl, rfl⟩)
            clear HPc
            obtain ⟨⟨Ap, cp⟩, hAp⟩ : ∃ h, h = hAt H (cc + i) := ⟨_, rfl⟩
            obtain ⟨⟨Ac, c0⟩, hAc⟩ : ∃ h, h = hAt H cc := ⟨_, rfl⟩
            have ehp : ((.slice Ap (nw + 1) cp) : Value) = hdr (hAt H (cc + i)) (Sy.rw_ R (cc + i)) := by unfold hdr; rw [← hAp, HWd.out _ hp2]
            have ehc : ((.slice Ac (nw + 1) c0) : Value) = hdr (hAt H cc) (Sy.rw_ R cc) := by unfold hdr; rw [← hAc, HWd.out _ (by omega)]
            clear hAp hAc
            have hdc : w2.cell? ⟨g, cc, none⟩ = some (.slice Ac (nw + 1) c0) := by rw [ehc]; exact HX2.out.hd (k := cc) (by omega)
            have hdp : w2.cell? ⟨g, cc + i, none⟩ = some (.slice Ap (nw + 1) cp) := by rw [ehp]; exact HX2.out.hd (k := cc + i) (by omega)
            have hfc := HX2.out.hf cc
            have hfp := HX2.out.hf (cc + i)
            have s1 : IntKind.i64.wrap ((cc : Int) + (i : Int)) = (cc : Int) + (i : Int) := IntWalk.i64_in _ (by omega)
            have s2 : 0 ≤ (cc : Int) + (i : Int) := by omega
            have s3 : (cc : Int) + (i : Int) < (m : Int) := by omega
            have s4 : ((cc : Int) + (i : Int)).toNat = cc + i := by omega
            have s5 : (cc : Int) < (m : Int) := by omega
            have hln : (hdrs H R).length = m := by unfold hdrs; rw [List.length_zipWith, HX2.out.hl, HX2.out.rl]; omega
            obtain ⟨v1, hv1⟩ : ∃ v1, (w2.setCell ⟨g, cc, none⟩ (.slice Ap (nw + 1) cp)).cell? ⟨g, cc + i, none⟩ = some v1 := by
              have o1 := HX2.out.ow.put 0 rfl cc (.slice Ap (nw + 1) cp)
              exact ⟨_, ((o1.row 0 rfl).cellAt (cc + i) (by omega)).trans (List.getElem?_eq_getElem (by rw [List.length_set]; omega))⟩
            have hcg : (⟨cb, 0, none⟩ : Addr) ≠ ⟨g, cc, none⟩ := fun e => (HX2.out.ow.ap 0 _ rfl g rfl).2.1 0 cb _ rfl (by injection e with e1; exact e1.symm)
            have hcg2 : (⟨cb, 0, none⟩ : Addr) ≠ ⟨g, cc + i, none⟩ := fun e => (HX2.out.ow.ap 0 _ rfl g rfl).2.1 0 cb _ rfl (by injection e with e1; exact e1.symm)
            have HCG := Lib.hid (And.intro hcg hcg2)
            have HEH := Lib.hid (And.intro ehp ehc)
            clear hln hcg hcg2 ehp ehc
            refine reg_monoT [some 89, some 90, some 91, some 92, some 93, some 94, some 95, some 96, some 97, some 98, some 99, some 100, some 101, some 102, some 103, some 104, some 105, none, some 106, none] (fun v => v.cell? ⟨cb, 0, none⟩ = some (.int .i64 (cc : Int))) (fun v => v = w2.drew) 17 (fun i => if i = 17 then 19 else 20) (swPr g m cc i (.slice Ap (nw + 1) cp) (.slice Ac (nw + 1) c0) ((w2.setCell ⟨g, cc, none⟩ (.slice Ap (nw + 1) cp)).drew) (((w2.setCell ⟨g, cc, none⟩ (.slice Ap (nw + 1) cp)).setCell ⟨g, cc + i, none⟩ (.slice Ac (nw + 1) c0)).drew)) (by kernel_rfl) (by kernel_rfl) (by kernel_rfl) ?_ ?_ ?_ ?_
            · exact HX2.out.ow.cell 0 rfl
            · exact rfl
            · rintro j us v hj hl hT hS hp
              replace hl : us.length = 20 := hl
              obtain ⟨u0, us0, rfl, hl0⟩ := us_cons (n := 19) hl
              obtain ⟨u1, us1, rfl, hl1⟩ := us_cons (n := 18) hl0
              obtain ⟨u2, us2, rfl, hl2⟩ := us_cons (n := 17) hl1
              obtain ⟨u3, us3, rfl, hl3⟩ := us_cons (n := 16) hl2
              obtain ⟨u4, us4, rfl, hl4⟩ := us_cons (n := 15) hl3
              obtain ⟨u5, us5, rfl, hl5⟩ := us_cons (n := 14) hl4
              obtain ⟨u6, us6, rfl, hl6⟩ := us_cons (n := 13) hl5
              obtain ⟨u7, us7, rfl, hl7⟩ := us_cons (n := 12) hl6
              obtain ⟨u8, us8, rfl, hl8⟩ := us_cons (n := 11) hl7
              obtain ⟨u9, us9, rfl, hl9⟩ := us_cons (n := 10) hl8
              obtain ⟨u10, us10, rfl, hl10⟩ := us_cons (n := 9) hl9
              obtain ⟨u11, us11, rfl, hl11⟩ := us_cons (n := 8) hl10
              obtain ⟨u12, us12, rfl, hl12⟩ := us_cons (n := 7) hl11
              obtain ⟨u13, us13, rfl, hl13⟩ := us_cons (n := 6) hl12
              obtain ⟨u14, us14, rfl, hl14⟩ := us_cons (n := 5) hl13
              obtain ⟨u15, us15, rfl, hl15⟩ := us_cons (n := 4) hl14
              obtain ⟨u16, us16, rfl, hl16⟩ := us_cons (n := 3) hl15
              obtain ⟨u17, us17, rfl, hl17⟩ := us_cons (n := 2) hl16
              obtain ⟨u18, us18, rfl, hl18⟩ := us_cons (n := 1) hl17
              obtain ⟨u19, us19, rfl, hl19⟩ := us_cons (n := 0) hl18
              obtain rfl := us_nil hl19
              have hj' : j < 20 := hj
              have hcase : j = 0 ∨ j = 1 ∨ j = 2 ∨ j = 3 ∨ j = 4 ∨ j = 5 ∨ j = 6 ∨ j = 7 ∨ j = 8 ∨ j = 9 ∨ j = 10 ∨ j = 11 ∨ j = 12 ∨ j = 13 ∨ j = 14 ∨ j = 15 ∨ j = 16 ∨ j = 17 ∨ j = 18 ∨ j = 19 := by omega
              clear hj hj'
              rcases hcase with rfl | rfl | rfl | rfl | rfl | rfl | rfl | rfl | rfl | rfl | rfl | rfl | rfl | rfl | rfl | rfl | rfl | rfl | rfl | rfl
              · clear hS hp
                refine wpOp_step rfl (fun K hK => ?_)
                simp only [putL, Act.put, List.setIfInBounds_toArray, List.set_cons_zero, List.set_cons_succ]
                go_simp
                refine hK _ _ ⟨.slice (some ⟨g, 0, none⟩) m m, ?_, hT, fun _ _ h => h, rfl, fun _ _ _ _ _ _ h => h⟩
                simp only [putL, Act.put, List.getD_cons_zero, List.setIfInBounds_toArray, List.set_cons_zero, List.set_cons_succ]
              · clear hS hp
                refine wpOp_step rfl (fun K hK => ?_)
                simp only [putL, Act.put, List.setIfInBounds_toArray, List.set_cons_zero, List.set_cons_succ]
                go_simp
                refine hK _ _ ⟨.int .i64 (cc : Int), ?_, hT, fun _ _ h => h, rfl, fun _ _ _ _ _ _ h => h⟩
                simp only [putL, Act.put, List.getD_cons_zero, List.getD_cons_succ, List.setIfInBounds_toArray, List.set_cons_zero, List.set_cons_succ]
              · clear hS hp
                refine wpOp_step rfl (fun K hK => ?_)
                simp only [putL, Act.put, List.setIfInBounds_toArray, List.set_cons_zero, List.set_cons_succ]
                go_simp
                refine hK _ _ ⟨.slice (some ⟨g, 0, none⟩) m m, ?_, hT, fun _ _ h => h, rfl, fun _ _ _ _ _ _ h => h⟩
                simp only [putL, Act.put, List.getD_cons_zero, List.getD_cons_succ, List.setIfInBounds_toArray, List.set_cons_zero, List.set_cons_succ]
              · clear hS hp
                refine wpOp_step rfl (fun K hK => ?_)
                simp only [putL, Act.put, List.setIfInBounds_toArray, List.set_cons_zero, List.set_cons_succ]
                go_simp
                refine hK _ _ ⟨.int .i64 (cc : Int), ?_, hT, fun _ _ h => h, rfl, fun _ _ _ _ _ _ h => h⟩
                simp only [putL, Act.put, List.getD_cons_zero, List.getD_cons_succ, List.setIfInBounds_toArray, List.set_cons_zero, List.set_cons_succ]
              · clear hS hp
                refine wpOp_step rfl (fun K hK => ?_)
                simp only [putL, Act.put, List.setIfInBounds_toArray, List.set_cons_zero, List.set_cons_succ]
                go_simp
                refine hK _ _ ⟨.int .i64 (i : Int), ?_, hT, fun _ _ h => h, rfl, fun _ _ _ _ _ _ h => h⟩
                simp only [putL, Act.put, List.getD_cons_zero, List.getD_cons_succ, List.setIfInBounds_toArray, List.set_cons_zero, List.set_cons_succ]
              · obtain rfl : u3 = .int .i64 (cc : Int) := hp 3 (by kernel_rfl) (.inr (by decide))
                obtain rfl : u4 = .int .i64 (i : Int) := hp 4 (by kernel_rfl) (.inr (by decide))
                clear hS hp
                refine wpOp_step rfl (fun K hK => ?_)
                simp only [putL, Act.put, List.setIfInBounds_toArray, List.set_cons_zero, List.set_cons_succ]
                go_simp
                refine hK _ _ ⟨.int .i64 ((cc : Int) + (i : Int)), ?_, hT, fun _ _ h => h, rfl, fun _ _ _ _ _ _ h => h⟩
                simp only [putL, Act.put, List.getD_cons_zero, List.getD_cons_succ, List.setIfInBounds_toArray, List.set_cons_zero, List.set_cons_succ]
              · clear hS hp
                refine wpOp_step rfl (fun K hK => ?_)
                simp only [putL, Act.put, List.setIfInBounds_toArray, List.set_cons_zero, List.set_cons_succ]
                go_simp
                refine hK _ _ ⟨.slice (some ⟨g, 0, none⟩) m m, ?_, hT, fun _ _ h => h, rfl, fun _ _ _ _ _ _ h => h⟩
                simp only [putL, Act.put, List.getD_cons_zero, List.getD_cons_succ, List.setIfInBounds_toArray, List.set_cons_zero, List.set_cons_succ]
              · clear hS hp
                refine wpOp_step rfl (fun K hK => ?_)
                simp only [putL, Act.put, List.setIfInBounds_toArray, List.set_cons_zero, List.set_cons_succ]
                go_simp
                refine hK _ _ ⟨.int .i64 (cc : Int), ?_, hT, fun _ _ h => h, rfl, fun _ _ _ _ _ _ h => h⟩
                simp only [putL, Act.put, List.getD_cons_zero, List.getD_cons_succ, List.setIfInBounds_toArray, List.set_cons_zero, List.set_cons_succ]
              · clear hS hp
                refine wpOp_step rfl (fun K hK => ?_)
                simp only [putL, Act.put, List.setIfInBounds_toArray, List.set_cons_zero, List.set_cons_succ]
                go_simp
                refine hK _ _ ⟨.int .i64 (i : Int), ?_, hT, fun _ _ h => h, rfl, fun _ _ _ _ _ _ h => h⟩
                simp only [putL, Act.put, List.getD_cons_zero, List.getD_cons_succ, List.setIfInBounds_toArray, List.set_cons_zero, List.set_cons_succ]
              · obtain rfl : u7 = .int .i64 (cc : Int) := hp 7 (by kernel_rfl) (.inr (by decide))
                obtain rfl : u8 = .int .i64 (i : Int) := hp 8 (by kernel_rfl) (.inr (by decide))
                clear hS hp
                refine wpOp_step rfl (fun K hK => ?_)
                simp only [putL, Act.put, List.setIfInBounds_toArray, List.set_cons_zero, List.set_cons_succ]
                go_simp
                refine hK _ _ ⟨.int .i64 ((cc : Int) + (i : Int)), ?_, hT, fun _ _ h => h, rfl, fun _ _ _ _ _ _ h => h⟩
                simp only [putL, Act.put, List.getD_cons_zero, List.getD_cons_succ, List.setIfInBounds_toArray, List.set_cons_zero, List.set_cons_succ]
              · obtain rfl : u6 = .slice (some ⟨g, 0, none⟩) m m := hp 6 (by kernel_rfl) (.inr (by decide))
                obtain rfl : u9 = .int .i64 ((cc : Int) + (i : Int)) := hp 9 (by kernel_rfl) (.inr (by decide))
                clear hS hp
                refine wpOp_step rfl (fun K hK => ?_)
                simp only [putL, Act.put, List.setIfInBounds_toArray, List.set_cons_zero, List.set_cons_succ]
                go_simp
                refine hK _ _ ⟨.pointer (some ⟨g, cc + i, none⟩), ?_, hT, fun _ _ h => h, rfl, fun _ _ _ _ _ _ h => h⟩
                simp only [putL, Act.put, List.getD_cons_zero, List.getD_cons_succ, List.setIfInBounds_toArray, List.set_cons_zero, List.set_cons_succ]
              · obtain rfl : u10 = .pointer (some ⟨g, cc + i, none⟩) := hp 10 (by kernel_rfl) (.inr (by decide))
                obtain rfl : v = w2.drew := hS (.inl (by kernel_rfl))
                clear hS hp
                refine wpOp_step rfl (fun K hK => ?_)
                simp only [putL, Act.put, List.setIfInBounds_toArray, List.set_cons_zero, List.set_cons_succ]
                go_simp
                refine hK _ _ ⟨(.slice Ap (nw + 1) cp), ?_, hT, fun _ _ h => h, rfl, fun _ _ _ _ _ _ h => h⟩
                simp only [putL, Act.put, List.getD_cons_zero, List.getD_cons_succ, List.setIfInBounds_toArray, List.set_cons_zero, List.set_cons_succ]
              · clear hS hp
                refine wpOp_step rfl (fun K hK => ?_)
                simp only [putL, Act.put, List.setIfInBounds_toArray, List.set_cons_zero, List.set_cons_succ]
                go_simp
                refine hK _ _ ⟨.slice (some ⟨g, 0, none⟩) m m, ?_, hT, fun _ _ h => h, rfl, fun _ _ _ _ _ _ h => h⟩
                simp only [putL, Act.put, List.getD_cons_zero, List.getD_cons_succ, List.setIfInBounds_toArray, List.set_cons_zero, List.set_cons_succ]
              · clear hS hp
                refine wpOp_step rfl (fun K hK => ?_)
                simp only [putL, Act.put, List.setIfInBounds_toArray, List.set_cons_zero, List.set_cons_succ]
                go_simp
                refine hK _ _ ⟨.int .i64 (cc : Int), ?_, hT, fun _ _ h => h, rfl, fun _ _ _ _ _ _ h => h⟩
                simp only [putL, Act.put, List.getD_cons_zero, List.getD_cons_succ, List.setIfInBounds_toArray, List.set_cons_zero, List.set_cons_succ]
              · obtain rfl : u12 = .slice (some ⟨g, 0, none⟩) m m := hp 12 (by kernel_rfl) (.inr (by decide))
                obtain rfl : u13 = .int .i64 (cc : Int) := hp 13 (by kernel_rfl) (.inr (by decide))
                clear hS hp
                refine wpOp_step rfl (fun K hK => ?_)
                simp only [putL, Act.put, List.setIfInBounds_toArray, List.set_cons_zero, List.set_cons_succ]
                go_simp
                refine hK _ _ ⟨.pointer (some ⟨g, cc, none⟩), ?_, hT, fun _ _ h => h, rfl, fun _ _ _ _ _ _ h => h⟩
                simp only [putL, Act.put, List.getD_cons_zero, List.getD_cons_succ, List.setIfInBounds_toArray, List.set_cons_zero, List.set_cons_succ]
              · obtain rfl : u14 = .pointer (some ⟨g, cc, none⟩) := hp 14 (by kernel_rfl) (.inr (by decide))
                obtain rfl : v = w2.drew := hS (.inl (by kernel_rfl))
                clear hS hp
                refine wpOp_step rfl (fun K hK => ?_)
                simp only [putL, Act.put, List.setIfInBounds_toArray, List.set_cons_zero, List.set_cons_succ]
                go_simp
                refine hK _ _ ⟨(.slice Ac (nw + 1) c0), ?_, hT, fun _ _ h => h, rfl, fun _ _ _ _ _ _ h => h⟩
                simp only [putL, Act.put, List.getD_cons_zero, List.getD_cons_succ, List.setIfInBounds_toArray, List.set_cons_zero, List.set_cons_succ]
              · obtain rfl : u0 = .slice (some ⟨g, 0, none⟩) m m := hp 0 (by kernel_rfl) (.inr (by decide))
                obtain rfl : u1 = .int .i64 (cc : Int) := hp 1 (by kernel_rfl) (.inr (by decide))
                clear hS hp
                refine wpOp_step rfl (fun K hK => ?_)
                simp only [putL, Act.put, List.setIfInBounds_toArray, List.set_cons_zero, List.set_cons_succ]
                go_simp
                refine hK _ _ ⟨.pointer (some ⟨g, cc, none⟩), ?_, hT, fun _ _ h => h, rfl, fun _ _ _ _ _ _ h => h⟩
                simp only [putL, Act.put, List.getD_cons_zero, List.getD_cons_succ, List.setIfInBounds_toArray, List.set_cons_zero, List.set_cons_succ]
              · obtain rfl : u16 = .pointer (some ⟨g, cc, none⟩) := hp 16 (by kernel_rfl) (.inr (by decide))
                obtain rfl : u11 = (.slice Ap (nw + 1) cp) := hp 11 (by kernel_rfl) (.inr (by decide))
                obtain rfl : v = w2.drew := hS (.inr (.inl rfl))
                clear hS hp
                refine wpOp_step rfl (fun K hK => ?_)
                simp only [putL, Act.put, List.setIfInBounds_toArray, List.set_cons_zero, List.set_cons_succ]
                go_simp
                refine hK _ _ ⟨undef, ?_, (World.cell?_setCell_other _ _ _ _ HCG.out.1.symm).trans hT, fun h => absurd rfl h, rfl, fun j' y hj hk ha hb h => ?_⟩
                · simp only [putL, Act.put, List.getD_cons_zero, List.getD_cons_succ, List.setIfInBounds_toArray, List.set_cons_zero, List.set_cons_succ]
                rcases j' with _ | _ | _ | _ | _ | _ | _ | _ | _ | _ | _ | _ | _ | _ | _ | _ | _ | _ | _ | _ | j'
                · exact h
                · exact h
                · exact h
                · exact h
                · exact h
                · exact h
                · exact h
                · exact h
                · exact h
                · exact h
                · exact h
                · exact h
                · exact h
                · exact h
                · exact h
                · exact h
                · exact h
                · exact absurd rfl hj
                · exact h
                · exact absurd (ha.symm.trans (show _ = true by kernel_rfl)) (by decide)
                · trivial
              · obtain rfl : u2 = .slice (some ⟨g, 0, none⟩) m m := hp 2 (by kernel_rfl) (.inr (by decide))
                obtain rfl : u5 = .int .i64 ((cc : Int) + (i : Int)) := hp 5 (by kernel_rfl) (.inr (by decide))
                clear hS hp
                refine wpOp_step rfl (fun K hK => ?_)
                simp only [putL, Act.put, List.setIfInBounds_toArray, List.set_cons_zero, List.set_cons_succ]
                go_simp
                refine hK _ _ ⟨.pointer (some ⟨g, cc + i, none⟩), ?_, hT, fun _ _ h => h, rfl, fun _ _ _ _ _ _ h => h⟩
                simp only [putL, Act.put, List.getD_cons_zero, List.getD_cons_succ, List.setIfInBounds_toArray, List.set_cons_zero, List.set_cons_succ]
              · obtain rfl : u18 = .pointer (some ⟨g, cc + i, none⟩) := hp 18 (by kernel_rfl) (.inr (by decide))
                obtain rfl : u15 = (.slice Ac (nw + 1) c0) := hp 15 (by kernel_rfl) (.inr (by decide))
                obtain rfl : v = (w2.setCell ⟨g, cc, none⟩ (.slice Ap (nw + 1) cp)).drew := hp 17 (by kernel_rfl) (.inl (by decide))
                clear hS hp
                refine wpOp_step rfl (fun K hK => ?_)
                simp only [putL, Act.put, List.setIfInBounds_toArray, List.set_cons_zero, List.set_cons_succ]
                go_simp
                refine hK _ _ ⟨undef, ?_, (World.cell?_setCell_other _ _ _ _ HCG.out.2.symm).trans hT, fun _ ha _ => absurd (ha.symm.trans (show _ = true by kernel_rfl)) (by decide), rfl, fun j' y hj hk ha hb h => ?_⟩
                · simp only [putL, Act.put, List.getD_cons_zero, List.getD_cons_succ, List.setIfInBounds_toArray, List.set_cons_zero, List.set_cons_succ]
                rcases j' with _ | _ | _ | _ | _ | _ | _ | _ | _ | _ | _ | _ | _ | _ | _ | _ | _ | _ | _ | _ | j'
                · exact h
                · exact h
                · exact h
                · exact h
                · exact h
                · exact h
                · exact h
                · exact h
                · exact h
                · exact h
                · exact h
                · exact h
                · exact h
                · exact h
                · exact h
                · exact h
                · exact h
                · exact absurd rfl hk
                · exact h
                · exact absurd rfl hj
                · trivial
            · rintro us v hl hT hS hP
              replace hl : us.length = 20 := hl
              obtain ⟨u0, us0, rfl, hl0⟩ := us_cons (n := 19) hl
              obtain ⟨u1, us1, rfl, hl1⟩ := us_cons (n := 18) hl0
              obtain ⟨u2, us2, rfl, hl2⟩ := us_cons (n := 17) hl1
              obtain ⟨u3, us3, rfl, hl3⟩ := us_cons (n := 16) hl2
              obtain ⟨u4, us4, rfl, hl4⟩ := us_cons (n := 15) hl3
              obtain ⟨u5, us5, rfl, hl5⟩ := us_cons (n := 14) hl4
              obtain ⟨u6, us6, rfl, hl6⟩ := us_cons (n := 13) hl5
              obtain ⟨u7, us7, rfl, hl7⟩ := us_cons (n := 12) hl6
              obtain ⟨u8, us8, rfl, hl8⟩ := us_cons (n := 11) hl7
              obtain ⟨u9, us9, rfl, hl9⟩ := us_cons (n := 10) hl8
              obtain ⟨u10, us10, rfl, hl10⟩ := us_cons (n := 9) hl9
              obtain ⟨u11, us11, rfl, hl11⟩ := us_cons (n := 8) hl10
              obtain ⟨u12, us12, rfl, hl12⟩ := us_cons (n := 7) hl11
              obtain ⟨u13, us13, rfl, hl13⟩ := us_cons (n := 6) hl12
              obtain ⟨u14, us14, rfl, hl14⟩ := us_cons (n := 5) hl13
              obtain ⟨u15, us15, rfl, hl15⟩ := us_cons (n := 4) hl14
              obtain ⟨u16, us16, rfl, hl16⟩ := us_cons (n := 3) hl15
              obtain ⟨u17, us17, rfl, hl17⟩ := us_cons (n := 2) hl16
              obtain ⟨u18, us18, rfl, hl18⟩ := us_cons (n := 1) hl17
              obtain ⟨u19, us19, rfl, hl19⟩ := us_cons (n := 0) hl18
              obtain rfl := us_nil hl19
              obtain rfl : v = ((w2.setCell ⟨g, cc, none⟩ (.slice Ap (nw + 1) cp)).setCell ⟨g, cc + i, none⟩ (.slice Ac (nw + 1) c0)).drew := hP 19 (by show 19 < 20; decide) (by decide)
              clear hS hP
              simp only [putL, Act.put, List.setIfInBounds_toArray, List.set_cons_zero, List.set_cons_succ]
              have HX3 := HX2.out.swap (c := cc) (p := cc + i) (by omega) hp2 _ rfl
              rw [← HEH.out.1, ← HEH.out.2] at HX3
              obtain ⟨w3, hw3⟩ : ∃ W, W = ((w2.setCell ⟨g, cc, none⟩ (.slice Ap (nw + 1) cp)).setCell ⟨g, cc + i, none⟩ (.slice Ac (nw + 1) c0)).drew := ⟨_, rfl⟩
              have HX3 : Hid (Mx w w3 [(cb, .int .i64 (cc : Int))] [⟨A, m, c, bys s⟩, ⟨A2, nw, c2, nats P⟩] g m (swpA H (none, 0) cc (cc + i)) (Sy.swapR R cc (cc + i)) []) := by unfold Hid; rw [hw3]; exact HX3.go (Below.refl _ _).drew
              rw [← hw3]
              obtain ⟨H3, hH3⟩ : ∃ x, x = swpA H (none, 0) cc (cc + i) := ⟨_, rfl⟩
              obtain ⟨R3, hR3⟩ : ∃ x, x = Sy.swapR R cc (cc + i) := ⟨_, rfl⟩
              rw [← hH3, ← hR3] at HX3
              have HRow3 : Hid (∀ k, k < m → (Sy.rw_ R3 k).length = nw + 1) := by
                intro k hk
                rw [hR3, Sy.rw_swap (by rw [HX2.out.rl]; omega) (by rw [HX2.out.rl]; exact hp2)]
                split
                · exact HWd.out _ hp2
                · split
                  · exact HWd.out _ (by omega)
                  · exact HWd.out _ hk
              have HSt : Hid (Sy.stepC R cc (cc + i) = Sy.clearC (R3.set cc (Sy.scl (Sy.leadOf R3 cc) (Sy.rw_ R3 cc))) cc (Sy.rw_ (R3.set cc (Sy.scl (Sy.leadOf R3 cc) (Sy.rw_ R3 cc))) cc)) := by rw [hR3]; rfl
              clear hw3 hH3 hR3 hdc hdp hfc hfp hv1 s1 s2 s3 s4 HCG HEH HX2 hcc
              have hcc := HX3.out.ow.cell 0 rfl
              have hcm : cc < m := by omega
              obtain ⟨g3, c3, hg3⟩ := HX3.out.form hcm (by rw [HRow3.out cc hcm]; omega)
              have hh3 := HX3.out.hd hcm
              rw [hg3, HRow3.out cc hcm] at hh3
              obtain ⟨b, hb⟩ : ∃ b, b = Sy.wd (Sy.rw_ R3 cc) cc := ⟨_, rfl⟩
              have hb3 := HX3.out.byte hcm hg3 (q := cc) (Sy.wd_lt (by rw [HRow3.out cc hcm]; omega))
              rw [← hb] at hb3
              have s6 : (cc : Int) < ((nw + 1 : Nat) : Int) := by omega
              have HB := Lib.hid hb
              clear hb
              go_wp2_with fail
              go_quiet ((go_at_call 108; with_reducible exact quiet_left (inverse_any _ _)))
              obtain ⟨w4, hw4⟩ : ∃ W, W = w3.drewN nq := ⟨_, rfl⟩
              have HX4 := Lib.hid (HX3.out.drewN nq)
              rw [← hw4] at HX4 ⊢
              clear hw4 HX3 hh3 hb3 hcc
              have hcc := HX4.out.ow.cell 0 rfl
              have hh3 := HX4.out.hd hcm
              rw [hg3, HRow3.out cc hcm] at hh3
              have hat3 := HX4.out.at_ hcm
              unfold mkR at hat3
              rw [hg3, HRow3.out cc hcm] at hat3
              have HSc := Lib.hid (scale_ow HX4.out.ow (cc + 1) hat3 (by omega) (Gf.ginv b))
              have HG3 := Lib.hid hg3
              clear hat3 hg3
              go_wp2_with fail
              refine HSc.out.mono ?_
              rintro e w5 ⟨rfl, ho5⟩
              have HX5 := Lib.hid (HX4.out.turn hcm (r := Sy.scl (Gf.ginv b) (Sy.rw_ R3 cc)) (Sy.scl_length _ _) (by unfold mkR; rw [HG3.out, Sy.scl_length, HRow3.out cc hcm]; exact ho5))
              have hlead : Gf.ginv b = Sy.leadOf R3 cc := by rw [HB.out]; rfl
              rw [hlead] at HX5
              obtain ⟨R5, hR5⟩ : ∃ x, x = R3.set cc (Sy.scl (Sy.leadOf R3 cc) (Sy.rw_ R3 cc)) := ⟨_, rfl⟩
              have HRow5 : Hid (∀ k, k < m → (Sy.rw_ R5 k).length = nw + 1) := by
                intro k hk
                rw [hR5, Sy.rw_set (by rw [HX4.out.rl]; exact hcm)]
                split
                · rw [Sy.scl_length]; exact HRow3.out cc hcm
                · exact HRow3.out k hk
              rw [← hR5] at HX5 HSt
              clear hR5 hlead ho5 HSc HX4 HRow3 HB HG3 hcc hh3 HPv HNZ
              go_wp2_with fail
              go_loopw [126] (fun v wr => RMd w [⟨A, m, c, bys s⟩, ⟨A2, nw, c2, nats P⟩] g m cb cc H3 R5 v wr) (fun v _ => m - (intOf v).toNat)
              case atStart => exact ⟨0, Nat.zero_le _, rfl, by unfold Hid; rw [Sy.clrTo_zero]; exact HX5.out⟩
              case round =>
                clear HX5
                obtain ⟨kk, hkk, rfl, HX⟩ := hrel
                have HRl : Hid (R5.length = m) := by unfold Hid; rw [← Sy.clrTo_length R5 cc kk]; exact HX.out.rl
                rcases Nat.lt_or_ge kk m with h5 | h5
                · have hd5 : decide ((kk : Int) < (m : Int)) = true := decide_eq_true (by omega)
                  have HRk : Hid (Sy.rw_ (Sy.clrTo R5 cc kk) kk = Sy.rw_ R5 kk) := by unfold Hid; rw [Sy.clrTo_at (by rw [HRl.out]; exact h5), if_neg (by omega)]
                  have HRc : Hid (Sy.rw_ (Sy.clrTo R5 cc kk) cc = Sy.rw_ R5 cc) := by unfold Hid; rw [Sy.clrTo_at (by rw [HRl.out]; exact hcm), if_neg (by omega)]
                  obtain ⟨gk, ck, hgk⟩ := HX.out.form h5 (by rw [HRk.out, HRow5.out kk h5]; omega)
                  have hhk := HX.out.hd h5
                  rw [hgk, HRk.out, HRow5.out kk h5] at hhk
                  obtain ⟨t, ht⟩ : ∃ t, t = Sy.wd (Sy.rw_ R5 kk) cc := ⟨_, rfl⟩
                  have htb := HX.out.byte h5 hgk (q := cc) (by rw [HRk.out]; exact Sy.wd_lt (by rw [HRow5.out kk h5]; omega))
                  rw [← ht] at htb
                  have hcc := HX.out.ow.cell 0 rfl
                  have HT := Lib.hid ht
                  have HGk := Lib.hid hgk
                  have s7 : (kk : Int) < (m : Int) := by omega
                  clear ht hgk
                  go_wp2_with fail
                  go_quiet (fail)
                  obtain ⟨w6, hw6⟩ : ∃ W, W = wr.drewN nq := ⟨_, rfl⟩
                  have HX6 := Lib.hid (HX.out.drewN nq)
                  rw [← hw6] at HX6 ⊢
                  clear hw6 HX hhk htb hcc
                  have hcc := HX6.out.ow.cell 0 rfl
                  have hhk := HX6.out.hd h5
                  rw [HGk.out, HRk.out, HRow5.out kk h5] at hhk
                  by_cases hkc : kk = cc
                  · have hq1 : ((kk : Int) != (cc : Int)) = false := by rw [hkc]; simp
                    have HSk := Lib.hid (Sy.clrTo_skip (S := R5) (c := cc) (k := kk) (.inl hkc))
                    clear hkc
                    go_wp2_with fail
                    go_roundw
                    case rel => exact ⟨kk + 1, by omega, by go_num, by rw [HSk.out]; exact HX6⟩
                    case measure => simp [intOf]; omega
                  · have hq1 : ((kk : Int) != (cc : Int)) = true := by rw [bne_iff_ne]; omega
                    have HKc := Lib.hid hkc
                    clear hkc
                    rcases zero_or t with rfl | ⟨htn, htz⟩
                    · have HSk := Lib.hid (Sy.clrTo_skip (S := R5) (c := cc) (k := kk) (.inr HT.out.symm))
                      go_wp2_with fail
                      go_roundw
                      case rel => exact ⟨kk + 1, by omega, by go_num, by rw [HSk.out]; exact HX6⟩
                      case measure => simp [intOf]; omega
                    · have hq2 : ((t.toNat : Int) != 0) = true := by rw [bne_iff_ne]; have := u8_pos htn; omega
                      clear htn
                      obtain ⟨gc, cgc, hgc⟩ := HX6.out.form hcm (by rw [HRc.out, HRow5.out cc hcm]; omega)
                      have HGc := Lib.hid hgc
                      obtain ⟨Rk, hRk⟩ : ∃ x, x = Sy.rw_ R5 kk := ⟨_, rfl⟩
                      obtain ⟨Rc, hRc⟩ : ∃ x, x = Sy.rw_ R5 cc := ⟨_, rfl⟩
                      have HLk : Hid (Rk.length = nw + 1 ∧ Rc.length = nw + 1) := ⟨by rw [hRk]; exact HRow5.out kk h5, by rw [hRc]; exact HRow5.out cc hcm⟩
                      rw [← hRk] at HRk
                      rw [← hRc] at HRc
                      have HStp : Hid ((Sy.clrTo R5 cc kk).set kk (Sy.addRow t Rc Rk) = Sy.clrTo R5 cc (kk + 1)) := by
                        unfold Hid
                        rw [HT.out, hRk, hRc]
                        exact Sy.clrTo_step (by rw [HRl.out]; exact h5) HKc.out
                      have HX7 : Hid (Mx w w6 [(cb, .int .i64 (cc : Int))] [⟨A, m, c, bys s⟩, ⟨A2, nw, c2, nats P⟩] g m H3 ((Sy.clrTo R5 cc kk).set kk (Sy.upd (fun j => Sy.wd Rk j ^^^ Gf.gmul t (Sy.wd Rc j)) Rk 0)) []) := by
                        unfold Hid
                        rw [Sy.upd_zero]
                        have e : (Sy.clrTo R5 cc kk).set kk Rk = Sy.clrTo R5 cc kk := by
                          have h6 := Sy.rw_lt (rows := Sy.clrTo R5 cc kk) (k := kk) (by rw [Sy.clrTo_length, HRl.out]; exact h5)
                          rw [HRk.out] at h6
                          obtain ⟨h7, h8⟩ := List.getElem?_eq_some_iff.1 h6
                          conv => lhs; rw [← h8]
                          exact List.set_getElem_self h7
                        rw [e]
                        exact HX6.out
                      obtain ⟨Rl, hRl⟩ : ∃ x, x = Sy.clrTo R5 cc kk := ⟨_, rfl⟩
                      rw [← hRl] at HX7 HStp HRc
                      have HRlm : Hid (Rl.length = m) := by unfold Hid; rw [hRl, Sy.clrTo_length, HRl.out]
                      clear hgc hRk hRc HT HRk HX6 hRl
                      go_wp2_with fail
                      clear hcc hhk
                      go_loopw [148] (fun v wr => ∃ q : Nat, q ≤ nw + 1 ∧ v = .int .i64 (q : Int) ∧ Hid (Mx w wr [(cb, .int .i64 (cc : Int))] [⟨A, m, c, bys s⟩, ⟨A2, nw, c2, nats P⟩] g m H3 (Rl.set kk (Sy.upd (fun j => Sy.wd Rk j ^^^ Gf.gmul t (Sy.wd Rc j)) Rk q)) [])) (fun v _ => nw + 1 - (intOf v).toNat)
                      case atStart => exact ⟨0, Nat.zero_le _, rfl, HX7⟩
                      case round =>
                        clear HX7
                        obtain ⟨q, hq, rfl, HX⟩ := hrel
                        have hRkq : Sy.rw_ (Rl.set kk (Sy.upd (fun j => Sy.wd Rk j ^^^ Gf.gmul t (Sy.wd Rc j)) Rk q)) kk = Sy.upd (fun j => Sy.wd Rk j ^^^ Gf.gmul t (Sy.wd Rc j)) Rk q := by rw [Sy.rw_set (by rw [HRlm.out]; exact h5), if_pos rfl]
                        have hRcq : Sy.rw_ (Rl.set kk (Sy.upd (fun j => Sy.wd Rk j ^^^ Gf.gmul t (Sy.wd Rc j)) Rk q)) cc = Rc := by rw [Sy.rw_set (by rw [HRlm.out]; exact h5), if_neg (fun e => HKc.out e.symm), HRc.out]
                        rcases Nat.lt_or_ge q (nw + 1) with h6 | h6
                        · have hd6 : decide ((q : Int) < ((nw + 1 : Nat) : Int)) = true := decide_eq_true (by omega)
                          have hd7 : decide ((q : Int) < (nw : Int) + 1) = true := decide_eq_true (by omega)
                          have hhk := HX.out.hd h5
                          rw [HGk.out, hRkq, Sy.upd_length, HLk.out.1] at hhk
                          have hhc := HX.out.hd hcm
                          rw [HGc.out, hRcq, HLk.out.2] at hhc
                          have hcc := HX.out.ow.cell 0 rfl
                          obtain ⟨a, ha⟩ : ∃ a, a = Sy.wd Rk q := ⟨_, rfl⟩
                          obtain ⟨b, hb⟩ : ∃ b, b = Sy.wd Rc q := ⟨_, rfl⟩
                          have hca := HX.out.byte h5 HGk.out (q := q) (by rw [hRkq]; exact wd_upd _ Rk (by rw [HLk.out.1]; exact h6))
                          have hcb := HX.out.byte hcm HGc.out (q := q) (by rw [hRcq]; exact Sy.wd_lt (by rw [HLk.out.2]; exact h6))
                          rw [← ha] at hca
                          rw [← hb] at hcb
                          have hfa := HX.out.frz h5 HGk.out q
                          obtain ⟨z, hz, HZ⟩ := xor_ex a (Gf.gmul t b)
                          have HAB := Lib.hid (And.intro ha hb)
                          have HRkq := Lib.hid hRkq
                          have s8 : (q : Int) < ((nw + 1 : Nat) : Int) := by omega
                          have s9 : (q : Int) < (nw : Int) + 1 := by omega
                          have s5' : (cc : Int) < (m : Int) := by omega
                          clear ha hb hRkq hRcq
                          go_wp2_with fail
                          refine wp_region_still_tail 18 (by kernel_rfl) (by kernel_rfl) ?_
                          simp only [List.take_succ_cons, List.take_zero, List.drop_succ_cons, List.drop_zero]
                          repeat (first | still_step | still_call (flip_sameB (mul_any _ _ _)))
                          refine wpStill_nil ?_
                          change wpList _ _ _ _ _ (World.drew _)
                          go_wp2_with fail
                          go_roundw
                          case rel =>
                            have h7 := (HX.out.go (Below.refl _ _).drew).setB h5 HGk.out q z
                            rw [HRkq.out, List.set_set, HZ.out, HAB.out.1, HAB.out.2, Sy.upd_succ (fun j => Sy.wd Rk j ^^^ Gf.gmul t (Sy.wd Rc j)) Rk (by rw [HLk.out.1]; exact h6)] at h7
                            rw [HZ.out, HAB.out.1, HAB.out.2]
                            exact ⟨q + 1, by omega, by go_num, h7⟩
                          case measure => simp [intOf]; omega
                        · have hd6 : decide ((q : Int) < ((nw + 1 : Nat) : Int)) = false := decide_eq_false (by omega)
                          have hd7 : decide ((q : Int) < (nw : Int) + 1) = false := decide_eq_false (by omega)
                          have hq7 : q = Rk.length := by rw [HLk.out.1]; omega
                          have HX8 : Hid (Mx w wr [(cb, .int .i64 (cc : Int))] [⟨A, m, c, bys s⟩, ⟨A2, nw, c2, nats P⟩] g m H3 (Sy.clrTo R5 cc (kk + 1)) []) := by
                            unfold Hid
                            rw [← HStp.out, Sy.addRow_upd, ← hq7]
                            exact HX.out
                          clear hq7 hRkq hRcq
                          go_wp2_with fail
                          go_roundw
                          case rel => exact ⟨kk + 1, by omega, by go_num, HX8⟩
                          case measure => simp [intOf]; omega
                · have hd5 : decide ((kk : Int) < (m : Int)) = false := decide_eq_false (by omega)
                  have HX8 : Hid (Mx w wr [] [⟨A, m, c, bys s⟩, ⟨A2, nw, c2, nats P⟩] g m H3 (Sy.stepC R cc (cc + i)) []) := by
                    unfold Hid
                    rw [HSt.out, ← Sy.clrTo_all R5 cc (k := kk) (by rw [HRl.out]; omega)]
                    exact Mx.fewM (M := []) HX.out
                  go_wp2_with fail
                  go_roundw
                  case rel => exact ⟨cc + 1, _, H3, by omega, by go_num, HE2, HX8⟩
                  case measure => simp [intOf]; omega
        · have hd2 : decide ((cc : Int) < (nw : Int)) = false := decide_eq_false (by omega)
          have hcn2 : cc = nw := by omega
          have HSo : Hid (Sy.solve R0 nw = if Sy.badR R nw then none else some (Sy.outR R nw)) := by
            unfold Hid Sy.solve
            rw [← hcn2, HE.out]
          have HXo := Lib.hid (HX.out.more 5)
          clear HX HE HEl hcn2
          go_wp2_with fail
          go_loopw [22, 174] (fun v22 v174 wr => RMe w [⟨A, m, c, bys s⟩, ⟨A2, nw, c2, nats P⟩] g m nw H R v22 v174 wr) (fun _ v _ => m - (intOf v).toNat)
          case atStart => exact ⟨0, none, 0, Nat.zero_le _, rfl, by rw [Nat.zero_min], fun j _ h => by omega, by rw [Nat.zero_min]; exact HXo.out⟩
          case round =>
            clear HXo
            obtain ⟨k, A', c', hk, rfl, rfl, HZ, HX⟩ := hrel
            have hXi : (outR g m H R :: (mkRs H R ++ [(⟨A', min k nw, c', 5, bys ((R.take (min k nw)).map fun r => Sy.wd r nw)⟩ : Rw)]))[m + 1]? = some ⟨A', min k nw, c', 5, bys ((R.take (min k nw)).map fun r => Sy.wd r nw)⟩ := by
              rw [List.getElem?_cons_succ, List.getElem?_append_right (by rw [HX.out.len]; exact Nat.le_refl _), HX.out.len, Nat.sub_self]
              rfl
            have HXi := Lib.hid hXi
            clear hXi
            rcases Nat.lt_or_ge k m with h1 | h1
            · have hd3 : decide ((k : Int) < (m : Int)) = true := decide_eq_true (by omega)
              obtain ⟨gk, ck, hgk⟩ := HX.out.form h1 (by rw [HWd.out k h1]; omega)
              have hhk := HX.out.hd h1
              rw [hgk, HWd.out k h1] at hhk
              obtain ⟨b, hb⟩ : ∃ b, b = Sy.wd (Sy.rw_ R k) nw := ⟨_, rfl⟩
              have hbk := HX.out.byte h1 hgk (q := nw) (Sy.wd_lt (by rw [HWd.out k h1]; omega))
              rw [← hb] at hbk
              have HB := Lib.hid hb
              have s6 : (nw : Int) < ((nw + 1 : Nat) : Int) := by omega
              clear hb hgk
              rcases Nat.lt_or_ge k nw with h2 | h2
              · have hd4 : decide ((k : Int) < (nw : Int)) = true := decide_eq_true (by omega)
                have hmin : min k nw = k := by omega
                have hmin2 : min (k + 1) nw = k + 1 := by omega
                rw [hmin] at HXi HX ⊢
                have HMn := Lib.hid hmin2
                clear hmin hmin2
                go_wp2_with (at_builtin; refine ow_append1 elemB HX.out.ow (m + 1) (.tmp 183) (.tmp 188) _ _ HXi.out rfl (by unfold maxLen; omega) (by omega) rfl rfl rfl rfl ?_; intro A'' c'' w8 how)
                go_roundw
                case rel =>
                  (repeat apply Exists.intro)
                  have e1 : bys ((R.take k).map fun r => Sy.wd r nw) ++ [Value.int .u8 (b.toNat : Int)] = bys ((R.take (k + 1)).map fun r => Sy.wd r nw) := by
                    rw [List.take_add_one, Sy.rw_lt (by rw [HX.out.rl]; exact h1), List.map_append, HB.out]
                    simp [bys, encB]
                  rw [e1] at how
                  have e2 : (outR g m H R :: (mkRs H R ++ [(⟨A', k, c', 5, bys ((R.take k).map fun r => Sy.wd r nw)⟩ : Rw)])).set (m + 1) ⟨A'', k + 1, c'', 5, bys ((R.take (k + 1)).map fun r => Sy.wd r nw)⟩ = outR g m H R :: (mkRs H R ++ [(⟨A'', k + 1, c'', 5, bys ((R.take (k + 1)).map fun r => Sy.wd r nw)⟩ : Rw)]) := by
                    rw [List.set_cons_succ, List.set_append_right _ _ (by rw [HX.out.len]; exact Nat.le_refl _), HX.out.len, Nat.sub_self]
                    rfl
                  rw [e2] at how
                  exact ⟨⟨k + 1, A'', c'', by omega, by go_num, by rw [HMn.out], fun j hj1 hj2 => by omega, by rw [HMn.out]; exact ⟨how, HX.out.hl, HX.out.rl⟩⟩, rfl, rfl, rfl, rfl, rfl, rfl⟩
                case measure => simp [intOf]; omega
              · have hd4 : decide ((k : Int) < (nw : Int)) = false := decide_eq_false (by omega)
                have hmin : min k nw = nw := by omega
                have hmin2 : min (k + 1) nw = nw := by omega
                rw [hmin] at HX ⊢
                have HMn := Lib.hid hmin2
                clear hmin hmin2 HXi
                rcases zero_or b with rfl | ⟨hbn, hbz⟩
                · go_wp2_with fail
                  go_roundw
                  case rel =>
                    exact ⟨k + 1, A', c', by omega, by go_num, by rw [HMn.out], fun j hj1 hj2 => by
                      rcases Nat.lt_or_ge j k with h3 | h3
                      · exact HZ.out j hj1 h3
                      · rw [show j = k by omega]; exact HB.out.symm, by rw [HMn.out]; exact HX.out⟩
                  case measure => simp [intOf]; omega
                · have hq2 : ((b.toNat : Int) != 0) = true := by rw [bne_iff_ne]; have := u8_pos hbn; omega
                  have HBn := Lib.hid hbn
                  clear hbn
                  go_wp2_with fail
                  go_ret2
                  have hbad : Sy.badR R nw = true := by
                    cases e : Sy.badR R nw with
                    | true => rfl
                    | false => exact absurd (HB.out.trans (Sy.bad_false.1 e k (by rw [HX.out.rl]; exact h1) h2)) HBn.out
                  rw [← HR0.out, HSo.out, hbad]
                  exact ⟨_, _, _, false, rfl, HX.out.ow.below, .inr ⟨rfl, rfl⟩⟩
            · have hd3 : decide ((k : Int) < (m : Int)) = false := decide_eq_false (by omega)
              have hkm3 : k = m := by omega
              have hmin : min k nw = nw := by omega
              rw [hmin] at HX HXi ⊢
              clear hmin
              go_wp2_with fail
              go_ret2
              have hbad : Sy.badR R nw = false := Sy.bad_false.2 fun j hj1 hj2 => HZ.out j hj2 (by rw [HX.out.rl] at hj1; omega)
              rw [← HR0.out, HSo.out, hbad]
              refine ⟨_, _, _, true, rfl, HX.out.ow.below, .inl ⟨rfl, _, rfl, ?_, HX.out.ow.own (m + 1) _ HXi.out⟩⟩
              unfold Sy.outR
              rw [List.length_map, List.length_take, HX.out.rl]
              omega
end Go.Proofs.YtdjfbbfbdgiblaaGreatDoor
