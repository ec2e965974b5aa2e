/- Sn St PolyF PolyI PolyJ -/
import Derived.Test.YtnplaejlmbncfaaGreatDoorM01
import Derived.Test.YtnplaejlmbncfaaGreatDoorM02
import Derived.Test.YtnplaejlmbncfaaGreatDoorM05
import Derived.Test.YtnplaejlmbncfaaGreatDoorM07
namespace Go.Proofs.YtnplaejlmbncfaaGreatDoor
open Go.RowKit
set_option linter.unusedVariables false
set_option maxRecDepth 100000
namespace Sy
/-- the values from place e on are being mixed, down to place e + k -/
def mix (F : List UInt8) (e : Nat) (x : UInt8) (k : Nat) : List UInt8 := (List.range F.length).map fun i => if e + k < i then wd F i ^^^ Gf.gmul x (wd F (i - 1)) else wd F i
theorem mix_length (F : List UInt8) (e : Nat) (x : UInt8) (k : Nat) : (mix F e x k).length = F.length := by unfold mix; simp
theorem mix_get {F : List UInt8} {e : Nat} {x : UInt8} {k i : Nat} (h : i < F.length) : (mix F e x k)[i]? = some (if e + k < i then wd F i ^^^ Gf.gmul x (wd F (i - 1)) else wd F i) := by
  unfold mix
  rw [List.getElem?_map, List.getElem?_range h]
  rfl
theorem mix_start (F : List UInt8) (e : Nat) (x : UInt8) (k : Nat) (h : F.length ≤ e + k + 1) : mix F e x k = F := by
  refine List.ext_getElem? fun i => ?_
  rcases Nat.lt_or_ge i F.length with h1 | h1
  · rw [mix_get h1, if_neg (by omega), wd_lt h1]
  · rw [List.getElem?_eq_none (by rw [mix_length]; exact h1), List.getElem?_eq_none h1]
theorem mix_step {F : List UInt8} {e : Nat} {x a b z : UInt8} {k : Nat} (h : e + k + 1 < F.length) (ha : (mix F e x (k + 1))[e + (k + 1)]? = some a) (hb : (mix F e x (k + 1))[e + k]? = some b) (hz : z = a ^^^ Gf.gmul x b) : (mix F e x (k + 1)).set (e + (k + 1)) z = mix F e x k := by
  rw [mix_get (by omega), if_neg (by omega)] at ha hb
  obtain rfl := Option.some.inj ha
  obtain rfl := Option.some.inj hb
  subst hz
  refine List.ext_getElem? fun i => ?_
  rw [List.getElem?_set]
  rcases Nat.lt_or_ge i F.length with h1 | h1
  · rw [mix_get h1, mix_get h1]
    by_cases e1 : e + (k + 1) = i
    · subst e1
      rw [if_pos rfl, if_pos (by rw [mix_length]; omega), if_pos (by omega)]
      rfl
    · rw [if_neg e1]
      by_cases e2 : e + (k + 1) < i
      · rw [if_pos e2, if_pos (by omega)]
      · rw [if_neg e2, if_neg (by omega)]
  · rw [if_neg (by omega), List.getElem?_eq_none (by rw [mix_length]; exact h1), List.getElem?_eq_none (by rw [mix_length]; exact h1)]
theorem mix_strip (F : List UInt8) (e : Nat) (x : UInt8) : (mix F e x 0).drop (e + 1) = strip x (F.drop e) := by
  have hl : (strip x (F.drop e)).length = F.length - e - 1 := by rw [strip_length, List.length_drop]
  refine List.ext_getElem? fun i => ?_
  rw [List.getElem?_drop]
  rcases Nat.lt_or_ge (e + 1 + i) F.length with h1 | h1
  · rw [mix_get h1, if_pos (by omega), wd_lt (show i < (strip x (F.drop e)).length by omega), wd_strip _ _ (by rw [List.length_drop]; omega)]
    have e1 : ∀ j, wd (F.drop e) j = wd F (e + j) := fun j => by unfold wd; rw [List.getElem?_drop]
    rw [e1, e1, show e + 1 + i = e + (i + 1) by omega, show e + (i + 1) - 1 = e + i by omega]
  · rw [List.getElem?_eq_none (by rw [mix_length]; exact h1), List.getElem?_eq_none (by omega)]
theorem stripAll_snoc (n : Nat) (p : Nat) : ∀ (ps : List Nat) (u : List UInt8), stripAll n u (ps ++ [p]) = strip (loc n p) (stripAll n u ps)
  | [], u => rfl
  | q :: ps, u => stripAll_snoc n p ps (strip (loc n q) u)
/-- the roots below p that are not erased -/
def found (sg : List UInt8) (n : Nat) (E : List Nat) (p : Nat) : List Nat := (List.range p).filter fun q => rootAt sg n q && !E.contains q
theorem found_yes {sg : List UInt8} {n : Nat} {E : List Nat} {p : Nat} (h : (rootAt sg n p && !E.contains p) = true) : found sg n E (p + 1) = found sg n E p ++ [p] := by
  unfold found
  rw [List.range_succ, List.filter_append]
  congr 1
  show List.filter _ [p] = [p]
  rw [List.filter_cons, if_pos h]
  rfl
theorem found_no {sg : List UInt8} {n : Nat} {E : List Nat} {p : Nat} (h : (rootAt sg n p && !E.contains p) = false) : found sg n E (p + 1) = found sg n E p := by
  unfold found
  rw [List.range_succ, List.filter_append]
  have : List.filter (fun q => rootAt sg n q && !E.contains q) [p] = [] := by
    rw [List.filter_cons, if_neg (by rw [h]; simp)]
    rfl
  rw [this, List.append_nil]
theorem found_few {sg : List UInt8} {n : Nat} (hn : n ≤ 255) {E : List Nat} {K : Nat} (hl : sg.length = K + 1) (hK : K ≤ 254) (h1 : Po.co sg 0 = 1) : (found sg n E n).length ≤ K := by
  refine root_count hn hl hK h1 (asc_nodup (asc_filter _ _)) (fun p hp => List.mem_range.1 (List.mem_filter.1 hp).1) fun p hp => ?_
  have := (List.mem_filter.1 hp).2
  rw [Bool.and_eq_true] at this
  exact this.1
theorem places_sorted {sg : List UInt8} {n m : Nat} {E l' : List Nat} (hE : Ers E n m) (hp : l'.Perm (E ++ found sg n E n)) (hs : Srt l' l'.length l'.length) : l' = placesOf sg n E := by
  have hnd : (E ++ found sg n E n).Nodup := by
    rw [List.nodup_append]
    refine ⟨asc_nodup hE.asc, asc_nodup (asc_filter _ _), fun a ha b hb e => ?_⟩
    subst e
    have := (List.mem_filter.1 hb).2
    rw [Bool.and_eq_true, List.contains_iff_mem.2 ha] at this
    exact absurd this.2 (by simp)
  refine asc_ext (srt_asc hs (hp.nodup_iff.2 hnd)) (asc_filter _ _) fun x => ?_
  rw [hp.mem_iff, List.mem_append]
  unfold found placesOf
  rw [List.mem_filter, List.mem_filter, List.mem_range, Bool.and_eq_true, Bool.or_eq_true, List.contains_iff_mem]
  constructor
  · rintro (h | ⟨h1, h2, h3⟩)
    · exact ⟨hE.lt x h, .inl h⟩
    · exact ⟨h1, .inr h2⟩
  · rintro ⟨h1, h2 | h2⟩
    · exact .inl h2
    · by_cases h3 : x ∈ E
      · exact .inl h3
      · refine .inr ⟨h1, h2, ?_⟩
        cases e : E.contains x with
        | false => rfl
        | true => exact absurd (List.contains_iff_mem.1 e) h3
end Sy
theorem bys_drop (l : List UInt8) (k : Nat) : (bys l).drop k = bys (l.drop k) := by simp [bys, List.map_drop]
/-- what 'locate' leaves -/
def LocR (w : World) (r : Option (List Nat)) (en : Ending) (w' : World) : Prop :=
  ∃ (A : Option Addr) (k c : Nat) (b : Bool), en = .returned (.tuple #[.slice A k c, .bool b]) ∧ Below w.heap.size w w' ∧ ((b = true ∧ ∃ P, r = some P ∧ P.length = k ∧ w'.ownsRow w.heap.size 3 1 (.slice A k c) k (nats P)) ∨ (b = false ∧ r = none))
def RLoc (w : World) (L : List Ob) (m n : Nat) (s : List UInt8) (E : List Nat) (g1 c1 : Nat) (v10 v24 : Value) (wr : World) : Prop :=
  ∃ (i : Nat) (F : List UInt8) (A1 : Option Addr), i ≤ E.length ∧ v24 = .int .i64 (i : Int) ∧ v10 = .slice A1 (m - i) (c1 - i) ∧ Hid (i < m → A1 = some ⟨g1, i, none⟩) ∧ Hid (F.length = m ∧ F.drop i = Sy.stripAll n s (E.take i)) ∧ Hid (Ow w wr none [] L [⟨some ⟨g1, 0, none⟩, m, c1, 5, bys F⟩])
def RLoc3 (w : World) (L : List Ob) (n ne : Nat) (sg : List UInt8) (E : List Nat) (v16 v64 : Value) (wr : World) : Prop :=
  ∃ (p k : Nat) (A1 : Option Addr) (c1 : Nat), p ≤ n ∧ v64 = .int .i64 (p : Int) ∧ v16 = .slice A1 k c1 ∧ k ≤ ne + p ∧ Hid ((E ++ Sy.found sg n E p).length = k) ∧ Hid (Ow w wr none [] L [⟨A1, k, c1, 3, nats (E ++ Sy.found sg n E p)⟩])
set_option maxHeartbeats 8000000 in
theorem locate_any (A : Option Addr) (m c n mo : Nat) (A2 : Option Addr) (ne c2 : Nat) (s : List UInt8) (E : List Nat) (w : World) (hm : s.length = m) (hs : Sl w w.heap.size A (bys s)) (hmc : m ≤ c) (hne : E.length = ne) (hs2 : Sl w w.heap.size A2 (nats E)) (hnc : ne ≤ c2) (h1 : 1 ≤ m) (h8 : m ≤ 8) (hn : n ≤ 255) (hE : Sy.Ers E n m) (hmo : 2 * mo + ne ≤ m) :
    Calls Tryz.prog 95 #[.slice A m c, .int .i64 (n : Int), .slice A2 ne c2, .int .i64 (mo : Int)] w (LocR w (Sy.locM s n E mo)) := by
  have H0 := ((Ow.of (St.refl w)).old hs (by rw [bys_length]; exact hm) hmc (by omega)).old hs2 (by rw [nats_length]; exact hne) hnc (by omega)
  simp only [List.nil_append, List.cons_append] at H0
  have hnem : ne ≤ m := by omega
  have HO := Lib.hid H0
  have HM := Lib.hid hm
  have HN := Lib.hid hne
  have HEr := Lib.hid hE
  clear H0 hs hs2 hm hne hE
  go_enter Tryz.func95, Tryz.ntmps95
  go_wp2_with fail
  refine (cloneB_fresh A m c w.heap.size s w HM.out (HO.out.sl (i := 0) rfl).2.2.2 (Nat.le_refl _) (by omega)).mono ?_
  rintro e w1 ⟨A1, n1, c1, rfl, hn1, ho, hb⟩
  obtain rfl : m = n1 := HM.out.symm.trans hn1
  have H1 := HO.out.add ho hb
  obtain ⟨g1, rfl, -, -⟩ := own_form ho (by omega)
  have hcap := (own_cap ho).1
  have HO1 := Lib.hid H1
  clear H1 ho hb hn1 HO
  go_wp2_with fail
  go_loopw [10, 24] (fun v10 v24 wr => RLoc w [⟨A, m, c, bys s⟩, ⟨A2, ne, c2, nats E⟩] m n s E g1 c1 v10 v24 wr) (fun _ v _ => ne - (intOf v).toNat)
  case atStart => exact ⟨0, s, some ⟨g1, 0, none⟩, Nat.zero_le _, rfl, rfl, fun _ => rfl, ⟨HM.out, rfl⟩, HO1.out⟩
  case round =>
    clear HO1
    obtain ⟨i, F, A1, hi, rfl, rfl, HA, HF, HO⟩ := hrel
    rw [HN.out] at hi
    rcases Nat.lt_or_ge i ne with hin | hin
    · have hd : decide ((i : Int) < (ne : Int)) = true := decide_eq_true (by omega)
      obtain rfl := HA.out (by omega)
      obtain ⟨p, hp⟩ : ∃ p, E[i]? = some p := ⟨_, Sy.pl_lt (by rw [HN.out]; exact hin)⟩
      obtain ⟨ad2, rfl, -, hc2⟩ := (HO.out.sl (i := 1) rfl).2.2.2 (by rw [nats_length, HN.out]; omega)
      have hcp := hc2 i _ (nats_at hp)
      have hpn : p < n := HEr.out.lt p (List.mem_of_getElem? hp)
      obtain ⟨x, hx⟩ : ∃ x, x = Sy.loc n p := ⟨_, rfl⟩
      have HX : Hid (∀ W, Calls Tryz.prog 139 #[.int .i64 (n : Int), .int .i64 (p : Int)] W fun e w' => e = .returned (.int .u8 (x.toNat : Int)) ∧ W = w') := by rw [hx]; exact fun W => locator_any n p hn hpn W
      have HS : Hid (Sy.stripAll n s (E.take (i + 1)) = Sy.strip x (Sy.stripAll n s (E.take i))) := by
        unfold Hid
        rw [List.take_add_one, hp, hx]
        exact Sy.stripAll_snoc n p (E.take i) s
      clear hx hp hc2 HA
      go_wp2_with (go_at_call 139; refine (HX.out _).mono ?_; rintro e w' ⟨rfl, rfl⟩)
      go_loopw [14] (fun v wr2 => ∃ k : Nat, k + i + 1 ≤ m ∧ v = .int .i64 (k : Int) ∧ Hid (Ow w wr2 none [] [⟨A, m, c, bys s⟩, ⟨some ad2, ne, c2, nats E⟩] [⟨some ⟨g1, 0, none⟩, m, c1, 5, bys (Sy.mix F i x k)⟩])) (fun v _ => (intOf v).toNat)
      case atStart =>
        refine ⟨m - i - 1, by omega, int_eqv (by omega), ?_⟩
        rw [Sy.mix_start F i x (m - i - 1) (by rw [HF.out.1]; omega)]
        exact HO.out
      case round =>
        clear HO
        obtain ⟨k, hk, rfl, HO⟩ := hrel
        rcases Nat.eq_zero_or_pos k with rfl | h0
        · have hd0 : decide ((0 : Int) < ((0 : Nat) : Int)) = false := rfl
          have hF2 : Hid ((Sy.mix F i x 0).length = m ∧ (Sy.mix F i x 0).drop (i + 1) = Sy.stripAll n s (E.take (i + 1))) := ⟨by rw [Sy.mix_length, HF.out.1], by rw [Sy.mix_strip, HF.out.2, HS.out]⟩
          go_wp2_with fail
          refine ⟨⟨i + 1, Sy.mix F i x 0, _, by rw [HN.out]; omega, by go_num, rfl, fun h => if_neg (by omega), hF2, HO.out⟩, ?_⟩
          simp [intOf]; omega
        · have hd0 : decide ((0 : Int) < (k : Int)) = true := decide_eq_true (by omega)
          obtain ⟨k1, rfl⟩ : ∃ k1, k = k1 + 1 := ⟨k - 1, by omega⟩
          obtain ⟨a, ha⟩ := byte_at (Sy.mix F i x (k1 + 1)) (i + (k1 + 1)) (by rw [Sy.mix_length, HF.out.1]; omega)
          obtain ⟨b, hb⟩ := byte_at (Sy.mix F i x (k1 + 1)) (i + k1) (by rw [Sy.mix_length, HF.out.1]; omega)
          obtain ⟨z, hz, HZ⟩ := xor_ex a (Gf.gmul x b)
          have HST := Lib.hid (Sy.mix_step (F := F) (e := i) (x := x) (k := k1) (by rw [HF.out.1]; omega) ha hb HZ.out)
          have hca := HO.out.byteO 0 rfl ha
          have hcb := HO.out.byteO 0 rfl hb
          have hfa := HO.out.frzO 0 rfl (i + (k1 + 1))
          clear ha hb
          go_wp2_with fail
          have s1 : IntKind.i64.wrap (((k1 + 1 : Nat) : Int) - 1) = (k1 : Int) := by rw [show ((k1 + 1 : Nat) : Int) - 1 = (k1 : Int) by omega]; exact IntWalk.i64_in _ (by omega)
          have s2 : IntKind.i64.wrap ((k1 : Int) + 1 - 1) = (k1 : Int) := by rw [show (k1 : Int) + 1 - 1 = (k1 : Int) by omega]; exact IntWalk.i64_in _ (by omega)
          have s3 : (k1 : Int) + 1 < ((m - i : Nat) : Int) := by omega
          have s4 : (k1 : Int) < ((m - i : Nat) : Int) := by omega
          have s5 : (0 : Int) ≤ (k1 : Int) + 1 := by omega
          have s6 : ((k1 : Int) + 1).toNat = k1 + 1 := by omega
          have s7 : IntKind.i64.wrap (k1 : Int) = (k1 : Int) := IntWalk.i64_in _ (by omega)
          refine wp_region_still_tail 13 (by kernel_rfl) (by kernel_rfl) ?_
          simp only [List.take_succ_cons, List.take_zero, List.drop_succ_cons, List.drop_zero]
          repeat (first | still_step | still_call (flip_sameB (mul_any _ _ _)))
          refine wpStill_nil ?_
          change wpList _ _ _ _ _ (World.drew _)
          clear s1 s2 s3 s4 s5 s6 s7
          go_wp2_with fail
          go_roundw
          case rel =>
            have h6 := HO.out.drew.putB 0 rfl (i + (k1 + 1)) z
            rw [HST.out] at h6
            exact ⟨k1, by omega, int_eqv (by omega), h6⟩
          case measure => simp [intOf]
    · have hd : decide ((i : Int) < (ne : Int)) = false := decide_eq_false (by omega)
      have hie : i = ne := by omega
      subst hie
      have HU : Hid ((Sy.stripAll n s E).length = m - i ∧ F.drop i = Sy.stripAll n s E) := by
        have h5 := HF.out.2
        rw [List.take_of_length_le (by rw [HN.out]; exact Nat.le_refl _)] at h5
        exact ⟨by rw [← h5, List.length_drop, HF.out.1], h5⟩
      have HSl : Hid (Sl wr wr.heap.size A1 (bys (Sy.stripAll n s E))) := by
        unfold Hid
        rw [← HU.out.2, ← bys_drop]
        intro hlt
        rw [bys_drop, bys_length, HU.out.2, HU.out.1] at hlt
        have h5 := (Sl.of_own (HO.out.row 0 rfl)).drop i (by rw [bys_drop, bys_length, HU.out.2, HU.out.1]; exact hlt)
        rw [HA.out (by omega)]
        have e : (Option.map (fun x => Addr.add x i) (some (⟨g1, 0, none⟩ : Addr))) = some ⟨g1, i, none⟩ := by
          show some (Addr.add ⟨g1, 0, none⟩ i) = _
          rw [add_zero]
        rw [← e]
        exact h5
      have HSG := Lib.hid (Sy.shortest_ok (Sy.stripAll n s E))
      have HSL : Hid ((Sy.shortest (Sy.stripAll n s E)).length ≤ m - i + 1) := by unfold Hid; rw [← HU.out.1]; exact Sy.shortest_le _
      obtain ⟨sg, hsg⟩ : ∃ sg, sg = Sy.shortest (Sy.stripAll n s E) := ⟨_, rfl⟩
      have HC : Hid (Calls Tryz.prog 140 #[.slice A1 (m - i) (c1 - i)] wr (FreshB wr sg)) := by
        rw [hsg]
        exact shortest_any A1 (m - i) (c1 - i) (Sy.stripAll n s E) wr HU.out.1 HSl.out (by omega) (by omega)
      have HLOC : Hid (Sy.locM s n E mo = if mo < sg.length - 1 then none else if (Sy.placesOf sg n E).length = E.length + (sg.length - 1) then some (Sy.placesOf sg n E) else none) := by rw [hsg]; rfl
      have HS1 : Hid (sg.length ≤ m - i + 1 ∧ 1 ≤ sg.length ∧ Po.co sg 0 = 1) := by rw [hsg]; exact ⟨HSL.out, by rw [HSG.out.1]; omega, HSG.out.2.2⟩
      clear HSG HSL hsg HSl HU HF HA
      go_wp2_with fail
      refine HC.out.mono ?_
      rintro e w2 ⟨A3, n3, c3, rfl, hn3, ho3, hb3⟩
      have HO2 := Lib.hid (((HO.out.push ho3 (by have := HS1.out.1; omega) hb3).few 0).nil 3)
      have hS1 := HS1.out
      rw [hn3] at hS1 HLOC
      have HN3 := Lib.hid hn3
      have HS0 := Lib.hid hS1.2.2
      obtain ⟨k3, rfl⟩ : ∃ k3, n3 = k3 + 1 := ⟨n3 - 1, by omega⟩
      have hk3 : k3 ≤ m := by omega
      clear HC HO ho3 hb3 HS1 hS1 hn3
      rcases Nat.lt_or_ge mo k3 with hmk | hmk
      · have hd3 : decide ((mo : Int) < (k3 : Int)) = true := decide_eq_true (by omega)
        have HL2 : Hid (Sy.locM s n E mo = none) := by unfold Hid; rw [HLOC.out, if_pos (by omega)]
        go_wp2_with fail
        go_ret2
        exact ⟨_, _, _, false, rfl, HO2.out.below, .inr ⟨rfl, HL2.out⟩⟩
      · have hd3 : decide ((mo : Int) < (k3 : Int)) = false := decide_eq_false (by omega)
        go_wp2_with fail
        refine (nclone_any A2 i c2 w2.heap.size E w2 HN.out (HO2.out.sl (i := 1) rfl).2.2.2 (Nat.le_refl _) (by omega)).mono ?_
        rintro e w3 ⟨A4, n4, c4, rfl, hn4, ho4, hb4⟩
        obtain rfl : i = n4 := HN.out.symm.trans hn4
        have HO4 := Lib.hid ((HO2.out.few 0).add ho4 hb4)
        clear ho4 hb4 hn4 HO2
        go_wp2_with fail
        go_loopw [16, 64] (fun v16 v64 wr => RLoc3 w [⟨A, m, c, bys s⟩, ⟨A2, i, c2, nats E⟩, ⟨A3, k3 + 1, c3, bys sg⟩] n i sg E v16 v64 wr) (fun _ v _ => n - (intOf v).toNat)
        case atStart => exact ⟨0, i, A4, c4, Nat.zero_le _, rfl, rfl, Nat.le_refl _, by unfold Hid; rw [show Sy.found sg n E 0 = [] from rfl, List.append_nil]; exact HN.out, by rw [show Sy.found sg n E 0 = [] from rfl, List.append_nil]; exact HO4.out⟩
        case round =>
          clear HO4
          obtain ⟨p, k, A5, c5, hp, rfl, rfl, hk, HK, HO⟩ := hrel
          rcases Nat.lt_or_ge p n with hpn | hpn
          · have hd4 : decide ((p : Int) < (n : Int)) = true := decide_eq_true (by omega)
            obtain ⟨x, hx⟩ : ∃ x, x = Sy.loc n p := ⟨_, rfl⟩
            have HX : Hid (∀ W, Calls Tryz.prog 139 #[.int .i64 (n : Int), .int .i64 (p : Int)] W fun e w' => e = .returned (.int .u8 (x.toNat : Int)) ∧ W = w') := by rw [hx]; exact fun W => locator_any n p hn hpn W
            obtain ⟨v, hv⟩ : ∃ v, v = Po.eval sg (Gf.ginv x) := ⟨_, rfl⟩
            have HV : Hid (Calls Tryz.prog 143 #[.slice A3 (k3 + 1) c3, .int .u8 ((Gf.ginv x).toNat : Int)] wr fun e w' => e = .returned (.int .u8 (v.toNat : Int)) ∧ Below wr.heap.size wr w') := by
              rw [hv]
              exact eval_any A3 (k3 + 1) c3 sg (Gf.ginv x) HN3.out (by omega) wr (HO.out.sl (i := 2) rfl).2.2.2
            have HR : Hid (Sy.rootAt sg n p = (v == 0)) := by unfold Hid Sy.rootAt; rw [hv, hx]
            clear hx hv
            rcases zero_or v with rfl | ⟨hne, hv1⟩
            · cases hcon : E.contains p with
              | true =>
                have HF : Hid (Sy.found sg n E (p + 1) = Sy.found sg n E p) := Sy.found_no (by rw [hcon]; simp)
                have HCn := Lib.hid hcon
                clear hcon
                go_wp2_with (first | (go_at_call 139; refine (HX.out _).mono ?_; rintro e w' ⟨rfl, rfl⟩) | (go_at_call 142; refine (inverse_any _ _).mono ?_; rintro e w' ⟨rfl, rfl⟩) | (go_at_call 143; refine HV.out.mono ?_; rintro e w5 ⟨rfl, hb5⟩; have HO5 := Lib.hid (HO.out.go hb5); clear hb5) | (go_at_call 144; refine (containsI_any A2 i c2 E p _ (by omega) HN.out (HO5.out.sl (i := 1) rfl).2.2.2 (by omega)).mono ?_; rw [HCn.out]; rintro e w' ⟨rfl, rfl⟩))
                go_roundw
                case rel => exact ⟨p + 1, k, A5, c5, by omega, by go_num, rfl, by omega, by rw [HF.out]; exact HK, by rw [HF.out]; exact HO5⟩
                case measure => simp [intOf]; omega
              | false =>
                have HF : Hid (E ++ Sy.found sg n E (p + 1) = (E ++ Sy.found sg n E p) ++ [p]) := by unfold Hid; rw [Sy.found_yes (by rw [HR.out, hcon]; rfl), List.append_assoc]
                have HCn := Lib.hid hcon
                clear hcon
                go_wp2_with (first | (go_at_call 139; refine (HX.out _).mono ?_; rintro e w' ⟨rfl, rfl⟩) | (go_at_call 142; refine (inverse_any _ _).mono ?_; rintro e w' ⟨rfl, rfl⟩) | (go_at_call 143; refine HV.out.mono ?_; rintro e w5 ⟨rfl, hb5⟩; have HO5 := Lib.hid (HO.out.go hb5); clear hb5) | (go_at_call 144; refine (containsI_any A2 i c2 E p _ (by omega) HN.out (HO5.out.sl (i := 1) rfl).2.2.2 (by omega)).mono ?_; rw [HCn.out]; rintro e w' ⟨rfl, rfl⟩) | (at_builtin; refine ow_append1 elemI HO5.out 0 (.tmp 84) (.tmp 86) _ _ rfl rfl (by unfold maxLen; omega) (by omega) rfl rfl rfl rfl ?_; intro A' c' w8 how))
                go_roundw
                case rel =>
                  rw [nats_snoc] at how
                  exact ⟨p + 1, k + 1, A', c', by omega, by go_num, rfl, by omega, by unfold Hid; rw [HF.out, List.length_append, HK.out]; rfl, by rw [HF.out]; exact how⟩
                case measure => simp [intOf]; omega
            · have HF : Hid (Sy.found sg n E (p + 1) = Sy.found sg n E p) := Sy.found_no (by rw [HR.out, beq_eq_false_iff_ne.2 hne]; rfl)
              clear hne
              go_wp2_with (first | (go_at_call 139; refine (HX.out _).mono ?_; rintro e w' ⟨rfl, rfl⟩) | (go_at_call 142; refine (inverse_any _ _).mono ?_; rintro e w' ⟨rfl, rfl⟩) | (go_at_call 143; refine HV.out.mono ?_; rintro e w5 ⟨rfl, hb5⟩; have HO5 := Lib.hid (HO.out.go hb5); clear hb5))
              go_roundw
              case rel => exact ⟨p + 1, k, A5, c5, by omega, by go_num, rfl, by omega, by rw [HF.out]; exact HK, by rw [HF.out]; exact HO5⟩
              case measure => simp [intOf]; omega
          · have hd4 : decide ((p : Int) < (n : Int)) = false := decide_eq_false (by omega)
            have hpn2 : p = n := by omega
            subst hpn2
            have hk12 : k ≤ 12 := by
              have h5 := Sy.found_few (E := E) hn HN3.out (by omega) HS0.out
              have h6 := HK.out
              rw [List.length_append, HN.out] at h6
              omega
            have HSo := Lib.hid (sort_ow HO.out HK.out hk12)
            go_wp2_with fail
            refine HSo.out.mono ?_
            rintro e w6 ⟨rfl, l', hperm, hsrt, ho6⟩
            have HP6 := Lib.hid (And.intro hperm hsrt)
            have HO6 := Lib.hid ho6
            have hl6 : l'.length = k := by rw [hperm.length_eq, HK.out]
            have HL6 := Lib.hid hl6
            clear hperm hsrt ho6 HSo HO hl6
            go_wp2_with fail
            go_ret2
            have e1 : l' = Sy.placesOf sg p E := by
              have h5 := HP6.out.2
              have h6 := HL6.out
              rw [← h6] at h5
              exact Sy.places_sorted HEr.out HP6.out.1 h5
            have e2 : Sy.locM s p E mo = if k = i + k3 then some l' else none := by
              rw [HLOC.out, if_neg (by omega), ← e1, HL6.out, HN.out, Nat.add_sub_cancel]
            refine ⟨_, _, _, _, rfl, HO6.out.below, ?_⟩
            rw [e2]
            by_cases hq : k = i + k3
            · rw [if_pos hq]
              exact .inl ⟨by simp; omega, l', rfl, HL6.out, HO6.out.row 0 rfl⟩
            · rw [if_neg hq]
              exact .inr ⟨by simp; omega, rfl⟩
end Go.Proofs.YtnplaejlmbncfaaGreatDoor

namespace Go.Proofs.YtnplaejlmbncfaaGreatDoor
open Go.RowKit
set_option linter.unusedVariables false
set_option maxRecDepth 100000
set_option maxHeartbeats 2000000 in
theorem wrongList_ok (A : Option Addr) (n c N m : Nat) (E : List Nat) (w : World) (hn : E.length = n) (hs : Sl w w.heap.size A (nats E)) (hnc : n ≤ c) (hl : n ≤ 1000) (hN : N ≤ 1000) (hm : m ≤ 1000) (hE : Sy.Ers E N m) :
    Calls Tryz.prog 92 #[.slice A n c, .int .i64 (N : Int), .int .i64 (m : Int)] w fun e w' => e = .returned (.int .i64 0) ∧ Below w.heap.size w w' := by
  have H0 := (Ow.of (St.refl w)).old hs (by rw [nats_length]; exact hn) hnc hl
  simp only [List.nil_append] at H0
  have HO := Lib.hid H0
  have HNn := Lib.hid hn
  have HEr := Lib.hid hE
  have hle : n ≤ m := by rw [← hn]; exact hE.le
  clear H0 hs hn hE
  go_enter Tryz.func92, Tryz.ntmps92
  go_wp2_with fail
  go_loopw [12] (fun v wr => ∃ k : Nat, k ≤ n ∧ v = .int .i64 (k : Int) ∧ wr = w) (fun v _ => n - (intOf v).toNat)
  case atStart => exact ⟨0, Nat.zero_le _, rfl, rfl⟩
  case round =>
    obtain ⟨k, hk, rfl, rfl⟩ := hrel
    rcases Nat.lt_or_ge k n with h | h
    · have hd : decide ((k : Int) < (n : Int)) = true := decide_eq_true (by omega)
      obtain ⟨p, hp⟩ : ∃ p, E[k]? = some p := ⟨_, Sy.pl_lt (by rw [HNn.out]; exact h)⟩
      obtain ⟨ad, rfl, -, hc⟩ := (HO.out.sl (i := 0) rfl).2.2.2 (by rw [nats_length, HNn.out]; omega)
      have hcp := hc k _ (nats_at hp)
      have hpN := HEr.out.lt p (List.mem_of_getElem? hp)
      have hd1 : decide ((p : Int) < 0) = false := decide_eq_false (by omega)
      have hd2 : decide ((N : Int) ≤ (p : Int)) = false := decide_eq_false (by omega)
      clear hp hc
      go_wp2_with fail
      go_roundw
      case rel => exact ⟨k + 1, by omega, by go_num, by first | exact trivial | rfl⟩
      case measure => simp [intOf]; omega
    · have hd : decide ((k : Int) < (n : Int)) = false := decide_eq_false (by omega)
      go_wp2_with fail
      go_loopw [9] (fun v wr2 => ∃ i : Nat, 1 ≤ i ∧ v = .int .i64 (i : Int) ∧ i ≤ n + 1 ∧ Hid (Ow wr wr2 none [] [⟨A, n, c, nats E⟩] [])) (fun v _ => n + 1 - (intOf v).toNat)
      case atStart => exact ⟨1, Nat.le_refl _, rfl, by omega, HO.out⟩
      case round =>
        clear HO
        obtain ⟨i, hi1, rfl, hi2, HO⟩ := hrel
        obtain ⟨j, rfl⟩ : ∃ j, i = j + 1 := ⟨i - 1, by omega⟩
        rcases Nat.lt_or_ge (j + 1) n with h2 | h2
        · have hd2 : decide (((j + 1 : Nat) : Int) < (n : Int)) = true := decide_eq_true (by omega)
          have hd3 : decide ((j : Int) + 1 < (n : Int)) = true := decide_eq_true (by omega)
          obtain ⟨p, hp⟩ : ∃ p, E[j]? = some p := ⟨_, Sy.pl_lt (by rw [HNn.out]; omega)⟩
          obtain ⟨q, hq⟩ : ∃ q, E[j + 1]? = some q := ⟨_, Sy.pl_lt (by rw [HNn.out]; omega)⟩
          obtain ⟨ad, rfl, -, hc⟩ := (HO.out.sl (i := 0) rfl).2.2.2 (by rw [nats_length, HNn.out]; omega)
          have hcp := hc j _ (nats_at hp)
          have hcq := hc (j + 1) _ (nats_at hq)
          have hcq2 := hcq
          simp only [Addr.add, Nat.add_eq_zero_iff, Nat.succ_ne_self, and_false, if_false] at hcq2
          have hlt : p < q := by
            have h5 := List.pairwise_iff_getElem.1 HEr.out.asc j (j + 1) (by rw [HNn.out]; omega) (by rw [HNn.out]; omega) (by omega)
            rwa [(List.getElem?_eq_some_iff.1 hp).2, (List.getElem?_eq_some_iff.1 hq).2] at h5
          have hd4 : decide ((q : Int) ≤ (p : Int)) = false := decide_eq_false (by omega)
          have hs1 : (j : Int) < (n : Int) := by omega
          have hs4 : (0 : Int) ≤ (j : Int) + 1 := by omega
          have hs5 : ((j : Int) + 1).toNat = j + 1 := by omega
          have hs3 : IntKind.i64.wrap (j : Int) = (j : Int) := IntWalk.i64_in _ (by omega)
          have hs2 : (j : Int) + 1 < (n : Int) := by omega
          clear hp hq hc
          go_wp2_with fail
          go_quiet (fail)
          go_wp2_with fail
          go_roundw
          case rel => exact ⟨j + 2, by omega, int_eqv (by omega), by omega, HO.out.drewN _⟩
          case measure => simp [intOf]; omega
        · have hd2 : decide (((j + 1 : Nat) : Int) < (n : Int)) = false := decide_eq_false (by omega)
          have hd3 : decide ((j : Int) + 1 < (n : Int)) = false := decide_eq_false (by omega)
          have hd5 : decide ((m : Int) < (n : Int)) = false := decide_eq_false (by omega)
          go_wp2_with fail
          go_ret
          exact ⟨rfl, HO.out.below⟩
end Go.Proofs.YtnplaejlmbncfaaGreatDoor

namespace Go.Proofs.YtnplaejlmbncfaaGreatDoor
open Go.RowKit
set_option linter.unusedVariables false
set_option maxRecDepth 100000

theorem ptrim_any (A : Option Addr) (n c : Nat) (l : List UInt8) (w : World) (hn : l.length = n) (hs : Sl w w.heap.size A (bys l)) (hnc : n ≤ c) (hl : n ≤ 140737488355328) :
    Calls Tryz.prog 90 #[.slice A n c] w (FreshB w (Po.trim l)) := by
  have HT := Lib.hid (trim_any A n c _ l w hn hs hnc (by omega))
  have hk := Po.tl_le l n
  have h2 := hs.take (Po.tl l n)
  rw [bys_take] at h2
  have hle : (Po.trim l).length = Po.tl l n := by rw [Po.trim_length, hn]
  have hte : Po.trim l = l.take (Po.tl l n) := by unfold Po.trim; rw [hn]
  rw [← hte] at h2
  have HC := Lib.hid (cloneB_fresh A (Po.tl l n) c _ (Po.trim l) w hle h2 (Nat.le_refl _) (by omega))
  clear hn hs h2 hle hte
  go_enter Tryz.func90, Tryz.ntmps90
  go_wp2_with fail
  refine HT.out.mono ?_
  rintro e w1 ⟨rfl, rfl⟩
  go_wp2_with fail
  refine HC.out.mono ?_
  rintro e w1 ⟨A', n', c', rfl, h1, h2, h3⟩
  have H : Hid ((Po.trim l).length = n' ∧ w1.ownsRow w.heap.size 5 1 (.slice A' n' c') n' (bys (Po.trim l)) ∧ Below w.heap.size w w1) := ⟨h1, h2, h3⟩
  clear h1 h2 h3
  go_wp2_with fail
  go_ret
  exact ⟨A', n', c', rfl, H.out.1, H.out.2.1, H.out.2.2⟩

end Go.Proofs.YtnplaejlmbncfaaGreatDoor

namespace Go.Proofs.YtnplaejlmbncfaaGreatDoor
open Go.RowKit
set_option linter.unusedVariables false
set_option maxRecDepth 100000

/-- what a call leaves that hands back two lists of bytes of its own -/
def ResD (w : World) (q r : List UInt8) (en : Ending) (w' : World) : Prop :=
  ∃ (A1 : Option Addr) (n1 c1 : Nat) (A2 : Option Addr) (n2 c2 : Nat), en = .returned (.tuple #[.slice A1 n1 c1, .slice A2 n2 c2]) ∧ q.length = n1 ∧ r.length = n2 ∧
    w'.ownsRow w.heap.size 5 1 (.slice A1 n1 c1) n1 (bys q) ∧ w'.ownsRow w.heap.size 5 1 (.slice A2 n2 c2) n2 (bys r) ∧ Below w.heap.size w w'
def DivLoop (w : World) (p q : List UInt8) (lead : UInt8) (g1 c1 g2 n m : Nat) (at_ rest : Value) (wr : World) : Prop :=
  ∃ a j : Nat, a + j = n - m + 1 ∧ at_ = .int .i64 ((a : Int) - 1) ∧ rest = .slice (some ⟨g1, 0, none⟩) (a + m - 1) c1 ∧
    wr.ownsRow w.heap.size 5 1 (.slice (some ⟨g1, 0, none⟩) (a + m - 1) c1) (a + m - 1) (bys ((Po.dv p q lead j).1.take (a + m - 1))) ∧
    wr.ownsRow w.heap.size 5 1 (.slice (some ⟨g2, 0, none⟩) (n - m + 1) (n - m + 1)) (n - m + 1) (bys (Po.dv p q lead j).2) ∧ Below w.heap.size w wr
set_option maxHeartbeats 2000000 in
theorem divide_lists (A A2 : Option Addr) (n c m c2 : Nat) (p q : List UInt8) (w : World) (hn : p.length = n) (hm : q.length = m) (hp : Sl w w.heap.size A (bys p)) (hq : Sl w w.heap.size A2 (bys q))
    (hl : n ≤ 255) (hl2 : m ≤ 255) (hm0 : 0 < m) :
    Calls Tryz.prog 132 #[.slice A n c, .slice A2 m c2] w (ResD w (Po.quo p q) (Po.rem p q)) := by
  obtain ⟨i0, hi, hz0, hz1, hz2⟩ := info_parts infoB
  have HC := Lib.hid (cloneB_fresh A n c w.heap.size p w hn hp (Nat.le_refl _) (by omega))
  rcases Nat.lt_or_ge n m with hnm | hnm
  · have HQ : Hid (Po.quo p q = []) := by unfold Hid Po.quo; rw [if_pos (by omega)]
    have HR : Hid (Po.rem p q = p) := by unfold Hid Po.rem; rw [if_pos (by omega)]
    clear hp hq hm hn
    go_enter Tryz.func132, Tryz.ntmps132
    go_wp2_with fail
    refine HC.out.mono ?_
    rintro e w1 ⟨A', n', c', rfl, h1, h2, h3⟩
    have H : Hid (p.length = n' ∧ w1.ownsRow w.heap.size 5 1 (.slice A' n' c') n' (bys p) ∧ Below w.heap.size w w1) := ⟨h1, h2, h3⟩
    clear h1 h2 h3
    go_wp2_with fail
    go_ret2
    rw [HQ.out, HR.out]
    exact ⟨none, 0, 0, A', n', c', rfl, rfl, H.out.1, World.ownsRow_nil _ _ _ _, H.out.2.1, H.out.2.2⟩
  · obtain ⟨lead0, hlast⟩ := byte_at q (m - 1) (by omega)
    obtain ⟨lead, hlead⟩ : ∃ lead, lead = Gf.ginv lead0 := ⟨_, rfl⟩
    have hlo : Po.lastOf q = lead0 := by unfold Po.lastOf; rw [hm, hlast]; rfl
    have HQ : Hid (Po.quo p q = (Po.dv p q lead (n - m + 1)).2) := by unfold Hid Po.quo Po.dvAll; rw [if_neg (by omega), hlo, hn, hm, hlead]
    have HR : Hid (Po.rem p q = Po.trim ((Po.dv p q lead (n - m + 1)).1.take (m - 1))) := by unfold Hid Po.rem Po.dvAll; rw [if_neg (by omega), hlo, hn, hm, hlead]
    have HN := Lib.hid hn
    have HM := Lib.hid hm
    have HLE := Lib.hid hlead
    have HSQ := Lib.hid hq
    have hnm0 : 0 < n := by omega
    clear hp hlead hlo hn hm
    go_enter Tryz.func132, Tryz.ntmps132
    go_wp2_with fail
    refine HC.out.mono ?_
    rintro e w1 ⟨A', n', c', rfl, h1, h2, h3⟩
    obtain rfl : n = n' := by rw [← h1]; exact HN.out.symm
    obtain ⟨g1, rfl, hg1b, hg1w⟩ := own_form h2 (by omega)
    obtain ⟨ad, rfl, hbk, hc0⟩ := (hq.below h3).byte hlast
    have HO1 := Lib.hid h2
    have HB1 := Lib.hid h3
    have hcap := (own_cap h2).1
    clear h1 h2 h3 hlast
    go_wp2_with (first | (go_at_call 142; ((with_reducible refine (inverse_any _ _).mono ?_); rintro e w' ⟨rfl, rfl⟩)) | (at_make; refine wpList_make_full _ rfl (.tmp 34) (.tmp 34) 30 rfl w1.heap.size 5 i0 (.int .u8 0) 1 Tryz.underlying30 hi hz0 hz1 _ _ _ _ (n - m + 1) rfl rfl (by omega) (by omega) (by rw [hz2]; omega) (by unfold maxLen; omega) (Nat.le_refl _) ?_; intro w2 hown2 hg2))
    rw [made_bys] at hown2
    rw [← HLE.out]
    have hsz : w.heap.size ≤ w1.heap.size := HB1.out.size
    have HO2 := Lib.hid (own_more hown2 hsz)
    have HO1' : Hid (w2.ownsRow w.heap.size 5 1 (.slice (some ⟨g1, 0, none⟩) n c') n (bys p)) := own_keep HO1.out hg2 (.inr (by simp [Value.ownBlock]))
    have HB2 := Lib.hid (HB1.out.grown hg2 hsz (fun _ e => by cases e))
    have hne : g1 ≠ w1.heap.size := by omega
    generalize w1.heap.size = g2 at *
    clear hown2 hg2 HO1 HB1 hc0 HC
    go_loopw [10, 6] (fun a r wr => DivLoop w p q lead g1 c' g2 n m a r wr) (fun a _ _ => (intOf a + 1).toNat)
    case atStart =>
      refine ⟨n - m + 1, 0, rfl, int_eqv (by omega), by rw [show n - m + 1 + m - 1 = n from by omega], ?_, ?_, HB2.out⟩
      · rw [show n - m + 1 + m - 1 = n from by omega]
        show w2.ownsRow _ _ _ _ _ (bys (p.take n))
        rw [List.take_of_length_le (by rw [HN.out]; exact Nat.le_refl _)]
        exact HO1'.out
      · show w2.ownsRow _ _ _ _ _ (bys (List.replicate (p.length - q.length + 1) 0))
        rw [HN.out, HM.out]
        exact HO2.out
    case round =>
      obtain ⟨a, j, haj, rfl, rfl, ho1, ho2, hb⟩ := hrel
      have HO3 := Lib.hid ho1
      have HO4 := Lib.hid ho2
      have HB3 := Lib.hid hb
      have HLEN := Lib.hid (Po.dv_len p q lead j)
      clear HO1' HO2 HB2
      rcases Nat.eq_zero_or_pos a with ha | ha
      · have hj : j = n - m + 1 := by omega
        subst ha hj
        have e1 : ((0 : Nat) : Int) - 1 = -1 := by omega
        have e2 : 0 + m - 1 = m - 1 := by omega
        rw [e1, e2]
        rw [e2] at HO3 ho1
        clear e1 e2
        have HLT : Hid (((Po.dv p q lead (n - m + 1)).1.take (m - 1)).length = m - 1) := by unfold Hid; rw [List.length_take, HLEN.out.1, HN.out]; omega
        have hcc := (own_cap ho1).1
        have HT := Lib.hid (trim_any (some ⟨g1, 0, none⟩) (m - 1) c' _ _ wr HLT.out (Sl.of_own ho1) hcc (by omega))
        clear ho1 ho2 hb
        go_wp2_with fail
        refine HT.out.mono ?_
        rintro e w5 ⟨rfl, rfl⟩
        go_wp2_with fail
        go_ret2
        rw [HQ.out, HR.out]
        have h5 := own_take HO3.out (Po.tl_le ((Po.dv p q lead (n - m + 1)).1.take (m - 1)) (m - 1))
        rw [bys_take] at h5
        refine ⟨_, _, _, _, _, _, rfl, by rw [HLEN.out.2, HN.out, HM.out], ?_, HO4.out, ?_, HB3.out⟩
        · rw [Po.trim_length, HLT.out]
        · unfold Po.trim
          rw [HLT.out]
          exact h5
      · obtain ⟨t, rfl⟩ : ∃ t, a = t + 1 := ⟨a - 1, by omega⟩
        have e1 : ((t + 1 : Nat) : Int) - 1 = (t : Int) := by omega
        have e2 : t + 1 + m - 1 = t + m := by omega
        rw [e1, e2]
        rw [e2] at HO3 ho1
        clear e1 e2
        obtain ⟨b, hb1⟩ := byte_at (Po.dv p q lead j).1 (t + m - 1) (by rw [HLEN.out.1, HN.out]; omega)
        have hb1' : ((Po.dv p q lead j).1.take (t + m))[t + m - 1]? = some b := by rw [List.getElem?_take, if_pos (by omega)]; exact hb1
        have HDV := Lib.hid (Po.dv_succ p q lead j n m t b HN.out HM.out (by omega) hb1)
        have hcb := own_byte ho1 hb1'
        obtain ⟨x, hx⟩ : ∃ x, x = Gf.gmul b lead := ⟨_, rfl⟩
        have HX := Lib.hid hx
        obtain ⟨y, hy⟩ := byte_at (Po.dv p q lead j).2 t (by rw [HLEN.out.2, HN.out, HM.out]; omega)
        have hcy := own_byte ho2 hy
        have hfy := ho2.frozenAt t
        have hst := ho2.stored t (.int .u8 ((Gf.gmul b lead).toNat : Int))
        have HW2 : Hid ((wr.setCell ⟨g2, t, none⟩ (.int .u8 ((Gf.gmul b lead).toNat : Int))).ownsRow w.heap.size 5 1 (.slice (some ⟨g2, 0, none⟩) (n - m + 1) (n - m + 1)) (n - m + 1) (bys (Po.dv p q lead (j + 1)).2)) := by
          have h5 := hst.1
          unfold Hid
          rw [HDV.out.2]
          unfold bys at h5 ⊢
          rw [List.map_set]
          exact h5
        have HW1 : Hid ((wr.setCell ⟨g2, t, none⟩ (.int .u8 ((Gf.gmul b lead).toNat : Int))).ownsRow w.heap.size 5 1 (.slice (some ⟨g1, 0, none⟩) (t + m) c') (t + m) (bys ((Po.dv p q lead j).1.take (t + m)))) :=
          own_keep ho1 hst.2 (.inr (fun e => hne (by simpa [Value.ownBlock] using e)))
        have HWB : Hid (Below w.heap.size w (wr.setCell ⟨g2, t, none⟩ (.int .u8 ((Gf.gmul b lead).toNat : Int)))) := HB3.out.grown hst.2 HB3.out.size (fun _ e => by cases e; exact hsz)
        have HLT : Hid (((Po.dv p q lead j).1.take (t + m)).length = t + m) := by unfold Hid; rw [List.length_take, HLEN.out.1, HN.out]; omega
        have HTK : Hid (Po.addAt ((Po.dv p q lead j).1.take (t + m)) q (Gf.gmul b lead) t = (Po.dv p q lead (j + 1)).1.take (t + m)) := by
          unfold Hid
          rw [Po.addAt_take _ _ _ _ _ (by rw [HM.out]; exact Nat.le_refl _), HDV.out.1]
        clear hb1 hb1' hy ho1 ho2 hb hx hst
        go_wp2_with (go_at_call 136; ((with_reducible refine (mul_any _ _ _).mono ?_); rintro e w' ⟨rfl, rfl⟩))
        refine (add_any (some ⟨g1, 0, none⟩) (some ad) (t + m) c' m c2 w.heap.size w.heap.size _ q (Gf.gmul b lead) t _ HLT.out HM.out HW1.out (HSQ.out.below HWB.out) (Nat.le_refl _) HWB.out.size (Nat.le_refl _) (by omega)).mono ?_
        rintro e w4 ⟨rfl, ho5, hg5⟩
        rw [HTK.out] at ho5
        have HO5 := Lib.hid ho5
        have HO6 : Hid (w4.ownsRow w.heap.size 5 1 (.slice (some ⟨g2, 0, none⟩) (n - m + 1) (n - m + 1)) (n - m + 1) (bys (Po.dv p q lead (j + 1)).2)) :=
          own_keep HW2.out hg5 (.inr (fun e => hne (by simpa [Value.ownBlock] using e.symm)))
        have HB6 : Hid (Below w.heap.size w w4) := HWB.out.grown hg5 HWB.out.size (fun _ e => by cases e; exact hg1b)
        have hcc := (own_cap ho5).1
        clear ho5 hg5
        go_wp2_with fail
        go_roundw
        case rel =>
          have e3 : t + m - 1 ≤ t + m := Nat.sub_le _ _
          have h7 := own_take HO5.out e3
          rw [bys_take, List.take_take, Nat.min_eq_left e3] at h7
          exact ⟨t, j + 1, by omega, rfl, rfl, h7, HO6.out, HB6.out⟩
        case measure => simp [intOf]
end Go.Proofs.YtnplaejlmbncfaaGreatDoor

namespace Go.Proofs.YtnplaejlmbncfaaGreatDoor
open Go.RowKit
set_option linter.unusedVariables false
set_option maxRecDepth 100000

/-- what a call leaves that hands back two lists of bytes of its own and an error -/
def ResE (w : World) (q r : List UInt8) (err : Int) (en : Ending) (w' : World) : Prop :=
  ∃ (A1 : Option Addr) (n1 c1 : Nat) (A2 : Option Addr) (n2 c2 : Nat), en = .returned (.tuple #[.slice A1 n1 c1, .slice A2 n2 c2, .int .i64 err]) ∧ q.length = n1 ∧ r.length = n2 ∧
    w'.ownsRow w.heap.size 5 1 (.slice A1 n1 c1) n1 (bys q) ∧ w'.ownsRow w.heap.size 5 1 (.slice A2 n2 c2) n2 (bys r) ∧ Below w.heap.size w w'
theorem resE_nil (w w' : World) (err : Int) (h : Below w.heap.size w w') : ResE w [] [] err (.returned (.tuple #[.slice none 0 0, .slice none 0 0, .int .i64 err])) w' :=
  ⟨none, 0, 0, none, 0, 0, rfl, rfl, rfl, World.ownsRow_nil _ _ _ _, World.ownsRow_nil _ _ _ _, h⟩
theorem pdivide_any (A A2 : Option Addr) (n c m c2 : Nat) (p q : List UInt8) (w : World) (hn : p.length = n) (hm : q.length = m) (hp : Sl w w.heap.size A (bys p)) (hq : Sl w w.heap.size A2 (bys q))
    (hl : n ≤ 140737488355328) (hl2 : m ≤ 140737488355328) :
    Calls Tryz.prog 89 #[.slice A n c, .slice A2 m c2] w (ResE w (Po.divQ p q) (Po.divR p q) (Po.divE p q)) := by
  have HV1 := Lib.hid (valid_any A n c _ p w hn hp (by omega))
  have HV2 := Lib.hid (valid_any A2 m c2 _ q w hm hq (by omega))
  cases hv : (Po.vld p && Po.vld q)
  · obtain ⟨hr, hr2, he⟩ := Po.div_no hv
    have HR := Lib.hid hr
    have HR2 := Lib.hid hr2
    have HE := Lib.hid he
    clear hr he hr2
    cases hv1 : Po.vld p
    · rw [hv1] at HV1
      clear hp hq hn hm hv hv1
      go_enter Tryz.func89, Tryz.ntmps89
      go_wp2_with fail
      refine HV1.out.mono ?_
      rintro e w1 ⟨rfl, rfl⟩
      go_wp2_with fail
      go_ret3
      rw [HR.out, HE.out, HR2.out]
      exact resE_nil _ _ _ (Below.refl _ _)
    · have hv2 : Po.vld q = false := by rw [hv1] at hv; simpa using hv
      rw [hv1] at HV1
      rw [hv2] at HV2
      clear hp hq hn hm hv hv1 hv2
      go_enter Tryz.func89, Tryz.ntmps89
      go_wp2_with fail
      refine HV1.out.mono ?_
      rintro e w1 ⟨rfl, rfl⟩
      go_wp2_with fail
      refine HV2.out.mono ?_
      rintro e w1 ⟨rfl, rfl⟩
      go_wp2_with fail
      go_ret3
      rw [HR.out, HE.out, HR2.out]
      exact resE_nil _ _ _ (Below.refl _ _)
  · have hvv : Po.vld p = true ∧ Po.vld q = true := by simpa using hv
    rw [hvv.1] at HV1
    rw [hvv.2] at HV2
    have h255 : n ≤ 255 ∧ m ≤ 255 := ⟨by rw [← hn]; exact Po.vld_len hvv.1, by rw [← hm]; exact Po.vld_len hvv.2⟩
    obtain ⟨h1, h2⟩ := h255
    clear hvv
    rcases Nat.eq_zero_or_pos m with hm0 | hm0
    · obtain ⟨hr, hr2, he⟩ := Po.div_zero hv (hm.trans hm0)
      have HR := Lib.hid hr
      have HR2 := Lib.hid hr2
      have HE := Lib.hid he
      clear hr he hr2 hp hq hn hm hv
      subst hm0
      go_enter Tryz.func89, Tryz.ntmps89
      go_wp2_with fail
      refine HV1.out.mono ?_
      rintro e w1 ⟨rfl, rfl⟩
      go_wp2_with fail
      refine HV2.out.mono ?_
      rintro e w1 ⟨rfl, rfl⟩
      go_wp2_with fail
      go_ret3
      rw [HR.out, HE.out, HR2.out]
      exact resE_nil _ _ _ (Below.refl _ _)
    · obtain ⟨hr, hr2, he⟩ := Po.div_some hv (by omega)
      have HR := Lib.hid hr
      have HR2 := Lib.hid hr2
      have HE := Lib.hid he
      have hz := nat_ne0 hm0
      have HD := Lib.hid (divide_lists A A2 n c m c2 p q w hn hm hp hq h1 h2 hm0)
      clear hr he hr2 hp hq hn hm hv
      go_enter Tryz.func89, Tryz.ntmps89
      go_wp2_with fail
      refine HV1.out.mono ?_
      rintro e w1 ⟨rfl, rfl⟩
      go_wp2_with fail
      refine HV2.out.mono ?_
      rintro e w1 ⟨rfl, rfl⟩
      go_wp2_with fail
      refine HD.out.mono ?_
      rintro e w1 ⟨A1, n1, c1, A2', n2, c2', rfl, hh⟩
      have HH := Lib.hid hh
      clear hh
      go_wp2_with fail
      go_ret3
      rw [HR.out, HE.out, HR2.out]
      exact ⟨A1, n1, c1, A2', n2, c2', rfl, HH.out.1, HH.out.2.1, HH.out.2.2.1, HH.out.2.2.2.1, HH.out.2.2.2.2⟩

end Go.Proofs.YtnplaejlmbncfaaGreatDoor
