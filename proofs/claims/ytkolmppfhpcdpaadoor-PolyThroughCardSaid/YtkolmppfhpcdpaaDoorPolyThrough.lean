/- The walk of PolyThrough. -/
import Derived.Test.YtkolmppfhpcdpaaDoorPolyU
import Derived.Test.YtkolmppfhpcdpaaDoorRefG
namespace Go.Proofs.YtkolmppfhpcdpaaDoor
open Go.RowKit
set_option linter.unusedVariables false
set_option maxRecDepth 100000
theorem rthrough_any (A A2 : Option Addr) (n c m c2 : Nat) (xs ys : List UInt8) (w : World) (hn : xs.length = n) (hm : ys.length = m) (hp : Sl w w.heap.size A (bys xs)) (hq : Sl w w.heap.size A2 (bys ys))
    (hl : n ≤ 140737488355328) (hl2 : m ≤ 140737488355328) :
    Calls Tryd.prog 21 #[.slice A n c, .slice A2 m c2] w (ResB w (Po.thR xs ys) (Po.thE xs ys)) := by
  by_cases hnm : n = m
  · subst hnm
    rcases Nat.lt_or_ge 255 n with h | h
    · have HR : Hid (Po.thR xs ys = [] ∧ Po.thE xs ys = 7) := Po.th_no (by unfold Po.thFit; rw [decide_eq_false (show ¬ xs.length ≤ 255 by omega), Bool.and_false])
      have hne : ((n : Int) != (n : Int)) = false := by simp
      clear hp hq hn hm
      go_enter Tryd.func21, Tryd.ntmps21
      go_wp2_with fail
      go_ret2
      rw [HR.out.1, HR.out.2]
      exact resB_nil _ _ _ (Below.refl _ _)
    · exact rthrough_fit A A2 n c c2 xs ys w hn hm hp hq h
  · have HR : Hid (Po.thR xs ys = [] ∧ Po.thE xs ys = 7) := Po.th_no (by unfold Po.thFit; rw [decide_eq_false (show ¬ xs.length = ys.length by omega), Bool.false_and])
    have hne : ((n : Int) != (m : Int)) = true := by rw [bne_iff_ne]; omega
    clear hp hq hn hm hnm
    go_enter Tryd.func21, Tryd.ntmps21
    go_wp2_with fail
    go_ret2
    rw [HR.out.1, HR.out.2]
    exact resB_nil _ _ _ (Below.refl _ _)
namespace Po
theorem thR_len (xs ys : List UInt8) : (thR xs ys).length ≤ xs.length ∧ (thR xs ys).length ≤ 255 := by
  unfold thR
  split
  · split
    · exact ⟨Nat.zero_le _, Nat.zero_le _⟩
    · rename_i h _
      have h1 : (trim (thO xs ys xs.length)).length ≤ xs.length := by rw [trim_length]; have h9 := tl_le (thO xs ys xs.length) (thO xs ys xs.length).length; rw [thO_length] at h9 ⊢; exact h9
      unfold thFit at h
      simp at h
      omega
  · exact ⟨Nat.zero_le _, Nat.zero_le _⟩
/-- the places of the statement: from, from + step, .. -/
def pl (fr st : Nat) (n : Nat) : List UInt8 := (List.range n).map fun i => UInt8.ofNat (fr + i * st)
theorem pl_length (fr st n : Nat) : (pl fr st n).length = n := by unfold pl; rw [List.length_map, List.length_range]
theorem pl_snoc (fr st n : Nat) (b : UInt8) (hb : b = UInt8.ofNat (fr + n * st)) : pl fr st n ++ [b] = pl fr st (n + 1) := by unfold pl; rw [List.range_succ, List.map_append, hb]; rfl
theorem pl_get (fr st n i : Nat) (y : UInt8) (h : (pl fr st n)[i]? = some y) : i < n ∧ y = UInt8.ofNat (fr + i * st) := by
  have hi : i < n := by
    rcases Nat.lt_or_ge i n with h1 | h1
    · exact h1
    · rw [List.getElem?_eq_none (by rw [pl_length]; exact h1)] at h; cases h
  unfold pl at h
  rw [List.getElem?_map, List.getElem?_range hi] at h
  exact ⟨hi, (Option.some.inj h).symm⟩
theorem pl_apart (fr s i j : Nat) (hj : j < i) (hi : i < 12) (h : UInt8.ofNat (fr + i * (1 + 2 * s)) = UInt8.ofNat (fr + j * (1 + 2 * s))) : False := by
  have h1 := congrArg UInt8.toNat h
  rw [UInt8.toNat_ofNat', UInt8.toNat_ofNat'] at h1
  obtain ⟨e, rfl⟩ : ∃ e, i = j + e := ⟨i - j, by omega⟩
  rw [Nat.add_mul] at h1
  have he : e = 1 ∨ e = 2 ∨ e = 3 ∨ e = 4 ∨ e = 5 ∨ e = 6 ∨ e = 7 ∨ e = 8 ∨ e = 9 ∨ e = 10 ∨ e = 11 := by omega
  generalize j * (1 + 2 * s) = t at h1
  rcases he with rfl | rfl | rfl | rfl | rfl | rfl | rfl | rfl | rfl | rfl | rfl <;> omega
theorem pl_fine (fr s n : Nat) (hn : n ≤ 12) : thBad (pl fr (1 + 2 * s) n) n = false := by
  cases h : thBad (pl fr (1 + 2 * s) n) n
  · rfl
  · exfalso
    obtain ⟨i, j, h1, h2, y, h3, h4⟩ := (thBad_iff _ n (by rw [pl_length]; exact Nat.le_refl _)).1 h
    have h5 := pl_get _ _ _ _ _ h3
    have h6 := pl_get _ _ _ _ _ h4
    exact pl_apart fr s i j h1 (by omega) (h5.2.symm.trans h6.2)
theorem pl_ok (fr s n : Nat) (ys : List UInt8) (hn : n ≤ 12) (hl : ys.length = n) : thR (pl fr (1 + 2 * s) n) ys = trim (thO (pl fr (1 + 2 * s) n) ys n) ∧ thE (pl fr (1 + 2 * s) n) ys = 0 := by
  have h := th_ok (xs := pl fr (1 + 2 * s) n) (ys := ys) (by unfold thFit; rw [pl_length, decide_eq_true hl.symm, decide_eq_true (show n ≤ 255 by omega)]; rfl) (by rw [pl_length]; exact pl_fine fr s n hn)
  rw [pl_length] at h
  exact h
theorem pl_leads (fr s n : Nat) (ys : List UInt8) (hn : n ≤ 12) (hl : ys.length = n) (i : Nat) (x y : UInt8) (hx : (pl fr (1 + 2 * s) n)[i]? = some x) (hy : ys[i]? = some y) : eval (thR (pl fr (1 + 2 * s) n) ys) x = y := by
  rw [(pl_ok fr s n ys hn hl).1]
  have h := thR_leads (pl fr (1 + 2 * s) n) ys (by rw [pl_length]; exact hl) (by rw [pl_length]; exact pl_fine fr s n hn) i x y hx hy
  rw [pl_length] at h
  exact h
end Po
section
variable {w0 w : World} {g : Option Nat} {L : List Ob} {A A2 : Option Addr} {n c m c2 : Nat} {p q : List UInt8}
theorem pthrough_gt (h : St w0 w g L) (i j : Nat) (hi : L[i]? = some ⟨A, n, c, p⟩) (hj : L[j]? = some ⟨A2, m, c2, q⟩) (l : List UInt8) (e : Int) (hl : Po.thR p q = l) (he : Po.thE p q = e) :
    Calls Tryd.prog 20 #[.slice A n c, .slice A2 m c2] w (GotE w0 g L l e) := by
  obtain ⟨h1, h2, h3, h4⟩ := h.sl hi
  obtain ⟨k1, k2, k3, k4⟩ := h.sl hj
  exact (through_any A A2 n c m c2 p q w h1 k1 h4 k4 (by omega) (by omega)).mono fun en w' hr => got_res h hl he (by rw [← hl]; have := Po.thR_len p q; omega) hr
theorem rthrough_gt (h : St w0 w g L) (i j : Nat) (hi : L[i]? = some ⟨A, n, c, p⟩) (hj : L[j]? = some ⟨A2, m, c2, q⟩) (l : List UInt8) (e : Int) (hl : Po.thR p q = l) (he : Po.thE p q = e) :
    Calls Tryd.prog 21 #[.slice A n c, .slice A2 m c2] w (GotE w0 g L l e) := by
  obtain ⟨h1, h2, h3, h4⟩ := h.sl hi
  obtain ⟨k1, k2, k3, k4⟩ := h.sl hj
  exact (rthrough_any A A2 n c m c2 p q w h1 k1 h4 k4 (by omega) (by omega)).mono fun en w' hr => got_res h hl he (by rw [← hl]; have := Po.thR_len p q; omega) hr
end
/-- dice give bytes -/
theorem bytes_st {w0 w : World} {g B : Nat} {L : List Ob} (h : St w0 w (some g) L) (hd : Dice w g B) (n : Nat) (h12 : n ≤ 255) :
    Calls Tryd.prog 22 #[.pointer (some ⟨g, 0, none⟩), .int .i64 (n : Int)] w fun en w' => ∃ (A : Option Addr) (c : Nat) (l : List UInt8), en = .returned (.slice A n c) ∧ l.length = n ∧ Dice w' g B ∧ St w0 w' (some g) (L ++ [⟨A, n, c, l⟩]) := by
  refine (bytes_any g B n w (by omega) hd).mono ?_
  rintro en w' ⟨A, c, l, he, hn, ho, hd', hg⟩
  refine ⟨A, c, l, he, hn, hd', (h.roll hg).add (Sl.of_own ho) (Nat.le_refl _) hn (own_cap ho).1 (by omega) fun x e h0 ad hA hx => ?_⟩
  obtain ⟨g', hg', h1, _⟩ := own_form ho h0
  rw [hA] at hg'
  obtain rfl := Option.some.inj hg'
  have := (h.lt x e).1
  simp only at hx
  omega
theorem next_st {w0 w : World} {g B : Nat} {L : List Ob} (h : St w0 w (some g) L) (hd : Dice w g B) (m : Int) (hm : 1 ≤ m) (hm2 : m ≤ 9223372036854775807) :
    Calls Tryd.prog 12 #[.pointer (some ⟨g, 0, none⟩), .int .i64 m] w fun en w' => ∃ r : Nat, en = .returned (.int .i64 (r : Int)) ∧ (r : Int) < m ∧ Dice w' g B ∧ St w0 w' (some g) L := by
  refine (next_any g B m w hm hm2 hd).mono ?_
  rintro en w' ⟨r, he, h0, h1, hd', hg⟩
  obtain ⟨r, rfl⟩ := Int.eq_ofNat_of_zero_le h0
  exact ⟨r, he, h1, hd', h.roll hg⟩
def PlLoop (w : World) (fr st n : Nat) (v l : Value) (wr : World) : Prop :=
  ∃ (k : Nat) (A : Option Addr) (c : Nat), k ≤ n ∧ v = .int .i64 (k : Int) ∧ l = .slice A k c ∧ wr.ownsRow w.heap.size 5 1 (.slice A k c) k (bys (Po.pl fr st k)) ∧ Below w.heap.size w wr
set_option maxHeartbeats 4000000 in
theorem polyThrough_any (A0 : Option Addr) (n0 c0 : Nat) (xs : List UInt8) (A1 : Option Addr) (n1 c1 : Nat) (ys : List UInt8) (A2 : Option Addr) (n2 c2 : Nat) (ts : List Int) (w : World)
    (hn0 : xs.length = n0) (hnc0 : n0 ≤ c0) (hm0 : n0 ≤ 9223372036854775807) (hs0 : Sl w w.heap.size A0 (bys xs)) (hn1 : ys.length = n1) (hnc1 : n1 ≤ c1) (hm1 : n1 ≤ 9223372036854775807) (hs1 : Sl w w.heap.size A1 (bys ys))
    (hn2 : ts.length = n2) (hm2 : n2 ≤ 9223372036854775807) (hs2 : Sl w w.heap.size A2 (ints ts)) :
    Calls Tryd.prog 5 #[.slice A0 n0 c0, .slice A1 n1 c1, .slice A2 n2 c2] w fun e w' => e = .returned (.bool true) ∧ Below w.heap.size w w' := by
  obtain ⟨i0, hi, hz0, hz1, hz2⟩ := info_parts infoB
  rcases Nat.lt_or_ge 400 n2 with h400 | h400
  · have HL := Lib.hid (light_no A2 n2 c2 w h400 hm2)
    clear hs2 hn2 h400 hs0 hs1 hn0 hn1
    go_enter Tryd.func5, Tryd.ntmps5
    go_wp2_with fail
    refine HL.out.mono ?_
    rintro e w1 ⟨rfl, rfl⟩
    go_wp2_with fail
    refine (awakeP_any _).mono ?_
    rintro e w1 ⟨rfl, hb⟩
    go_wp2_with fail
    go_ret
    exact ⟨rfl, hb⟩
  · have HL := Lib.hid (light_yes A2 n2 c2 w h400)
    rcases Nat.lt_or_ge 300 n0 with h3 | h3
    · clear hs2 hn2 h400 hs0 hs1 hn0 hn1
      go_enter Tryd.func5, Tryd.ntmps5
      go_wp2_with fail
      refine HL.out.mono ?_
      rintro e w1 ⟨rfl, rfl⟩
      go_wp2_with fail
      refine (awakeP_any _).mono ?_
      rintro e w1 ⟨rfl, hb⟩
      go_wp2_with fail
      go_ret
      exact ⟨rfl, hb⟩
    · rcases Nat.lt_or_ge 300 n1 with h4 | h4
      · clear hs2 hn2 h400 hs0 hs1 hn0 hn1
        go_enter Tryd.func5, Tryd.ntmps5
        go_wp2_with fail
        refine HL.out.mono ?_
        rintro e w1 ⟨rfl, rfl⟩
        go_wp2_with fail
        refine (awakeP_any _).mono ?_
        rintro e w1 ⟨rfl, hb⟩
        go_wp2_with fail
        go_ret
        exact ⟨rfl, hb⟩
      · have HS0 : St w w none [⟨A0, n0, c0, xs⟩, ⟨A1, n1, c1, ys⟩] := ((St.refl w).add hs0 (Nat.le_refl _) hn0 hnc0 h3 (fun x e => by cases e)).add hs1 (Nat.le_refl _) hn1 hnc1 h4 (fun x e => by cases e)
        have b1 : decide (300 < (n0 : Int)) = false := decide_eq_false (by omega)
        have b2 : decide (300 < (n1 : Int)) = false := decide_eq_false (by omega)
        have H2 : Hid (Sl w w.heap.size A2 (ints ts) ∧ ts.length = n2) := ⟨hs2, hn2⟩
        clear hs2 hn2 hs0 hs1 hn0 hn1
        go_enter Tryd.func5, Tryd.ntmps5
        go_wp2_with fail
        refine HL.out.mono ?_
        rintro e w1 ⟨rfl, rfl⟩
        go_wp2_with fail
        refine (pthrough_gt HS0 0 1 rfl rfl _ _ rfl rfl).mono ?_
        rintro e w1 ⟨Aa, na, ca, rfl, HS1, -⟩
        clear HS0
        go_wp2_with fail
        refine (rthrough_gt HS1 0 1 rfl rfl _ _ rfl rfl).mono ?_
        rintro e w2 ⟨Ab, nb, cb, rfl, HS2, -⟩
        clear HS1
        have hne : ((Po.thE xs ys) != (Po.thE xs ys)) = false := by simp
        go_wp2_with fail
        refine (same_st HS2 2 3 rfl rfl rfl).mono ?_
        rintro e w3 ⟨rfl, HS3⟩
        clear HS2 hne
        have HB3 := Lib.hid HS3.below
        have HRo := Lib.hid (roll_st A2 n2 c2 ts w3 H2.out.2 (by omega) ((H2.out.1.below HB3.out).more HB3.out.size))
        clear HS3 H2
        go_wp2_with fail
        refine HRo.out.mono ?_
        rintro e w4 ⟨rfl, HD4, HS4⟩
        clear HRo
        go_wp2_with fail
        refine (next_st HS4 HD4 256 (by omega) (by omega)).mono ?_
        rintro e w5 ⟨fr, rfl, hfr, HD5, HS5⟩
        clear HS4 HD4
        go_wp2_with fail
        refine (next_st HS5 HD5 128 (by omega) (by omega)).mono ?_
        rintro e w6 ⟨s, rfl, hst, HD6, HS6⟩
        clear HS5 HD5
        go_wp2_with fail
        refine (next_st HS6 HD6 12 (by omega) (by omega)).mono ?_
        rintro e w7 ⟨n, rfl, hn, HD7, HS7⟩
        clear HS6 HD6
        go_wp2_with fail
        obtain ⟨st, hst2⟩ : ∃ st, 1 + 2 * s = st := ⟨_, rfl⟩
        have HST := Lib.hid hst2
        have hst3 : st ≤ 255 := by omega
        rw [show (1 + 2 * (s : Int)) = (st : Int) by omega]
        clear hst2 hst
        go_loopw [16, 14] (fun v l wr => PlLoop w7 fr st n v l wr) (fun v _ _ => n - (intOf v).toNat)
        case atStart => exact ⟨0, none, 0, Nat.zero_le _, rfl, rfl, World.ownsRow_nil _ _ _ _, Below.refl _ _⟩
        case round =>
          obtain ⟨k, A, c, hk, rfl, rfl, ho, hb⟩ := hrel
          have HO := Lib.hid ho
          have HB := Lib.hid hb
          clear ho hb
          rcases Nat.lt_or_ge k n with hkn | hkn
          · obtain ⟨q, hq⟩ : ∃ q, k * st = q := ⟨_, rfl⟩
            have hq2 : (k : Int) * (st : Int) = (q : Int) := by rw [← hq, Int.natCast_mul]
            have hq3 : q ≤ 2805 := by rw [← hq]; exact Nat.mul_le_mul (show k ≤ 11 by omega) hst3
            obtain ⟨b, hb⟩ : ∃ b, b = UInt8.ofNat (fr + k * st) := ⟨_, rfl⟩
            have hb1 : (b.toNat : Int) = ((fr : Int) + (q : Int)) % 256 := by rw [hb, UInt8.toNat_ofNat', hq]; omega
            have hb2 : IntKind.u8.wrap ((fr : Int) + (q : Int)) = (b.toNat : Int) := by rw [hb1]; rfl
            have HPS := Lib.hid (Po.pl_snoc fr st k b hb)
            have hb3 := hb1.symm
            clear hb hb1 hq
            have HO3 : Hid ((wr.alloc (.cells #[.int .u8 (b.toNat : Int)] 5)).ownsRow w7.heap.size 5 1 (.slice A k c) k (bys (Po.pl fr st k))) := own_alloc HO.out _
            have HSl := Lib.hid (sl_new1 wr 5 (.int .u8 (b.toNat : Int)))
            have HBW : Hid (w7.heap.size ≤ wr.heap.size) := HB.out.size
            have hrow : ∀ y, (Value.slice A k c).ownBlock = some y → w7.heap.size ≤ y := own_block HO.out
            go_wp2_with (at_builtin; refine wpList_append_sl _ rfl (.tmp 69) (.tmp 76) 27 rfl w7.heap.size 5 i0 (.int .u8 0) 1 Tryd.underlying27 hi hz0 hz1 hz2 rfl _ _ _ _ rfl HO3.out _ _ 1 _ _ rfl rfl HSl.out (fun u hu => by simp at hu; subst hu; rfl) (by unfold maxLen; omega) (by omega) (by have := HBW.out; simp; omega) ?_; intro A' c' w8 hown hgrow hblk)
            go_roundw
            case rel =>
              rw [bys_snoc, HPS.out] at hown
              exact ⟨k + 1, A', c', by omega, by go_num, rfl, hown, (HB.out.alloc HBW.out _).grown hgrow (by have := HBW.out; simp; omega) hrow⟩
            case measure => simp [intOf]; omega
          · obtain rfl : k = n := by omega
            have HS8 := HS7.push HO.out (Po.pl_length fr st k) (by omega) HB.out
            have HD8 := HD7.below HB.out
            clear HS7 HD7
            go_wp2_with fail
            refine (bytes_st HS8 HD8 k (by omega)).mono ?_
            rintro e w9 ⟨A4, c4, m, rfl, hm, HD9, HS9⟩
            have HLd : Hid (∀ (i : Nat) (x y : UInt8), (Po.pl fr st k)[i]? = some x → m[i]? = some y → Po.eval (Po.thR (Po.pl fr st k) m) x = y) := fun i x y h5 h6 => by
              have h7 := HST.out
              subst h7
              exact Po.pl_leads fr s k m (by omega) hm i x y h5 h6
            have HE0 : Po.thE (Po.pl fr st k) m = 0 := by
              have h7 := HST.out
              subst h7
              exact (Po.pl_ok fr s k m (by omega) hm).2
            have HRl := (Po.thR_len (Po.pl fr st k) m).1
            rw [Po.pl_length] at HRl
            have HMm := Lib.hid hm
            clear HD8 HS8 hm HD9
            go_wp2_with fail
            refine (pthrough_gt HS9 0 1 rfl rfl _ _ rfl HE0).mono ?_
            rintro e w10 ⟨A5, n5, c5, rfl, HS10, h5⟩
            clear HS9
            go_wp2_with fail
            refine (rthrough_gt HS10 0 1 rfl rfl _ _ rfl HE0).mono ?_
            rintro e w11 ⟨A6, n6, c6, rfl, HS11, -⟩
            have hn5 : n5 ≤ k := by omega
            have hd5 : decide (k < n5) = false := decide_eq_false (by omega)
            clear HS10 HE0 HRl h5
            go_wp2_with fail
            refine (awakeP_any _).mono ?_
            rintro e w12 ⟨rfl, hb⟩
            have HS12 := HS11.go hb
            clear HS11 hb
            go_wp2_with fail
            refine (same_st HS12 2 3 rfl rfl rfl).mono ?_
            rintro e w13 ⟨rfl, HS13⟩
            clear HS12
            go_wp2_with fail
            have HBf := Lib.hid (HS13.below)
            obtain ⟨g1, g2, g3, g4⟩ := HS13.sl (i := 0) rfl
            obtain ⟨m1, m2, m3, m4⟩ := HS13.sl (i := 1) rfl
            obtain ⟨a1, a2, a3, a4⟩ := HS13.sl (i := 2) rfl
            have HA1 := Lib.hid a1
            have HG1 := Lib.hid g1
            have HSL := Lib.hid g4
            have HSM := Lib.hid m4
            have HSA := Lib.hid a4
            clear g1 g2 g3 g4 m1 m2 m3 m4 a1 a2 a3 a4 HS13
            go_loopw [18] (fun v wr => ∃ i : Nat, i ≤ k ∧ v = .int .i64 (i : Int) ∧ Hid (Below w13.heap.size w13 wr)) (fun v _ => k - (intOf v).toNat)
            case atStart => exact ⟨0, Nat.zero_le _, rfl, Below.refl _ _⟩
            case round =>
              obtain ⟨i, hik, rfl, HB⟩ := hrel
              rcases Nat.lt_or_ge i k with hlt | hge
              · obtain ⟨x, hx⟩ := byte_at (Po.pl fr st k) i (by rw [HG1.out]; exact hlt)
                obtain ⟨y, hy⟩ := byte_at m i (by rw [HMm.out]; exact hlt)
                obtain ⟨ad, rfl, hbk, hcx⟩ := (HSL.out.below HB.out).byte hx
                obtain ⟨ad2, rfl, hbk2, hcy⟩ := (HSM.out.below HB.out).byte hy
                have HEv := HLd.out i x y hx hy
                have HSZ : Hid (w13.heap.size ≤ wr.heap.size) := HB.out.size
                have HE : Hid (∀ W, Below wr.heap.size wr W → Calls Tryd.prog 15 #[.slice A5 n5 c5, .int .u8 (x.toNat : Int)] W fun e W' => e = .returned (.int .u8 (y.toNat : Int)) ∧ Below W.heap.size W W') :=
                  fun W hW => by
                    rw [← HEv]
                    exact eval_at A5 n5 c5 W.heap.size _ x _ rfl HA1.out (by omega) W (((HSA.out.below HB.out).below (hW.mono HSZ.out)).more (Nat.le_trans HSZ.out hW.size)) (Nat.le_refl _)
                have hax : (ad.add i).block < wr.heap.size := by rw [add_block]; have := HSZ.out; omega
                have hay : (ad2.add i).block < wr.heap.size := by rw [add_block]; have := HSZ.out; omega
                have hne : ((y.toNat : Int) != (y.toNat : Int)) = false := by simp
                have hik2 : (i : Int) < (k : Int) := by omega
                clear hx hy HEv
                go_wp2_with fail
                go_region_held3 (fun W => W.cell? (ad2.add i) = some (.int .u8 (y.toNat : Int)) ∧ W.cell? (ad.add i) = some (.int .u8 (x.toNat : Int)) ∧ Below wr.heap.size wr W) (first | exact ⟨hcy, hcx, (Below.refl _ _).drew⟩ | go_keep | (go_split_ands; refine ⟨?_, ?_, ?_⟩ <;> assumption) | (go_split_ands; refine keepS3 ?_ ?_ ?_ hay hax hbE <;> assumption)) ((first | (go_at_call 15; ((with_reducible refine (HE.out _ ?_).mono ?_); (first | assumption | (go_split_ands; assumption)); rintro e w' ⟨rfl, hbE⟩))))
                have HS := Lib.hid (show Below wr.heap.size wr w' from (by assumption : _ ∧ _ ∧ Below wr.heap.size wr w').2.2)
                go_wp2_with fail
                go_roundw
                case rel => exact ⟨i + 1, by omega, by go_num, HB.out.trans (HS.out.mono HSZ.out)⟩
                case measure => simp [intOf]; omega
              · go_wp2_with fail
                go_ret
                exact ⟨rfl, HB3.out.trans ((HBf.out.mono HB3.out.size).trans (HB.out.mono (Nat.le_trans HB3.out.size HBf.out.size)))⟩
end Go.Proofs.YtkolmppfhpcdpaaDoor
