/- Rm -/
import Derived.Test.YtjhaogbopmhkoaaDoorY06
import Derived.Test.YtjhaogbopmhkoaaDoorY07
import Derived.Deep.Cut
namespace Go.Proofs.YtjhaogbopmhkoaaDoor
open Go.RowKit
set_option linter.unusedVariables false
set_option maxRecDepth 100000
set_option maxHeartbeats 1000000 in
theorem nrcmp_any (A A2 : Option Addr) (n c m c2 : Nat) (x y : Nat) (w : World) (hn : (Na.dig x).length = n) (hm : (Na.dig y).length = m) (hnc : n ≤ c) (hmc : m ≤ c2) (hs : Sl w w.heap.size A (nats (Na.dig x))) (hs2 : Sl w w.heap.size A2 (nats (Na.dig y))) (hl : n ≤ 1000) (hl2 : m ≤ 1000) :
    Calls Tryd.prog 55 #[.agg #[.slice A n c], .agg #[.slice A2 m c2]] w fun e w' => e = .returned (.int .i64 (Na.sgn x y)) ∧ Below w.heap.size w w' := by
  have H0 := ((((Ow.of (St.refl w)).old hs (by rw [nats_length]; exact hn) hnc hl).old hs2 (by rw [nats_length]; exact hm) hmc hl2).boxed (.slice A n c) 24).boxed (.slice A2 m c2) 24
  simp only [World.size_alloc, List.nil_append, List.cons_append] at H0
  have hc0 := H0.cell 0 rfl
  have hc1 := H0.cell 1 rfl
  have HN := Lib.hid hn
  have HM := Lib.hid hm
  have HB := Lib.hid H0.below
  obtain ⟨-, -, -, q1⟩ := H0.sl (i := 0) rfl
  obtain ⟨-, -, -, q2⟩ := H0.sl (i := 1) rfl
  have HP := Lib.hid q1
  have HQ := Lib.hid q2
  clear hn hm hs hs2 q1 q2 H0
  rcases Nat.lt_trichotomy n m with hnm | hnm | hnm
  · have hne : ((n : Int) != (m : Int)) = true := by rw [bne_iff_ne]; omega
    have HR : Hid (Na.sgn x y = -1) := by unfold Hid; rw [Na.sgn_of_len (by rw [HN.out, HM.out]; omega), HN.out, HM.out]; exact Na.sgn_lt hnm
    have hd : decide (n < m) = true := decide_eq_true hnm
    clear hnm
    go_enter Tryd.func55, Tryd.ntmps55
    go_wp2_with fail
    go_ret
    exact ⟨by rw [HR.out]; rfl, HB.out⟩
  · subst hnm
    have hne : ((n : Int) != (n : Int)) = false := by simp
    obtain ⟨w0, hw0⟩ : ∃ w0, (w.alloc (.cells #[.slice A n c] 24)).alloc (.cells #[.slice A2 n c2] 24) = w0 := ⟨_, rfl⟩
    have HW : Hid ((w.alloc (.cells #[.slice A n c] 24)).alloc (.cells #[.slice A2 n c2] 24) = w0) := hw0
    rw [hw0] at HB HP HQ hc0 hc1
    clear hw0
    go_enter Tryd.func55, Tryd.ntmps55
    go_wp2_with fail
    rw [HW.out]
    go_loopw [5] (fun v wr => ∃ (z : Int) (nq : Nat), -1 ≤ z ∧ z < n ∧ v = .int .i64 z ∧ wr = w0.drewN nq ∧ Hid ((Na.dig x).drop (z + 1).toNat = (Na.dig y).drop (z + 1).toNat)) (fun v _ => (intOf v + 1).toNat)
    case atStart => exact ⟨(n : Int) - 1, 0, by omega, by omega, by go_num, rfl, by unfold Hid; rw [List.drop_of_length_le (by rw [HN.out]; omega), List.drop_of_length_le (by rw [HM.out]; omega)]⟩
    case round =>
      obtain ⟨z, nq, hz1, hz2, rfl, rfl, HE⟩ := hrel
      rcases Int.lt_or_le z 0 with hz | hz
      · have HR : Hid (Na.sgn x y = 0) := Na.sgn_eq (Na.dig_inj (by have := HE.out; rw [show (z + 1).toNat = 0 by omega, List.drop_zero, List.drop_zero] at this; exact this))
        clear hz1
        go_wp2_with fail
        go_ret
        exact ⟨by rw [HR.out]; rfl, below_drewN HB.out _⟩
      · obtain ⟨k, rfl⟩ := Int.eq_ofNat_of_zero_le hz
        have hkn : k < n := by omega
        obtain ⟨a, ha⟩ := nat_at (Na.dig x) k (by rw [HN.out]; exact hkn)
        obtain ⟨b, hb⟩ := nat_at (Na.dig y) k (by rw [HM.out]; exact hkn)
        obtain ⟨ad, rfl, _, hca⟩ := HP.out.nat ha
        obtain ⟨ad2, rfl, _, hcb⟩ := HQ.out.nat hb
        have HE1 : Hid ((Na.dig x).drop (k + 1) = (Na.dig y).drop (k + 1)) := HE.out
        have HHA := Lib.hid ha
        have HHB := Lib.hid hb
        clear ha hb hz1 hz HE
        rcases Nat.lt_trichotomy a b with hab | hab | hab
        · have h1 : decide (a < b) = true := decide_eq_true hab
          have HR : Hid (Na.sgn x y = -1) := by unfold Hid; rw [Na.sgn_at HHA.out HHB.out HE1.out (by omega)]; exact Na.sgn_lt hab
          clear hab
          go_wp2_with fail
          go_quiet (fail)
          go_wp2_with fail
          go_ret
          exact ⟨by rw [HR.out]; rfl, below_drewN (below_drewN HB.out _) _⟩
        · subst hab
          have h1 : decide (a < a) = false := decide_eq_false (by omega)
          have HE2 : Hid ((Na.dig x).drop ((k : Int) - 1 + 1).toNat = (Na.dig y).drop ((k : Int) - 1 + 1).toNat) := by
            unfold Hid
            rw [show ((k : Int) - 1 + 1).toNat = k by omega]
            exact Na.drop_same HHA.out HHB.out HE1.out
          go_wp2_with fail
          go_quiet (fail)
          go_wp2_with fail
          go_quiet (fail)
          go_wp2_with fail
          go_roundw
          case rel => exact ⟨(k : Int) - 1, _, by omega, by omega, rfl, rfl, HE2⟩
          case measure => simp [intOf]
        · have h1 : decide (a < b) = false := decide_eq_false (by omega)
          have h2 : decide (b < a) = true := decide_eq_true hab
          have HR : Hid (Na.sgn x y = 1) := by unfold Hid; rw [Na.sgn_at HHA.out HHB.out HE1.out (by omega)]; exact Na.sgn_gt hab
          clear hab
          go_wp2_with fail
          go_quiet (fail)
          go_wp2_with fail
          go_quiet (fail)
          go_wp2_with fail
          go_ret
          exact ⟨by rw [HR.out]; rfl, below_drewN (below_drewN (below_drewN HB.out _) _) _⟩
  · have hne : ((n : Int) != (m : Int)) = true := by rw [bne_iff_ne]; omega
    have HR : Hid (Na.sgn x y = 1) := by unfold Hid; rw [Na.sgn_of_len (by rw [HN.out, HM.out]; omega), HN.out, HM.out]; exact Na.sgn_gt hnm
    have hd : decide (n < m) = false := decide_eq_false (by omega)
    clear hnm
    go_enter Tryd.func55, Tryd.ntmps55
    go_wp2_with fail
    go_ret
    exact ⟨by rw [HR.out]; rfl, HB.out⟩
end Go.Proofs.YtjhaogbopmhkoaaDoor

namespace Go.Proofs.YtjhaogbopmhkoaaDoor
open Go.RowKit Go.Sort
set_option linter.unusedVariables false
set_option maxRecDepth 100000
/-- what a call leaves that hands back a number of its own -/
def FreshS (w : World) (l : List Nat) (en : Ending) (w' : World) : Prop :=
  ∃ (A : Option Addr) (n c : Nat), en = .returned (.agg #[.slice A n c]) ∧ l.length = n ∧ n ≤ c ∧ w'.ownsRow w.heap.size 3 1 (.slice A n c) n (nats l) ∧ Below w.heap.size w w'
theorem freshS_of {w w' : World} {g : Option Nat} {M : List (Nat × Value)} {L : List Ob} {O : List Rw} (h : Ow w w' g M L O) (i : Nat) {A : Option Addr} {n c : Nat} {l : List Nat} (hi : O[i]? = some ⟨A, n, c, 3, nats l⟩) : FreshS w l (.returned (.agg #[.slice A n c])) w' := by
  have ho := h.row i hi
  exact ⟨A, n, c, rfl, by have := own_len ho; rwa [nats_length] at this, (own_cap ho).1, ho, h.below⟩
theorem Ow.trimmed {w0 w : World} {g : Option Nat} {M : List (Nat × Value)} {L : List Ob} {O : List Rw} (h : Ow w0 w g M L O) (i : Nat) {A : Option Addr} {n c : Nat} {l : List Nat} (hi : O[i]? = some ⟨A, n, c, 3, nats l⟩) (hl : Na.Lim l) {k x : Nat} (hk : Na.tl l l.length = k) (hx : Na.val l = x) : Ow w0 w g M L (O.set i ⟨A, k, c, 3, nats (Na.dig x)⟩) := by
  have hn := own_len (h.row i hi)
  rw [nats_length] at hn
  have h1 := h.cut i hi (k := k) (by rw [← hk, ← hn]; exact Na.tl_le _ _)
  rw [nats_take] at h1
  have e := Na.trim_dig hl
  unfold Na.trim at e
  rw [hk, hx] at e
  rwa [e] at h1
def RTim (w : World) (M : List (Nat × Value)) (L : List Ob) (Y : List Nat) (n m : Nat) (i s cr : Value) (wr : World) : Prop :=
  ∃ (k c : Nat) (A : Option Addr) (ca : Nat) (o : List Nat), k ≤ n ∧ i = .int .i64 (k : Int) ∧ s = .slice A k ca ∧ cr = .int .i64 (c : Int) ∧ c < 16777216 ∧ Hid (o.length = k ∧ Na.Lim o ∧ Na.val o + 16777216 ^ k * c = Na.val (Y.take k) * m + 0) ∧ Hid (Ow w wr none M L [⟨A, k, ca, 3, nats o⟩])
set_option maxHeartbeats 2000000 in
theorem nrtimes_any (A : Option Addr) (n c y m : Nat) (mv : Int) (hmv : mv = (m : Int)) (w : World) (hn : (Na.dig y).length = n) (hnc : n ≤ c) (hs : Sl w w.heap.size A (nats (Na.dig y))) (hl : n ≤ 999) (hm : m < 16777216) :
    Calls Tryd.prog 133 #[.agg #[.slice A n c], .int .i64 mv] w (FreshS w (Na.dig (y * m))) := by
  subst hmv
  have H0 := (((Ow.of (St.refl w)).old hs (by rw [nats_length]; exact hn) hnc (by omega)).boxed (.slice A n c) 24).boxed (.slice none 0 0) 24
  simp only [World.size_alloc, List.nil_append, List.cons_append] at H0
  have hmk := elemI.make .i64 .i64 0 ((n : Int) + 1) 0 (n + 1) rfl (by omega) (by omega) (by omega) (by omega)
  have hc0 := H0.cell 0 rfl
  have H1 := H0.made 3 (.int .i64 0) 0 (n + 1) rfl (by omega) (by unfold maxLen; omega)
  simp only [World.size_alloc, List.nil_append] at H1
  obtain ⟨w1, hw1⟩ : ∃ w1, ((w.alloc (.cells #[.slice A n c] 24)).alloc (.cells #[.slice none 0 0] 24)).alloc (.cells (madeCells #[.int .i64 0] (n + 1)) 3) = w1 := ⟨_, rfl⟩
  have HW : Hid (((w.alloc (.cells #[.slice A n c] 24)).alloc (.cells #[.slice none 0 0] 24)).alloc (.cells (madeCells #[.int .i64 0] (n + 1)) 3) = w1) := hw1
  rw [hw1] at H1
  have HH := Lib.hid H1
  have HN := Lib.hid hn
  clear hn hs H0 H1 hw1
  go_enter Tryd.func133, Tryd.ntmps133
  go_wp2_with fail
  rw [HW.out]
  clear hc0 hmk
  go_loopw [7, 5, 6] (fun i s cr wr => RTim w [(w.heap.size, .slice A n c), (w.heap.size + 1, .slice none 0 0)] [⟨A, n, c, nats (Na.dig y)⟩] (Na.dig y) n m i s cr wr) (fun i _ _ _ => n - (intOf i).toNat)
  case atStart => exact ⟨0, 0, _, _, [], Nat.zero_le _, rfl, rfl, rfl, by omega, ⟨rfl, Na.Lim.nil, by simp [Na.val]⟩, HH.out⟩
  case round =>
    obtain ⟨k, cr, Ao, co, o, hk, rfl, rfl, rfl, hcr, HP, HO⟩ := hrel
    have hc0 := HO.out.cell 0 rfl
    have HQ := HO.out.sl (i := 0) rfl
    rcases Nat.lt_or_ge k n with hkn | hkn
    · obtain ⟨a, ha⟩ := nat_at (Na.dig y) k (by rw [HN.out]; exact hkn)
      have ha24 := (Na.dig_lim y).at ha
      obtain ⟨ad, rfl, _, hca⟩ := HQ.2.2.2.nat ha
      obtain ⟨p, hp⟩ : ∃ p, a * m = p := ⟨_, rfl⟩
      have hp1 : (a : Int) * (m : Int) = (p : Int) := by rw [← hp]; rfl
      obtain ⟨v, hv⟩ : ∃ v, p + cr = v := ⟨_, rfl⟩
      have hv48 : v < 281474976710656 := by have := Na.sq24 (e := 0) (by omega) ha24 hm hcr; omega
      obtain ⟨r, hr⟩ : ∃ r, v % 16777216 = r := ⟨_, rfl⟩
      obtain ⟨q, hq⟩ : ∃ q, v / 16777216 = q := ⟨_, rfl⟩
      have HSt := Lib.hid (Na.grow_step (Na.dig y) o k a m cr 0 v HP.out.1 ha HP.out.2.2 (by rw [hp]; omega))
      rw [hr, hq] at HSt
      have hmod : ((p : Int) + (cr : Int)) % 16777216 = (r : Int) := by omega
      have hdiv : ((p : Int) + (cr : Int)) / 16777216 = (q : Int) := by omega
      have hq24 : q < 16777216 := by omega
      have hr24 : r < 16777216 := by omega
      have HLr := Lib.hid (HP.out.2.1.append (Na.Lim.one hr24))
      have HLl : Hid ((o ++ [r]).length = k + 1) := by unfold Hid; rw [List.length_append, HP.out.1]; rfl
      clear ha hp hv hr hq
      go_wp2_with (at_builtin; refine ow_append1 elemI HO.out 0 (.tmp 31) (.tmp 34) _ _ rfl rfl (by unfold maxLen; omega) (by omega) rfl rfl rfl rfl ?_; intro A' c' w8 how)
      go_roundw
      case rel =>
        rw [nats_snoc] at how
        exact ⟨k + 1, q, A', c', o ++ [r], by omega, by go_num, rfl, (by first | rfl | exact int_eqv hdiv), hq24, ⟨HLl.out, HLr.out, HSt.out⟩, how⟩
      case measure => simp [intOf]; omega
    · obtain rfl : k = n := by omega
      have HV : Hid (Na.val (o ++ [cr]) = y * m) := by
        unfold Hid
        have h7 := HP.out.2.2
        rw [List.take_of_length_le (by rw [HN.out]; omega), Na.val_dig] at h7
        rw [Na.val_snoc, HP.out.1]
        omega
      have HL1 := Lib.hid (HP.out.2.1.append (Na.Lim.one hcr))
      have HLl : Hid ((o ++ [cr]).length = k + 1) := by unfold Hid; rw [List.length_append, HP.out.1]; rfl
      clear HQ
      go_wp2_with (at_builtin; refine ow_append1 elemI HO.out 0 (.tmp 38) (.tmp 40) _ _ rfl rfl (by unfold maxLen; omega) (by omega) rfl rfl rfl rfl ?_; intro A' c' w8 how)
      rw [nats_snoc] at how
      obtain ⟨l, hl0⟩ : ∃ l, o ++ [cr] = l := ⟨_, rfl⟩
      rw [hl0] at how HV HL1 HLl
      have HX := Lib.hid how
      clear HO hl0 how hc0
      go_loop [9] (fun v => ∃ j : Nat, j ≤ k + 1 ∧ v = .int .i64 (j : Int) ∧ Hid (Na.tl l j = Na.tl l l.length)) (fun v => (intOf v).toNat)
      case atStart => exact ⟨k + 1, Nat.le_refl _, rfl, by unfold Hid; rw [HLl.out]⟩
      case round =>
        obtain ⟨j, hj, rfl, HT⟩ := hrel
        have hrw := HX.out.row 0 rfl
        have hown := Sl.of_own hrw
        rcases Na.tl_case l l.length j (by rw [HLl.out]; exact hj) HT.out with ⟨h0, hz, ht⟩ | ⟨ht, hs⟩
        · obtain ⟨ad2, rfl, _, hcb⟩ := hown.nat hz
          have HT2 := Lib.hid ht
          have hd : decide (0 < (j : Int)) = true := decide_eq_true (by omega)
          clear hown hz ht hrw
          go_wp2_with fail
          go_round
          case rel => exact ⟨j - 1, by omega, int_eqv (by omega), HT2⟩
          case measure => simp [intOf]; omega
        · have hcap := (own_cap hrw).1
          have hjc : (j : Int) ≤ (c' : Int) := by omega
          have HTr := Lib.hid (HX.out.trimmed 0 rfl HL1.out ht HV.out)
          have hc1 := HX.out.cell 1 rfl
          have hf1 := HX.out.free 1 rfl
          clear hrw hcap ht HT
          rcases hs with h0 | ⟨h0, b, hb, hbne⟩
          · subst h0
            clear hown
            go_wp2_with fail
            have h2 := HTr.out.setv 1 rfl (.slice A' 0 c')
            have hc2 := h2.cell 1 rfl
            refine bodyPost_ret (v := .agg #[.slice A' 0 c']) (by simp [results, Tryd.results133, go_sem, hc2]) rfl ?_
            exact freshS_of h2 0 rfl
          · obtain ⟨ad2, rfl, _, hcb⟩ := hown.nat hb
            have hd : decide (0 < (j : Int)) = true := decide_eq_true (by omega)
            clear hown hb
            go_wp2_with fail
            have h2 := HTr.out.setv 1 rfl (.slice (some ad2) j c')
            have hc2 := h2.cell 1 rfl
            refine bodyPost_ret (v := .agg #[.slice (some ad2) j c']) (by simp [results, Tryd.results133, go_sem, hc2]) rfl ?_
            exact freshS_of h2 0 rfl
end Go.Proofs.YtjhaogbopmhkoaaDoor

namespace Go.Proofs.YtjhaogbopmhkoaaDoor
open Go.RowKit Go.Sort
set_option linter.unusedVariables false
set_option maxRecDepth 100000
namespace Na
/-- the limbs while one is taken away: those done, one that is lent from, the rest -/
def lent (o : List Nat) (b : Nat) : List Nat → List Int
  | [] => up o
  | a :: r => up o ++ ((a : Int) - b) :: up r
theorem up_append (o r : List Nat) : up (o ++ r) = up o ++ up r := by simp [up]
theorem up_cons (a : Nat) (r : List Nat) : up (a :: r) = (a : Int) :: up r := rfl
theorem lent_get (o : List Nat) (b a : Nat) (r : List Nat) : (lent o b (a :: r))[o.length]? = some ((a : Int) - b) := by
  rw [lent, List.getElem?_append_right (by rw [up_length]; exact Nat.le_refl _), up_length, Nat.sub_self]; rfl
theorem lent_set (o : List Nat) (b a : Nat) (r : List Nat) (v : Int) : (lent o b (a :: r)).set o.length v = up o ++ v :: up r := by
  rw [lent, List.set_append_right _ _ (by rw [up_length]; exact Nat.le_refl _), up_length, Nat.sub_self]; rfl
theorem mid_set (o r : List Nat) (u v : Int) : (up o ++ u :: up r).set o.length v = up o ++ v :: up r := by
  rw [List.set_append_right _ _ (by rw [up_length]; exact Nat.le_refl _), up_length, Nat.sub_self]; rfl
theorem mid_get (o r : List Nat) (u : Int) : (up o ++ u :: up r)[o.length]? = some u := by
  rw [List.getElem?_append_right (by rw [up_length]; exact Nat.le_refl _), up_length, Nat.sub_self]; rfl
theorem mid_get1 (o r : List Nat) (u : Int) (a : Nat) : (up o ++ u :: up (a :: r))[o.length + 1]? = some (a : Int) := by
  rw [List.getElem?_append_right (by rw [up_length]; exact Nat.le_succ _), up_length, Nat.add_sub_cancel_left]; rfl
theorem lent_zero (o r : List Nat) (d : Nat) : up o ++ (d : Int) :: up r = lent (o ++ [d]) 0 r := by
  cases r with
  | nil => rw [lent, up_append]; rfl
  | cons a r => rw [lent, up_append, List.append_assoc]; simp [up]
theorem lent_one (o r : List Nat) (d a : Nat) : (up o ++ (d : Int) :: up (a :: r)).set (o.length + 1) ((a : Int) - 1) = lent (o ++ [d]) 1 (a :: r) := by
  rw [List.set_append_right _ _ (by rw [up_length]; exact Nat.le_succ _), up_length, Nat.add_sub_cancel_left, lent, up_append, List.append_assoc]; rfl
theorem lent_nil (o : List Nat) (b : Nat) : ints (lent o b []) = nats o := nats_up o
theorem lent_start (X : List Nat) : ints (lent [] 0 X) = nats X := by
  cases X with
  | nil => rfl
  | cons a r =>
    rw [← nats_up]
    have : lent [] 0 (a :: r) = up (a :: r) := by rw [lent, up_cons]; simp [up]
    rw [this]
end Na
theorem ints_set (l : List Int) (k : Nat) (b : Int) : (ints l).set k (.int .i64 b) = ints (l.set k b) := by unfold ints; rw [List.map_set]; rfl
theorem own_int {w : World} {base n c g : Nat} {e : TypeId} {l : List Int} (h : w.ownsRow base e 1 (.slice (some ⟨g, 0, none⟩) n c) n (ints l)) {k : Nat} {b : Int} (hk : l[k]? = some b) : w.cell? ⟨g, k, none⟩ = some (.int .i64 b) := by
  have hl := own_len h
  rw [ints_length] at hl
  rw [h.cellAt k (by have := get_lt hk; omega)]
  unfold ints
  rw [List.getElem?_map, hk]
  rfl
/-- a contract of a call that only lays blocks, met behind some draws and blocks -/
theorem regrown_call {P : Program} {f : FuncId} {args : Array Value} {w : World} {v : Value} (h : ∀ W, Below w.heap.size w W → Calls P f args W fun e w' => e = .returned v ∧ Below W.heap.size W w') (d : Nat) (os : Array Obj) : Calls P f args (grow (redrawn w d) os) fun e w'' => e = .returned v ∧ ∃ p : Regrown, w'' = grow (redrawn w p.d) p.os :=
  Calls.regrown_of (h _ (below_regrown w d os))
theorem regrown_below {w W : World} (h : ∃ p : Regrown, W = grow (redrawn w p.d) p.os) : Below w.heap.size w W := by
  obtain ⟨p, rfl⟩ := h
  exact below_regrown _ _ _
def RLess (w : World) (M : List (Nat × Value)) (L : List Ob) (X Y : List Nat) (n : Nat) (A : Option Addr) (ca : Nat) (i : Value) (wr : World) : Prop :=
  ∃ (k b : Nat) (o : List Nat), k ≤ n ∧ i = .int .i64 (k : Int) ∧ b ≤ 1 ∧ Hid (o.length = k ∧ Na.Lim o ∧ Na.val o + Na.val (Y.take k) = Na.val (X.take k) + 16777216 ^ k * b) ∧ Hid (Ow w wr none M L [⟨A, n, ca, 3, ints (Na.lent o b (X.drop k))⟩])
theorem own_blk0 {w0 w : World} {g : Option Nat} {M : List (Nat × Value)} {L : List Ob} {gb n c : Nat} {e : TypeId} {vs : List Value} {O : List Rw} (h : Ow w0 w g M L (⟨some ⟨gb, 0, none⟩, n, c, e, vs⟩ :: O)) : gb < w.heap.size := (h.lt (i := 0) rfl (b := gb) rfl).1
set_option maxHeartbeats 4000000 in
theorem nrless_any (A A2 : Option Addr) (n c m c2 x y : Nat) (w : World) (hn : (Na.dig x).length = n) (hm : (Na.dig y).length = m) (hnc : n ≤ c) (hmc : m ≤ c2) (hs : Sl w w.heap.size A (nats (Na.dig x))) (hs2 : Sl w w.heap.size A2 (nats (Na.dig y))) (hl : n ≤ 999) (hl2 : m ≤ 999) (hle : y ≤ x) :
    Calls Tryd.prog 134 #[.agg #[.slice A n c], .agg #[.slice A2 m c2]] w (FreshS w (Na.dig (x - y))) := by
  have H0 := (((((Ow.of (St.refl w)).old hs (by rw [nats_length]; exact hn) hnc (by omega)).old hs2 (by rw [nats_length]; exact hm) hmc (by omega)).boxed (.slice A n c) 24).boxed (.slice A2 m c2) 24).boxed (.slice none 0 0) 24
  simp only [World.size_alloc, List.nil_append, List.cons_append] at H0
  have hc0 := H0.cell 0 rfl
  have H1 := H0.nil 3
  simp only [List.nil_append] at H1
  have HH := Lib.hid H1
  have HN := Lib.hid hn
  have HM := Lib.hid hm
  have HS := Lib.hid (H0.sl (i := 0) rfl)
  have HLe := Lib.hid hle
  have hmn : m ≤ n := by rw [← hn, ← hm]; exact Na.dig_len_mono hle
  clear hn hm hs hs2 H0 H1 hle
  go_enter Tryd.func134, Tryd.ntmps134
  go_wp2_with (at_builtin; refine ow_append elemI HH.out 0 (.const (.slice none 0 0)) (.tmp 9) rfl (by rw [nats_length]; exact HN.out) HS.out.2.2.2 (nats_one _) (by unfold maxLen; omega) (by omega) rfl rfl rfl rfl ?_; intro A' c' w1 how)
  rw [List.nil_append, Nat.zero_add] at how
  have HX := Lib.hid how
  clear how HH hc0
  go_loopw [6] (fun i wr => RLess w [(w.heap.size, .slice A n c), (w.heap.size + 1, .slice A2 m c2), (w.heap.size + 1 + 1, .slice none 0 0)] [⟨A, n, c, nats (Na.dig x)⟩, ⟨A2, m, c2, nats (Na.dig y)⟩] (Na.dig x) (Na.dig y) n A' c' i wr) (fun i _ => n - (intOf i).toNat)
  case atStart => exact ⟨0, 0, [], Nat.zero_le _, rfl, Nat.zero_le _, ⟨rfl, Na.Lim.nil, by simp [Na.val]⟩, by unfold Hid; rw [List.drop_zero, Na.lent_start]; exact HX.out⟩
  case round =>
    obtain ⟨k, bw, o, hk, rfl, hbw, HP, HO⟩ := hrel
    rcases Nat.lt_or_ge k n with hkn | hkn
    · obtain ⟨a, ha⟩ := nat_at (Na.dig x) k (by rw [HN.out]; exact hkn)
      have ha24 := (Na.dig_lim x).at ha
      have hat := Na.at0_some ha
      obtain ⟨R, hR⟩ : ∃ R, (Na.dig x).drop (k + 1) = R := ⟨_, rfl⟩
      have hdr : (Na.dig x).drop k = a :: R := by rw [← hR]; exact List.drop_eq_getElem?_toList_append ▸ (by rw [ha]; rfl)
      have HO1 := HO.out
      rw [hdr] at HO1
      have HRl : Hid (R.length + (k + 1) = n) := by unfold Hid; rw [← hR, List.length_drop, HN.out]; omega
      have HRR := Lib.hid hR
      have hrow := HO1.row 0 rfl
      obtain ⟨gb, rfl, -, -⟩ := own_form hrow (by omega)
      obtain ⟨u, hu⟩ : ∃ u : Int, (a : Int) - (bw : Int) = u := ⟨_, rfl⟩
      have hg0 : (Na.lent o bw (a :: R))[k]? = some u := by rw [← hu]; have := Na.lent_get o bw a R; rwa [HP.out.1] at this
      have hcl := own_int hrow hg0
      have hfz := hrow.frozenAt k
      obtain ⟨b, hb⟩ : ∃ b, Na.at0 (Na.dig y) k = b := ⟨_, rfl⟩
      have hb24 : b < 16777216 := by rw [← hb]; exact Na.at0_lt (Na.dig_lim y) k
      have hc1 := HO1.cell 1 rfl
      have HQ := Lib.hid (HO1.sl (i := 1) rfl)
      have cL := regrown_call (P := Tryd.prog) (w := wr) (f := 93) (args := #[.agg #[.slice A2 m c2], .int .i64 (k : Int)]) (v := .int .i64 (b : Int)) (fun W hW => by
        rw [← hb]
        exact nlimb_any A2 m c2 wr.heap.size k (Na.dig y) _ rfl W HM.out (HQ.out.2.2.2.below hW) hW.size (by omega))
      have k1 := cell_regrown hc1
      have k2 := cell_regrown hcl
      have HOw := Lib.hid HO1
      obtain ⟨v0, hv0⟩ : ∃ v0 : Int, u - (b : Int) = v0 := ⟨_, rfl⟩
      have hset : (ints (Na.lent o bw (a :: R))).set k (.int .i64 v0) = ints (Na.up o ++ v0 :: Na.up R) := by
        rw [ints_set]; have := Na.lent_set o bw a R v0; rw [HP.out.1] at this; rw [this]
      have HHu := Lib.hid hu
      have HHv := Lib.hid hv0
      have HHb := Lib.hid hb
      have HHa := Lib.hid hat
      have HSt := Lib.hid hset
      have hub : -2 ≤ u ∧ u < 16777216 := by omega
      clear ha hat hR hdr hg0 hu hb HO HO1 hrow hset hc1
      go_upto_region 5 with (fail)
      refine region_below_tail 9 (by kernel_rfl) (by kernel_rfl) ?_
      simp only [List.take_succ_cons, List.take_zero, List.drop_succ_cons, List.drop_zero]
      repeat (quiet_step (exact cL _ _))
      refine wpQuiet_nil ?_
      intro W hW
      have hbl := regrown_below hW
      clear hW k1 k2 cL
      have hcw := (hbl.cell (p := ⟨gb, k, none⟩) (own_blk0 HOw.out)).trans hcl
      have hfw := (hbl.frozen (p := ⟨gb, k, none⟩) (own_blk0 HOw.out)).trans hfz
      have H5 := (HOw.out.go hbl).put 0 rfl k (.int .i64 v0)
      rw [List.set_cons_zero, HSt.out] at H5
      clear hcl hfz HOw hbl HSt HQ
      go_upto_region 6 with (fail)
      obtain ⟨w5, hw5⟩ : ∃ w5, W.setCell ⟨gb, k, none⟩ (.int .i64 v0) = w5 := ⟨_, rfl⟩
      rw [hw5] at H5 ⊢
      clear hw5 hcw hfw
      have hr5 := H5.row 0 rfl
      have hg5 : (Na.up o ++ v0 :: Na.up R)[k]? = some v0 := by have := Na.mid_get o R v0; rwa [HP.out.1] at this
      have hc5 := own_int hr5 hg5
      have hf5 := hr5.frozenAt k
      have HO5 := Lib.hid H5
      clear H5 hr5 hg5
      by_cases hneg : v0 < 0
      · obtain ⟨d, hd⟩ : ∃ d : Nat, v0 + 16777216 = (d : Int) := ⟨(v0 + 16777216).toNat, by have := HHv.out; have := HHu.out; omega⟩
        have hd24 : d < 16777216 := by omega
        have HSB := Lib.hid (Na.sub_no (Na.dig x) (Na.dig y) o k bw d HP.out.1 HP.out.2.2 (by rw [HHa.out, HHb.out]; have := HHv.out; have := HHu.out; omega))
        have HLr := Lib.hid (HP.out.2.1.append (Na.Lim.one hd24))
        have HLl : Hid ((o ++ [d]).length = k + 1) := by unfold Hid; rw [List.length_append, HP.out.1]; rfl
        have hkn1 : k + 1 < n := by
          rcases Nat.lt_or_ge (k + 1) n with h | h
          · exact h
          · exfalso
            have h1 := HSB.out
            rw [List.take_of_length_le (by have := HN.out; have := HM.out; omega), List.take_of_length_le (by have := HN.out; have := HM.out; omega), Na.val_dig, Na.val_dig] at h1
            have h2 := Na.val_lt HLr.out
            rw [HLl.out] at h2
            have := HLe.out
            omega
        obtain ⟨a1, ha1⟩ := nat_at (Na.dig x) (k + 1) (by rw [HN.out]; exact hkn1)
        have ha24' := (Na.dig_lim x).at ha1
        obtain ⟨R1, hR1⟩ : ∃ R1, (Na.dig x).drop (k + 2) = R1 := ⟨_, rfl⟩
        have hRc : R = a1 :: R1 := by rw [← HRR.out, ← hR1]; exact List.drop_eq_getElem?_toList_append ▸ (by rw [ha1]; rfl)
        subst hRc
        have hn1 : (v0 + 16777216 : Int) = d := hd
        have hs6 : (ints (Na.up o ++ v0 :: Na.up (a1 :: R1))).set k (.int .i64 (d : Int)) = ints (Na.up o ++ (d : Int) :: Na.up (a1 :: R1)) := by
          rw [ints_set]; have := Na.mid_set o (a1 :: R1) v0 d; rw [HP.out.1] at this; rw [this]
        have H6 := HO5.out.put 0 rfl k (.int .i64 (d : Int))
        rw [List.set_cons_zero, hs6] at H6
        clear ha1 hR1 hs6 HO5 hd
        go_upto_region 8 with (fail)
        obtain ⟨w6, hw6⟩ : ∃ w6, w5.setCell ⟨gb, k, none⟩ (.int .i64 (d : Int)) = w6 := ⟨_, rfl⟩
        rw [hw6] at H6 ⊢
        clear hw6 hc5 hf5 hn1
        have hr6 := H6.row 0 rfl
        have hg6 : (Na.up o ++ (d : Int) :: Na.up (a1 :: R1))[k + 1]? = some (a1 : Int) := by have := Na.mid_get1 o R1 d a1; rwa [HP.out.1] at this
        have hc6 := own_int hr6 hg6
        have hf6 := hr6.frozenAt (k + 1)
        have hs7 : (ints (Na.up o ++ (d : Int) :: Na.up (a1 :: R1))).set (k + 1) (.int .i64 ((a1 : Int) - 1)) = ints (Na.lent (o ++ [d]) 1 (a1 :: R1)) := by
          rw [ints_set]; have := Na.lent_one o R1 d a1; rw [HP.out.1] at this; rw [this]
        have H7 := H6.put 0 rfl (k + 1) (.int .i64 ((a1 : Int) - 1))
        rw [List.set_cons_zero, hs7, ← HRR.out] at H7
        have HO7 := Lib.hid H7
        have s4 : ((k : Int) + 1).toNat = k + 1 := by omega
        clear H6 H7 hr6 hg6 hs7 hneg
        go_wp2_with fail
        go_roundw
        case rel => exact ⟨k + 1, 1, o ++ [d], by omega, by go_num, Nat.le_refl _, ⟨HLl.out, HLr.out, HSB.out⟩, HO7.out⟩
        case measure => simp [intOf]; omega
      · have hpos : 0 ≤ v0 := by omega
        obtain ⟨d, rfl⟩ := Int.eq_ofNat_of_zero_le hpos
        have hd24 : d < 16777216 := by have := HHv.out; omega
        have HSB := Lib.hid (Na.sub_yes (Na.dig x) (Na.dig y) o k bw d HP.out.1 HP.out.2.2 (by rw [HHa.out, HHb.out]; have := HHv.out; have := HHu.out; omega))
        have HLr := Lib.hid (HP.out.2.1.append (Na.Lim.one hd24))
        have HLl : Hid ((o ++ [d]).length = k + 1) := by unfold Hid; rw [List.length_append, HP.out.1]; rfl
        have HO7 : Hid (Ow w w5 none [(w.heap.size, .slice A n c), (w.heap.size + 1, .slice A2 m c2), (w.heap.size + 1 + 1, .slice none 0 0)] [⟨A, n, c, nats (Na.dig x)⟩, ⟨A2, m, c2, nats (Na.dig y)⟩] [⟨some ⟨gb, 0, none⟩, n, c', 3, ints (Na.lent (o ++ [d]) 0 ((Na.dig x).drop (k + 1)))⟩]) := by
          unfold Hid
          rw [HRR.out, ← Na.lent_zero]
          exact HO5.out
        clear hneg
        go_wp2_with fail
        go_roundw
        case rel => exact ⟨k + 1, 0, o ++ [d], by omega, by go_num, Nat.zero_le _, ⟨HLl.out, HLr.out, HSB.out⟩, HO7.out⟩
        case measure => simp [intOf]; omega
    · obtain rfl : k = n := by omega
      have HV : Hid (Na.val o = x - y) := by
        unfold Hid
        rw [Na.sub_end (Na.dig x) (Na.dig y) o k bw HP.out.2.1 HP.out.1 HP.out.2.2 (by rw [HN.out]; exact Nat.le_refl _) (by rw [HM.out]; exact hmn) (by rw [Na.val_dig, Na.val_dig]; exact HLe.out), Na.val_dig, Na.val_dig]
      have HL1 := Lib.hid HP.out.2.1
      have HLl := Lib.hid HP.out.1
      have how := HO.out
      rw [List.drop_of_length_le (by rw [HN.out]; exact Nat.le_refl _), Na.lent_nil] at how
      have HY := Lib.hid how
      obtain ⟨l, hl0⟩ : ∃ l, o = l := ⟨_, rfl⟩
      subst hl0
      clear HO how HX HP
      go_wp2_with fail
      go_loop [7] (fun v => ∃ j : Nat, j ≤ k ∧ v = .int .i64 (j : Int) ∧ Hid (Na.tl o j = Na.tl o o.length)) (fun v => (intOf v).toNat)
      case atStart => exact ⟨k, Nat.le_refl _, rfl, by unfold Hid; rw [HLl.out]⟩
      case round =>
        obtain ⟨j, hj, rfl, HT⟩ := hrel
        have hrw := HY.out.row 0 rfl
        have hown := Sl.of_own hrw
        rcases Na.tl_case o o.length j (by rw [HLl.out]; exact hj) HT.out with ⟨h0, hz, ht⟩ | ⟨ht, hs⟩
        · obtain ⟨ad2, rfl, _, hcb⟩ := hown.nat hz
          have HT2 := Lib.hid ht
          have hd : decide (0 < (j : Int)) = true := decide_eq_true (by omega)
          clear hown hz ht hrw
          go_wp2_with fail
          go_round
          case rel => exact ⟨j - 1, by omega, int_eqv (by omega), HT2⟩
          case measure => simp [intOf]; omega
        · have hcap := (own_cap hrw).1
          have hjc : (j : Int) ≤ (c' : Int) := by omega
          have HTr := Lib.hid (HY.out.trimmed 0 rfl HL1.out ht HV.out)
          have hc1 := HY.out.cell 2 rfl
          have hf1 := HY.out.free 2 rfl
          clear hrw hcap ht HT
          rcases hs with h0 | ⟨h0, b, hb, hbne⟩
          · subst h0
            clear hown
            go_wp2_with fail
            have h2 := HTr.out.setv 2 rfl (.slice A' 0 c')
            have hc2 := h2.cell 2 rfl
            refine bodyPost_ret (v := .agg #[.slice A' 0 c']) (by simp [results, Tryd.results134, go_sem, hc2]) rfl ?_
            exact freshS_of h2 0 rfl
          · obtain ⟨ad2, rfl, _, hcb⟩ := hown.nat hb
            have hd : decide (0 < (j : Int)) = true := decide_eq_true (by omega)
            clear hown hb
            go_wp2_with fail
            have h2 := HTr.out.setv 2 rfl (.slice (some ad2) j c')
            have hc2 := h2.cell 2 rfl
            refine bodyPost_ret (v := .agg #[.slice (some ad2) j c']) (by simp [results, Tryd.results134, go_sem, hc2]) rfl ?_
            exact freshS_of h2 0 rfl
end Go.Proofs.YtjhaogbopmhkoaaDoor

namespace Go.Proofs.YtjhaogbopmhkoaaDoor
open Go.RowKit Go.Sort
set_option linter.unusedVariables false
set_option maxRecDepth 100000
section
variable {w0 w w' : World} {g : Option Nat} {M : List (Nat × Value)} {L : List Ob} {O : List Rw} {A A2 : Option Addr} {n c m c2 x y : Nat}
theorem Ow.addN (h : Ow w0 w g M L O) {l : List Nat} {e : Int} {en : Ending} (hr : ResN w l e en w') : ∃ (A : Option Addr) (n c : Nat), en = .returned (.tuple #[.agg #[.slice A n c], .int .i64 e]) ∧ l.length = n ∧ Ow w0 w' g M L (O ++ [⟨A, n, c, 3, nats l⟩]) := by
  obtain ⟨A, n, c, rfl, hn, ho, hb⟩ := hr
  exact ⟨A, n, c, rfl, hn, h.add ho hb⟩
theorem Ow.pushN (h : Ow w0 w g M L O) {l : List Nat} {e : Int} {en : Ending} (hr : ResN w l e en w') (hl : l.length ≤ 1000) : ∃ (A : Option Addr) (n c : Nat), en = .returned (.tuple #[.agg #[.slice A n c], .int .i64 e]) ∧ l.length = n ∧ Ow w0 w' g M (L ++ [⟨A, n, c, nats l⟩]) O := by
  obtain ⟨A, n, c, rfl, hn, ho, hb⟩ := hr
  exact ⟨A, n, c, rfl, hn, h.push ho (by omega) hb⟩
theorem Ow.pushS (h : Ow w0 w g M L O) {l : List Nat} {en : Ending} (hr : FreshS w l en w') (hl : l.length ≤ 1000) : ∃ (A : Option Addr) (n c : Nat), en = .returned (.agg #[.slice A n c]) ∧ l.length = n ∧ Ow w0 w' g M (L ++ [⟨A, n, c, nats l⟩]) O := by
  obtain ⟨A, n, c, rfl, hn, _, ho, hb⟩ := hr
  exact ⟨A, n, c, rfl, hn, h.push ho (by omega) hb⟩
/-- fewer lists are looked at -/
theorem Ow.less (h : Ow w0 w g M L O) {L' : List Ob} (hL : ∀ o ∈ L', o ∈ L) : Ow w0 w g M L' O :=
  ⟨h.st.sub (fun _ h => h) h.st.one hL, h.own, fun i r hi b hb => ⟨(h.ap i r hi b hb).1, (h.ap i r hi b hb).2.1, fun o ho => (h.ap i r hi b hb).2.2 o (hL o ho)⟩, h.two⟩
theorem resN_of (h : Ow w w' g M L O) (i : Nat) {l : List Nat} (hi : O[i]? = some ⟨A, n, c, 3, nats l⟩) (e : Int) : ResN w l e (.returned (.tuple #[.agg #[.slice A n c], .int .i64 e])) w' := by
  have ho := h.row i hi
  exact ⟨A, n, c, rfl, by have := own_len ho; rwa [nats_length] at this, ho, h.below⟩
theorem nats_eq {zs : List Int} (hs : Sl w w.heap.size A (ints zs)) (e : zs = Na.up (Na.dig x)) : Sl w w.heap.size A (nats (Na.dig x)) := by rw [e, nats_up] at hs; exact hs
theorem rvalid_ow (h : Ow w0 w g M L O) (i : Nat) {zs : List Int} (hi : L[i]? = some ⟨A, n, c, ints zs⟩) :
    Calls Tryd.prog 62 #[.agg #[.slice A n c]] w fun e w' => e = .returned (.bool (Na.vld zs)) ∧ Ow w0 w' g M L O := by
  obtain ⟨h1, h2, h3, h4⟩ := h.sl hi
  rw [ints_length] at h1
  exact (nrvalid_any A n c w.heap.size zs w h1 h4 (Nat.le_refl _) (by omega)).mono fun en w' ⟨he, hb⟩ => ⟨he, h.go hb⟩
theorem rvalid_ok (h : Ow w0 w g M L O) (i : Nat) (hi : L[i]? = some ⟨A, n, c, nats (Na.dig x)⟩) (hx : x < Na.top) :
    Calls Tryd.prog 62 #[.agg #[.slice A n c]] w fun e w' => e = .returned (.bool true) ∧ Ow w0 w' g M L O := by
  rw [← nats_up] at hi
  have := rvalid_ow h i hi
  rwa [Na.vld_dig hx] at this
theorem rcmp_ow (h : Ow w0 w g M L O) (i j : Nat) (hi : L[i]? = some ⟨A, n, c, nats (Na.dig x)⟩) (hj : L[j]? = some ⟨A2, m, c2, nats (Na.dig y)⟩) :
    Calls Tryd.prog 55 #[.agg #[.slice A n c], .agg #[.slice A2 m c2]] w fun e w' => e = .returned (.int .i64 (Na.sgn x y)) ∧ Ow w0 w' g M L O := by
  obtain ⟨h1, h2, h3, h4⟩ := h.sl hi
  obtain ⟨k1, k2, k3, k4⟩ := h.sl hj
  rw [nats_length] at h1 k1
  exact (nrcmp_any A A2 n c m c2 x y w h1 k1 h2 k2 h4 k4 h3 k3).mono fun en w' ⟨he, hb⟩ => ⟨he, h.go hb⟩
theorem rtimes_ow (h : Ow w0 w g M L O) (i m : Nat) (hi : L[i]? = some ⟨A, n, c, nats (Na.dig y)⟩) (hn : n ≤ 998) (hm : m < 16777216) :
    Calls Tryd.prog 133 #[.agg #[.slice A n c], .int .i64 (m : Int)] w fun e w' => ∃ (A' : Option Addr) (n' c' : Nat), e = .returned (.agg #[.slice A' n' c']) ∧ n' ≤ n + 1 ∧ Ow w0 w' g M (L ++ [⟨A', n', c', nats (Na.dig (y * m))⟩]) O := by
  obtain ⟨h1, h2, h3, h4⟩ := h.sl hi
  rw [nats_length] at h1
  have hle : (Na.dig (y * m)).length ≤ n + 1 := by
    have a1 := Na.dig_len_mul y m
    have a2 := Na.dig_len_le (n := 1) (x := m) (by omega)
    omega
  exact (nrtimes_any A n c y m _ rfl w h1 h2 h4 (by omega) hm).mono fun en w' hr => by
    obtain ⟨A', n', c', e, e2, ho⟩ := h.pushS hr (by omega)
    exact ⟨A', n', c', e, by omega, ho⟩
theorem rless_ow (h : Ow w0 w g M L O) (i j : Nat) (hi : L[i]? = some ⟨A, n, c, nats (Na.dig x)⟩) (hj : L[j]? = some ⟨A2, m, c2, nats (Na.dig y)⟩) (hn : n ≤ 999) (hm : m ≤ 999) (hle : y ≤ x) :
    Calls Tryd.prog 134 #[.agg #[.slice A n c], .agg #[.slice A2 m c2]] w fun e w' => ∃ (A' : Option Addr) (n' c' : Nat), e = .returned (.agg #[.slice A' n' c']) ∧ n' ≤ n ∧ Ow w0 w' g M (L ++ [⟨A', n', c', nats (Na.dig (x - y))⟩]) O := by
  obtain ⟨h1, h2, h3, h4⟩ := h.sl hi
  obtain ⟨k1, k2, k3, k4⟩ := h.sl hj
  rw [nats_length] at h1 k1
  have hl := Na.dig_len_mono (Nat.sub_le x y)
  exact (nrless_any A A2 n c m c2 x y w h1 k1 h2 k2 h4 k4 hn hm hle).mono fun en w' hr => by
    obtain ⟨A', n', c', e, e2, ho⟩ := h.pushS hr (by omega)
    exact ⟨A', n', c', e, by omega, ho⟩
theorem rfit_ow (h : Ow w0 w g M L O) (i : Nat) {l : List Nat} (hi : O[i]? = some ⟨A, n, c, 3, nats l⟩) (hl : Na.Lim l) (hn1 : n ≤ 100000) :
    Calls Tryd.prog 94 #[.slice A n c] w fun e w' => ∃ (A' : Option Addr) (n' c' : Nat), e = .returned (.tuple #[.agg #[.slice A' n' c'], .int .i64 (resE (Na.val l))]) ∧ (resL (Na.val l)).length = n' ∧ Ow w0 w' g M L (O ++ [⟨A', n', c', 3, nats (resL (Na.val l))⟩]) := by
  have ho := h.row i hi
  have hn := own_len ho
  rw [nats_length] at hn
  exact (nfit_any A n c l w hn (Sl.of_own ho) hl (own_cap ho).1 (by omega)).mono fun en w' hr => h.addN hr
end
/-- the first check of a function of two numbers: one of them is none -/
theorem nrsub_bad (A A2 : Option Addr) (n c m c2 : Nat) (zs ys : List Int) (w : World) (hn : zs.length = n) (hm : ys.length = m) (hnc : n ≤ c) (hmc : m ≤ c2) (hs : Sl w w.heap.size A (ints zs)) (hs2 : Sl w w.heap.size A2 (ints ys)) (hl : n ≤ 1000) (hl2 : m ≤ 1000) (hv : (Na.vld zs && Na.vld ys) = false) :
    Calls Tryd.prog 51 #[.agg #[.slice A n c], .agg #[.slice A2 m c2]] w (ResN w [] 1) := by
  have H0 := (((((Ow.of (St.refl w)).old hs (by rw [ints_length]; exact hn) hnc hl).old hs2 (by rw [ints_length]; exact hm) hmc hl2).boxed (.slice A n c) 24).boxed (.slice A2 m c2) 24).boxed (.slice none 0 0) 24
  simp only [World.size_alloc, List.nil_append, List.cons_append] at H0
  have hc0 := H0.cell 0 rfl
  have HH := Lib.hid (rvalid_ow H0 0 rfl)
  clear hn hm hs hs2 H0
  cases h1 : Na.vld zs
  · rw [h1] at HH
    go_enter Tryd.func51, Tryd.ntmps51
    go_wp2_with fail
    refine HH.out.mono ?_
    rintro e w1 ⟨rfl, H1⟩
    have hc2 := H1.cell 2 rfl
    have hf2 := H1.free 2 rfl
    clear hc0 HH
    go_wp2_with fail
    have H2 := H1.setv 2 rfl (.slice none 0 0)
    have hc3 := H2.cell 2 rfl
    refine bodyPost_ret (v := .tuple #[.agg #[.slice none 0 0], .int .i64 1]) (by simp [results, Tryd.results51, go_sem, hc3]) rfl ?_
    exact resN_nil _ _ _ H2.below
  · rw [h1, Bool.true_and] at hv
    rw [h1] at HH
    go_enter Tryd.func51, Tryd.ntmps51
    go_wp2_with fail
    refine HH.out.mono ?_
    rintro e w1 ⟨rfl, H1⟩
    have hc1 := H1.cell 1 rfl
    have HK := Lib.hid (rvalid_ow H1 1 rfl)
    rw [hv] at HK
    clear hc0 HH H1
    go_wp2_with fail
    refine HK.out.mono ?_
    rintro e w2 ⟨rfl, H1⟩
    have hc2 := H1.cell 2 rfl
    have hf2 := H1.free 2 rfl
    clear hc1 HK
    go_wp2_with fail
    have H2 := H1.setv 2 rfl (.slice none 0 0)
    have hc3 := H2.cell 2 rfl
    refine bodyPost_ret (v := .tuple #[.agg #[.slice none 0 0], .int .i64 1]) (by simp [results, Tryd.results51, go_sem, hc3]) rfl ?_
    exact resN_nil _ _ _ H2.below
def RSub (w : World) (M : List (Nat × Value)) (L : List Ob) (X Y : List Nat) (n : Nat) (i s bw : Value) (wr : World) : Prop :=
  ∃ (k b : Nat) (A : Option Addr) (ca : Nat) (o : List Nat), k ≤ n ∧ i = .int .i64 (k : Int) ∧ s = .slice A k ca ∧ bw = .int .i64 (b : Int) ∧ b ≤ 1 ∧ Hid (o.length = k ∧ Na.Lim o ∧ Na.val o + Na.val (Y.take k) = Na.val (X.take k) + 16777216 ^ k * b) ∧ Hid (Ow w wr none M L [⟨A, k, ca, 3, nats o⟩])
set_option maxHeartbeats 4000000 in
theorem nrsub_ok (A A2 : Option Addr) (n c m c2 x y : Nat) (w : World) (hn : (Na.dig x).length = n) (hm : (Na.dig y).length = m) (hnc : n ≤ c) (hmc : m ≤ c2) (hs : Sl w w.heap.size A (nats (Na.dig x))) (hs2 : Sl w w.heap.size A2 (nats (Na.dig y))) (hx : x < Na.top) (hy : y < Na.top) :
    Calls Tryd.prog 51 #[.agg #[.slice A n c], .agg #[.slice A2 m c2]] w (ResN w (if x < y then [] else Na.dig (x - y)) (if x < y then 5 else 0)) := by
  have hn2 : n ≤ 200 := by rw [← hn]; exact (Na.dig_200 x).2 hx
  have hm2 : m ≤ 200 := by rw [← hm]; exact (Na.dig_200 y).2 hy
  have H0 := (((((Ow.of (St.refl w)).old hs (by rw [nats_length]; exact hn) hnc (by omega)).old hs2 (by rw [nats_length]; exact hm) hmc (by omega)).boxed (.slice A n c) 24).boxed (.slice A2 m c2) 24).boxed (.slice none 0 0) 24
  simp only [World.size_alloc, List.nil_append, List.cons_append] at H0
  have hc0 := H0.cell 0 rfl
  have HH := Lib.hid (rvalid_ok H0 0 rfl hx)
  have HX := Lib.hid hx
  have HY := Lib.hid hy
  have HN := Lib.hid hn
  have HM := Lib.hid hm
  clear hn hm hs hs2 H0 hx hy
  obtain ⟨rl, hrl⟩ : ∃ l, (if x < y then ([] : List Nat) else Na.dig (x - y)) = l := ⟨_, rfl⟩
  obtain ⟨re, hre⟩ : ∃ l, (if x < y then (5 : Int) else 0) = l := ⟨_, rfl⟩
  rw [hrl, hre]
  have HRL := Lib.hid hrl
  have HRE := Lib.hid hre
  clear hrl hre
  go_enter Tryd.func51, Tryd.ntmps51
  go_wp2_with fail
  refine HH.out.mono ?_
  rintro e w1 ⟨rfl, H1⟩
  have hc1 := H1.cell 1 rfl
  have HK := Lib.hid (rvalid_ok H1 1 rfl HY.out)
  clear hc0 HH H1
  go_wp2_with fail
  refine HK.out.mono ?_
  rintro e w2 ⟨rfl, H2⟩
  have hc0 := H2.cell 0 rfl
  have hc1 := H2.cell 1 rfl
  have HC := Lib.hid (rcmp_ow H2 0 1 rfl rfl)
  clear HK H2
  go_wp2_with fail
  refine HC.out.mono ?_
  rcases Nat.lt_or_ge x y with hlt | hge
  · obtain rfl : [] = rl := by rw [← HRL.out, if_pos hlt]
    obtain rfl : 5 = re := by rw [← HRE.out, if_pos hlt]
    rw [Na.sgn_lt hlt]
    rintro e w3 ⟨rfl, H3⟩
    have hc2 := H3.cell 2 rfl
    have hf2 := H3.free 2 rfl
    clear hc0 hc1 HC hlt
    go_wp2_with fail
    have H4 := H3.setv 2 rfl (.slice none 0 0)
    have hc3 := H4.cell 2 rfl
    refine bodyPost_ret (v := .tuple #[.agg #[.slice none 0 0], .int .i64 5]) (by simp [results, Tryd.results51, go_sem, hc3]) rfl ?_
    exact resN_nil _ _ _ H4.below
  · obtain rfl : Na.dig (x - y) = rl := by rw [← HRL.out, if_neg (by omega)]
    obtain rfl : 0 = re := by rw [← HRE.out, if_neg (by omega)]
    obtain ⟨sg, hsg⟩ : ∃ s : Int, Na.sgn x y = s := ⟨_, rfl⟩
    have hs0 : 0 ≤ sg := by rcases Na.sgn_cases x y with ⟨h, e⟩ | ⟨h, e⟩ | ⟨h, e⟩ <;> omega
    rw [hsg]
    rintro e w3 ⟨rfl, H3⟩
    have hmn : m ≤ n := by rw [← HN.out, ← HM.out]; exact Na.dig_len_mono hge
    have HLe := Lib.hid hge
    have HO0 := Lib.hid (H3.nil 3)
    have hc0 := H3.cell 0 rfl
    clear hc1 HC hge hsg H3
    go_wp2_with fail
    clear hc0 hs0
    go_loopw [8, 6, 7] (fun i s bw wr => RSub w [(w.heap.size, .slice A n c), (w.heap.size + 1, .slice A2 m c2), (w.heap.size + 1 + 1, .slice none 0 0)] [⟨A, n, c, nats (Na.dig x)⟩, ⟨A2, m, c2, nats (Na.dig y)⟩] (Na.dig x) (Na.dig y) n i s bw wr) (fun i _ _ _ => n - (intOf i).toNat)
    case atStart => exact ⟨0, 0, none, 0, [], Nat.zero_le _, rfl, rfl, rfl, Nat.zero_le _, ⟨rfl, Na.Lim.nil, by simp [Na.val]⟩, HO0.out⟩
    case round =>
      obtain ⟨k, b0, Ao, co, o, hk, rfl, rfl, rfl, hbw, HP, HO⟩ := hrel
      have hc0 := HO.out.cell 0 rfl
      rcases Nat.lt_or_ge k n with hkn | hkn
      · obtain ⟨a, ha⟩ := nat_at (Na.dig x) k (by rw [HN.out]; exact hkn)
        have ha24 := (Na.dig_lim x).at ha
        have hat := Na.at0_some ha
        obtain ⟨b, hb⟩ : ∃ b, Na.at0 (Na.dig y) k = b := ⟨_, rfl⟩
        have hb24 : b < 16777216 := by rw [← hb]; exact Na.at0_lt (Na.dig_lim y) k
        obtain ⟨ad, rfl, _, hca⟩ := (HO.out.sl (i := 0) rfl).2.2.2.nat ha
        have hc1 := HO.out.cell 1 rfl
        have HQ := Lib.hid (HO.out.sl (i := 1) rfl)
        have cL := regrown_call (P := Tryd.prog) (w := wr) (f := 93) (args := #[.agg #[.slice A2 m c2], .int .i64 (k : Int)]) (v := .int .i64 (b : Int)) (fun W hW => by
          rw [← hb]
          exact nlimb_any A2 m c2 wr.heap.size k (Na.dig y) _ rfl W HM.out (HQ.out.2.2.2.below hW) hW.size (by omega))
        have k0 := cell_regrown hc0
        have k1 := cell_regrown hc1
        have k2 := cell_regrown hca
        obtain ⟨v0, hv0⟩ : ∃ v0 : Int, (a : Int) - (b : Int) - (b0 : Int) = v0 := ⟨_, rfl⟩
        have HHv := Lib.hid hv0
        have HHb := Lib.hid hb
        have HHa := Lib.hid hat
        have s1 : IntKind.i64.wrap ((a : Int) - (b : Int)) = (a : Int) - (b : Int) := IntWalk.i64_in _ (by omega)
        have s2 : IntKind.i64.wrap ((a : Int) - (b : Int) - (b0 : Int)) = v0 := by rw [hv0]; exact IntWalk.i64_in _ (by omega)
        clear ha hat hb hca hc1 hv0
        go_upto_region 10 with (fail)
        refine wp_region_quiet_below (by kernel_rfl) (by kernel_rfl) ?_
        repeat (quiet_step (exact cL _ _))
        refine wpQuiet_nil ?_
        intro W hW
        have hbl := regrown_below hW
        have HOw := Lib.hid (HO.out.go hbl)
        clear hW k0 k1 k2 cL hbl hc0 HO HQ s1 s2
        by_cases hneg : v0 < 0
        · obtain ⟨d, hd⟩ : ∃ d : Nat, v0 + 16777216 = (d : Int) := ⟨(v0 + 16777216).toNat, by have := HHv.out; omega⟩
          have hd24 : d < 16777216 := by omega
          have HSB := Lib.hid (Na.sub_no (Na.dig x) (Na.dig y) o k b0 d HP.out.1 HP.out.2.2 (by rw [HHa.out, HHb.out]; have := HHv.out; omega))
          have HLr := Lib.hid (HP.out.2.1.append (Na.Lim.one hd24))
          have HLl : Hid ((o ++ [d]).length = k + 1) := by unfold Hid; rw [List.length_append, HP.out.1]; rfl
          go_wp2_with (at_builtin; refine ow_append1 elemI HOw.out 0 (.tmp 46) (.tmp 48) _ _ rfl rfl (by unfold maxLen; omega) (by omega) rfl rfl rfl rfl ?_; intro A' c' w8 how)
          go_roundw
          case rel =>
            rw [nats_snoc] at how
            exact ⟨k + 1, 1, A', c', o ++ [d], by omega, by go_num, rfl, rfl, Nat.le_refl _, ⟨HLl.out, HLr.out, HSB.out⟩, how⟩
          case measure => simp [intOf]; omega
        · have hpos : 0 ≤ v0 := by omega
          obtain ⟨d, rfl⟩ := Int.eq_ofNat_of_zero_le hpos
          have hd24 : d < 16777216 := by have := HHv.out; omega
          have HSB := Lib.hid (Na.sub_yes (Na.dig x) (Na.dig y) o k b0 d HP.out.1 HP.out.2.2 (by rw [HHa.out, HHb.out]; have := HHv.out; omega))
          have HLr := Lib.hid (HP.out.2.1.append (Na.Lim.one hd24))
          have HLl : Hid ((o ++ [d]).length = k + 1) := by unfold Hid; rw [List.length_append, HP.out.1]; rfl
          clear hneg
          go_wp2_with (at_builtin; refine ow_append1 elemI HOw.out 0 (.tmp 46) (.tmp 48) _ _ rfl rfl (by unfold maxLen; omega) (by omega) rfl rfl rfl rfl ?_; intro A' c' w8 how)
          go_roundw
          case rel =>
            rw [nats_snoc] at how
            exact ⟨k + 1, 0, A', c', o ++ [d], by omega, by go_num, rfl, rfl, Nat.zero_le _, ⟨HLl.out, HLr.out, HSB.out⟩, how⟩
          case measure => simp [intOf]; omega
      · obtain rfl : k = n := by omega
        have HV : Hid (Na.val o = x - y) := by
          unfold Hid
          rw [Na.sub_end (Na.dig x) (Na.dig y) o k b0 HP.out.2.1 HP.out.1 HP.out.2.2 (by rw [HN.out]; exact Nat.le_refl _) (by rw [HM.out]; exact hmn) (by rw [Na.val_dig, Na.val_dig]; exact HLe.out), Na.val_dig, Na.val_dig]
        have HF := Lib.hid (rfit_ow HO.out 0 rfl HP.out.2.1 (by omega))
        have ht : x - y < Na.top := Nat.lt_of_le_of_lt (Nat.sub_le _ _) HX.out
        rw [HV.out, resL_ok ht, resE_ok ht] at HF
        clear HO ht
        go_wp2_with fail
        refine HF.out.mono ?_
        rintro e w9 ⟨A9, n9, c9, rfl, -, H9⟩
        have hc2 := H9.cell 2 rfl
        have hf2 := H9.free 2 rfl
        clear HF hc0
        go_wp2_with fail
        have h2 := H9.setv 2 rfl (.slice A9 n9 c9)
        have hc3 := h2.cell 2 rfl
        refine bodyPost_ret (v := .tuple #[.agg #[.slice A9 n9 c9], .int .i64 0]) (by simp [results, Tryd.results51, go_sem, hc3]) rfl ?_
        exact resN_of h2 1 rfl 0
theorem nrsub_any (A A2 : Option Addr) (n c m c2 : Nat) (zs ys : List Int) (w : World) (hn : zs.length = n) (hm : ys.length = m) (hnc : n ≤ c) (hmc : m ≤ c2) (hs : Sl w w.heap.size A (ints zs)) (hs2 : Sl w w.heap.size A2 (ints ys)) (hl : n ≤ 1000) (hl2 : m ≤ 1000) :
    Calls Tryd.prog 51 #[.agg #[.slice A n c], .agg #[.slice A2 m c2]] w (ResN w (subL zs ys) (subE zs ys)) := by
  cases hv : (Na.vld zs && Na.vld ys)
  · have e1 : subL zs ys = [] := by unfold subL; rw [hv]; rfl
    have e2 : subE zs ys = 1 := by unfold subE; rw [hv]; rfl
    rw [e1, e2]
    exact nrsub_bad A A2 n c m c2 zs ys w hn hm hnc hmc hs hs2 hl hl2 hv
  · obtain ⟨x, y, hx, hy, rfl, rfl⟩ := vv_ex hv
    rw [(sub_ok hx hy).1, (sub_ok hx hy).2]
    rw [nats_up] at hs hs2
    rw [Na.up_length] at hn hm
    exact nrsub_ok A A2 n c m c2 x y w hn hm hnc hmc hs hs2 hx hy
end Go.Proofs.YtjhaogbopmhkoaaDoor
