/- Re -/
import Derived.Test.YtjhaogbopmhkoaaDoorY08
import Derived.Test.YtjhaogbopmhkoaaDoorY10
import Derived.Deep.RegionHeld3
import Derived.Deep.CutBlock
import Derived.Deep.LoopGhost
import Derived.Deep.RegionWith
namespace Go.Proofs.YtjhaogbopmhkoaaDoor
open Go.RowKit Go.Sort
set_option linter.unusedVariables false
set_option maxRecDepth 100000
section
variable {P : Program} {w0 w : World} {g : Option Nat} {M : List (Nat × Value)} {L : List Ob} {O : List Rw} {t e : TypeId} {z : Value} {bytes : Nat}
theorem Ow.drew (h : Ow w0 w g M L O) : Ow w0 w.drew g M L O := h.go (Below.refl _ _).drew
/-- fewer owned lists -/
theorem Ow.few (h : Ow w0 w g M L O) (k : Nat) : Ow w0 w g M L (O.take k) := by
  have key : ∀ (i : Nat) (r : Rw), (O.take k)[i]? = some r → O[i]? = some r := fun i r hi => by
    rw [List.getElem?_take] at hi
    split at hi
    · exact hi
    · cases hi
  exact ⟨h.st, fun i r hi => h.own i r (key i r hi), fun i r hi => h.ap i r (key i r hi), fun i j r s hi hj => h.two i j r s (key i r hi) (key j s hj)⟩
/-- a list literal of one element -/
theorem Ow.lit1 (h : Ow w0 w g M L O) (v : Value) (e : TypeId) : Ow w0 (w.alloc (.cells #[v] e)) g M L (O ++ [⟨some ⟨w.heap.size, 0, none⟩, 1, 1, e, [v]⟩]) :=
  h.add (World.ownsRow_lit (base := w.heap.size) (e := e) (size := 1) w #[v] 1 (Nat.le_refl _) (by unfold maxLen; omega) rfl) (own_box1 _ _)
theorem owp_append {o : Oper} {a : Act} {K : Act → World → Prop} {Q : Exit → Act → World → Prop} (hE : Elem P t e z bytes) (h : Ow w0 w g M L O) (i : Nat) (s x : Operand) {A : Option Addr} {n c : Nat} {xs : List Value} (hi : O[i]? = some ⟨A, n, c, e, xs⟩)
    {B : Nat} {A2 : Option Addr} {m c2 : Nat} {news : List Value} (hm : news.length = m) (hr : Sl w B A2 news) (h1 : ∀ u ∈ news, u.oneCell' = true) (h63 : n + m ≤ maxLen) (hbytes : (n + m) * bytes ≤ 140737488355328)
    (ho : o.op = .call { callee := .builtin .append, args := #[s, x], argTypes := #[t, t] }) (hs : a.eval s = .slice A n c) (hx : a.eval x = .slice A2 m c2)
    (hk : ∀ A' c' w', Ow w0 w' g M L (O.set i ⟨A', n + m, c', e, xs ++ news⟩) → K (a.put o.dst (.slice A' (n + m) c')) w') : o.wp P a w K Q := by
  obtain ⟨ht, hzc, inf, hi0, hz, hsz, hby⟩ := hE
  exact wp_append_sl w s x t ho w0.heap.size e inf z bytes ht hi0 hz hsz hby (by rw [hzc]; rfl) A n c xs hs (h.own i _ hi) B A2 m c2 news hx hm hr h1 h63 hbytes h.size fun A' c' w' h2 h3 h4 =>
    hk A' c' w' (h.turn i hi (r' := ⟨A', n + m, c', e, xs ++ news⟩) h3 h2 h4)
end
theorem Sl.nat_c {w : World} {B : Nat} {ad : Addr} {l : List Nat} (h : Sl w B (some ad) (nats l)) {k b : Nat} (hk : l[k]? = some b) : w.cell? (ad.add k) = some (.int .i64 (b : Int)) := by
  obtain ⟨ad', e, _, hc⟩ := h.nat hk
  obtain rfl := Option.some.inj e
  exact hc
namespace Na
theorem zeros_set (k q : Nat) (Q : List Nat) : (List.replicate (k + 1) 0 ++ Q).set k q = List.replicate k 0 ++ (q :: Q) := by
  rw [List.replicate_succ', List.append_assoc, List.set_append_right _ _ (by rw [List.length_replicate]; exact Nat.le_refl _), List.length_replicate, Nat.sub_self]
  rfl
theorem half_at {y T lo hi mid : Nat} (h1 : y * lo ≤ T) (h2 : T < y * (hi + 1)) (hm : mid = (lo + hi + 1) / 2) (hlt : lo < hi) : mid ≤ hi ∧ lo < mid ∧ (sgn (y * mid) T ≤ 0 → y * mid ≤ T) ∧ (¬ sgn (y * mid) T ≤ 0 → T < y * (mid - 1 + 1)) := by
  refine ⟨by omega, by omega, fun h => ?_, fun h => ?_⟩
  · rcases sgn_cases (y * mid) T with ⟨h3, e⟩ | ⟨h3, e⟩ | ⟨h3, e⟩ <;> omega
  · rw [show mid - 1 + 1 = mid by omega]
    rcases sgn_cases (y * mid) T with ⟨h3, e⟩ | ⟨h3, e⟩ | ⟨h3, e⟩ <;> omega
theorem half_end {y T q : Nat} (h1 : y * q ≤ T) (h2 : T < y * (q + 1)) : T - y * q < y := by
  rw [Nat.mul_add, Nat.mul_one] at h2
  omega
theorem div_next {X : List Nat} {j a y q R : Nat} {Q : List Nat} (ha : X[j]? = some a) (h : val (X.drop (j + 1)) = y * val Q + R) (hq : y * q ≤ a + 16777216 * R) : val (X.drop j) = y * val (q :: Q) + (a + 16777216 * R - y * q) := by
  rw [val_drop_cons X j a ha, h, val, Nat.mul_add, Nat.mul_add]
  have e : 16777216 * (y * val Q) = y * (16777216 * val Q) := by rw [Nat.mul_left_comm]
  omega
theorem div_start {a y R : Nat} (ha : a < 16777216) (hR : R < y) : a + 16777216 * R < y * (16777215 + 1) := by
  have := Nat.mul_le_mul_left 16777216 hR
  rw [Nat.mul_comm y]
  omega
theorem div_end {x y R : Nat} {Q : List Nat} (h : x = y * val Q + R) (hR : R < y) : val Q = x / y ∧ R = x % y := by
  have hy : 0 < y := by omega
  constructor
  · rw [h, Nat.mul_add_div hy, Nat.div_eq_of_lt hR, Nat.add_zero]
  · rw [h, Nat.mul_add_mod, Nat.mod_eq_of_lt hR]
end Na
def RDv (w : World) (M : List (Nat × Value)) (r0 : Nat) (L : List Ob) (QA : Option Addr) (x y n : Nat) (kk : Nat) (i : Value) (wr : World) : Prop :=
  ∃ (z : Int) (R : Nat) (Ar : Option Addr) (nr cr : Nat) (Q : List Nat), -1 ≤ z ∧ z < n ∧ Hid ((z + 1).toNat = kk) ∧ i = .int .i64 z ∧ nr ≤ 200 ∧ Hid (R < y ∧ Q.length + (z + 1).toNat = n ∧ Na.Lim Q ∧ Na.val ((Na.dig x).drop (z + 1).toNat) = y * Na.val Q + R) ∧
    Hid (Ow w wr none (M ++ [(r0, .slice Ar nr cr)]) (L ++ [⟨Ar, nr, cr, nats (Na.dig R)⟩]) [⟨QA, n, n, 3, nats (List.replicate (z + 1).toNat 0 ++ Q)⟩])
def RHalf (w0 : World) (M : List (Nat × Value)) (L : List Ob) (O : List Rw) (y T : Nat) (lo hi : Value) (wr : World) : Prop :=
  ∃ l h : Nat, l ≤ h ∧ h < 16777216 ∧ lo = .int .i64 (l : Int) ∧ hi = .int .i64 (h : Int) ∧ Hid (y * l ≤ T ∧ T < y * (h + 1)) ∧ Hid (Ow w0 wr none M L O)
set_option maxHeartbeats 8000000 in
theorem nrdivide_ok (A A2 : Option Addr) (n c m c2 : Nat) (x y : Nat) (w : World) (hn : (Na.dig x).length = n) (hm : (Na.dig y).length = m) (hnc : n ≤ c) (hmc : m ≤ c2) (hs : Sl w w.heap.size A (nats (Na.dig x))) (hs2 : Sl w w.heap.size A2 (nats (Na.dig y))) (hx : x < Na.top) (hy : y < Na.top) (hy0 : 0 < y) :
    Calls Tryd.prog 95 #[.agg #[.slice A n c], .agg #[.slice A2 m c2]] w (ResD w (Na.dig (x / y)) (Na.dig (x % y)) 0) := by
  have hn2 : n ≤ 200 := by rw [← hn]; exact (Na.dig_200 x).2 hx
  have hm2 : m ≤ 200 := by rw [← hm]; exact (Na.dig_200 y).2 hy
  have hm0 : ((m : Int) == 0) = false := by
    rw [beq_eq_false_iff_ne]
    intro e
    have : m = 0 := by omega
    rw [this] at hm
    have := Na.dig_len0.1 hm
    omega
  have HY0 := Lib.hid hy0
  clear hy0
  have H0 := ((((((Ow.of (St.refl w)).old hs (by rw [nats_length]; exact hn) hnc (by omega)).old hs2 (by rw [nats_length]; exact hm) hmc (by omega)).boxed (.slice A n c) 24).boxed (.slice A2 m c2) 24).boxed (.slice none 0 0) 24).boxed (.slice none 0 0) 24
  simp only [World.size_alloc, List.nil_append, List.cons_append] at H0
  have hc0 := H0.cell 0 rfl
  have HH := Lib.hid (rvalid_ok H0 0 rfl hx)
  have HX := Lib.hid hx
  have HY := Lib.hid hy
  have HN := Lib.hid hn
  have HM := Lib.hid hm
  clear hn hm hs hs2 H0 hx hy
  go_enter Tryd.func95, Tryd.ntmps95
  go_wp2_with fail
  refine HH.out.mono ?_
  rintro e w1 ⟨rfl, H1⟩
  have hc1 := H1.cell 1 rfl
  have HK := Lib.hid (rvalid_ok H1 1 rfl HY.out)
  clear hc0 HH H1
  go_wp2_with fail
  refine HK.out.mono ?_
  rintro e w2 ⟨rfl, H1⟩
  have hc0 := H1.cell 0 rfl
  have hc1 := H1.cell 1 rfl
  clear HK
  have hmk := elemI.make .i64 .i64 (n : Int) (n : Int) n n rfl rfl (Nat.le_refl _) (by omega) (by omega)
  have H2 := (((H1.made 3 (.int .i64 0) n n rfl (Nat.le_refl _) (by unfold maxLen; omega)).boxed (.slice none 0 0) 24).old (A := none) (n := 0) (c := 0) (vs := []) (Sl.nil _ _ _) rfl (Nat.le_refl _) (by omega))
  simp only [World.size_alloc, List.nil_append, List.cons_append] at H2
  have hq1 := H2.cell 0 rfl
  obtain ⟨w3, hw3⟩ : ∃ w3, (w2.alloc (.cells (madeCells #[.int .i64 0] n) 3)).alloc (.cells #[.slice none 0 0] 24) = w3 := ⟨_, rfl⟩
  have HW : Hid ((w2.alloc (.cells (madeCells #[.int .i64 0] n) 3)).alloc (.cells #[.slice none 0 0] 24) = w3) := hw3
  rw [hw3] at H2
  have hq0 : (w2.alloc (.cells (madeCells #[.int .i64 0] n) 3)).cell? ⟨w.heap.size, 0, none⟩ = some (.slice A n c) := by
    have := (H1.made 3 (.int .i64 0) n n rfl (Nat.le_refl _) (by unfold maxLen; omega)).cell 0 rfl
    exact this
  have HH := Lib.hid H2
  clear H1 H2 hw3
  go_wp2_with fail
  obtain ⟨r0, hr0⟩ : ∃ r, w2.heap.size + 1 = r := ⟨_, rfl⟩
  obtain ⟨QA, hQA⟩ : ∃ q, (some (⟨w2.heap.size, 0, none⟩ : Addr)) = q := ⟨_, rfl⟩
  rw [hr0, hQA] at HH
  rw [HW.out, hr0, hQA]
  clear hc0 hc1 hq0 hq1 hmk hm0 hr0 hQA HW
  go_loopg [9] n (fun kk i wr => RDv w [(w.heap.size, .slice A n c), (w.heap.size + 1, .slice A2 m c2), (w.heap.size + 1 + 1, .slice none 0 0), (w.heap.size + 1 + 1 + 1, .slice none 0 0)] r0 [⟨A, n, c, nats (Na.dig x)⟩, ⟨A2, m, c2, nats (Na.dig y)⟩] QA x y n kk i wr)
  case atStart =>
    refine ⟨(n : Int) - 1, 0, none, 0, 0, [], by omega, by omega, (by unfold Hid; omega), rfl, by omega, ⟨HY0.out, by rw [List.length_nil]; omega, Na.Lim.nil, ?_⟩, ?_⟩
    · rw [List.drop_of_length_le (by rw [HN.out]; omega)]; rfl
    · unfold Hid
      rw [show ((n : Int) - 1 + 1).toNat = n by omega, List.append_nil, Na.dig_zero]
      exact (HH.out.same 0 rfl (by unfold nats; rw [List.map_replicate]; rfl))
  case round =>
    obtain ⟨z, R, Ar, nr, cr, Q, hz1, hz2, HKK, rfl, hnr, HP, HO⟩ := hrel
    have HO1 := HO.out
    simp only [List.nil_append, List.cons_append] at HO1
    rcases Int.lt_or_le z 0 with hz | hz
    · have e0 : (z + 1).toNat = 0 := by omega
      rw [e0, List.replicate_zero, List.nil_append] at HO1
      have hd := HP.out
      rw [e0, List.drop_zero, Na.val_dig] at hd
      have HE := Lib.hid (Na.div_end hd.2.2.2 hd.1)
      have HF := Lib.hid (rfit_ow HO1 0 rfl hd.2.2.1 (by omega))
      have ht : x / y < Na.top := Nat.lt_of_le_of_lt (Nat.div_le_self _ _) HX.out
      rw [HE.out.1, resL_ok ht, resE_ok ht] at HF
      clear HO HO1 hd ht HP hz1 hz2 HH
      go_wp2_with fail
      refine HF.out.mono ?_
      rintro e w4 ⟨A9, n9, c9, rfl, hn9, H4⟩
      have H5 := H4.boxed (.slice A9 n9 c9) 24
      simp only [List.nil_append, List.cons_append] at H5
      clear HF H4
      have HG := Lib.hid ((H5.nil 3).drew)
      have HRg := Lib.hid (HG.out.sl (i := 2) rfl)
      have hx5 := H5.cell 5 rfl
      have hx4 := H5.cell 4 rfl
      have HN9 := Lib.hid hn9
      clear H5 hn9
      go_upto_region 26 with (fail)
      go_region_held3 (fun W => W.cell? ⟨w4.heap.size, 0, none⟩ = some (.slice A9 n9 c9) ∧ W.cell? ⟨r0, 0, none⟩ = some (.slice Ar nr cr)) (first | exact ⟨hx5, hx4⟩ | exact ⟨how.cell 5 rfl, how.cell 4 rfl⟩ | exact ⟨G1.cell 5 rfl, G1.cell 4 rfl⟩ | exact ⟨G2.cell 5 rfl, G2.cell 4 rfl⟩) ((rw [if_pos (by rfl)]; refine owp_append elemI HG.out 2 (.const (.slice none 0 0)) (.tmp 109) rfl HRg.out.1 HRg.out.2.2.2 (nats_one _) (by unfold maxLen; omega) (by omega) rfl rfl rfl ?_; intro A' c' w8 how; rw [Nat.zero_add, List.nil_append] at how; have hs2 := how.cell 2 rfl; have hs2f := how.free 2 rfl; have G1 := how.setv 2 rfl (.slice A9 n9 c9); have hs3 := G1.cell 3 rfl; have hs3f := G1.free 3 rfl; have G2 := G1.setv 3 rfl (.slice A' nr c')))
      clear hs2 hs2f hs3 hs3f hx5 hx4
      go_wp2_with fail
      have hc5 := G2.cell 2 rfl
      have hc6 := G2.cell 3 rfl
      have HE2 := HE.out.2
      subst HE2
      refine bodyPost_ret (v := .tuple #[.agg #[.slice A9 n9 c9], .agg #[.slice A' nr c'], .int .i64 0]) (by simp [results, Tryd.results95, go_sem, hc5, hc6]) rfl ?_
      have hl6 := HRg.out.1
      rw [nats_length] at hl6
      exact ⟨A9, n9, c9, A', nr, c', rfl, HN9.out, hl6, G2.row 1 rfl, G2.row 2 rfl, G2.below⟩
    · obtain ⟨j, rfl⟩ := Int.eq_ofNat_of_zero_le hz
      have hjn : j < n := by omega
      have e1 : ((j : Int) + 1).toNat = j + 1 := by omega
      rw [e1] at HO1
      have hd := HP.out
      rw [e1] at hd
      have HPj := Lib.hid hd
      obtain ⟨a, ha⟩ := nat_at (Na.dig x) j (by rw [HN.out]; exact hjn)
      have ha24 := (Na.dig_lim x).at ha
      obtain ⟨ad, rfl, _, hca⟩ := (HO1.sl (i := 0) rfl).2.2.2.nat ha
      have hx0 := HO1.cell 0 rfl
      have hx4 := HO1.cell 4 rfl
      have HLt := Lib.hid ((HO1.lit1 (.int .i64 (a : Int)) 3).drew)
      have HRs := Lib.hid (HLt.out.sl (i := 2) rfl)
      have HHa := Lib.hid ha
      have HOj := Lib.hid HO1
      clear ha HO HO1 HP hd hz hz1 hz2 e1
      go_upto_region 10 with (fail)
      go_region_held3 (fun W => W.cell? ⟨w.heap.size, 0, none⟩ = some (.slice (some ad) n c) ∧ W.cell? ⟨r0, 0, none⟩ = some (.slice Ar nr cr) ∧ W.cell? (ad.add j) = some (.int .i64 (a : Int))) (first | exact ⟨hx0, hx4, hca⟩ | exact ⟨HLt.out.cell 0 rfl, HLt.out.cell 4 rfl, (HLt.out.sl (i := 0) rfl).2.2.2.nat_c HHa.out⟩ | exact ⟨how.cell 0 rfl, how.cell 4 rfl, (how.sl (i := 0) rfl).2.2.2.nat_c HHa.out⟩) ((rw [if_pos (by rfl)]; refine owp_append elemI HLt.out 1 (.tmp 50) (.tmp 52) rfl HRs.out.1 HRs.out.2.2.2 (nats_one _) (by unfold maxLen; omega) (by omega) rfl rfl rfl ?_; intro A' c' w8 how))
      obtain ⟨T, hT⟩ : ∃ T, a + 16777216 * R = T := ⟨_, rfl⟩
      have H8 := how
      simp only [List.cons_append, List.nil_append, List.set_cons_succ, List.set_cons_zero] at H8
      have HLv : Hid (Na.val (a :: Na.dig R) = T) := by unfold Hid; rw [Na.val, Na.val_dig]; exact hT
      have HLl : Hid (Na.Lim (a :: Na.dig R)) := Na.Lim.cons ha24 (Na.dig_lim R)
      have HLn : Hid ((a :: Na.dig R).length = 1 + nr) := by have := HRs.out.1; rw [nats_length] at this; unfold Hid; rw [List.length_cons, this]; omega
      have HX8 : Hid (Ow w w8 none [(w.heap.size, .slice (some ad) n c), (w.heap.size + 1, .slice A2 m c2), (w.heap.size + 1 + 1, .slice none 0 0), (w.heap.size + 1 + 1 + 1, .slice none 0 0), (r0, .slice Ar nr cr)] [⟨some ad, n, c, nats (Na.dig x)⟩, ⟨A2, m, c2, nats (Na.dig y)⟩, ⟨Ar, nr, cr, nats (Na.dig R)⟩] [⟨QA, n, n, 3, nats (List.replicate (j + 1) 0 ++ Q)⟩, ⟨A', 1 + nr, c', 3, nats (a :: Na.dig R)⟩]) := H8
      have H24 := Lib.hid hT
      obtain ⟨l, hl⟩ : ∃ l, a :: Na.dig R = l := ⟨_, rfl⟩
      rw [hl] at HLv HLl HLn HX8
      clear hT how H8 hl HLt HRs hca hx0 hx4 HOj ha24
      go_upto_block 2 with (fail)
      go_cut [11] from 41 to 101 (fun v wx => v = .int .i64 ((Na.tl l l.length : Nat) : Int) ∧ wx = w8)
      case first =>
        go_wp2_with fail
        go_loop [11] (fun v => ∃ i : Nat, i ≤ 1 + nr ∧ v = .int .i64 (i : Int) ∧ Hid (Na.tl l i = Na.tl l l.length)) (fun v => (intOf v).toNat)
        case atStart => exact ⟨1 + nr, Nat.le_refl _, by simp, by unfold Hid; rw [HLn.out]⟩
        case round =>
          obtain ⟨i, hi, rfl, HT⟩ := hrel
          have hown := Sl.of_own (HX8.out.row 1 rfl)
          rcases Na.tl_case l l.length i (by rw [HLn.out]; exact hi) HT.out with ⟨h0, hz, ht⟩ | ⟨ht, hs⟩
          · obtain ⟨ad2, rfl, _, hcb⟩ := hown.nat hz
            have HT2 := Lib.hid ht
            have hd : decide (0 < (i : Int)) = true := decide_eq_true (by omega)
            have hcn : (i : Int) ≤ (1 : Int) + (nr : Int) := by omega
            clear hown hz ht
            go_wp2_with fail
            go_round
            case rel => exact ⟨i - 1, by omega, int_eqv (by omega), HT2⟩
            case measure => simp [intOf]; omega
          · have HTe := Lib.hid ht
            rcases hs with h0 | ⟨h0, b, hb, hbne⟩
            · subst h0
              clear hown ht HT
              go_wp2_with fail
              go_meet
              exact ⟨by rw [HTe.out]; rfl, rfl⟩
            · obtain ⟨ad2, rfl, _, hcb⟩ := hown.nat hb
              have hd : decide (0 < (i : Int)) = true := decide_eq_true (by omega)
              have hcn : (i : Int) ≤ (1 : Int) + (nr : Int) := by omega
              clear hown hb ht HT
              go_wp2_with fail
              go_meet
              exact ⟨by rw [HTe.out], rfl⟩
      case rest =>
        obtain ⟨rfl, rfl⟩ := hcut
        have hrow := HX8.out.row 1 rfl
        obtain ⟨gb, rfl, -, -⟩ := own_form hrow (by omega)
        have hcap := (own_cap hrow).1
        obtain ⟨q1, hq1⟩ : ∃ k, Na.tl l l.length = k := ⟨_, rfl⟩
        have hq2 : q1 ≤ 1 + nr := by rw [← hq1, ← HLn.out]; exact Na.tl_le _ _
        have hjc : (q1 : Int) ≤ (c' : Int) := by omega
        have H9 := ((HX8.out.trimmed 1 rfl HLl.out hq1 HLv.out).setv 4 rfl (.slice (some ⟨gb, 0, none⟩) q1 c')).keep 1 rfl (by omega)
        simp only [List.cons_append, List.nil_append, List.set_cons_succ, List.set_cons_zero] at H9
        have hc8 := HX8.out.cell 4 rfl
        have hf8 := HX8.out.free 4 rfl
        rw [hq1]
        clear hrow hcap hq1
        go_upto_region 16 with (fail)
        obtain ⟨w9, hw9⟩ : ∃ w9, wc.setCell ⟨r0, 0, none⟩ (.slice (some ⟨gb, 0, none⟩) q1 c') = w9 := ⟨_, rfl⟩
        rw [hw9] at H9 ⊢
        clear hw9 hc8 hf8 hjc
        have hc8 := H9.cell 4 rfl
        have hc1 := H9.cell 1 rfl
        have HC := Lib.hid (rcmp_ow H9 3 1 rfl rfl)
        clear H9 HX8
        go_wp2_with fail
        refine HC.out.mono ?_
        rintro e w10 ⟨rfl, H10⟩
        have HX10 := Lib.hid H10
        clear HC H10 hc8 hc1
        go_upto_if 75 with (fail)
        go_cut [13] from 41 to 101 (fun v wx => ∃ h : Nat, h < 16777216 ∧ v = .int .i64 (h : Int) ∧ Hid (T < y * (h + 1)) ∧ wx = w10)
        case first =>
          rcases Nat.lt_or_ge T y with hlt | hge
          · have hs : Na.sgn T y < 0 := by rw [Na.sgn_lt hlt]; omega
            have HT0 : Hid (T < y * (0 + 1)) := by unfold Hid; omega
            obtain ⟨sg, hsg⟩ : ∃ s : Int, Na.sgn T y = s := ⟨_, rfl⟩
            rw [hsg] at hs ⊢
            have hs' : decide (sg < 0) = true := decide_eq_true hs
            clear hlt hsg
            go_wp2_with fail
            go_meet
            exact ⟨0, by omega, rfl, HT0, rfl⟩
          · have hs : 0 ≤ Na.sgn T y := by rcases Na.sgn_cases T y with ⟨h, e⟩ | ⟨h, e⟩ | ⟨h, e⟩ <;> omega
            have HT0 : Hid (T < y * (16777215 + 1)) := by unfold Hid; rw [← H24.out]; exact Na.div_start ((Na.dig_lim x).at HHa.out) HPj.out.1
            obtain ⟨sg, hsg⟩ : ∃ s : Int, Na.sgn T y = s := ⟨_, rfl⟩
            rw [hsg] at hs ⊢
            have hs' : decide (sg < 0) = false := decide_eq_false (by omega)
            clear hge hsg
            go_wp2_with fail
            go_meet
            exact ⟨16777215, by omega, rfl, HT0, rfl⟩
        case rest =>
          obtain ⟨h0, hh0, rfl, HT0, rfl⟩ := hcut
          go_wp2_with fail
          go_loopw [12, 13] (fun lo hi wr => RHalf w [(w.heap.size, .slice (some ad) n c), (w.heap.size + 1, .slice A2 m c2), (w.heap.size + 1 + 1, .slice none 0 0), (w.heap.size + 1 + 1 + 1, .slice none 0 0), (r0, .slice (some ⟨gb, 0, none⟩) q1 c')] [⟨some ad, n, c, nats (Na.dig x)⟩, ⟨A2, m, c2, nats (Na.dig y)⟩, ⟨Ar, nr, cr, nats (Na.dig R)⟩, ⟨some ⟨gb, 0, none⟩, q1, c', nats (Na.dig T)⟩] [⟨QA, n, n, 3, nats (List.replicate (j + 1) 0 ++ Q)⟩, ⟨none, 0, 0, 3, []⟩] y T lo hi wr) (fun lo hi _ => (intOf hi - intOf lo).toNat)
          case atStart => exact ⟨0, h0, Nat.zero_le _, hh0, rfl, rfl, ⟨by rw [Nat.mul_zero]; exact Nat.zero_le _, HT0.out⟩, HX10.out⟩
          case round =>
            obtain ⟨lo, hi, hlh, hh, rfl, rfl, HLH, HOh⟩ := hrel
            rcases Nat.lt_or_ge lo hi with hlt | hge
            · obtain ⟨mid, hmid⟩ : ∃ mid, mid = (lo + hi + 1) / 2 := ⟨_, rfl⟩
              obtain ⟨hm1, hm2', HMt, HMf⟩ := Na.half_at HLH.out.1 HLH.out.2 hmid hlt
              have hmi : ((lo : Int) + (hi : Int) + 1) / 2 = (mid : Int) := by omega
              have hy1 := HOh.out.cell 1 rfl
              have hy4 := HOh.out.cell 4 rfl
              have hmid24 : mid < 16777216 := by omega
              have HTi := Lib.hid (rtimes_ow HOh.out.drew 1 mid rfl (by omega) hmid24)
              clear hmid
              by_cases hsle : Na.sgn (y * mid) T ≤ 0
              · have hle2 := HMt hsle
                have HN2 : Hid (y * mid ≤ T ∧ T < y * (hi + 1)) := ⟨hle2, HLH.out.2⟩
                obtain ⟨sg, hsg⟩ : ∃ s : Int, Na.sgn (y * mid) T = s := ⟨_, rfl⟩
                have HSg := Lib.hid hsg
                rw [hsg] at hsle
                have hsd : decide (sg ≤ 0) = true := decide_eq_true hsle
                clear hsg hle2 HMt HMf HOh HLH
                go_upto_region 20 with (fail)
                go_region_held3 (fun W => W.cell? ⟨w.heap.size + 1, 0, none⟩ = some (.slice A2 m c2) ∧ W.cell? ⟨r0, 0, none⟩ = some (.slice (some ⟨gb, 0, none⟩) q1 c')) (first | exact ⟨hy1, hy4⟩ | exact ⟨how.cell 1 rfl, how.cell 4 rfl⟩ | exact ⟨how2.cell 1 rfl, how2.cell 4 rfl⟩) ((first | (go_at_call 133; (with_reducible refine HTi.out.mono ?_); rintro e w11 ⟨A5, n5, c5, rfl, hn5, how⟩) | (go_at_call 55; (with_reducible refine (rcmp_ow how 4 3 rfl rfl).mono ?_); rw [HSg.out]; rintro e w12 ⟨rfl, how2⟩)))
                have HF := Lib.hid how2
                clear hy1 hy4 how how2
                go_wp2_with fail
                go_roundw
                case rel => exact ⟨mid, hi, by omega, hh, rfl, rfl, HN2, HF.out.less (fun o ho => by simp only [List.mem_append]; exact .inl ho)⟩
                case measure => simp [intOf]; omega
              · have hgt2 := HMf hsle
                have HN2 : Hid (y * lo ≤ T ∧ T < y * (mid - 1 + 1)) := ⟨HLH.out.1, hgt2⟩
                obtain ⟨sg, hsg⟩ : ∃ s : Int, Na.sgn (y * mid) T = s := ⟨_, rfl⟩
                have HSg := Lib.hid hsg
                rw [hsg] at hsle
                have hsd : decide (sg ≤ 0) = false := decide_eq_false hsle
                have hsle' : 0 < sg := by omega
                clear hsg hgt2 HMt HMf HOh HLH hsle
                go_upto_region 20 with (fail)
                go_region_held3 (fun W => W.cell? ⟨w.heap.size + 1, 0, none⟩ = some (.slice A2 m c2) ∧ W.cell? ⟨r0, 0, none⟩ = some (.slice (some ⟨gb, 0, none⟩) q1 c')) (first | exact ⟨hy1, hy4⟩ | exact ⟨how.cell 1 rfl, how.cell 4 rfl⟩ | exact ⟨how2.cell 1 rfl, how2.cell 4 rfl⟩) ((first | (go_at_call 133; (with_reducible refine HTi.out.mono ?_); rintro e w11 ⟨A5, n5, c5, rfl, hn5, how⟩) | (go_at_call 55; (with_reducible refine (rcmp_ow how 4 3 rfl rfl).mono ?_); rw [HSg.out]; rintro e w12 ⟨rfl, how2⟩)))
                have HF := Lib.hid how2
                clear hy1 hy4 how how2
                go_wp2_with fail
                go_roundw
                case rel => exact ⟨lo, mid - 1, by omega, by omega, rfl, int_eqv (by omega), HN2, HF.out.less (fun o ho => by simp only [List.mem_append]; exact .inl ho)⟩
                case measure => simp [intOf]; omega
            · obtain rfl : lo = hi := by omega
              have hqd : T / y = lo ∧ T % y = T - y * lo := by
                have h1 := HLH.out
                have e : T = y * lo + (T - y * lo) := by omega
                have h3 := Na.half_end h1.1 h1.2
                constructor
                · rw [e, Nat.mul_add_div HY0.out, Nat.div_eq_of_lt h3, Nat.add_zero]
                · rw [e, Nat.mul_add_mod, Nat.mod_eq_of_lt h3, Nat.add_sub_cancel_left]
              have hlo24 : lo < 16777216 := hh
              have HLE := Lib.hid HLH.out.1
              have HRl := Lib.hid (Na.half_end HLH.out.1 HLH.out.2)
              have hx8 := HOh.out.cell 4 rfl
              have hx1 := HOh.out.cell 1 rfl
              have hQ0 := HOh.out.row 0 rfl
              obtain ⟨gq, rfl, -, -⟩ := own_form hQ0 (by omega)
              have hcq := own_nat hQ0 (k := j) (b := 0) (by rw [List.getElem?_append_left (by simp), List.getElem?_replicate, if_pos (Nat.lt_succ_self j)])
              have hfq := hQ0.frozenAt j
              have H11 := HOh.out.put 0 rfl j (.int .i64 (lo : Int))
              rw [List.set_cons_zero, nats_set, Na.zeros_set] at H11
              have hlo0 : (lo : Int) = lo := rfl
              clear hQ0 HLH hqd
              go_upto_region 24 with (fail)
              obtain ⟨w13, hw13⟩ : ∃ w13, wr.setCell ⟨gq, j, none⟩ (.int .i64 (lo : Int)) = w13 := ⟨_, rfl⟩
              rw [hw13] at H11 ⊢
              clear hw13 hcq hfq hx8 hx1
              have hx8 := H11.cell 4 rfl
              have hx1 := H11.cell 1 rfl
              have hf8 := H11.free 4 rfl
              have HTi := Lib.hid (rtimes_ow H11.drew 1 lo rfl (by omega) hlo24)
              have HTm := Lib.hid hx8
              clear HOh H11
              go_region_with (first | (go_at_call 133; (with_reducible refine HTi.out.mono ?_); rintro e w11 ⟨A5, n5, c5, rfl, hn5, how⟩; have hy8 := how.cell 4 rfl; have hyf := how.free 4 rfl; have HHow := Lib.hid how) | (go_at_call 134; (with_reducible refine (rless_ow how 3 4 rfl rfl (by omega) (by omega) HLE.out).mono ?_); rintro e w12 ⟨A6, n6, c6, rfl, hn6, how2⟩; have hz8 := how2.cell 4 rfl; have hzf := how2.free 4 rfl; have HHow2 := Lib.hid how2))
              all_goals
                have H12 := (HHow2.out.setv 4 rfl (.slice A6 n6 c6)).less (L' := [⟨some ad, n, c, nats (Na.dig x)⟩, ⟨A2, m, c2, nats (Na.dig y)⟩, ⟨A6, n6, c6, nats (Na.dig (T - y * lo))⟩]) (fun o ho => by
                  simp only [List.mem_cons, List.not_mem_nil, or_false, List.mem_append] at ho ⊢
                  rcases ho with rfl | rfl | rfl <;> simp)
                have hl6 := (HHow2.out.sl (i := 5) rfl).1
                rw [nats_length] at hl6
                have hn6' : n6 ≤ 200 := by rw [← hl6]; exact (Na.dig_200 _).2 (Nat.lt_trans HRl.out HY.out)
                have HFin : Hid (T - y * lo < y ∧ (lo :: Q).length + j = n ∧ Na.Lim (lo :: Q) ∧ Na.val ((Na.dig x).drop j) = y * Na.val (lo :: Q) + (T - y * lo)) := by
                  refine ⟨HRl.out, ?_, Na.Lim.cons hlo24 HPj.out.2.2.1, ?_⟩
                  · have := HPj.out.2.1; rw [List.length_cons]; omega
                  · rw [← H24.out]
                    exact Na.div_next HHa.out HPj.out.2.2.2 (by rw [H24.out]; exact HLE.out)
                have HF12 := Lib.hid H12
                clear H12 hl6 hx8 hx1 hf8 how how2 HHow HHow2
                go_wp2_with fail
                go_roundg j
                case measure => have := HKK.out; omega
                case rel =>
                  have ej : ((j : Int) - 1 + 1).toNat = j := by omega
                  refine ⟨(j : Int) - 1, T - y * lo, A6, n6, c6, lo :: Q, by omega, by omega, ej, rfl, hn6', ?_, ?_⟩
                  · unfold Hid; rw [ej]; exact HFin.out
                  · unfold Hid; rw [ej]; exact HF12.out.few 1
end Go.Proofs.YtjhaogbopmhkoaaDoor
