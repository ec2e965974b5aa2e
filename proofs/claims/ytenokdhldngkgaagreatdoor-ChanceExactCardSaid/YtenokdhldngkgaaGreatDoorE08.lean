/- Re Rn -/
import Derived.Test.YtenokdhldngkgaaGreatDoorE01
import Derived.Test.YtenokdhldngkgaaGreatDoorE03
import Derived.Test.YtenokdhldngkgaaGreatDoorE06
import Derived.Test.YtenokdhldngkgaaGreatDoorE07
import Derived.Deep.RegionHeld3
import Derived.Deep.CutBlock
import Derived.Deep.LoopGhost
import Derived.Deep.RegionWith
namespace Go.Proofs.YtenokdhldngkgaaGreatDoor
open Go.RowKit Go.Sort
set_option linter.unusedVariables false
set_option maxRecDepth 100000
section
variable {P : Program} {w0 w : World} {g : Option Nat} {M : List (Nat × Value)} {L : List Ob} {O : List Rw} {t e : TypeId} {z : Value} {bytes : Nat}
end
theorem Sl.nat_c {w : World} {B : Nat} {ad : Addr} {l : List Nat} (h : Sl w B (some ad) (nats l)) {k b : Nat} (hk : l[k]? = some b) : w.cell? (ad.add k) = some (.int .i64 (b : Int)) := by
 obtain ⟨ad', e, _, hc⟩ := h.nat hk
 obtain rfl := Option.some.inj e
 exact hc
namespace Na
theorem zeros_set (k q : Nat) (Q : List Nat) : (List.replicate (k + 1) 0 ++ Q).set k q = List.replicate k 0 ++ (q :: Q) := by
 rw [List.replicate_succ', List.append_assoc, List.set_append_right _ _ (by rw [List.length_replicate]; exact Nat.le_refl _), List.length_replicate, Nat.sub_self]
 rfl
theorem half_at {y T lo hi mid : Nat} (h1 : y * lo ≤ T) (h2 : T < y * (hi + 1)) (hm : mid = (lo + hi + 1) / 2) (hlt : lo < hi) : mid ≤ hi ∧ lo < mid ∧ (sgn (y * mid) T ≤ 0 → y * mid ≤ T) ∧ (¬ sgn (y * mid) T ≤ 0 → T < y * (mid - 1 + 1)) := by
 refine ⟨by omega, by omega, fun h => ?_, fun h => ?_⟩
 ·rcases sgn_cases (y * mid) T with ⟨h3, e⟩ | ⟨h3, e⟩ | ⟨h3, e⟩ <;> omega
 ·rw [show mid - 1 + 1 = mid by omega]
  rcases sgn_cases (y * mid) T with ⟨h3, e⟩ | ⟨h3, e⟩ | ⟨h3, e⟩ <;> omega
theorem half_end {y T q : Nat} (h1 : y * q ≤ T) (h2 : T < y * (q + 1)) : T - y * q < y := by
 rw [Nat.mul_add, Nat.mul_one] at h2
 omega
theorem div_next {X : List Nat} {j a y q R : Nat} {Q : List Nat} (ha : X[j]? = some a) (h : val (X.drop (j + 1)) = y * val Q + R) (hq : y * q ≤ a + 16777216 * R) : val (X.drop j) = y * val (q :: Q) + (a + 16777216 * R - y * q) := by
 rw [val_drop_cons X j a ha, h, val, Nat.mul_add, Nat.mul_add]
 have e : 16777216 * (y * val Q) = y * (16777216 * val Q) := by rw [Nat.mul_left_comm]
 omega
theorem div_start {a y R : Nat} (ha : a < 16777216) (hR : R < y) : a + 16777216 * R < y * (16777215 + 1) := by
 have := Nat.mul_le_mul_left 16777216 hR
 rw [Nat.mul_comm y]
 omega
theorem div_end {x y R : Nat} {Q : List Nat} (h : x = y * val Q + R) (hR : R < y) : val Q = x / y ∧ R = x % y := by
 have hy : 0 < y := by omega
 constructor
 ·rw [h, Nat.mul_add_div hy, Nat.div_eq_of_lt hR, Nat.add_zero]
 ·rw [h, Nat.mul_add_mod, Nat.mod_eq_of_lt hR]
end Na
def RDv (w : World) (M : List (Nat × Value)) (r0 : Nat) (L : List Ob) (QA : Option Addr) (x y n : Nat) (kk : Nat) (i : Value) (wr : World) : Prop :=
 ∃ (z : Int) (R : Nat) (Ar : Option Addr) (nr cr : Nat) (Q : List Nat), -1 ≤ z ∧ z < n ∧ Hid ((z + 1).toNat = kk) ∧ i = .int .i64 z ∧ nr ≤ 200 ∧ Hid (R < y ∧ Q.length + (z + 1).toNat = n ∧ Na.Lim Q ∧ Na.val ((Na.dig x).drop (z + 1).toNat) = y * Na.val Q + R) ∧
  Hid (Ow w wr none (M ++ [(r0, .slice Ar nr cr)]) (L ++ [⟨Ar, nr, cr, nats (Na.dig R)⟩]) [⟨QA, n, n, 3, nats (List.replicate (z + 1).toNat 0 ++ Q)⟩])
def RHalf (w0 : World) (M : List (Nat × Value)) (L : List Ob) (O : List Rw) (y T : Nat) (lo hi : Value) (wr : World) : Prop :=
 ∃ l h : Nat, l ≤ h ∧ h < 16777216 ∧ lo = .int .i64 (l : Int) ∧ hi = .int .i64 (h : Int) ∧ Hid (y * l ≤ T ∧ T < y * (h + 1)) ∧ Hid (Ow w0 wr none M L O)
set_option maxHeartbeats 1000000 in
theorem nrdivide_bad (A A2 : Option Addr) (n c m c2 : Nat) (zs ys : List Int) (w : World) (hn : zs.length = n) (hm : ys.length = m) (hnc : n ≤ c) (hmc : m ≤ c2) (hs : Sl w w.heap.size A (ints zs)) (hs2 : Sl w w.heap.size A2 (ints ys)) (hl : n ≤ 1000) (hl2 : m ≤ 1000) (hv : (Na.vld zs && Na.vld ys) = false) :
  Calls Tryz.prog 95 #[.agg #[.slice A n c], .agg #[.slice A2 m c2]] w (ResDn w [] [] 1) := by
 have H0 := ((((((Ow.of (St.refl w)).old hs (by rw [ints_length]; exact hn) hnc (by omega)).old hs2 (by rw [ints_length]; exact hm) hmc (by omega)).boxed (.slice A n c) 25).boxed (.slice A2 m c2) 25).boxed (.slice none 0 0) 25).boxed (.slice none 0 0) 25
 simp only [World.size_alloc, List.nil_append, List.cons_append] at H0
 have hc0 := H0.cell 0 rfl
 have HH := Lib.hid (rvalid_ow H0 0 rfl)
 clear hn hm hs hs2 H0
 cases h1 : Na.vld zs
 ·rw [h1] at HH
  go_enter Tryz.func95, Tryz.ntmps95
  go_wp2_with fail
  refine HH.out.mono ?_
  rintro e w1 ⟨rfl, H1⟩
  clear hc0 HH
  have hc2 := H1.cell 2 rfl
  have hf2 := H1.free 2 rfl
  have hc3 := H1.cell 3 rfl
  have hf3 := H1.free 3 rfl
  have G1 := H1.setv 2 rfl (.slice none 0 0)
  have hc4 := G1.cell 3 rfl
  have hf4 := G1.free 3 rfl
  go_wp2_with fail
  have G2 := G1.setv 3 rfl (.slice none 0 0)
  have hc5 := G2.cell 2 rfl
  have hc6 := G2.cell 3 rfl
  refine bodyPost_ret (v := .tuple #[.agg #[.slice none 0 0], .agg #[.slice none 0 0], .int .i64 1]) (by simp [results, Tryz.results95, go_sem, hc5, hc6]) rfl ?_
  exact resD_nil _ _ _ G2.below
 ·rw [h1, Bool.true_and] at hv
  rw [h1] at HH
  go_enter Tryz.func95, Tryz.ntmps95
  go_wp2_with fail
  refine HH.out.mono ?_
  rintro e w1 ⟨rfl, H1⟩
  have hc1 := H1.cell 1 rfl
  have HK := Lib.hid (rvalid_ow H1 1 rfl)
  rw [hv] at HK
  clear hc0 HH H1
  go_wp2_with fail
  refine HK.out.mono ?_
  rintro e w2 ⟨rfl, H1⟩
  clear hc1 HK
  have hc2 := H1.cell 2 rfl
  have hf2 := H1.free 2 rfl
  have hc3 := H1.cell 3 rfl
  have hf3 := H1.free 3 rfl
  have G1 := H1.setv 2 rfl (.slice none 0 0)
  have hc4 := G1.cell 3 rfl
  have hf4 := G1.free 3 rfl
  go_wp2_with fail
  have G2 := G1.setv 3 rfl (.slice none 0 0)
  have hc5 := G2.cell 2 rfl
  have hc6 := G2.cell 3 rfl
  refine bodyPost_ret (v := .tuple #[.agg #[.slice none 0 0], .agg #[.slice none 0 0], .int .i64 1]) (by simp [results, Tryz.results95, go_sem, hc5, hc6]) rfl ?_
  exact resD_nil _ _ _ G2.below
set_option maxHeartbeats 1000000 in
theorem nrdivide_zero (A A2 : Option Addr) (n c m c2 : Nat) (x : Nat) (w : World) (hn : (Na.dig x).length = n) (hm : m = 0) (hnc : n ≤ c) (hmc : m ≤ c2) (hs : Sl w w.heap.size A (nats (Na.dig x))) (hx : x < Na.top) :
  Calls Tryz.prog 95 #[.agg #[.slice A n c], .agg #[.slice A2 m c2]] w (ResDn w [] [] 4) := by
 subst hm
 have hn2 : n ≤ 200 := by rw [← hn]; exact (Na.dig_200 x).2 hx
 have hy : 0 < Na.top := by unfold Na.top; exact Nat.pow_pos (by omega)
 have hs2 : Sl w w.heap.size A2 (nats (Na.dig 0)) := by rw [Na.dig_zero]; exact Sl.nil _ _ _
 have hm : (Na.dig 0).length = 0 := by rw [Na.dig_zero]; rfl
 have H0 := ((((((Ow.of (St.refl w)).old hs (by rw [nats_length]; exact hn) hnc (by omega)).old hs2 (by rw [nats_length]; exact hm) hmc (by omega)).boxed (.slice A n c) 25).boxed (.slice A2 0 c2) 25).boxed (.slice none 0 0) 25).boxed (.slice none 0 0) 25
 simp only [World.size_alloc, List.nil_append, List.cons_append] at H0
 have hc0 := H0.cell 0 rfl
 have HH := Lib.hid (rvalid_ok H0 0 rfl hx)
 have HX := Lib.hid hx
 have HY := Lib.hid hy
 have HN := Lib.hid hn
 have HM := Lib.hid hm
 clear hn hm hs hs2 H0 hx hy
 go_enter Tryz.func95, Tryz.ntmps95
 go_wp2_with fail
 refine HH.out.mono ?_
 rintro e w1 ⟨rfl, H1⟩
 have hc1 := H1.cell 1 rfl
 have HK := Lib.hid (rvalid_ok H1 1 rfl HY.out)
 clear hc0 HH H1
 go_wp2_with fail
 refine HK.out.mono ?_
 rintro e w2 ⟨rfl, H1⟩
 have hc0 := H1.cell 0 rfl
 have hc1 := H1.cell 1 rfl
 clear HK
 have hc2 := H1.cell 2 rfl
 have hf2 := H1.free 2 rfl
 have hc3 := H1.cell 3 rfl
 have hf3 := H1.free 3 rfl
 have G1 := H1.setv 2 rfl (.slice none 0 0)
 have hc4 := G1.cell 3 rfl
 have hf4 := G1.free 3 rfl
 go_wp2_with fail
 have G2 := G1.setv 3 rfl (.slice none 0 0)
 have hc5 := G2.cell 2 rfl
 have hc6 := G2.cell 3 rfl
 refine bodyPost_ret (v := .tuple #[.agg #[.slice none 0 0], .agg #[.slice none 0 0], .int .i64 4]) (by simp [results, Tryz.results95, go_sem, hc5, hc6]) rfl ?_
 exact resD_nil _ _ _ G2.below
set_option maxHeartbeats 8000000 in
theorem nrdivide_ok (A A2 : Option Addr) (n c m c2 : Nat) (x y : Nat) (w : World) (hn : (Na.dig x).length = n) (hm : (Na.dig y).length = m) (hnc : n ≤ c) (hmc : m ≤ c2) (hs : Sl w w.heap.size A (nats (Na.dig x))) (hs2 : Sl w w.heap.size A2 (nats (Na.dig y))) (hx : x < Na.top) (hy : y < Na.top) (hy0 : 0 < y) :
  Calls Tryz.prog 95 #[.agg #[.slice A n c], .agg #[.slice A2 m c2]] w (ResDn w (Na.dig (x / y)) (Na.dig (x % y)) 0) := by
 have hn2 : n ≤ 200 := by rw [← hn]; exact (Na.dig_200 x).2 hx
 have hm2 : m ≤ 200 := by rw [← hm]; exact (Na.dig_200 y).2 hy
 have hm0 : ((m : Int) == 0) = false := by
  rw [beq_eq_false_iff_ne]
  intro e
  have : m = 0 := by omega
  rw [this] at hm
  have := Na.dig_len0.1 hm
  omega
 have HY0 := Lib.hid hy0
 clear hy0
 have H0 := ((((((Ow.of (St.refl w)).old hs (by rw [nats_length]; exact hn) hnc (by omega)).old hs2 (by rw [nats_length]; exact hm) hmc (by omega)).boxed (.slice A n c) 25).boxed (.slice A2 m c2) 25).boxed (.slice none 0 0) 25).boxed (.slice none 0 0) 25
 simp only [World.size_alloc, List.nil_append, List.cons_append] at H0
 have hc0 := H0.cell 0 rfl
 have HH := Lib.hid (rvalid_ok H0 0 rfl hx)
 have HX := Lib.hid hx
 have HY := Lib.hid hy
 have HN := Lib.hid hn
 have HM := Lib.hid hm
 clear hn hm hs hs2 H0 hx hy
 go_enter Tryz.func95, Tryz.ntmps95
 go_wp2_with fail
 refine HH.out.mono ?_
 rintro e w1 ⟨rfl, H1⟩
 have hc1 := H1.cell 1 rfl
 have HK := Lib.hid (rvalid_ok H1 1 rfl HY.out)
 clear hc0 HH H1
 go_wp2_with fail
 refine HK.out.mono ?_
 rintro e w2 ⟨rfl, H1⟩
 have hc0 := H1.cell 0 rfl
 have hc1 := H1.cell 1 rfl
 clear HK
 have hmk := elemI.make .i64 .i64 (n : Int) (n : Int) n n rfl rfl (Nat.le_refl _) (by omega) (by omega)
 have H2 := (((H1.made 3 (.int .i64 0) n n rfl (Nat.le_refl _) (by unfold maxLen; omega)).boxed (.slice none 0 0) 25).old (A := none) (n := 0) (c := 0) (vs := []) (Sl.nil _ _ _) rfl (Nat.le_refl _) (by omega))
 simp only [World.size_alloc, List.nil_append, List.cons_append] at H2
 have hq1 := H2.cell 0 rfl
 obtain ⟨w3, hw3⟩ : ∃ w3, (w2.alloc (.cells (madeCells #[.int .i64 0] n) 3)).alloc (.cells #[.slice none 0 0] 25) = w3 := ⟨_, rfl⟩
 have HW : Hid ((w2.alloc (.cells (madeCells #[.int .i64 0] n) 3)).alloc (.cells #[.slice none 0 0] 25) = w3) := hw3
 rw [hw3] at H2
 have hq0 : (w2.alloc (.cells (madeCells #[.int .i64 0] n) 3)).cell? ⟨w.heap.size, 0, none⟩ = some (.slice A n c) := by
  have := (H1.made 3 (.int .i64 0) n n rfl (Nat.le_refl _) (by unfold maxLen; omega)).cell 0 rfl
  exact this
 have HH := Lib.hid H2
 clear H1 H2 hw3
 go_wp2_with fail
 obtain ⟨r0, hr0⟩ : ∃ r, w2.heap.size + 1 = r := ⟨_, rfl⟩
 obtain ⟨QA, hQA⟩ : ∃ q, (some (⟨w2.heap.size, 0, none⟩ : Addr)) = q := ⟨_, rfl⟩
 rw [hr0, hQA] at HH
 rw [HW.out, hr0, hQA]
 clear hc0 hc1 hq0 hq1 hmk hm0 hr0 hQA HW
 go_loopg [9] n (fun kk i wr => RDv w [(w.heap.size, .slice A n c), (w.heap.size + 1, .slice A2 m c2), (w.heap.size + 1 + 1, .slice none 0 0), (w.heap.size + 1 + 1 + 1, .slice none 0 0)] r0 [⟨A, n, c, nats (Na.dig x)⟩, ⟨A2, m, c2, nats (Na.dig y)⟩] QA x y n kk i wr)
 case atStart =>
  refine ⟨(n : Int) - 1, 0, none, 0, 0, [], by omega, by omega, (by unfold Hid; omega), rfl, by omega, ⟨HY0.out, by rw [List.length_nil]; omega, Na.Lim.nil, ?_⟩, ?_⟩
  ·rw [List.drop_of_length_le (by rw [HN.out]; omega)]; rfl
  ·unfold Hid
   rw [show ((n : Int) - 1 + 1).toNat = n by omega, List.append_nil, Na.dig_zero]
   exact (HH.out.same 0 rfl (by unfold nats; rw [List.map_replicate]; rfl))
 case round =>
  obtain ⟨z, R, Ar, nr, cr, Q, hz1, hz2, HKK, rfl, hnr, HP, HO⟩ := hrel
  have HO1 := HO.out
  simp only [List.nil_append, List.cons_append] at HO1
  rcases Int.lt_or_le z 0 with hz | hz
  ·have e0 : (z + 1).toNat = 0 := by omega
   rw [e0, List.replicate_zero, List.nil_append] at HO1
   have hd := HP.out
   rw [e0, List.drop_zero, Na.val_dig] at hd
   have HE := Lib.hid (Na.div_end hd.2.2.2 hd.1)
   have HF := Lib.hid (rfit_ow HO1 0 rfl hd.2.2.1 (by omega))
   have ht : x / y < Na.top := Nat.lt_of_le_of_lt (Nat.div_le_self _ _) HX.out
   rw [HE.out.1, resL_ok ht, resE_ok ht] at HF
   clear HO HO1 hd ht HP hz1 hz2 HH
   go_wp2_with fail
   refine HF.out.mono ?_
   rintro e w4 ⟨A9, n9, c9, rfl, hn9, H4⟩
   have H5 := H4.boxed (.slice A9 n9 c9) 25
   simp only [List.nil_append, List.cons_append] at H5
   clear HF H4
   have HG := Lib.hid ((H5.nil 3).drew)
   have HRg := Lib.hid (HG.out.sl (i := 2) rfl)
   have hx5 := H5.cell 5 rfl
   have hx4 := H5.cell 4 rfl
   have HN9 := Lib.hid hn9
   clear H5 hn9
   go_upto_region 26 with (fail)
   go_region_held3 (fun W => W.cell? ⟨w4.heap.size, 0, none⟩ = some (.slice A9 n9 c9) ∧ W.cell? ⟨r0, 0, none⟩ = some (.slice Ar nr cr)) (first | exact ⟨hx5, hx4⟩ | exact ⟨how.cell 5 rfl, how.cell 4 rfl⟩ | exact ⟨G1.cell 5 rfl, G1.cell 4 rfl⟩ | exact ⟨G2.cell 5 rfl, G2.cell 4 rfl⟩) ((rw [if_pos (by rfl)]; refine owp_append elemI HG.out 2 (.const (.slice none 0 0)) (.tmp 109) rfl HRg.out.1 HRg.out.2.2.2 (nats_one _) (by unfold maxLen; omega) (by omega) rfl rfl rfl ?_; intro A' c' w8 how; rw [Nat.zero_add, List.nil_append] at how; have hs2 := how.cell 2 rfl; have hs2f := how.free 2 rfl; have G1 := how.setv 2 rfl (.slice A9 n9 c9); have hs3 := G1.cell 3 rfl; have hs3f := G1.free 3 rfl; have G2 := G1.setv 3 rfl (.slice A' nr c')))
   clear hs2 hs2f hs3 hs3f hx5 hx4
   go_wp2_with fail
   have hc5 := G2.cell 2 rfl
   have hc6 := G2.cell 3 rfl
   have HE2 := HE.out.2
   subst HE2
   refine bodyPost_ret (v := .tuple #[.agg #[.slice A9 n9 c9], .agg #[.slice A' nr c'], .int .i64 0]) (by simp [results, Tryz.results95, go_sem, hc5, hc6]) rfl ?_
   have hl6 := HRg.out.1
   rw [nats_length] at hl6
   exact ⟨A9, n9, c9, A', nr, c', rfl, HN9.out, hl6, G2.row 1 rfl, G2.row 2 rfl, G2.below⟩
  ·obtain ⟨j, rfl⟩ := Int.eq_ofNat_of_zero_le hz
   have hjn : j < n := by omega
   have e1 : ((j : Int) + 1).toNat = j + 1 := by omega
   rw [e1] at HO1
   have hd := HP.out
   rw [e1] at hd
   have HPj := Lib.hid hd
   obtain ⟨a, ha⟩ := nat_at (Na.dig x) j (by rw [HN.out]; exact hjn)
   have ha24 := (Na.dig_lim x).at ha
   obtain ⟨ad, rfl, _, hca⟩ := (HO1.sl (i := 0) rfl).2.2.2.nat ha
   have hx0 := HO1.cell 0 rfl
   have hx4 := HO1.cell 4 rfl
   have HLt := Lib.hid ((HO1.lit1 (.int .i64 (a : Int)) 3).drew)
   have HRs := Lib.hid (HLt.out.sl (i := 2) rfl)
   have HHa := Lib.hid ha
   have HOj := Lib.hid HO1
   clear ha HO HO1 HP hd hz hz1 hz2 e1
   go_upto_region 10 with (fail)
   go_region_held3 (fun W => W.cell? ⟨w.heap.size, 0, none⟩ = some (.slice (some ad) n c) ∧ W.cell? ⟨r0, 0, none⟩ = some (.slice Ar nr cr) ∧ W.cell? (ad.add j) = some (.int .i64 (a : Int))) (first | exact ⟨hx0, hx4, hca⟩ | exact ⟨HLt.out.cell 0 rfl, HLt.out.cell 4 rfl, (HLt.out.sl (i := 0) rfl).2.2.2.nat_c HHa.out⟩ | exact ⟨how.cell 0 rfl, how.cell 4 rfl, (how.sl (i := 0) rfl).2.2.2.nat_c HHa.out⟩) ((rw [if_pos (by rfl)]; refine owp_append elemI HLt.out 1 (.tmp 50) (.tmp 52) rfl HRs.out.1 HRs.out.2.2.2 (nats_one _) (by unfold maxLen; omega) (by omega) rfl rfl rfl ?_; intro A' c' w8 how))
   obtain ⟨T, hT⟩ : ∃ T, a + 16777216 * R = T := ⟨_, rfl⟩
   have H8 := how
   simp only [List.cons_append, List.nil_append, List.set_cons_succ, List.set_cons_zero] at H8
   have HLv : Hid (Na.val (a :: Na.dig R) = T) := by unfold Hid; rw [Na.val, Na.val_dig]; exact hT
   have HLl : Hid (Na.Lim (a :: Na.dig R)) := Na.Lim.cons ha24 (Na.dig_lim R)
   have HLn : Hid ((a :: Na.dig R).length = 1 + nr) := by have := HRs.out.1; rw [nats_length] at this; unfold Hid; rw [List.length_cons, this]; omega
   have HX8 : Hid (Ow w w8 none [(w.heap.size, .slice (some ad) n c), (w.heap.size + 1, .slice A2 m c2), (w.heap.size + 1 + 1, .slice none 0 0), (w.heap.size + 1 + 1 + 1, .slice none 0 0), (r0, .slice Ar nr cr)] [⟨some ad, n, c, nats (Na.dig x)⟩, ⟨A2, m, c2, nats (Na.dig y)⟩, ⟨Ar, nr, cr, nats (Na.dig R)⟩] [⟨QA, n, n, 3, nats (List.replicate (j + 1) 0 ++ Q)⟩, ⟨A', 1 + nr, c', 3, nats (a :: Na.dig R)⟩]) := H8
   have H25 := Lib.hid hT
   obtain ⟨l, hl⟩ : ∃ l, a :: Na.dig R = l := ⟨_, rfl⟩
   rw [hl] at HLv HLl HLn HX8
   clear hT how H8 hl HLt HRs hca hx0 hx4 HOj ha24
   go_upto_block 2 with (fail)
   go_cut [11] from 41 to 101 (fun v wx => v = .int .i64 ((Na.tl l l.length : Nat) : Int) ∧ wx = w8)
   case first =>
    go_wp2_with fail
    go_loop [11] (fun v => ∃ i : Nat, i ≤ 1 + nr ∧ v = .int .i64 (i : Int) ∧ Hid (Na.tl l i = Na.tl l l.length)) (fun v => (intOf v).toNat)
    case atStart => exact ⟨1 + nr, Nat.le_refl _, by simp, by unfold Hid; rw [HLn.out]⟩
    case round =>
     obtain ⟨i, hi, rfl, HT⟩ := hrel
     have hown := Sl.of_own (HX8.out.row 1 rfl)
     rcases Na.tl_case l l.length i (by rw [HLn.out]; exact hi) HT.out with ⟨h0, hz, ht⟩ | ⟨ht, hs⟩
     ·obtain ⟨ad2, rfl, _, hcb⟩ := hown.nat hz
      have HT2 := Lib.hid ht
      have hd : decide (0 < (i : Int)) = true := decide_eq_true (by omega)
      have hcn : (i : Int) ≤ (1 : Int) + (nr : Int) := by omega
      clear hown hz ht
      go_wp2_with fail
      go_round
      case rel => exact ⟨i - 1, by omega, int_eqv (by omega), HT2⟩
      case measure => simp [intOf]; omega
     ·have HTe := Lib.hid ht
      rcases hs with h0 | ⟨h0, b, hb, hbne⟩
      ·subst h0
       clear hown ht HT
       go_wp2_with fail
       go_meet
       exact ⟨by rw [HTe.out]; rfl, rfl⟩
      ·obtain ⟨ad2, rfl, _, hcb⟩ := hown.nat hb
       have hd : decide (0 < (i : Int)) = true := decide_eq_true (by omega)
       have hcn : (i : Int) ≤ (1 : Int) + (nr : Int) := by omega
       clear hown hb ht HT
       go_wp2_with fail
       go_meet
       exact ⟨by rw [HTe.out], rfl⟩
   case rest =>
    obtain ⟨rfl, rfl⟩ := hcut
    have hrow := HX8.out.row 1 rfl
    obtain ⟨gb, rfl, -, -⟩ := own_form hrow (by omega)
    have hcap := (own_cap hrow).1
    obtain ⟨q1, hq1⟩ : ∃ k, Na.tl l l.length = k := ⟨_, rfl⟩
    have hq2 : q1 ≤ 1 + nr := by rw [← hq1, ← HLn.out]; exact Na.tl_le _ _
    have hjc : (q1 : Int) ≤ (c' : Int) := by omega
    have H9 := ((HX8.out.trimmed 1 rfl HLl.out hq1 HLv.out).setv 4 rfl (.slice (some ⟨gb, 0, none⟩) q1 c')).keep 1 rfl (by omega)
    simp only [List.cons_append, List.nil_append, List.set_cons_succ, List.set_cons_zero] at H9
    have hc8 := HX8.out.cell 4 rfl
    have hf8 := HX8.out.free 4 rfl
    rw [hq1]
    clear hrow hcap hq1
    go_upto_region 16 with (fail)
    obtain ⟨w9, hw9⟩ : ∃ w9, wc.setCell ⟨r0, 0, none⟩ (.slice (some ⟨gb, 0, none⟩) q1 c') = w9 := ⟨_, rfl⟩
    rw [hw9] at H9 ⊢
    clear hw9 hc8 hf8 hjc
    have hc8 := H9.cell 4 rfl
    have hc1 := H9.cell 1 rfl
    have HC := Lib.hid (rcmp_ow H9 3 1 rfl rfl)
    clear H9 HX8
    go_wp2_with fail
    refine HC.out.mono ?_
    rintro e w10 ⟨rfl, H10⟩
    have HX10 := Lib.hid H10
    clear HC H10 hc8 hc1
    go_upto_if 75 with (fail)
    go_cut [13] from 41 to 101 (fun v wx => ∃ h : Nat, h < 16777216 ∧ v = .int .i64 (h : Int) ∧ Hid (T < y * (h + 1)) ∧ wx = w10)
    case first =>
     rcases Nat.lt_or_ge T y with hlt | hge
     ·have hs : Na.sgn T y < 0 := by rw [Na.sgn_lt hlt]; omega
      have HT0 : Hid (T < y * (0 + 1)) := by unfold Hid; omega
      obtain ⟨sg, hsg⟩ : ∃ s : Int, Na.sgn T y = s := ⟨_, rfl⟩
      rw [hsg] at hs ⊢
      have hs' : decide (sg < 0) = true := decide_eq_true hs
      clear hlt hsg
      go_wp2_with fail
      go_meet
      exact ⟨0, by omega, rfl, HT0, rfl⟩
     ·have hs : 0 ≤ Na.sgn T y := by rcases Na.sgn_cases T y with ⟨h, e⟩ | ⟨h, e⟩ | ⟨h, e⟩ <;> omega
      have HT0 : Hid (T < y * (16777215 + 1)) := by unfold Hid; rw [← H25.out]; exact Na.div_start ((Na.dig_lim x).at HHa.out) HPj.out.1
      obtain ⟨sg, hsg⟩ : ∃ s : Int, Na.sgn T y = s := ⟨_, rfl⟩
      rw [hsg] at hs ⊢
      have hs' : decide (sg < 0) = false := decide_eq_false (by omega)
      clear hge hsg
      go_wp2_with fail
      go_meet
      exact ⟨16777215, by omega, rfl, HT0, rfl⟩
    case rest =>
     obtain ⟨h0, hh0, rfl, HT0, rfl⟩ := hcut
     go_wp2_with fail
     go_loopw [12, 13] (fun lo hi wr => RHalf w [(w.heap.size, .slice (some ad) n c), (w.heap.size + 1, .slice A2 m c2), (w.heap.size + 1 + 1, .slice none 0 0), (w.heap.size + 1 + 1 + 1, .slice none 0 0), (r0, .slice (some ⟨gb, 0, none⟩) q1 c')] [⟨some ad, n, c, nats (Na.dig x)⟩, ⟨A2, m, c2, nats (Na.dig y)⟩, ⟨Ar, nr, cr, nats (Na.dig R)⟩, ⟨some ⟨gb, 0, none⟩, q1, c', nats (Na.dig T)⟩] [⟨QA, n, n, 3, nats (List.replicate (j + 1) 0 ++ Q)⟩, ⟨none, 0, 0, 3, []⟩] y T lo hi wr) (fun lo hi _ => (intOf hi - intOf lo).toNat)
     case atStart => exact ⟨0, h0, Nat.zero_le _, hh0, rfl, rfl, ⟨by rw [Nat.mul_zero]; exact Nat.zero_le _, HT0.out⟩, HX10.out⟩
     case round =>
      obtain ⟨lo, hi, hlh, hh, rfl, rfl, HLH, HOh⟩ := hrel
      rcases Nat.lt_or_ge lo hi with hlt | hge
      ·obtain ⟨mid, hmid⟩ : ∃ mid, mid = (lo + hi + 1) / 2 := ⟨_, rfl⟩
       obtain ⟨hm1, hm2', HMt, HMf⟩ := Na.half_at HLH.out.1 HLH.out.2 hmid hlt
       have hmi : ((lo : Int) + (hi : Int) + 1) / 2 = (mid : Int) := by omega
       have hy1 := HOh.out.cell 1 rfl
       have hy4 := HOh.out.cell 4 rfl
       have hmid24 : mid < 16777216 := by omega
       have HTi := Lib.hid (rtimes_ow HOh.out.drew 1 mid rfl (by omega) hmid24)
       clear hmid
       by_cases hsle : Na.sgn (y * mid) T ≤ 0
       ·have hle2 := HMt hsle
        have HN2 : Hid (y * mid ≤ T ∧ T < y * (hi + 1)) := ⟨hle2, HLH.out.2⟩
        obtain ⟨sg, hsg⟩ : ∃ s : Int, Na.sgn (y * mid) T = s := ⟨_, rfl⟩
        have HSg := Lib.hid hsg
        rw [hsg] at hsle
        have hsd : decide (sg ≤ 0) = true := decide_eq_true hsle
        clear hsg hle2 HMt HMf HOh HLH
        go_upto_region 20 with (fail)
        go_region_held3 (fun W => W.cell? ⟨w.heap.size + 1, 0, none⟩ = some (.slice A2 m c2) ∧ W.cell? ⟨r0, 0, none⟩ = some (.slice (some ⟨gb, 0, none⟩) q1 c')) (first | exact ⟨hy1, hy4⟩ | exact ⟨how.cell 1 rfl, how.cell 4 rfl⟩ | exact ⟨how2.cell 1 rfl, how2.cell 4 rfl⟩) ((first | (go_at_call 144; (with_reducible refine HTi.out.mono ?_); rintro e w11 ⟨A5, n5, c5, rfl, hn5, how⟩) | (go_at_call 51; (with_reducible refine (rcmp_ow how 4 3 rfl rfl).mono ?_); rw [HSg.out]; rintro e w12 ⟨rfl, how2⟩)))
        have HF := Lib.hid how2
        clear hy1 hy4 how how2
        go_wp2_with fail
        go_roundw
        case rel => exact ⟨mid, hi, by omega, hh, rfl, rfl, HN2, HF.out.less (fun o ho => by simp only [List.mem_append]; exact .inl ho)⟩
        case measure => simp [intOf]; omega
       ·have hgt2 := HMf hsle
        have HN2 : Hid (y * lo ≤ T ∧ T < y * (mid - 1 + 1)) := ⟨HLH.out.1, hgt2⟩
        obtain ⟨sg, hsg⟩ : ∃ s : Int, Na.sgn (y * mid) T = s := ⟨_, rfl⟩
        have HSg := Lib.hid hsg
        rw [hsg] at hsle
        have hsd : decide (sg ≤ 0) = false := decide_eq_false hsle
        have hsle' : 0 < sg := by omega
        clear hsg hgt2 HMt HMf HOh HLH hsle
        go_upto_region 20 with (fail)
        go_region_held3 (fun W => W.cell? ⟨w.heap.size + 1, 0, none⟩ = some (.slice A2 m c2) ∧ W.cell? ⟨r0, 0, none⟩ = some (.slice (some ⟨gb, 0, none⟩) q1 c')) (first | exact ⟨hy1, hy4⟩ | exact ⟨how.cell 1 rfl, how.cell 4 rfl⟩ | exact ⟨how2.cell 1 rfl, how2.cell 4 rfl⟩) ((first | (go_at_call 144; (with_reducible refine HTi.out.mono ?_); rintro e w11 ⟨A5, n5, c5, rfl, hn5, how⟩) | (go_at_call 51; (with_reducible refine (rcmp_ow how 4 3 rfl rfl).mono ?_); rw [HSg.out]; rintro e w12 ⟨rfl, how2⟩)))
        have HF := Lib.hid how2
        clear hy1 hy4 how how2
        go_wp2_with fail
        go_roundw
        case rel => exact ⟨lo, mid - 1, by omega, by omega, rfl, int_eqv (by omega), HN2, HF.out.less (fun o ho => by simp only [List.mem_append]; exact .inl ho)⟩
        case measure => simp [intOf]; omega
      ·obtain rfl : lo = hi := by omega
       have hqd : T / y = lo ∧ T % y = T - y * lo := by
        have h1 := HLH.out
        have e : T = y * lo + (T - y * lo) := by omega
        have h3 := Na.half_end h1.1 h1.2
        constructor
        ·rw [e, Nat.mul_add_div HY0.out, Nat.div_eq_of_lt h3, Nat.add_zero]
        ·rw [e, Nat.mul_add_mod, Nat.mod_eq_of_lt h3, Nat.add_sub_cancel_left]
       have hlo24 : lo < 16777216 := hh
       have HLE := Lib.hid HLH.out.1
       have HRl := Lib.hid (Na.half_end HLH.out.1 HLH.out.2)
       have hx8 := HOh.out.cell 4 rfl
       have hx1 := HOh.out.cell 1 rfl
       have hQ0 := HOh.out.row 0 rfl
       obtain ⟨gq, rfl, -, -⟩ := own_form hQ0 (by omega)
       have hcq := own_nat hQ0 (k := j) (b := 0) (by rw [List.getElem?_append_left (by simp), List.getElem?_replicate, if_pos (Nat.lt_succ_self j)])
       have hfq := hQ0.frozenAt j
       have H11 := HOh.out.put 0 rfl j (.int .i64 (lo : Int))
       rw [List.set_cons_zero, nats_set, Na.zeros_set] at H11
       have hlo0 : (lo : Int) = lo := rfl
       clear hQ0 HLH hqd
       go_upto_region 24 with (fail)
       obtain ⟨w13, hw13⟩ : ∃ w13, wr.setCell ⟨gq, j, none⟩ (.int .i64 (lo : Int)) = w13 := ⟨_, rfl⟩
       rw [hw13] at H11 ⊢
       clear hw13 hcq hfq hx8 hx1
       have hx8 := H11.cell 4 rfl
       have hx1 := H11.cell 1 rfl
       have hf8 := H11.free 4 rfl
       have HTi := Lib.hid (rtimes_ow H11.drew 1 lo rfl (by omega) hlo24)
       have HTm := Lib.hid hx8
       clear HOh H11
       go_region_with (first | (go_at_call 144; (with_reducible refine HTi.out.mono ?_); rintro e w11 ⟨A5, n5, c5, rfl, hn5, how⟩; have hy8 := how.cell 4 rfl; have hyf := how.free 4 rfl; have HHow := Lib.hid how) | (go_at_call 145; (with_reducible refine (rless_ow how 3 4 rfl rfl (by omega) (by omega) HLE.out).mono ?_); rintro e w12 ⟨A6, n6, c6, rfl, hn6, how2⟩; have hz8 := how2.cell 4 rfl; have hzf := how2.free 4 rfl; have HHow2 := Lib.hid how2))
       all_goals
        have H12 := (HHow2.out.setv 4 rfl (.slice A6 n6 c6)).less (L' := [⟨some ad, n, c, nats (Na.dig x)⟩, ⟨A2, m, c2, nats (Na.dig y)⟩, ⟨A6, n6, c6, nats (Na.dig (T - y * lo))⟩]) (fun o ho => by
         simp only [List.mem_cons, List.not_mem_nil, or_false, List.mem_append] at ho ⊢
         rcases ho with rfl | rfl | rfl <;> simp)
        have hl6 := (HHow2.out.sl (i := 5) rfl).1
        rw [nats_length] at hl6
        have hn6' : n6 ≤ 200 := by rw [← hl6]; exact (Na.dig_200 _).2 (Nat.lt_trans HRl.out HY.out)
        have HFin : Hid (T - y * lo < y ∧ (lo :: Q).length + j = n ∧ Na.Lim (lo :: Q) ∧ Na.val ((Na.dig x).drop j) = y * Na.val (lo :: Q) + (T - y * lo)) := by
         refine ⟨HRl.out, ?_, Na.Lim.cons hlo24 HPj.out.2.2.1, ?_⟩
         ·have := HPj.out.2.1; rw [List.length_cons]; omega
         ·rw [← H25.out]
          exact Na.div_next HHa.out HPj.out.2.2.2 (by rw [H25.out]; exact HLE.out)
        have HF12 := Lib.hid H12
        clear H12 hl6 hx8 hx1 hf8 how how2 HHow HHow2
        go_wp2_with fail
        go_roundg j
        case measure => have := HKK.out; omega
        case rel =>
         have ej : ((j : Int) - 1 + 1).toNat = j := by omega
         refine ⟨(j : Int) - 1, T - y * lo, A6, n6, c6, lo :: Q, by omega, by omega, ej, rfl, hn6', ?_, ?_⟩
         ·unfold Hid; rw [ej]; exact HFin.out
         ·unfold Hid; rw [ej]; exact HF12.out.few 1
def ROf (w : World) (M : List (Nat × Value)) (m : Nat) (v s : Value) (wr : World) : Prop :=
 ∃ (x : Nat) (A : Option Addr) (k c : Nat) (d : List Nat), x ≤ m ∧ v = .int .i64 (x : Int) ∧ s = .slice A k c ∧ k ≤ 3 ∧ Hid (Na.dig m = d ++ Na.dig x ∧ d.length = k) ∧ Hid (Ow w wr none M [] [⟨A, k, c, 3, nats d⟩])
set_option maxHeartbeats 1000000 in
theorem nrof_any (m : Int) (w : World) (hm : m ≤ 9223372036854775807) : Calls Tryz.prog 73 #[.int .i64 m] w (ResN w (ofL m) (ofE m)) := by
 have H0 := (Ow.of (St.refl w)).boxed (.slice none 0 0) 25
 simp only [List.nil_append] at H0
 by_cases h : m < 0
 ·have HR : Hid (ofL m = []) := if_pos h
  have HE : Hid (ofE m = 2) := if_pos h
  have hc0 := H0.cell 0 rfl
  have hf0 := H0.free 0 rfl
  go_enter Tryz.func73, Tryz.ntmps73
  go_wp2_with fail
  refine bodyPost_ret (v := .tuple #[.agg #[.slice none 0 0], .int .i64 2]) (by simp [results, Tryz.results73, go_sem]) rfl ?_
  rw [HR.out, HE.out]
  exact resN_nil _ _ _ H0.below
 ·have h' : 0 ≤ m := by omega
  obtain ⟨m0, rfl⟩ := Int.eq_ofNat_of_zero_le h'
  have HR : Hid (ofL m0 = Na.dig m0) := if_neg (by omega)
  have HE : Hid (ofE m0 = 0) := if_neg (by omega)
  have hlen : (Na.dig m0).length ≤ 3 := Na.dig_len_le (Nat.lt_of_le_of_lt (show m0 ≤ 9223372036854775807 by omega) (by decide))
  have HH := Lib.hid (H0.nil 3)
  clear h H0
  rw [HR.out, HE.out]
  go_enter Tryz.func73, Tryz.ntmps73
  go_wp2_with fail
  go_loopw [0, 4] (fun v s wr => ROf w [(w.heap.size, .slice none 0 0)] m0 v s wr) (fun v _ _ => (intOf v).toNat)
  case atStart => exact ⟨m0, none, 0, 0, [], Nat.le_refl _, rfl, rfl, by omega, ⟨rfl, rfl⟩, HH.out⟩
  case round =>
   obtain ⟨x, A, k, c, d, hx, rfl, rfl, hk, HD, HO⟩ := hrel
   rcases Nat.eq_zero_or_pos x with rfl | h0
   ·have hd : Na.dig m0 = d := by rw [HD.out.1, Na.dig_zero, List.append_nil]
    have hc0 := HO.out.cell 0 rfl
    have hf0 := HO.out.free 0 rfl
    have HDD := Lib.hid hd
    clear hd
    go_wp2_with fail
    have G := HO.out.setv 0 rfl (.slice A k c)
    have hc1 := G.cell 0 rfl
    refine bodyPost_ret (v := .tuple #[.agg #[.slice A k c], .int .i64 0]) (by simp [results, Tryz.results73, go_sem, hc1]) rfl ?_
    rw [HDD.out]
    exact resN_of G 0 rfl 0
   ·have hdx := Na.dig_pos x h0
    have hdl : k + 1 ≤ 3 := by
     have h1 := congrArg List.length HD.out.1
     rw [List.length_append, hdx, List.length_cons, HD.out.2] at h1
     omega
    have HD2 : Hid (Na.dig m0 = (d ++ [x % 16777216]) ++ Na.dig (x / 16777216)) := by
     unfold Hid
     rw [HD.out.1, hdx, List.append_assoc]
     rfl
    clear hdx
    have hmod : (x : Int) % 16777216 = ((x % 16777216 : Nat) : Int) := by omega
    have hdiv : (x : Int) / 16777216 = ((x / 16777216 : Nat) : Int) := by omega
    obtain ⟨r, hr⟩ : ∃ r, x % 16777216 = r := ⟨_, rfl⟩
    obtain ⟨q, hq⟩ : ∃ q, x / 16777216 = q := ⟨_, rfl⟩
    rw [hr] at hmod HD2
    rw [hq] at hdiv HD2
    have hqx : q < x := by omega
    have HL : Hid ((d ++ [r]).length = k + 1) := by unfold Hid; rw [List.length_append, HD.out.2]; rfl
    have hd : decide (0 < (x : Int)) = true := decide_eq_true (by omega)
    clear hr hq
    go_wp2_with (at_builtin; refine ow_append1 elemI HO.out 0 (.tmp 12) (.tmp 15) _ _ rfl rfl (by unfold maxLen; omega) (by omega) rfl rfl rfl rfl ?_; intro A' c' w8 how)
    go_roundw
    case rel =>
     rw [nats_snoc] at how
     exact ⟨q, A', k + 1, c', d ++ [r], by omega, (by first | rfl | exact int_eqv hdiv), rfl, hdl, ⟨HD2.out, HL.out⟩, how⟩
    case measure => simp [intOf]; omega
section
variable {w0 w w' : World} {g : Option Nat} {M : List (Nat × Value)} {L : List Ob} {O : List Rw} {A A2 : Option Addr} {n c m c2 x y : Nat}
theorem Ow.push2 (h : Ow w0 w g M L O) {B1 B2 : Option Addr} {n1 d1 n2 d2 : Nat} {us vs : List Value} {e : TypeId} (ho : w'.ownsRow w.heap.size e 1 (.slice B1 n1 d1) n1 us) (ho2 : w'.ownsRow w.heap.size e 1 (.slice B2 n2 d2) n2 vs) (hl : n1 ≤ 1000) (hl2 : n2 ≤ 1000) (hb : Below w.heap.size w w') : Ow w0 w' g M (L ++ [⟨B1, n1, d1, us⟩] ++ [⟨B2, n2, d2, vs⟩]) O := by
 have h' := h.go hb
 have new : ∀ {B : Option Addr} {n d : Nat} {xs : List Value}, w'.ownsRow w.heap.size e 1 (.slice B n d) n xs → ∀ ad, B = some ad → 0 < n → w.heap.size ≤ ad.block := fun ho ad ea h0 => by
  obtain ⟨gb, hg, h1, _⟩ := own_form ho h0
  rw [ea] at hg
  obtain rfl := Option.some.inj hg
  exact h1
 refine ⟨h.st.push2 ho ho2 hl hl2 hb, h'.own, fun i r hi b hbk => ⟨(h'.ap i r hi b hbk).1, (h'.ap i r hi b hbk).2.1, fun o hm ad ea h0 => ?_⟩, h'.two⟩
 have hlt := (h.lt hi hbk).1
 rcases List.mem_append.1 hm with hm | hm
 ·rcases List.mem_append.1 hm with hm | hm
  ·exact (h'.ap i r hi b hbk).2.2 o hm ad ea h0
  ·rw [List.mem_singleton] at hm
   subst hm
   have := new ho ad ea h0
   omega
 ·rw [List.mem_singleton] at hm
  subst hm
  have := new ho2 ad ea h0
  omega
theorem rdivide_ow (h : Ow w0 w g M L O) (i j : Nat) (hi : L[i]? = some ⟨A, n, c, nats (Na.dig x)⟩) (hj : L[j]? = some ⟨A2, m, c2, nats (Na.dig y)⟩) (hx : x < Na.top) (hy : y < Na.top) (hy0 : 0 < y) :
  Calls Tryz.prog 95 #[.agg #[.slice A n c], .agg #[.slice A2 m c2]] w fun e w' => ∃ (A1 : Option Addr) (n1 c1 : Nat) (A2 : Option Addr) (n2 c2 : Nat), e = .returned (.tuple #[.agg #[.slice A1 n1 c1], .agg #[.slice A2 n2 c2], .int .i64 0]) ∧ Ow w0 w' g M ((L ++ [⟨A1, n1, c1, nats (Na.dig (x / y))⟩]) ++ [⟨A2, n2, c2, nats (Na.dig (x % y))⟩]) O := by
 obtain ⟨h1, h2, h3, h4⟩ := h.sl hi
 obtain ⟨k1, k2, k3, k4⟩ := h.sl hj
 rw [nats_length] at h1 k1
 have l1 : (Na.dig (x / y)).length ≤ 200 := (Na.dig_200 _).2 (Nat.lt_of_le_of_lt (Nat.div_le_self _ _) hx)
 have l2 : (Na.dig (x % y)).length ≤ 200 := (Na.dig_200 _).2 (Nat.lt_of_le_of_lt (Nat.mod_le _ _) hx)
 exact (nrdivide_ok A A2 n c m c2 x y w h1 k1 h2 k2 h4 k4 hx hy hy0).mono fun en w' ⟨A1, n1, c1, A3, n2, c3, he, e1, e2, o1, o2, hb⟩ =>
  ⟨A1, n1, c1, A3, n2, c3, he, h.push2 o1 o2 (by omega) (by omega) hb⟩
end

def RGcd (w : World) (B : Nat) (x y : Nat) (k : Nat) (wr : World) : Prop :=
 ∃ (X Y : Nat) (A1 : Option Addr) (n1 c1 : Nat) (A2 : Option Addr) (n2 c2 : Nat), n1 ≤ 200 ∧ n2 ≤ 200 ∧ Hid (Nat.gcd X Y = Nat.gcd x y ∧ Y = k ∧ X < Na.top ∧ Y < Na.top) ∧ Hid (Ow w wr none [(B, .slice A1 n1 c1), (B + 1, .slice A2 n2 c2), (B + 1 + 1, .slice none 0 0)] [⟨A1, n1, c1, nats (Na.dig X)⟩, ⟨A2, n2, c2, nats (Na.dig Y)⟩] [])
set_option maxHeartbeats 4000000 in
theorem nrgcd_ok (A A2 : Option Addr) (n c m c2 x y : Nat) (w : World) (hn : (Na.dig x).length = n) (hm : (Na.dig y).length = m) (hnc : n ≤ c) (hmc : m ≤ c2) (hs : Sl w w.heap.size A (nats (Na.dig x))) (hs2 : Sl w w.heap.size A2 (nats (Na.dig y))) (hx : x < Na.top) (hy : y < Na.top) :
  Calls Tryz.prog 94 #[.agg #[.slice A n c], .agg #[.slice A2 m c2]] w (ResN w (Na.dig (Nat.gcd x y)) 0) := by
 have hn2 : n ≤ 200 := by rw [← hn]; exact (Na.dig_200 x).2 hx
 have hm2 : m ≤ 200 := by rw [← hm]; exact (Na.dig_200 y).2 hy
 have H0 := (((((Ow.of (St.refl w)).old hs (by rw [nats_length]; exact hn) hnc (by omega)).old hs2 (by rw [nats_length]; exact hm) hmc (by omega)).boxed (.slice A n c) 25).boxed (.slice A2 m c2) 25).boxed (.slice none 0 0) 25
 simp only [World.size_alloc, List.nil_append, List.cons_append] at H0
 have hc0 := H0.cell 0 rfl
 have HH := Lib.hid (rvalid_ok H0 0 rfl hx)
 have HX := Lib.hid hx
 have HY := Lib.hid hy
 clear hn hm hs hs2 H0 hx hy
 go_enter Tryz.func94, Tryz.ntmps94
 go_wp2_with fail
 refine HH.out.mono ?_
 rintro e w1 ⟨rfl, H1⟩
 have hc1 := H1.cell 1 rfl
 have HK := Lib.hid (rvalid_ok H1 1 rfl HY.out)
 clear hc0 HH H1
 go_wp2_with fail
 refine HK.out.mono ?_
 rintro e w2 ⟨rfl, H2⟩
 have HI := Lib.hid H2
 clear HK H2 hc1
 go_wp2_with fail
 go_loopg [] y (fun k wr => RGcd w w.heap.size x y k wr)
 case atStart => exact ⟨x, y, A, n, c, A2, m, c2, hn2, hm2, ⟨rfl, rfl, HX.out, HY.out⟩, HI.out⟩
 case round =>
  clear HI
  obtain ⟨X, Y, A1, n1, c1, A3, n3, c3, hn1, hn3, HP, HO⟩ := hrel
  have hc0 := HO.out.cell 0 rfl
  have hc1 := HO.out.cell 1 rfl
  have hl3 := (HO.out.sl (i := 1) rfl).1
  rw [nats_length] at hl3
  rcases Nat.eq_zero_or_pos n3 with h0 | h0
  ·subst h0
   have hY0 := Na.dig_len0.1 hl3
   have hG : Nat.gcd x y = X := by rw [← HP.out.1, hY0, Nat.gcd_zero_right]
   have HG := Lib.hid hG
   have HN := Lib.hid (HO.out.nil 3)
   have hQ := Lib.hid (HN.out.sl (i := 0) rfl)
   have hc2 := HO.out.cell 2 rfl
   clear hl3 hY0 hG HO
   go_wp2_with (at_builtin; refine ow_append elemI HN.out 0 (.const (.slice none 0 0)) (.tmp 32) rfl hQ.out.1 hQ.out.2.2.2 (nats_one _) (by unfold maxLen; omega) (by omega) rfl rfl rfl rfl ?_; intro A' c' w3 how; have hs2 := how.cell 2 rfl; have hs2f := how.free 2 rfl)
   have G := how.setv 2 rfl (.slice A' (0 + n1) c')
   have hc3 := G.cell 2 rfl
   simp only [Nat.zero_add] at G hc3
   refine bodyPost_ret (v := .tuple #[.agg #[.slice A' n1 c'], .int .i64 0]) (by simp [results, Tryz.results94, go_sem, hc3]) rfl ?_
   rw [HG.out]
   exact resN_of G 0 rfl 0
  ·have hY0 : 0 < Y := by
    rcases Nat.eq_zero_or_pos Y with e | e
    ·rw [e, Na.dig_zero] at hl3; simp at hl3; omega
    ·exact e
   have hd : decide (0 < (n3 : Int)) = true := decide_eq_true (by omega)
   have HD := Lib.hid (rdivide_ow HO.out 0 1 rfl rfl HP.out.2.2.1 HP.out.2.2.2 hY0)
   have HYp := Lib.hid hY0
   have hn0 : (0 : Int) < (n3 : Int) := by omega
   clear hl3 hY0 HO h0
   go_wp2_with fail
   refine HD.out.mono ?_
   rintro e w3 ⟨B1, m1, d1, B2, m2, d2, rfl, H3⟩
   have H4 := (H3.boxed (.slice B1 m1 d1) 25).boxed (.slice B2 m2 d2) 25
   simp only [World.size_alloc, List.nil_append, List.cons_append] at H4
   clear hc0 hc1 HD H3
   go_upto_region 5 with (fail)
   obtain ⟨w4, hw4⟩ : ∃ w4, (w3.alloc (.cells #[.slice B1 m1 d1] 25)).alloc (.cells #[.slice B2 m2 d2] 25) = w4 := ⟨_, rfl⟩
   rw [hw4] at H4 ⊢
   clear hw4
   have k1 := H4.cell 1 rfl
   have k4 := H4.cell 4 rfl
   have q0 := H4.cell 0 rfl
   have q0f := H4.free 0 rfl
   have G1 := H4.setv 0 rfl (.slice A3 n3 c3)
   have q1 := G1.cell 1 rfl
   have q1f := G1.free 1 rfl
   have q4 := G1.cell 4 rfl
   have G2 := G1.setv 1 rfl (.slice B2 m2 d2)
   have hl2 := (G2.sl (i := 3) rfl).1
   rw [nats_length] at hl2
   have HM2 : Hid (m2 ≤ 200) := by unfold Hid; rw [← hl2]; exact (Na.dig_200 _).2 (Nat.lt_of_le_of_lt (Nat.mod_le _ _) HP.out.2.2.1)
   have HF := Lib.hid (G2.drew.few2 (M' := [(w.heap.size, .slice A3 n3 c3), (w.heap.size + 1, .slice B2 m2 d2), (w.heap.size + 1 + 1, .slice none 0 0)]) (L' := [⟨A3, n3, c3, nats (Na.dig Y)⟩, ⟨B2, m2, d2, nats (Na.dig (X % Y))⟩]) rfl (fun o ho => by simp only [List.mem_cons, List.not_mem_nil, or_false] at ho ⊢; rcases ho with rfl | rfl <;> simp))
   have HGn : Hid (Nat.gcd Y (X % Y) = Nat.gcd x y ∧ X % Y < Y ∧ X % Y < Na.top) := ⟨by rw [← HP.out.1, Nat.gcd_comm X Y, Nat.gcd_rec Y X, Nat.gcd_comm], Nat.mod_lt _ HYp.out, Nat.lt_of_le_of_lt (Nat.mod_le _ _) HP.out.2.2.1⟩
   clear H4 G1 G2 hl2
   go_region
   all_goals
    clear k1 k4 q0 q0f q1 q1f q4
    go_wp2_with fail
    go_roundg (X % Y)
    case measure => have := HP.out.2.1; have := HGn.out.2.1; omega
    case rel => exact ⟨Y, X % Y, A3, n3, c3, B2, m2, d2, hn3, HM2.out, ⟨HGn.out.1, rfl, HP.out.2.2.2, HGn.out.2.2⟩, HF.out⟩
section
variable {w0 w w' : World} {g : Option Nat} {M : List (Nat × Value)} {L : List Ob} {O : List Rw} {A A2 : Option Addr} {n c m c2 x y : Nat}
theorem Ow.seen (h : Ow w0 w g M L O) (i : Nat) {e : TypeId} {l : List Nat} (hi : O[i]? = some ⟨A, n, c, e, nats l⟩) : l.length = n ∧ n ≤ c ∧ Sl w w.heap.size A (nats l) := by
 have ho := h.row i hi
 have := own_len ho
 rw [nats_length] at this
 exact ⟨this, (own_cap ho).1, Sl.of_own ho⟩
theorem Ow.seenL (h : Ow w0 w g M L O) (i : Nat) {l : List Nat} (hi : L[i]? = some ⟨A, n, c, nats l⟩) : l.length = n ∧ n ≤ c ∧ Sl w w.heap.size A (nats l) := by
 obtain ⟨h1, h2, h3, h4⟩ := h.sl hi
 rw [nats_length] at h1
 exact ⟨h1, h2, h4⟩
theorem rmul_at (h : Ow w0 w g M L O) (hA : (Na.dig x).length = n ∧ n ≤ c ∧ Sl w w.heap.size A (nats (Na.dig x))) (hB : (Na.dig y).length = m ∧ m ≤ c2 ∧ Sl w w.heap.size A2 (nats (Na.dig y))) (hx : x < Na.top) (hy : y < Na.top) :
  Calls Tryz.prog 50 #[.agg #[.slice A n c], .agg #[.slice A2 m c2]] w fun e w' => ∃ (A' : Option Addr) (n' c' : Nat), e = .returned (.tuple #[.agg #[.slice A' n' c'], .int .i64 (resE (x * y))]) ∧ (resL (x * y)).length = n' ∧ Ow w0 w' g M L (O ++ [⟨A', n', c', 3, nats (resL (x * y))⟩]) :=
 (nrMul_ok A A2 n c m c2 x y w hA.1 hB.1 hA.2.2 hB.2.2 hx hy).mono fun en w' hr => h.addN hr
theorem rcmp_at (h : Ow w0 w g M L O) (hA : (Na.dig x).length = n ∧ n ≤ c ∧ Sl w w.heap.size A (nats (Na.dig x))) (hB : (Na.dig y).length = m ∧ m ≤ c2 ∧ Sl w w.heap.size A2 (nats (Na.dig y))) (hl : n ≤ 1000) (hl2 : m ≤ 1000) :
  Calls Tryz.prog 51 #[.agg #[.slice A n c], .agg #[.slice A2 m c2]] w fun e w' => e = .returned (.int .i64 (Na.sgn x y)) ∧ Ow w0 w' g M L O :=
 (nrcmp_any A A2 n c m c2 x y w hA.1 hB.1 hA.2.1 hB.2.1 hA.2.2 hB.2.2 hl hl2).mono fun en w' ⟨he, hb⟩ => ⟨he, h.go hb⟩
theorem rof_at (h : Ow w0 w g M L O) (v : Nat) (hv : v ≤ 9223372036854775807) : Calls Tryz.prog 73 #[.int .i64 (v : Int)] w fun e w' => ∃ (A' : Option Addr) (n' c' : Nat), e = .returned (.tuple #[.agg #[.slice A' n' c'], .int .i64 0]) ∧ (Na.dig v).length = n' ∧ Ow w0 w' g M L (O ++ [⟨A', n', c', 3, nats (Na.dig v)⟩]) := by
 have e1 : ofL (v : Int) = Na.dig v := if_neg (by omega)
 have e2 : ofE (v : Int) = 0 := if_neg (by omega)
 have hr := nrof_any (v : Int) w (by omega)
 rw [e1, e2] at hr
 exact hr.mono fun en w' hr => h.addN hr
end
theorem pow_top {x j m : Nat} (hx : 0 < x) (hj : j < m) (h : Na.top ≤ x ^ j * x) : Na.top ≤ x ^ m := by
 rw [← Nat.pow_succ] at h
 exact Nat.le_trans h (Nat.pow_le_pow_right hx hj)
def RPow (w : World) (A : Option Addr) (n c x m : Nat) (r0 : Nat) (v : Value) (wr : World) : Prop :=
 ∃ (j k : Nat) (A1 : Option Addr) (n1 c1 : Nat), k + j = m ∧ v = .int .i64 (k : Int) ∧ n1 ≤ 200 ∧ Hid (x ^ j < Na.top) ∧ Hid (Ow w wr none [(w.heap.size, .slice A n c), (w.heap.size + 1, .slice none 0 0), (r0, .slice A1 n1 c1)] [⟨A, n, c, nats (Na.dig x)⟩] [⟨A1, n1, c1, 3, nats (Na.dig (x ^ j))⟩])
set_option maxHeartbeats 4000000 in
theorem nrpower_ok (A : Option Addr) (n c x m : Nat) (w : World) (hn : (Na.dig x).length = n) (hnc : n ≤ c) (hs : Sl w w.heap.size A (nats (Na.dig x))) (hx : x < Na.top) (hm : m ≤ 4800) :
  Calls Tryz.prog 90 #[.agg #[.slice A n c], .int .i64 (m : Int)] w (ResN w (resL (x ^ m)) (resE (x ^ m))) := by
 have hn2 : n ≤ 200 := by rw [← hn]; exact (Na.dig_200 x).2 hx
 have H0 := (((Ow.of (St.refl w)).old hs (by rw [nats_length]; exact hn) hnc (by omega)).boxed (.slice A n c) 25).boxed (.slice none 0 0) 25
 simp only [World.size_alloc, List.nil_append, List.cons_append] at H0
 have hc0 := H0.cell 0 rfl
 have HH := Lib.hid (rvalid_ok H0 0 rfl hx)
 have HX := Lib.hid hx
 have HN := Lib.hid hn
 have h1t : 1 < Na.top := Nat.lt_of_lt_of_le (show 1 < 16777216 ^ 1 by omega) (Nat.pow_le_pow_right (by omega) (by omega))
 have H1T := Lib.hid h1t
 obtain ⟨rl, hrl⟩ : ∃ v, resL (x ^ m) = v := ⟨_, rfl⟩
 obtain ⟨re, hre⟩ : ∃ v, resE (x ^ m) = v := ⟨_, rfl⟩
 rw [hrl, hre]
 have HRL := Lib.hid hrl
 have HRE := Lib.hid hre
 clear hn hs H0 hx hrl hre h1t
 go_enter Tryz.func90, Tryz.ntmps90
 go_wp2_with fail
 refine HH.out.mono ?_
 rintro e w1 ⟨rfl, H1⟩
 have HK := Lib.hid (rof_at H1 1 (by omega))
 clear hc0 HH H1
 go_wp2_with fail
 refine HK.out.mono ?_
 rintro e w2 ⟨A2, n2, c2, rfl, hn21, H2⟩
 have H3 := H2.boxed (.slice A2 n2 c2) 25
 simp only [List.nil_append, List.cons_append] at H3
 have hn22 : n2 ≤ 200 := by rw [← hn21]; exact Nat.le_trans (Na.dig_len_le (n := 1) (by omega)) (by omega)
 have hc0 := H3.cell 0 rfl
 have hc1 := H3.cell 1 rfl
 have hf1 := H3.free 1 rfl
 have HQ := Lib.hid H3
 clear HK H2 hn21
 by_cases h0 : n = 0 ∧ 0 < m
 ·obtain ⟨rfl, hm0⟩ := h0
  have hx0 := Na.dig_len0.1 HN.out
  have hp : x ^ m = 0 := by rw [hx0]; exact Nat.zero_pow hm0
  obtain rfl : [] = rl := by rw [← HRL.out, hp, resL_ok (Nat.lt_trans (Nat.zero_lt_one) H1T.out), Na.dig_zero]
  obtain rfl : 0 = re := by rw [← HRE.out, hp, resE_ok (Nat.lt_trans (Nat.zero_lt_one) H1T.out)]
  have hd : decide (0 < (m : Int)) = true := decide_eq_true (by omega)
  clear hx0 hp
  go_wp2_with fail
  have G := H3.setv 1 rfl (.slice none 0 0)
  have hc2 := G.cell 1 rfl
  refine bodyPost_ret (v := .tuple #[.agg #[.slice none 0 0], .int .i64 0]) (by simp [results, Tryz.results90, go_sem, hc2]) rfl ?_
  exact resN_nil _ _ _ G.below
 ·have hcond : (((n : Int) == 0) = false) ∨ (((n : Int) == 0) = true ∧ m = 0) := by
   by_cases e : n = 0
   ·exact .inr ⟨by simp [e], by omega⟩
   ·exact .inl (by rw [beq_eq_false_iff_ne]; omega)
  have HX0 : Hid (m = 0 ∨ 0 < x) := by
   unfold Hid
   rcases Nat.eq_zero_or_pos x with e | e
   ·have h3 := HN.out
    rw [e, Na.dig_zero] at h3
    simp at h3
    omega
   ·exact .inr e
  have HC := Lib.hid (rcmp_at H3 (H3.seenL 0 rfl) (H3.seen 0 rfl) (by omega) (by omega))
  clear h0 H3
  rcases hcond with hd | ⟨hd, hm0⟩
  ·go_wp2_with fail
   refine HC.out.mono ?_
   by_cases h1 : x = 1
   ·rw [Na.sgn_eq h1]
    rintro e w3 ⟨rfl, H4⟩
    have hp : x ^ m = 1 := by rw [h1, Nat.one_pow]
    obtain rfl : Na.dig 1 = rl := by rw [← HRL.out, hp, resL_ok H1T.out]
    obtain rfl : 0 = re := by rw [← HRE.out, hp, resE_ok H1T.out]
    have hc3 := H4.cell 1 rfl
    have hf3 := H4.free 1 rfl
    have hc4 := H4.cell 2 rfl
    clear hc0 hc1 hf1 HC hp HQ
    go_wp2_with fail
    have G := H4.setv 1 rfl (.slice A2 n2 c2)
    have hc5 := G.cell 1 rfl
    refine bodyPost_ret (v := .tuple #[.agg #[.slice A2 n2 c2], .int .i64 0]) (by simp [results, Tryz.results90, go_sem, hc5]) rfl ?_
    exact resN_of G 0 rfl 0
   ·obtain ⟨sg, hsg⟩ : ∃ s : Int, Na.sgn x 1 = s := ⟨_, rfl⟩
    have hs0 : (sg == 0) = false := by rw [beq_eq_false_iff_ne]; rcases Na.sgn_cases x 1 with ⟨h, e⟩ | ⟨h, e⟩ | ⟨h, e⟩ <;> omega
    rw [hsg]
    rintro e w3 ⟨rfl, H4⟩
    have HO := Lib.hid H4
    clear hc0 hc1 hf1 HC hsg H4 h1 HQ
    go_wp2_with fail
    obtain ⟨r0, hr0⟩ : ∃ r, w2.heap.size = r := ⟨_, rfl⟩
    rw [hr0] at HO ⊢
    go_loopw [1] (fun v wr => RPow w A n c x m r0 v wr) (fun v _ => (intOf v).toNat)
    case atStart => exact ⟨0, m, A2, n2, c2, by omega, rfl, hn22, by unfold Hid; rw [Nat.pow_zero]; exact H1T.out, by unfold Hid; rw [Nat.pow_zero]; exact HO.out⟩
    case round =>
     clear HO
     obtain ⟨j, k, A1, n1, c1, hkj, rfl, hn1, HP, HO⟩ := hrel
     have hc0 := HO.out.cell 0 rfl
     have hc2 := HO.out.cell 2 rfl
     rcases Nat.eq_zero_or_pos k with h0 | h0
     ·subst h0
      have hj : j = m := by omega
      subst hj
      obtain rfl : Na.dig (x ^ j) = rl := by rw [← HRL.out, resL_ok HP.out]
      obtain rfl : 0 = re := by rw [← HRE.out, resE_ok HP.out]
      have hc1 := HO.out.cell 1 rfl
      have hf1 := HO.out.free 1 rfl
      go_wp2_with fail
      have G := HO.out.setv 1 rfl (.slice A1 n1 c1)
      have hc5 := G.cell 1 rfl
      refine bodyPost_ret (v := .tuple #[.agg #[.slice A1 n1 c1], .int .i64 0]) (by simp [results, Tryz.results90, go_sem, hc5]) rfl ?_
      exact resN_of G 0 rfl 0
     ·have hd0 : decide (0 < (k : Int)) = true := decide_eq_true (by omega)
      have HM := Lib.hid (rmul_at HO.out (HO.out.seen 0 rfl) (HO.out.seenL 0 rfl) HP.out HX.out)
      have hx1 : 0 < x := by rcases HX0.out with h | h <;> omega
      clear HO
      rcases Nat.lt_or_ge (x ^ j * x) Na.top with ht | ht
      ·rw [resL_ok ht, resE_ok ht, ← Nat.pow_succ] at HM
       have HT := Lib.hid (show x ^ (j + 1) < Na.top from ht)
       clear ht
       go_wp2_with fail
       refine HM.out.mono ?_
       rintro e w4 ⟨A3, n3, c3, rfl, hn3, H5⟩
       have hs2 := H5.cell 2 rfl
       have hs2f := H5.free 2 rfl
       have hn3' : n3 ≤ 200 := by rw [← hn3]; exact (Na.dig_200 _).2 HT.out
       have G := Ow.tail (H5.setv 2 rfl (.slice A3 n3 c3))
       have HG := Lib.hid G
       clear hc0 hc2 HM H5 G hn3
       go_wp2_with fail
       go_roundw
       case rel => exact ⟨j + 1, k - 1, A3, n3, c3, by omega, int_eqv (by omega), hn3', HT, HG⟩
       case measure => simp [intOf]; omega
      ·rw [resL_no ht, resE_no ht] at HM
       have hbig := pow_top hx1 (show j < m by omega) ht
       obtain rfl : [] = rl := by rw [← HRL.out, resL_no hbig]
       obtain rfl : 3 = re := by rw [← HRE.out, resE_no hbig]
       clear ht hbig
       go_wp2_with fail
       refine HM.out.mono ?_
       rintro e w4 ⟨A3, n3, c3, rfl, hn3, H5⟩
       have hs2 := H5.cell 2 rfl
       have hs2f := H5.free 2 rfl
       have G := H5.setv 2 rfl (.slice A3 n3 c3)
       have hs1 := G.cell 1 rfl
       have hs1f := G.free 1 rfl
       clear hc0 hc2 HM H5 hn3
       go_wp2_with fail
       have G2 := G.setv 1 rfl (.slice none 0 0)
       have hc5 := G2.cell 1 rfl
       refine bodyPost_ret (v := .tuple #[.agg #[.slice none 0 0], .int .i64 3]) (by simp [results, Tryz.results90, go_sem, hc5]) rfl ?_
       exact resN_nil _ _ _ G2.below
  ·have hd0 : decide (0 < (m : Int)) = false := decide_eq_false (by omega)
   have hd1 : decide (0 < m) = false := decide_eq_false (by omega)
   clear hm0
   go_wp2_with fail
   refine HC.out.mono ?_
   by_cases h1 : x = 1
   ·rw [Na.sgn_eq h1]
    rintro e w3 ⟨rfl, H4⟩
    have hp : x ^ m = 1 := by rw [h1, Nat.one_pow]
    obtain rfl : Na.dig 1 = rl := by rw [← HRL.out, hp, resL_ok H1T.out]
    obtain rfl : 0 = re := by rw [← HRE.out, hp, resE_ok H1T.out]
    have hc3 := H4.cell 1 rfl
    have hf3 := H4.free 1 rfl
    have hc4 := H4.cell 2 rfl
    clear hc0 hc1 hf1 HC hp HQ
    go_wp2_with fail
    have G := H4.setv 1 rfl (.slice A2 n2 c2)
    have hc5 := G.cell 1 rfl
    refine bodyPost_ret (v := .tuple #[.agg #[.slice A2 n2 c2], .int .i64 0]) (by simp [results, Tryz.results90, go_sem, hc5]) rfl ?_
    exact resN_of G 0 rfl 0
   ·obtain ⟨sg, hsg⟩ : ∃ s : Int, Na.sgn x 1 = s := ⟨_, rfl⟩
    have hs0 : (sg == 0) = false := by rw [beq_eq_false_iff_ne]; rcases Na.sgn_cases x 1 with ⟨h, e⟩ | ⟨h, e⟩ | ⟨h, e⟩ <;> omega
    rw [hsg]
    rintro e w3 ⟨rfl, H4⟩
    have HO := Lib.hid H4
    clear hc0 hc1 hf1 HC hsg H4 h1 HQ
    go_wp2_with fail
    obtain ⟨r0, hr0⟩ : ∃ r, w2.heap.size = r := ⟨_, rfl⟩
    rw [hr0] at HO ⊢
    go_loopw [1] (fun v wr => RPow w A n c x m r0 v wr) (fun v _ => (intOf v).toNat)
    case atStart => exact ⟨0, m, A2, n2, c2, by omega, rfl, hn22, by unfold Hid; rw [Nat.pow_zero]; exact H1T.out, by unfold Hid; rw [Nat.pow_zero]; exact HO.out⟩
    case round =>
     clear HO
     obtain ⟨j, k, A1, n1, c1, hkj, rfl, hn1, HP, HO⟩ := hrel
     have hc0 := HO.out.cell 0 rfl
     have hc2 := HO.out.cell 2 rfl
     rcases Nat.eq_zero_or_pos k with h0 | h0
     ·subst h0
      have hj : j = m := by omega
      subst hj
      obtain rfl : Na.dig (x ^ j) = rl := by rw [← HRL.out, resL_ok HP.out]
      obtain rfl : 0 = re := by rw [← HRE.out, resE_ok HP.out]
      have hc1 := HO.out.cell 1 rfl
      have hf1 := HO.out.free 1 rfl
      go_wp2_with fail
      have G := HO.out.setv 1 rfl (.slice A1 n1 c1)
      have hc5 := G.cell 1 rfl
      refine bodyPost_ret (v := .tuple #[.agg #[.slice A1 n1 c1], .int .i64 0]) (by simp [results, Tryz.results90, go_sem, hc5]) rfl ?_
      exact resN_of G 0 rfl 0
     ·have hd0 : decide (0 < (k : Int)) = true := decide_eq_true (by omega)
      have HM := Lib.hid (rmul_at HO.out (HO.out.seen 0 rfl) (HO.out.seenL 0 rfl) HP.out HX.out)
      have hx1 : 0 < x := by rcases HX0.out with h | h <;> omega
      clear HO
      rcases Nat.lt_or_ge (x ^ j * x) Na.top with ht | ht
      ·rw [resL_ok ht, resE_ok ht, ← Nat.pow_succ] at HM
       have HT := Lib.hid (show x ^ (j + 1) < Na.top from ht)
       clear ht
       go_wp2_with fail
       refine HM.out.mono ?_
       rintro e w4 ⟨A3, n3, c3, rfl, hn3, H5⟩
       have hs2 := H5.cell 2 rfl
       have hs2f := H5.free 2 rfl
       have hn3' : n3 ≤ 200 := by rw [← hn3]; exact (Na.dig_200 _).2 HT.out
       have G := Ow.tail (H5.setv 2 rfl (.slice A3 n3 c3))
       have HG := Lib.hid G
       clear hc0 hc2 HM H5 G hn3
       go_wp2_with fail
       go_roundw
       case rel => exact ⟨j + 1, k - 1, A3, n3, c3, by omega, int_eqv (by omega), hn3', HT, HG⟩
       case measure => simp [intOf]; omega
      ·rw [resL_no ht, resE_no ht] at HM
       have hbig := pow_top hx1 (show j < m by omega) ht
       obtain rfl : [] = rl := by rw [← HRL.out, resL_no hbig]
       obtain rfl : 3 = re := by rw [← HRE.out, resE_no hbig]
       clear ht hbig
       go_wp2_with fail
       refine HM.out.mono ?_
       rintro e w4 ⟨A3, n3, c3, rfl, hn3, H5⟩
       have hs2 := H5.cell 2 rfl
       have hs2f := H5.free 2 rfl
       have G := H5.setv 2 rfl (.slice A3 n3 c3)
       have hs1 := G.cell 1 rfl
       have hs1f := G.free 1 rfl
       clear hc0 hc2 HM H5 hn3
       go_wp2_with fail
       have G2 := G.setv 1 rfl (.slice none 0 0)
       have hc5 := G2.cell 1 rfl
       refine bodyPost_ret (v := .tuple #[.agg #[.slice none 0 0], .int .i64 3]) (by simp [results, Tryz.results90, go_sem, hc5]) rfl ?_
       exact resN_nil _ _ _ G2.below
section
variable {w0 w w' : World} {g : Option Nat} {M : List (Nat × Value)} {L : List Ob} {O : List Rw} {A A2 : Option Addr} {n c m c2 x y : Nat}
theorem rof_int (h : Ow w0 w g M L O) (vi : Int) (v : Nat) (hvi : vi = (v : Int)) (hv : v ≤ 9223372036854775807) : Calls Tryz.prog 73 #[.int .i64 vi] w fun e w' => ∃ (A' : Option Addr) (n' c' : Nat), e = .returned (.tuple #[.agg #[.slice A' n' c'], .int .i64 0]) ∧ (Na.dig v).length = n' ∧ Ow w0 w' g M L (O ++ [⟨A', n', c', 3, nats (Na.dig v)⟩]) := by
 subst hvi
 exact rof_at h v hv
theorem rmulL_at (h : Ow w0 w g M L O) (hA : (Na.dig x).length = n ∧ n ≤ c ∧ Sl w w.heap.size A (nats (Na.dig x))) (hB : (Na.dig y).length = m ∧ m ≤ c2 ∧ Sl w w.heap.size A2 (nats (Na.dig y))) (hl : n ≤ 1000) (hl2 : m ≤ 1000) :
  Calls Tryz.prog 96 #[.agg #[.slice A n c], .agg #[.slice A2 m c2]] w fun e w' => ∃ (A' : Option Addr) (c' : Nat) (l : List Nat), e = .returned (.slice A' (n + m + 1) c') ∧ l.length = n + m + 1 ∧ Na.Lim l ∧ Na.val l = x * y ∧ Ow w0 w' g M L (O ++ [⟨A', n + m + 1, c', 3, nats l⟩]) :=
 (nrmul_any A A2 n c m c2 (Na.dig x) (Na.dig y) w hA.1 hB.1 hA.2.2 hB.2.2 (Na.dig_lim x) (Na.dig_lim y) hl hl2).mono fun en w' hr => by
  rw [Na.val_dig, Na.val_dig] at hr
  obtain ⟨A', c', l, he, h1, h2, h3, ho, hb⟩ := hr
  exact ⟨A', c', l, he, h1, h2, h3, h.add ho hb⟩
theorem rdivide_at (h : Ow w0 w g M L O) (hA : (Na.dig x).length = n ∧ n ≤ c ∧ Sl w w.heap.size A (nats (Na.dig x))) (hB : (Na.dig y).length = m ∧ m ≤ c2 ∧ Sl w w.heap.size A2 (nats (Na.dig y))) (hx : x < Na.top) (hy : y < Na.top) (hy0 : 0 < y) :
  Calls Tryz.prog 95 #[.agg #[.slice A n c], .agg #[.slice A2 m c2]] w fun e w' => ∃ (A1 : Option Addr) (n1 c1 : Nat) (A2 : Option Addr) (n2 c2 : Nat), e = .returned (.tuple #[.agg #[.slice A1 n1 c1], .agg #[.slice A2 n2 c2], .int .i64 0]) ∧ (Na.dig (x / y)).length = n1 ∧ Ow w0 w' g M L (O ++ [⟨A1, n1, c1, 3, nats (Na.dig (x / y))⟩]) :=
 (nrdivide_ok A A2 n c m c2 x y w hA.1 hB.1 hA.2.1 hB.2.1 hA.2.2 hB.2.2 hx hy hy0).mono fun en w' ⟨A1, n1, c1, A3, n2, c3, he, e1, e2, o1, o2, hb⟩ => ⟨A1, n1, c1, A3, n2, c3, he, e1, h.add o1 hb⟩
end
def RCho (w : World) (r0 m kk : Nat) (i : Value) (wr : World) : Prop :=
 ∃ (j : Nat) (A1 : Option Addr) (n1 c1 : Nat), j ≤ kk ∧ i = .int .i64 ((j : Int) + 1) ∧ n1 ≤ 171 ∧ Hid (Ow w wr none [(w.heap.size, .slice none 0 0), (r0, .slice A1 n1 c1)] [] [⟨A1, n1, c1, 3, nats (Na.dig (Na.bin (m + j) j))⟩])
def RCut (w : World) (M : List (Nat × Value)) (r1 : Nat) (O : List Rw) (Ap : Option Addr) (cp : Nat) (l : List Nat) (k : Nat) (wr : World) : Prop :=
 k ≤ l.length ∧ Hid (Na.tl l k = Na.tl l l.length) ∧ Hid (Ow w wr none (M ++ [(r1, .slice Ap k cp)]) [] (O ++ [⟨Ap, k, cp, 3, nats (l.take k)⟩]))
set_option maxHeartbeats 8000000 in
theorem nrchoose_any (n k : Int) (w : World) : Calls Tryz.prog 161 #[.int .i64 n, .int .i64 k] w (ResN w (choL n k) (choE n k)) := by
 have G := (Ow.of (St.refl w)).boxed (.slice none 0 0) 25
 simp only [List.nil_append] at G
 by_cases h1 : n < 0
 ·have HR : Hid (choL n k = []) := if_pos (.inl h1)
  have HE : Hid (choE n k = 2) := if_pos (.inl h1)
  rw [HR.out, HE.out]
  go_enter Tryz.func161, Tryz.ntmps161
  go_wp2_with fail
  refine bodyPost_ret (v := .tuple #[.agg #[.slice none 0 0], .int .i64 2]) (by simp [results, Tryz.results161, go_sem]) rfl ?_
  exact resN_nil _ _ _ G.below
 have h1' : 0 ≤ n := by omega
 clear h1
 by_cases h2 : 4096 < n
 ·have HR : Hid (choL n k = []) := if_pos (.inr h2)
  have HE : Hid (choE n k = 2) := if_pos (.inr h2)
  rw [HR.out, HE.out]
  go_enter Tryz.func161, Tryz.ntmps161
  go_wp2_with fail
  refine bodyPost_ret (v := .tuple #[.agg #[.slice none 0 0], .int .i64 2]) (by simp [results, Tryz.results161, go_sem]) rfl ?_
  exact resN_nil _ _ _ G.below
 have h2' : n ≤ 4096 := by omega
 clear h2
 by_cases h3 : k < 0
 ·have HR : Hid (choL n k = []) := (if_neg (by omega)).trans (if_pos (.inl h3))
  have HE : Hid (choE n k = 0) := if_neg (by omega)
  rw [HR.out, HE.out]
  go_enter Tryz.func161, Tryz.ntmps161
  go_wp2_with fail
  refine bodyPost_ret (v := .tuple #[.agg #[.slice none 0 0], .int .i64 0]) (by simp [results, Tryz.results161, go_sem]) rfl ?_
  exact resN_nil _ _ _ G.below
 have h3' : 0 ≤ k := by omega
 clear h3
 by_cases h4 : n < k
 ·have HR : Hid (choL n k = []) := (if_neg (by omega)).trans (if_pos (.inr h4))
  have HE : Hid (choE n k = 0) := if_neg (by omega)
  rw [HR.out, HE.out]
  go_enter Tryz.func161, Tryz.ntmps161
  go_wp2_with fail
  refine bodyPost_ret (v := .tuple #[.agg #[.slice none 0 0], .int .i64 0]) (by simp [results, Tryz.results161, go_sem]) rfl ?_
  exact resN_nil _ _ _ G.below
 have h4' : k ≤ n := by omega
 clear h4
 have HE : Hid (choE n k = 0) := if_neg (by omega)
 have HL : Hid (choL n k = Na.dig (Na.bin n.toNat k.toNat)) := (if_neg (by omega)).trans (if_neg (by omega))
 rw [HE.out, HL.out]
 obtain ⟨nn, rfl⟩ := Int.eq_ofNat_of_zero_le h1'
 obtain ⟨kq, rfl⟩ := Int.eq_ofNat_of_zero_le h3'
 have hkn : kq ≤ nn := by omega
 obtain ⟨m0, hm0⟩ : ∃ m0, nn - kq = m0 := ⟨_, rfl⟩
 have hB0 : Na.bin ((nn : Int).toNat) ((kq : Int).toNat) = Na.bin nn kq := rfl
 rw [hB0]
 clear HE HL h1' h3'
 rcases Nat.lt_or_ge m0 kq with hc | hc
 ·obtain ⟨kk, hkk⟩ : ∃ kk, m0 = kk := ⟨_, rfl⟩
  obtain ⟨m, hm⟩ : ∃ m, kq = m := ⟨_, rfl⟩
  subst hkk hm
  have HBN : Hid (Na.bin (kq + m0) m0 = Na.bin nn kq) := by
   unfold Hid
   rw [show kq + m0 = nn by omega, ← hm0]
   exact Na.bin_symm hkn
  have hdc : (nn : Int) - (kq : Int) < (kq : Int) := by omega
  have hsub : (nn : Int) - (kq : Int) = (m0 : Int) := by omega
  have HH := Lib.hid (rof_at G 1 (by omega))
  clear G
  go_enter Tryz.func161, Tryz.ntmps161
  go_wp2_with fail
  refine HH.out.mono ?_
  rintro e w1 ⟨A0, n0, c0, rfl, hn0, H1⟩
  have H2 := H1.boxed (.slice A0 n0 c0) 25
  simp only [List.nil_append, List.cons_append] at H2
  have hn0' : n0 ≤ 171 := by rw [← hn0]; exact Nat.le_trans (Na.dig_len_le (n := 1) (by omega)) (by omega)
  have HI := Lib.hid H2
  clear HH H1 H2 hn0
  go_wp2_with fail
  obtain ⟨r0, hr0⟩ : ∃ r, w1.heap.size = r := ⟨_, rfl⟩
  rw [hr0] at HI ⊢
  go_loopw [8] (fun i wr => RCho w r0 kq m0 i wr) (fun i _ => m0 + 1 - (intOf i).toNat)
  case atStart => exact ⟨0, A0, n0, c0, Nat.zero_le _, rfl, hn0', by unfold Hid; rw [Nat.add_zero, Na.bin_zero]; exact HI.out⟩
  case round =>
   clear HI
   obtain ⟨j, A1, n1, c1, hj, rfl, hn1, HO⟩ := hrel
   rcases Nat.lt_or_ge j m0 with hjk | hjk
   ·have hd : decide (j + 1 ≤ m0) = true := decide_eq_true (by omega)
    have hlt : (j : Int) + 1 ≤ (m0 : Int) := by omega
    have HF := Lib.hid (rof_int HO.out ((nn : Int) - (m0 : Int) + ((j : Int) + 1)) (kq + (j + 1)) (by omega) (by omega))
    go_wp2_with fail
    refine HF.out.mono ?_
    rintro e w2 ⟨A2, n2, c2, rfl, hn2, H1⟩
    have H2 := H1.boxed (.slice A2 n2 c2) 25
    simp only [List.nil_append, List.cons_append] at H2
    have HD := Lib.hid (rof_int H2 ((j : Int) + 1) (j + 1) (by omega) (by omega))
    have hn2' : n2 ≤ 1 := by rw [← hn2]; exact Na.dig_len_le (by omega)
    clear HF H1 H2 HO hn2
    go_wp2_with fail
    refine HD.out.mono ?_
    rintro e w3 ⟨A3, n3, c3, rfl, hn3, H3⟩
    have H4 := H3.boxed (.slice A3 n3 c3) 25
    simp only [List.nil_append, List.cons_append] at H4
    have k1 := H4.cell 1 rfl
    have k2 := H4.cell 2 rfl
    have HM := Lib.hid (rmulL_at H4 (H4.seen 0 rfl) (H4.seen 1 rfl) (by omega) (by omega))
    clear HD H3 H4 hn3
    go_wp2_with fail
    refine HM.out.mono ?_
    rintro e w4 ⟨A4, c4, l, rfl, hl1, hl2, hl3, H5⟩
    have H6 := H5.boxed (.slice A4 (n1 + n2 + 1) c4) 25
    simp only [List.nil_append, List.cons_append] at H6
    have HX := Lib.hid H6
    have HL1 := Lib.hid hl1
    have HL2 := Lib.hid hl2
    have HL3 := Lib.hid hl3
    clear HM H5 H6 k1 k2 hl1 hl2 hl3
    go_wp2_with fail
    obtain ⟨r1, hr1⟩ : ∃ r, w4.heap.size = r := ⟨_, rfl⟩
    rw [hr1] at HX ⊢
    go_loopg [] (n1 + n2 + 1) (fun kx wr => RCut w [(w.heap.size, .slice none 0 0), (r0, .slice A1 n1 c1), (w2.heap.size, .slice A2 n2 c2), (w3.heap.size, .slice A3 n3 c3)] r1 [⟨A1, n1, c1, 3, nats (Na.dig (Na.bin (kq + j) j))⟩, ⟨A2, n2, c2, 3, nats (Na.dig (kq + (j + 1)))⟩, ⟨A3, n3, c3, 3, nats (Na.dig (j + 1))⟩] A4 c4 l kx wr)
    case atStart => exact ⟨by rw [HL1.out]; exact Nat.le_refl _, by unfold Hid; rw [HL1.out], by unfold Hid; rw [List.take_of_length_le (by rw [HL1.out]; exact Nat.le_refl _)]; exact HX.out⟩
    case round =>
     clear HX
     obtain ⟨hkx, HT, HO⟩ := hrel
     have HO1 := HO.out
     simp only [List.nil_append, List.cons_append] at HO1
     have hgb : gk ≤ 200 := by have := HL1.out; omega
     have q4 := HO1.cell 4 rfl
     have hrow := HO1.row 3 rfl
     have hown := Sl.of_own hrow
     have hcap := (own_cap hrow).1
     rcases Na.tl_case l l.length gk hkx HT.out with ⟨h0, hz, ht⟩ | ⟨ht, hs⟩
     ·obtain ⟨ad2, rfl, _, hcb⟩ := hown.nat (k := gk - 1) (b := 0) (by rw [List.getElem?_take, if_pos (by omega)]; exact hz)
      have HT2 := Lib.hid ht
      have hd : decide (0 < (gk : Int)) = true := decide_eq_true (by omega)
      have q4f := HO1.free 4 rfl
      have hb1 : (gk : Int) - 1 ≤ (c4 : Int) := by omega
      have hb2 : ((gk : Int) - 1).toNat = gk - 1 := by omega
      have G1 := (HO1.cut 3 rfl (k := gk - 1) (by omega)).setv 4 rfl (.slice (some ad2) (gk - 1) c4)
      have HG := Lib.hid G1
      clear hown hz ht hrow G1 HO1
      go_wp2_with fail
      go_roundg (gk - 1)
      case measure => omega
      case rel => exact ⟨by omega, HT2, by
       have := HG.out
       rw [nats_take, List.take_take, Nat.min_eq_left (by omega)] at this
       exact this⟩
     ·have htr : l.take gk = Na.dig (Na.bin (kq + j) j * (kq + (j + 1))) := by
       have e := Na.trim_dig HL2.out
       unfold Na.trim at e
       rw [ht, HL3.out] at e
       exact e
      have hPt : Na.bin (kq + j) j * (kq + (j + 1)) < Na.top := by
       have a1 := (Na.bin_top (kq + j) j (by omega)).2
       have a2 := Na.dig_len_mul (Na.bin (kq + j) j) (kq + (j + 1))
       have a3 := Na.dig_len_le (n := 1) (x := (kq + (j + 1))) (by omega)
       exact (Na.dig_200 _).1 (by omega)
      have hjt : j + 1 < Na.top := Nat.lt_of_lt_of_le (show j + 1 < 16777216 ^ 1 by omega) (Nat.pow_le_pow_right (by omega) (by omega))
      rw [htr] at HO1
      have hDv := rdivide_at HO1 (HO1.seen 3 rfl) (HO1.seen 2 rfl) hPt hjt (by omega)
      rw [Na.bin_next] at hDv
      have HDv := Lib.hid hDv
      have q3 := HO1.cell 3 rfl
      clear htr hPt hjt hDv ht HT hrow
      rcases hs with h0 | ⟨h0, b, hb, hbne⟩
      ·subst h0
       have hcb0 : True := trivial
       clear hown
       go_wp2_with fail
       refine HDv.out.mono ?_
       rintro e w5 ⟨A6, n6, c6, A7, n7, c7, rfl, hn6, H7⟩
       have q1 := H7.cell 1 rfl
       have q1f := H7.free 1 rfl
       have hn6' : n6 ≤ 171 := by rw [← hn6]; exact (Na.bin_top (kq + (j + 1)) (j + 1) (by omega)).2
       have G1 := (Ow.tail (Ow.tail (Ow.tail (Ow.tail (H7.setv 1 rfl (.slice A6 n6 c6)))))).few2 (M' := [(w.heap.size, .slice none 0 0), (r0, .slice A6 n6 c6)]) (L' := []) rfl (fun o ho => by cases ho)
       have HG := Lib.hid G1
       clear q3 q4 HDv H7 hn6 G1 hcb0 HO1
       go_wp2_with fail
       go_roundw
       case rel => exact ⟨j + 1, A6, n6, c6, by omega, (by go_num), hn6', HG⟩
       case measure => simp [intOf]; omega
      ·obtain ⟨ad2, rfl, _, hcb⟩ := hown.nat (k := gk - 1) (b := b) (by rw [List.getElem?_take, if_pos (by omega)]; exact hb)
       have hd : decide (0 < (gk : Int)) = true := decide_eq_true (by omega)
       have hcb0 : True := trivial
       clear hown hb
       go_wp2_with fail
       refine HDv.out.mono ?_
       rintro e w5 ⟨A6, n6, c6, A7, n7, c7, rfl, hn6, H7⟩
       have q1 := H7.cell 1 rfl
       have q1f := H7.free 1 rfl
       have hn6' : n6 ≤ 171 := by rw [← hn6]; exact (Na.bin_top (kq + (j + 1)) (j + 1) (by omega)).2
       have G1 := (Ow.tail (Ow.tail (Ow.tail (Ow.tail (H7.setv 1 rfl (.slice A6 n6 c6)))))).few2 (M' := [(w.heap.size, .slice none 0 0), (r0, .slice A6 n6 c6)]) (L' := []) rfl (fun o ho => by cases ho)
       have HG := Lib.hid G1
       clear q3 q4 HDv H7 hn6 G1 hcb0 HO1
       go_wp2_with fail
       go_roundw
       case rel => exact ⟨j + 1, A6, n6, c6, by omega, (by go_num), hn6', HG⟩
       case measure => simp [intOf]; omega
   ·have hd : decide (j + 1 ≤ m0) = false := decide_eq_false (by omega)
    have hlt : (m0 : Int) < (j : Int) + 1 := by omega
    obtain rfl : j = m0 := by omega
    have hc0 := HO.out.cell 0 rfl
    have hf0 := HO.out.free 0 rfl
    have hc1 := HO.out.cell 1 rfl
    go_wp2_with fail
    have G1 := HO.out.setv 0 rfl (.slice A1 n1 c1)
    have hc5 := G1.cell 0 rfl
    refine bodyPost_ret (v := .tuple #[.agg #[.slice A1 n1 c1], .int .i64 0]) (by simp [results, Tryz.results161, go_sem, hc5]) rfl ?_
    rw [← HBN.out]
    exact resN_of G1 0 rfl 0
 ·obtain ⟨m, hm⟩ : ∃ m, m0 = m := ⟨_, rfl⟩
  subst hm
  have HBN : Hid (Na.bin (m0 + kq) kq = Na.bin nn kq) := by
   unfold Hid
   rw [show m0 + kq = nn by omega]
  have hdc : (kq : Int) ≤ (nn : Int) - (kq : Int) := by omega
  have HH := Lib.hid (rof_at G 1 (by omega))
  clear G
  go_enter Tryz.func161, Tryz.ntmps161
  go_wp2_with fail
  refine HH.out.mono ?_
  rintro e w1 ⟨A0, n0, c0, rfl, hn0, H1⟩
  have H2 := H1.boxed (.slice A0 n0 c0) 25
  simp only [List.nil_append, List.cons_append] at H2
  have hn0' : n0 ≤ 171 := by rw [← hn0]; exact Nat.le_trans (Na.dig_len_le (n := 1) (by omega)) (by omega)
  have HI := Lib.hid H2
  clear HH H1 H2 hn0
  go_wp2_with fail
  obtain ⟨r0, hr0⟩ : ∃ r, w1.heap.size = r := ⟨_, rfl⟩
  rw [hr0] at HI ⊢
  go_loopw [8] (fun i wr => RCho w r0 m0 kq i wr) (fun i _ => kq + 1 - (intOf i).toNat)
  case atStart => exact ⟨0, A0, n0, c0, Nat.zero_le _, rfl, hn0', by unfold Hid; rw [Nat.add_zero, Na.bin_zero]; exact HI.out⟩
  case round =>
   clear HI
   obtain ⟨j, A1, n1, c1, hj, rfl, hn1, HO⟩ := hrel
   rcases Nat.lt_or_ge j kq with hjk | hjk
   ·have hd : decide (j + 1 ≤ kq) = true := decide_eq_true (by omega)
    have hlt : (j : Int) + 1 ≤ (kq : Int) := by omega
    have HF := Lib.hid (rof_int HO.out ((nn : Int) - (kq : Int) + ((j : Int) + 1)) (m0 + (j + 1)) (by omega) (by omega))
    go_wp2_with fail
    refine HF.out.mono ?_
    rintro e w2 ⟨A2, n2, c2, rfl, hn2, H1⟩
    have H2 := H1.boxed (.slice A2 n2 c2) 25
    simp only [List.nil_append, List.cons_append] at H2
    have HD := Lib.hid (rof_int H2 ((j : Int) + 1) (j + 1) (by omega) (by omega))
    have hn2' : n2 ≤ 1 := by rw [← hn2]; exact Na.dig_len_le (by omega)
    clear HF H1 H2 HO hn2
    go_wp2_with fail
    refine HD.out.mono ?_
    rintro e w3 ⟨A3, n3, c3, rfl, hn3, H3⟩
    have H4 := H3.boxed (.slice A3 n3 c3) 25
    simp only [List.nil_append, List.cons_append] at H4
    have k1 := H4.cell 1 rfl
    have k2 := H4.cell 2 rfl
    have HM := Lib.hid (rmulL_at H4 (H4.seen 0 rfl) (H4.seen 1 rfl) (by omega) (by omega))
    clear HD H3 H4 hn3
    go_wp2_with fail
    refine HM.out.mono ?_
    rintro e w4 ⟨A4, c4, l, rfl, hl1, hl2, hl3, H5⟩
    have H6 := H5.boxed (.slice A4 (n1 + n2 + 1) c4) 25
    simp only [List.nil_append, List.cons_append] at H6
    have HX := Lib.hid H6
    have HL1 := Lib.hid hl1
    have HL2 := Lib.hid hl2
    have HL3 := Lib.hid hl3
    clear HM H5 H6 k1 k2 hl1 hl2 hl3
    go_wp2_with fail
    obtain ⟨r1, hr1⟩ : ∃ r, w4.heap.size = r := ⟨_, rfl⟩
    rw [hr1] at HX ⊢
    go_loopg [] (n1 + n2 + 1) (fun kx wr => RCut w [(w.heap.size, .slice none 0 0), (r0, .slice A1 n1 c1), (w2.heap.size, .slice A2 n2 c2), (w3.heap.size, .slice A3 n3 c3)] r1 [⟨A1, n1, c1, 3, nats (Na.dig (Na.bin (m0 + j) j))⟩, ⟨A2, n2, c2, 3, nats (Na.dig (m0 + (j + 1)))⟩, ⟨A3, n3, c3, 3, nats (Na.dig (j + 1))⟩] A4 c4 l kx wr)
    case atStart => exact ⟨by rw [HL1.out]; exact Nat.le_refl _, by unfold Hid; rw [HL1.out], by unfold Hid; rw [List.take_of_length_le (by rw [HL1.out]; exact Nat.le_refl _)]; exact HX.out⟩
    case round =>
     clear HX
     obtain ⟨hkx, HT, HO⟩ := hrel
     have HO1 := HO.out
     simp only [List.nil_append, List.cons_append] at HO1
     have hgb : gk ≤ 200 := by have := HL1.out; omega
     have q4 := HO1.cell 4 rfl
     have hrow := HO1.row 3 rfl
     have hown := Sl.of_own hrow
     have hcap := (own_cap hrow).1
     rcases Na.tl_case l l.length gk hkx HT.out with ⟨h0, hz, ht⟩ | ⟨ht, hs⟩
     ·obtain ⟨ad2, rfl, _, hcb⟩ := hown.nat (k := gk - 1) (b := 0) (by rw [List.getElem?_take, if_pos (by omega)]; exact hz)
      have HT2 := Lib.hid ht
      have hd : decide (0 < (gk : Int)) = true := decide_eq_true (by omega)
      have q4f := HO1.free 4 rfl
      have hb1 : (gk : Int) - 1 ≤ (c4 : Int) := by omega
      have hb2 : ((gk : Int) - 1).toNat = gk - 1 := by omega
      have G1 := (HO1.cut 3 rfl (k := gk - 1) (by omega)).setv 4 rfl (.slice (some ad2) (gk - 1) c4)
      have HG := Lib.hid G1
      clear hown hz ht hrow G1 HO1
      go_wp2_with fail
      go_roundg (gk - 1)
      case measure => omega
      case rel => exact ⟨by omega, HT2, by
       have := HG.out
       rw [nats_take, List.take_take, Nat.min_eq_left (by omega)] at this
       exact this⟩
     ·have htr : l.take gk = Na.dig (Na.bin (m0 + j) j * (m0 + (j + 1))) := by
       have e := Na.trim_dig HL2.out
       unfold Na.trim at e
       rw [ht, HL3.out] at e
       exact e
      have hPt : Na.bin (m0 + j) j * (m0 + (j + 1)) < Na.top := by
       have a1 := (Na.bin_top (m0 + j) j (by omega)).2
       have a2 := Na.dig_len_mul (Na.bin (m0 + j) j) (m0 + (j + 1))
       have a3 := Na.dig_len_le (n := 1) (x := (m0 + (j + 1))) (by omega)
       exact (Na.dig_200 _).1 (by omega)
      have hjt : j + 1 < Na.top := Nat.lt_of_lt_of_le (show j + 1 < 16777216 ^ 1 by omega) (Nat.pow_le_pow_right (by omega) (by omega))
      rw [htr] at HO1
      have hDv := rdivide_at HO1 (HO1.seen 3 rfl) (HO1.seen 2 rfl) hPt hjt (by omega)
      rw [Na.bin_next] at hDv
      have HDv := Lib.hid hDv
      have q3 := HO1.cell 3 rfl
      clear htr hPt hjt hDv ht HT hrow
      rcases hs with h0 | ⟨h0, b, hb, hbne⟩
      ·subst h0
       have hcb0 : True := trivial
       clear hown
       go_wp2_with fail
       refine HDv.out.mono ?_
       rintro e w5 ⟨A6, n6, c6, A7, n7, c7, rfl, hn6, H7⟩
       have q1 := H7.cell 1 rfl
       have q1f := H7.free 1 rfl
       have hn6' : n6 ≤ 171 := by rw [← hn6]; exact (Na.bin_top (m0 + (j + 1)) (j + 1) (by omega)).2
       have G1 := (Ow.tail (Ow.tail (Ow.tail (Ow.tail (H7.setv 1 rfl (.slice A6 n6 c6)))))).few2 (M' := [(w.heap.size, .slice none 0 0), (r0, .slice A6 n6 c6)]) (L' := []) rfl (fun o ho => by cases ho)
       have HG := Lib.hid G1
       clear q3 q4 HDv H7 hn6 G1 hcb0 HO1
       go_wp2_with fail
       go_roundw
       case rel => exact ⟨j + 1, A6, n6, c6, by omega, (by go_num), hn6', HG⟩
       case measure => simp [intOf]; omega
      ·obtain ⟨ad2, rfl, _, hcb⟩ := hown.nat (k := gk - 1) (b := b) (by rw [List.getElem?_take, if_pos (by omega)]; exact hb)
       have hd : decide (0 < (gk : Int)) = true := decide_eq_true (by omega)
       have hcb0 : True := trivial
       clear hown hb
       go_wp2_with fail
       refine HDv.out.mono ?_
       rintro e w5 ⟨A6, n6, c6, A7, n7, c7, rfl, hn6, H7⟩
       have q1 := H7.cell 1 rfl
       have q1f := H7.free 1 rfl
       have hn6' : n6 ≤ 171 := by rw [← hn6]; exact (Na.bin_top (m0 + (j + 1)) (j + 1) (by omega)).2
       have G1 := (Ow.tail (Ow.tail (Ow.tail (Ow.tail (H7.setv 1 rfl (.slice A6 n6 c6)))))).few2 (M' := [(w.heap.size, .slice none 0 0), (r0, .slice A6 n6 c6)]) (L' := []) rfl (fun o ho => by cases ho)
       have HG := Lib.hid G1
       clear q3 q4 HDv H7 hn6 G1 hcb0 HO1
       go_wp2_with fail
       go_roundw
       case rel => exact ⟨j + 1, A6, n6, c6, by omega, (by go_num), hn6', HG⟩
       case measure => simp [intOf]; omega
   ·have hd : decide (j + 1 ≤ kq) = false := decide_eq_false (by omega)
    have hlt : (kq : Int) < (j : Int) + 1 := by omega
    obtain rfl : j = kq := by omega
    have hc0 := HO.out.cell 0 rfl
    have hf0 := HO.out.free 0 rfl
    have hc1 := HO.out.cell 1 rfl
    go_wp2_with fail
    have G1 := HO.out.setv 0 rfl (.slice A1 n1 c1)
    have hc5 := G1.cell 0 rfl
    refine bodyPost_ret (v := .tuple #[.agg #[.slice A1 n1 c1], .int .i64 0]) (by simp [results, Tryz.results161, go_sem, hc5]) rfl ?_
    rw [← HBN.out]
    exact resN_of G1 0 rfl 0
theorem str_append (a b : List UInt8) : str a ++ str b = str (a ++ b) := by
 unfold str
 apply ByteArray.ext
 simp
end Go.Proofs.YtenokdhldngkgaaGreatDoor
