/- NatE NatF -/
import Derived.Test.YtjhaogbopmhkoaaDoorY03
import Derived.Deep.Cut
namespace Go.Proofs.YtjhaogbopmhkoaaDoor
open Go.RowKit
set_option linter.unusedVariables false
set_option maxRecDepth 100000
set_option maxHeartbeats 1000000 in
theorem nadd_bad (A A2 : Option Addr) (n c m c2 : Nat) (zs ys : List Int) (w : World) (hn : zs.length = n) (hm : ys.length = m) (hs : Sl w w.heap.size A (ints zs)) (hs2 : Sl w w.heap.size A2 (ints ys)) (hl : n ≤ 140737488351232) (hl2 : m ≤ 140737488351232) (hv : (Na.vld zs && Na.vld ys) = false) :
    Calls Tryd.prog 99 #[.agg #[.slice A n c], .agg #[.slice A2 m c2]] w (ResN w [] 1) := by
  obtain ⟨w0, hw0⟩ : ∃ w0, ((w.alloc (.cells #[.slice A n c] 24)).alloc (.cells #[.slice A2 m c2] 24)).alloc (.cells #[.slice none 0 0] 24) = w0 := ⟨_, rfl⟩
  have HW : Hid (((w.alloc (.cells #[.slice A n c] 24)).alloc (.cells #[.slice A2 m c2] 24)).alloc (.cells #[.slice none 0 0] 24) = w0) := hw0
  have hb0 : Below w.heap.size w w0 := by rw [← hw0]; exact bal (bal (bal (Below.refl _ _) _) _) _
  have HB0 := Lib.hid hb0
  have hzw : w0.heap.size = w.heap.size + 3 := by rw [← hw0]; simp
  have hc0 : w0.cell? ⟨w.heap.size, 0, none⟩ = some (.slice A n c) := by rw [← hw0]; simp [go_sem]
  have hc1 : w0.cell? ⟨w.heap.size + 1, 0, none⟩ = some (.slice A2 m c2) := by rw [← hw0]; simp [go_sem]
  have hc2 : w0.cell? ⟨w.heap.size + 2, 0, none⟩ = some (.slice none 0 0) := by rw [← hw0]; simp [go_sem]
  have hf2 : w0.frozen? ⟨w.heap.size + 2, 0, none⟩ = false := by rw [← hw0]; simp [go_sem]
  have HV := Lib.hid (nboth_any A A2 n c m c2 w0.heap.size zs ys w0 hn hm ((hs.below hb0).more hb0.size) ((hs2.below hb0).more hb0.size) (Nat.le_refl _) hl hl2)
  rw [hv] at HV
  clear hs hs2 hn hm hb0 hw0 hv
  go_enter Tryd.func99, Tryd.ntmps99
  go_wp2_with fail
  rw [HW.out]
  refine HV.out.mono ?_
  rintro e w1 ⟨rfl, hb⟩
  have HB1 := Lib.hid (btr HB0.out hb)
  have hd0 : w1.cell? ⟨w.heap.size, 0, none⟩ = some (.slice A n c) := (hb.cell (p := ⟨w.heap.size, 0, none⟩) (by simp [hzw])).trans hc0
  have hd1 : w1.cell? ⟨w.heap.size + 1, 0, none⟩ = some (.slice A2 m c2) := (hb.cell (p := ⟨w.heap.size + 1, 0, none⟩) (by simp [hzw])).trans hc1
  have hd2 : w1.cell? ⟨w.heap.size + 2, 0, none⟩ = some (.slice none 0 0) := (hb.cell (p := ⟨w.heap.size + 2, 0, none⟩) (by simp [hzw])).trans hc2
  have hg2 : w1.frozen? ⟨w.heap.size + 2, 0, none⟩ = false := (hb.frozen (p := ⟨w.heap.size + 2, 0, none⟩) (by simp [hzw])).trans hf2
  have hsz1 : w.heap.size + 3 ≤ w1.heap.size := by rw [← hzw]; exact hb.size
  clear hb hc0 hc1 hc2 hf2 HV HW hzw HB0
  go_wp2_with fail
  refine bodyPost_ret (v := .tuple #[.agg #[.slice none 0 0], .int .i64 1]) (by simp [results, Tryd.results99, go_sem, hd2]) rfl ?_
  exact resN_nil _ _ _ (bset HB1.out _ (by show w.heap.size ≤ w.heap.size + 2; omega) _)

theorem add_ok {x y : Nat} (hx : x < Na.top) (hy : y < Na.top) : addL (Na.up (Na.dig x)) (Na.up (Na.dig y)) = resL (x + y) ∧ addE (Na.up (Na.dig x)) (Na.up (Na.dig y)) = resE (x + y) := by
  unfold addL addE
  rw [Na.vld_dig hx, Na.vld_dig hy, num_dig, num_dig]
  exact ⟨rfl, rfl⟩
theorem nadd_ok (A A2 : Option Addr) (n c m c2 : Nat) (x y : Nat) (w : World) (hn : (Na.dig x).length = n) (hm : (Na.dig y).length = m) (hs : Sl w w.heap.size A (nats (Na.dig x))) (hs2 : Sl w w.heap.size A2 (nats (Na.dig y))) (hx : x < Na.top) (hy : y < Na.top) :
    Calls Tryd.prog 99 #[.agg #[.slice A n c], .agg #[.slice A2 m c2]] w (ResN w (resL (x + y)) (resE (x + y))) := by
  rcases Nat.lt_or_ge n m with h | h
  · exact nadd_lt A A2 n c m c2 x y w hn hm hs hs2 hx hy h
  · exact nadd_ge A A2 n c m c2 x y w hn hm hs hs2 hx hy h
/-- two valid numbers among lists of ints -/
theorem vv_ex {zs ys : List Int} (h : (Na.vld zs && Na.vld ys) = true) : ∃ x y, x < Na.top ∧ y < Na.top ∧ zs = Na.up (Na.dig x) ∧ ys = Na.up (Na.dig y) := by
  rw [Bool.and_eq_true] at h
  obtain ⟨x, hx, rfl⟩ := Na.vld_ex h.1
  obtain ⟨y, hy, rfl⟩ := Na.vld_ex h.2
  exact ⟨x, y, hx, hy, rfl, rfl⟩
theorem nadd_any (A A2 : Option Addr) (n c m c2 : Nat) (zs ys : List Int) (w : World) (hn : zs.length = n) (hm : ys.length = m) (hs : Sl w w.heap.size A (ints zs)) (hs2 : Sl w w.heap.size A2 (ints ys)) (hl : n ≤ 140737488351232) (hl2 : m ≤ 140737488351232) :
    Calls Tryd.prog 99 #[.agg #[.slice A n c], .agg #[.slice A2 m c2]] w (ResN w (addL zs ys) (addE zs ys)) := by
  cases hv : (Na.vld zs && Na.vld ys)
  · have e1 : addL zs ys = [] := by unfold addL; rw [hv]; rfl
    have e2 : addE zs ys = 1 := by unfold addE; rw [hv]; rfl
    rw [e1, e2]
    exact nadd_bad A A2 n c m c2 zs ys w hn hm hs hs2 hl hl2 hv
  · obtain ⟨x, y, hx, hy, rfl, rfl⟩ := vv_ex hv
    rw [(add_ok hx hy).1, (add_ok hx hy).2]
    rw [nats_up] at hs hs2
    rw [Na.up_length] at hn hm
    exact nadd_ok A A2 n c m c2 x y w hn hm hs hs2 hx hy

def subL (zs ys : List Int) : List Nat := if Na.vld zs && Na.vld ys then (if num zs < num ys then [] else Na.dig (num zs - num ys)) else []
def subE (zs ys : List Int) : Int := if Na.vld zs && Na.vld ys then (if num zs < num ys then 5 else 0) else 1
def NSub (w : World) (B : Nat) (X Y : List Nat) (n : Nat) (A : Option Addr) (ca : Nat) (i bw : Value) (wr : World) : Prop :=
  ∃ (k b : Nat) (l : List Nat), k ≤ n ∧ i = .int .i64 (k : Int) ∧ bw = .int .i64 (b : Int) ∧ b ≤ 1 ∧ Hid (l.length = k ∧ Na.Lim l ∧ Na.val l + Na.val (Y.take k) = Na.val (X.take k) + 16777216 ^ k * b) ∧ wr.ownsRow B 3 1 (.slice A n ca) n (nats (l ++ X.drop k)) ∧ Below B w wr
theorem own_put {W : World} {base n c g : Nat} {e : TypeId} {xs : List Value} (h : W.ownsRow base e 1 (.slice (some ⟨g, 0, none⟩) n c) n xs) (k : Nat) (v : Value) : (W.setCell ⟨g, k, none⟩ v).ownsRow base e 1 (.slice (some ⟨g, 0, none⟩) n c) n (xs.set k v) := (h.stored k v).1

set_option maxHeartbeats 1000000 in
theorem nsub_bad (A A2 : Option Addr) (n c m c2 : Nat) (zs ys : List Int) (w : World) (hn : zs.length = n) (hm : ys.length = m) (hs : Sl w w.heap.size A (ints zs)) (hs2 : Sl w w.heap.size A2 (ints ys)) (hl : n ≤ 140737488351232) (hl2 : m ≤ 140737488351232) (hv : (Na.vld zs && Na.vld ys) = false) :
    Calls Tryd.prog 45 #[.agg #[.slice A n c], .agg #[.slice A2 m c2]] w (ResN w [] 1) := by
  obtain ⟨w0, hw0⟩ : ∃ w0, ((w.alloc (.cells #[.slice A n c] 24)).alloc (.cells #[.slice A2 m c2] 24)).alloc (.cells #[.slice none 0 0] 24) = w0 := ⟨_, rfl⟩
  have HW : Hid (((w.alloc (.cells #[.slice A n c] 24)).alloc (.cells #[.slice A2 m c2] 24)).alloc (.cells #[.slice none 0 0] 24) = w0) := hw0
  have hb0 : Below w.heap.size w w0 := by rw [← hw0]; exact bal (bal (bal (Below.refl _ _) _) _) _
  have HB0 := Lib.hid hb0
  have hzw : w0.heap.size = w.heap.size + 3 := by rw [← hw0]; simp
  have hc0 : w0.cell? ⟨w.heap.size, 0, none⟩ = some (.slice A n c) := by rw [← hw0]; simp [go_sem]
  have hc1 : w0.cell? ⟨w.heap.size + 1, 0, none⟩ = some (.slice A2 m c2) := by rw [← hw0]; simp [go_sem]
  have hc2 : w0.cell? ⟨w.heap.size + 2, 0, none⟩ = some (.slice none 0 0) := by rw [← hw0]; simp [go_sem]
  have hf2 : w0.frozen? ⟨w.heap.size + 2, 0, none⟩ = false := by rw [← hw0]; simp [go_sem]
  have HV := Lib.hid (nboth_any A A2 n c m c2 w0.heap.size zs ys w0 hn hm ((hs.below hb0).more hb0.size) ((hs2.below hb0).more hb0.size) (Nat.le_refl _) hl hl2)
  rw [hv] at HV
  clear hs hs2 hn hm hb0 hw0 hv
  go_enter Tryd.func45, Tryd.ntmps45
  go_wp2_with fail
  rw [HW.out]
  refine HV.out.mono ?_
  rintro e w1 ⟨rfl, hb⟩
  have HB1 := Lib.hid (btr HB0.out hb)
  have hd0 : w1.cell? ⟨w.heap.size, 0, none⟩ = some (.slice A n c) := (hb.cell (p := ⟨w.heap.size, 0, none⟩) (by simp [hzw])).trans hc0
  have hd1 : w1.cell? ⟨w.heap.size + 1, 0, none⟩ = some (.slice A2 m c2) := (hb.cell (p := ⟨w.heap.size + 1, 0, none⟩) (by simp [hzw])).trans hc1
  have hd2 : w1.cell? ⟨w.heap.size + 2, 0, none⟩ = some (.slice none 0 0) := (hb.cell (p := ⟨w.heap.size + 2, 0, none⟩) (by simp [hzw])).trans hc2
  have hg2 : w1.frozen? ⟨w.heap.size + 2, 0, none⟩ = false := (hb.frozen (p := ⟨w.heap.size + 2, 0, none⟩) (by simp [hzw])).trans hf2
  have hsz1 : w.heap.size + 3 ≤ w1.heap.size := by rw [← hzw]; exact hb.size
  clear hb hc0 hc1 hc2 hf2 HV HW hzw HB0
  go_wp2_with fail
  refine bodyPost_ret (v := .tuple #[.agg #[.slice none 0 0], .int .i64 1]) (by simp [results, Tryd.results45, go_sem, hd2]) rfl ?_
  exact resN_nil _ _ _ (bset HB1.out _ (by show w.heap.size ≤ w.heap.size + 2; omega) _)

set_option maxHeartbeats 2000000 in
theorem nsub_neg (A A2 : Option Addr) (n c m c2 : Nat) (x y : Nat) (w : World) (hn : (Na.dig x).length = n) (hm : (Na.dig y).length = m) (hs : Sl w w.heap.size A (nats (Na.dig x))) (hs2 : Sl w w.heap.size A2 (nats (Na.dig y))) (hx : x < Na.top) (hy : y < Na.top) (hcmp : x < y) :
    Calls Tryd.prog 45 #[.agg #[.slice A n c], .agg #[.slice A2 m c2]] w (ResN w [] 5) := by
  obtain ⟨i0, hi, hz0, hz1, hz2⟩ := info_parts infoI
  have hn2 : n ≤ 200 := by rw [← hn]; exact (Na.dig_200 x).2 hx
  have hm2 : m ≤ 200 := by rw [← hm]; exact (Na.dig_200 y).2 hy
  obtain ⟨w0, hw0⟩ : ∃ w0, ((w.alloc (.cells #[.slice A n c] 24)).alloc (.cells #[.slice A2 m c2] 24)).alloc (.cells #[.slice none 0 0] 24) = w0 := ⟨_, rfl⟩
  have HW : Hid (((w.alloc (.cells #[.slice A n c] 24)).alloc (.cells #[.slice A2 m c2] 24)).alloc (.cells #[.slice none 0 0] 24) = w0) := hw0
  have hb0 : Below w.heap.size w w0 := by rw [← hw0]; exact bal (bal (bal (Below.refl _ _) _) _) _
  have HB0 := Lib.hid hb0
  have hzw : w0.heap.size = w.heap.size + 3 := by rw [← hw0]; simp
  have hc0 : w0.cell? ⟨w.heap.size, 0, none⟩ = some (.slice A n c) := by rw [← hw0]; simp [go_sem]
  have hc1 : w0.cell? ⟨w.heap.size + 1, 0, none⟩ = some (.slice A2 m c2) := by rw [← hw0]; simp [go_sem]
  have hc2 : w0.cell? ⟨w.heap.size + 2, 0, none⟩ = some (.slice none 0 0) := by rw [← hw0]; simp [go_sem]
  have hf2 : w0.frozen? ⟨w.heap.size + 2, 0, none⟩ = false := by rw [← hw0]; simp [go_sem]
  have hvv : (Na.vld (Na.up (Na.dig x)) && Na.vld (Na.up (Na.dig y))) = true := by rw [Na.vld_dig hx, Na.vld_dig hy]; rfl
  have HV := Lib.hid (nboth_any A A2 n c m c2 w0.heap.size _ _ w0 (by rw [Na.up_length]; exact hn) (by rw [Na.up_length]; exact hm) (by rw [nats_up]; exact (hs.below hb0).more hb0.size) (by rw [nats_up]; exact (hs2.below hb0).more hb0.size) (Nat.le_refl _) (by omega) (by omega))
  rw [hvv] at HV
  have HN := Lib.hid hn
  have HM := Lib.hid hm
  have HS := Lib.hid hs
  have HS2 := Lib.hid hs2
  have HC : Hid (∀ W, Below w.heap.size w W → Calls Tryd.prog 58 #[.agg #[.slice A n c], .agg #[.slice A2 m c2]] W fun e w' => e = .returned (.int .i64 (Na.sgn x y)) ∧ Below W.heap.size W w') := fun W hW =>
    ncmp_any A A2 n c m c2 W.heap.size x y W HN.out HM.out ((HS.out.below hW).more hW.size) ((HS2.out.below hW).more hW.size) (Nat.le_refl _) (by omega) (by omega)
  clear hs hs2 hn hm hb0 hw0 hvv hx hy
  go_enter Tryd.func45, Tryd.ntmps45
  go_wp2_with fail
  rw [HW.out]
  refine HV.out.mono ?_
  rintro e w1 ⟨rfl, hb⟩
  have HB1 := Lib.hid (btr HB0.out hb)
  have hd0 : w1.cell? ⟨w.heap.size, 0, none⟩ = some (.slice A n c) := (hb.cell (p := ⟨w.heap.size, 0, none⟩) (by simp [hzw])).trans hc0
  have hd1 : w1.cell? ⟨w.heap.size + 1, 0, none⟩ = some (.slice A2 m c2) := (hb.cell (p := ⟨w.heap.size + 1, 0, none⟩) (by simp [hzw])).trans hc1
  have hd2 : w1.cell? ⟨w.heap.size + 2, 0, none⟩ = some (.slice none 0 0) := (hb.cell (p := ⟨w.heap.size + 2, 0, none⟩) (by simp [hzw])).trans hc2
  have hg2 : w1.frozen? ⟨w.heap.size + 2, 0, none⟩ = false := (hb.frozen (p := ⟨w.heap.size + 2, 0, none⟩) (by simp [hzw])).trans hf2
  have hsz1 : w.heap.size + 3 ≤ w1.heap.size := by rw [← hzw]; exact hb.size
  clear hb hc0 hc1 hc2 hf2 HV HW hzw HB0
  go_wp2_with fail
  refine (HC.out _ HB1.out).mono ?_
  rintro e w2 ⟨rfl, hb⟩
  have he0 : w2.cell? ⟨w.heap.size, 0, none⟩ = some (.slice A n c) := (hb.cell (p := ⟨w.heap.size, 0, none⟩) (by simp; omega)).trans hd0
  have he1 : w2.cell? ⟨w.heap.size + 1, 0, none⟩ = some (.slice A2 m c2) := (hb.cell (p := ⟨w.heap.size + 1, 0, none⟩) (by simp; omega)).trans hd1
  have he2 : w2.cell? ⟨w.heap.size + 2, 0, none⟩ = some (.slice none 0 0) := (hb.cell (p := ⟨w.heap.size + 2, 0, none⟩) (by simp; omega)).trans hd2
  have hh2 : w2.frozen? ⟨w.heap.size + 2, 0, none⟩ = false := (hb.frozen (p := ⟨w.heap.size + 2, 0, none⟩) (by simp; omega)).trans hg2
  have HB2 := Lib.hid (btr HB1.out hb)
  have hsz2 : w.heap.size + 3 ≤ w2.heap.size := Nat.le_trans hsz1 hb.size
  clear hb hd0 hd1 hd2 hg2 HC
  rw [Na.sgn_lt hcmp]
  go_wp2_with fail
  refine bodyPost_ret (v := .tuple #[.agg #[.slice none 0 0], .int .i64 5]) (by simp [results, Tryd.results45, go_sem, he2]) rfl ?_
  exact resN_nil _ _ _ (bset HB2.out _ (by show w.heap.size ≤ w.heap.size + 2; omega) _)

set_option maxHeartbeats 2000000 in
theorem nsub_pos (A A2 : Option Addr) (n c m c2 : Nat) (x y : Nat) (w : World) (hn : (Na.dig x).length = n) (hm : (Na.dig y).length = m) (hs : Sl w w.heap.size A (nats (Na.dig x))) (hs2 : Sl w w.heap.size A2 (nats (Na.dig y))) (hx : x < Na.top) (hy : y < Na.top) (hcmp : y ≤ x) :
    Calls Tryd.prog 45 #[.agg #[.slice A n c], .agg #[.slice A2 m c2]] w (ResN w (Na.dig (x - y)) 0) := by
  obtain ⟨i0, hi, hz0, hz1, hz2⟩ := info_parts infoI
  have hn2 : n ≤ 200 := by rw [← hn]; exact (Na.dig_200 x).2 hx
  have hm2 : m ≤ 200 := by rw [← hm]; exact (Na.dig_200 y).2 hy
  obtain ⟨w0, hw0⟩ : ∃ w0, ((w.alloc (.cells #[.slice A n c] 24)).alloc (.cells #[.slice A2 m c2] 24)).alloc (.cells #[.slice none 0 0] 24) = w0 := ⟨_, rfl⟩
  have HW : Hid (((w.alloc (.cells #[.slice A n c] 24)).alloc (.cells #[.slice A2 m c2] 24)).alloc (.cells #[.slice none 0 0] 24) = w0) := hw0
  have hb0 : Below w.heap.size w w0 := by rw [← hw0]; exact bal (bal (bal (Below.refl _ _) _) _) _
  have HB0 := Lib.hid hb0
  have hzw : w0.heap.size = w.heap.size + 3 := by rw [← hw0]; simp
  have hc0 : w0.cell? ⟨w.heap.size, 0, none⟩ = some (.slice A n c) := by rw [← hw0]; simp [go_sem]
  have hc1 : w0.cell? ⟨w.heap.size + 1, 0, none⟩ = some (.slice A2 m c2) := by rw [← hw0]; simp [go_sem]
  have hc2 : w0.cell? ⟨w.heap.size + 2, 0, none⟩ = some (.slice none 0 0) := by rw [← hw0]; simp [go_sem]
  have hf2 : w0.frozen? ⟨w.heap.size + 2, 0, none⟩ = false := by rw [← hw0]; simp [go_sem]
  have hvv : (Na.vld (Na.up (Na.dig x)) && Na.vld (Na.up (Na.dig y))) = true := by rw [Na.vld_dig hx, Na.vld_dig hy]; rfl
  have HV := Lib.hid (nboth_any A A2 n c m c2 w0.heap.size _ _ w0 (by rw [Na.up_length]; exact hn) (by rw [Na.up_length]; exact hm) (by rw [nats_up]; exact (hs.below hb0).more hb0.size) (by rw [nats_up]; exact (hs2.below hb0).more hb0.size) (Nat.le_refl _) (by omega) (by omega))
  rw [hvv] at HV
  have HN := Lib.hid hn
  have HM := Lib.hid hm
  have HS := Lib.hid hs
  have HS2 := Lib.hid hs2
  have HC : Hid (∀ W, Below w.heap.size w W → Calls Tryd.prog 58 #[.agg #[.slice A n c], .agg #[.slice A2 m c2]] W fun e w' => e = .returned (.int .i64 (Na.sgn x y)) ∧ Below W.heap.size W w') := fun W hW =>
    ncmp_any A A2 n c m c2 W.heap.size x y W HN.out HM.out ((HS.out.below hW).more hW.size) ((HS2.out.below hW).more hW.size) (Nat.le_refl _) (by omega) (by omega)
  clear hs hs2 hn hm hb0 hw0 hvv hx hy
  go_enter Tryd.func45, Tryd.ntmps45
  go_wp2_with fail
  rw [HW.out]
  refine HV.out.mono ?_
  rintro e w1 ⟨rfl, hb⟩
  have HB1 := Lib.hid (btr HB0.out hb)
  have hd0 : w1.cell? ⟨w.heap.size, 0, none⟩ = some (.slice A n c) := (hb.cell (p := ⟨w.heap.size, 0, none⟩) (by simp [hzw])).trans hc0
  have hd1 : w1.cell? ⟨w.heap.size + 1, 0, none⟩ = some (.slice A2 m c2) := (hb.cell (p := ⟨w.heap.size + 1, 0, none⟩) (by simp [hzw])).trans hc1
  have hd2 : w1.cell? ⟨w.heap.size + 2, 0, none⟩ = some (.slice none 0 0) := (hb.cell (p := ⟨w.heap.size + 2, 0, none⟩) (by simp [hzw])).trans hc2
  have hg2 : w1.frozen? ⟨w.heap.size + 2, 0, none⟩ = false := (hb.frozen (p := ⟨w.heap.size + 2, 0, none⟩) (by simp [hzw])).trans hf2
  have hsz1 : w.heap.size + 3 ≤ w1.heap.size := by rw [← hzw]; exact hb.size
  clear hb hc0 hc1 hc2 hf2 HV HW hzw HB0
  go_wp2_with fail
  refine (HC.out _ HB1.out).mono ?_
  rintro e w2 ⟨rfl, hb⟩
  have he0 : w2.cell? ⟨w.heap.size, 0, none⟩ = some (.slice A n c) := (hb.cell (p := ⟨w.heap.size, 0, none⟩) (by simp; omega)).trans hd0
  have he1 : w2.cell? ⟨w.heap.size + 1, 0, none⟩ = some (.slice A2 m c2) := (hb.cell (p := ⟨w.heap.size + 1, 0, none⟩) (by simp; omega)).trans hd1
  have he2 : w2.cell? ⟨w.heap.size + 2, 0, none⟩ = some (.slice none 0 0) := (hb.cell (p := ⟨w.heap.size + 2, 0, none⟩) (by simp; omega)).trans hd2
  have hh2 : w2.frozen? ⟨w.heap.size + 2, 0, none⟩ = false := (hb.frozen (p := ⟨w.heap.size + 2, 0, none⟩) (by simp; omega)).trans hg2
  have HB2 := Lib.hid (btr HB1.out hb)
  have hsz2 : w.heap.size + 3 ≤ w2.heap.size := Nat.le_trans hsz1 hb.size
  clear hb hd0 hd1 hd2 hg2 HC
  have hsg : Hid (0 ≤ Na.sgn x y) := by
    unfold Hid
    rcases Nat.lt_or_ge y x with h | h
    · rw [Na.sgn_gt h]; decide
    · rw [Na.sgn_eq (Nat.le_antisymm h hcmp)]; decide
  have hsg2 : decide (Na.sgn x y < 0) = false := decide_eq_false (by have := hsg.out; omega)
  obtain ⟨sg, hsgn⟩ : ∃ sg, Na.sgn x y = sg := ⟨_, rfl⟩
  rw [hsgn] at hsg2 ⊢
  clear hsgn
  have HCl := Lib.hid (nclone_any A n c w2.heap.size (Na.dig x) w2 HN.out ((HS.out.below HB2.out).more HB2.out.size) (Nat.le_refl _) (by omega))
  go_wp2_with fail
  refine HCl.out.mono ?_
  rintro e w3 ⟨A3, n3, ca, rfl, hn3, ho3, hb3⟩
  obtain rfl : n3 = n := by rw [← hn3]; exact HN.out
  have HO3 := Lib.hid ho3
  have HB3 := Lib.hid hb3
  clear ho3 hb3 hn3 HCl he0 hsg hsg2
  go_wp2_with fail
  go_loopw [26, 7] (fun i bw wr => NSub w2 w2.heap.size (Na.dig x) (Na.dig y) n3 A3 ca i bw wr) (fun i _ _ => n3 - (intOf i).toNat)
  case atStart => exact ⟨0, 0, [], Nat.zero_le _, rfl, rfl, Nat.zero_le _, ⟨rfl, Na.Lim.nil, by simp [Na.val]⟩, by simpa using HO3.out, HB3.out⟩
  case round =>
    clear HO3 HB3
    obtain ⟨k, bw, l, hk, rfl, rfl, hbw, HP, ho, hb⟩ := hrel
    have HO := Lib.hid ho
    have HB := Lib.hid hb
    rcases Nat.lt_or_ge k n3 with hkn | hkn
    · obtain ⟨a, ha⟩ := nat_at (Na.dig x) k (by rw [HN.out]; exact hkn)
      obtain ⟨g, rfl, hgb, hgw⟩ := own_form ho (by omega)
      have hca := own_nat ho (Na.get_mid l (Na.dig x) k a HP.out.1 ha)
      have hfz := ho.frozenAt k
      have ha24 := (Na.dig_lim x).at ha
      have hea := Na.at0_some ha
      clear ho hb
      rcases Nat.lt_or_ge k m with hkm | hkm
      · obtain ⟨b, hbb⟩ := nat_at (Na.dig y) k (by rw [HM.out]; exact hkm)
        obtain ⟨ad2, rfl, hbk2, hcb⟩ := (HS2.out.below (HB2.out.trans (HB.out.mono HB2.out.size))).nat hbb
        have hb24 := (Na.dig_lim y).at hbb
        have heb := Na.at0_some hbb
        have HYb := Lib.hid hbb
        clear hcb
        by_cases hlt : bw + b ≤ a
        · obtain ⟨d, hd⟩ : ∃ d, d + bw + b = a := ⟨a - bw - b, by omega⟩
          have HST := Lib.hid (Na.sub_yes (Na.dig x) (Na.dig y) l k bw d HP.out.1 HP.out.2.2 (by rw [hea, heb]; exact hd))
          have HLr := Lib.hid (HP.out.2.1.append (Na.Lim.one (show d < 16777216 by omega)))
          have HLl : Hid ((l ++ [d]).length = k + 1) := by unfold Hid; rw [List.length_append, HP.out.1]; rfl
          have HSet := Lib.hid (Na.set_mid l (Na.dig x) k d HP.out.1 (by rw [HN.out]; exact hkn))
          clear ha hbb hea heb
          have hv1 : Hid True := trivial
          have HF5 : Hid (∃ w5, wr.setCell ⟨g, k, none⟩ (.int .i64 ((a : Int) - (bw : Int))) = w5 ∧ w5.cell? ⟨g, k, none⟩ = some (.int .i64 ((a : Int) - (bw : Int))) ∧ w5.frozen? ⟨g, k, none⟩ = false ∧ w5.cell? ⟨w.heap.size + 1, 0, none⟩ = some (.slice (some ad2) m c2) ∧ w5.ownsRow w2.heap.size 3 1 (.slice (some ⟨g, 0, none⟩) n3 ca) n3 ((nats (l ++ (Na.dig x).drop k)).set k (.int .i64 ((a : Int) - (bw : Int)))) ∧ Below w2.heap.size w2 w5) := by
            have o1 := own_put HO.out k (.int .i64 ((a : Int) - (bw : Int)))
            have b1 := bset HB.out ⟨g, k, none⟩ hgb (.int .i64 ((a : Int) - (bw : Int)))
            exact ⟨_, rfl, cell_of_set _ hca, o1.frozenAt k, (b1.cell (p := ⟨w.heap.size + 1, 0, none⟩) (by simp; omega)).trans he1, o1, b1⟩
          go_upto_region 11 with (fail)
          obtain ⟨w5, hw5, f1, f2, f3, f4, f5⟩ := HF5.out
          rw [hw5]
          have HO5 := Lib.hid f4
          have HB5 := Lib.hid f5
          clear HF5 hw5 f4 f5
          have hcb5 : w5.cell? (ad2.add k) = some (.int .i64 (b : Int)) := by
            obtain ⟨ad9, h9, _, hc9⟩ := (HS2.out.below (HB2.out.trans (HB5.out.mono HB2.out.size))).nat HYb.out
            cases h9
            exact hc9
          go_wp2_with fail
          refine wp_region_still_tail 11 (by kernel_rfl) (by kernel_rfl) ?_
          simp only [List.take_succ_cons, List.take_zero, List.drop_succ_cons, List.drop_zero]
          repeat (first | still_step)
          refine wpStill_nil ?_
          change wpList _ _ _ _ _ w5.drew
          have HF6 : Hid (∃ w6, (w5.setCell ⟨g, k, none⟩ (.int .i64 ((a : Int) - (bw : Int) - (b : Int)))).drew = w6 ∧ w6.cell? ⟨g, k, none⟩ = some (.int .i64 ((a : Int) - (bw : Int) - (b : Int))) ∧ w6.frozen? ⟨g, k, none⟩ = false ∧ w6.ownsRow w2.heap.size 3 1 (.slice (some ⟨g, 0, none⟩) n3 ca) n3 ((nats (l ++ (Na.dig x).drop k)).set k (.int .i64 ((a : Int) - (bw : Int) - (b : Int)))) ∧ Below w2.heap.size w2 w6) := by
            have o1 := (own_put HO5.out k (.int .i64 ((a : Int) - (bw : Int) - (b : Int)))).drew
            rw [List.set_set] at o1
            exact ⟨_, rfl, cell_of_set _ f1, o1.frozenAt k, o1, (bset HB5.out ⟨g, k, none⟩ hgb _).drew⟩
          go_upto_region 13 with (fail)
          obtain ⟨w6, hw6, g1, g2, g4, g5⟩ := HF6.out
          rw [hw6]
          have HO6 := Lib.hid g4
          have HB6 := Lib.hid g5
          clear HF6 hw6 g4 g5 f1 f2 f3 HO5 HB5 hcb5
          have hpos : 0 ≤ ((a : Int) - (bw : Int) - (b : Int)) := by omega
          have HVal : Hid (((a : Int) - (bw : Int) - (b : Int)) = (d : Int)) := by unfold Hid; omega
          go_wp2_with fail
          go_roundw
          case rel =>
            have o1 := HO6.out
            rw [HVal.out, nats_set, HSet.out] at o1
            exact ⟨k + 1, 0, l ++ [d], by omega, by go_num, rfl, by omega, ⟨HLl.out, HLr.out, HST.out⟩, o1, HB6.out⟩
          case measure => simp [intOf]; omega
        · obtain ⟨d, hd⟩ : ∃ d, d + bw + b = a + 16777216 := ⟨a + 16777216 - bw - b, by omega⟩
          have HST := Lib.hid (Na.sub_no (Na.dig x) (Na.dig y) l k bw d HP.out.1 HP.out.2.2 (by rw [hea, heb]; exact hd))
          have HLr := Lib.hid (HP.out.2.1.append (Na.Lim.one (show d < 16777216 by omega)))
          have HLl : Hid ((l ++ [d]).length = k + 1) := by unfold Hid; rw [List.length_append, HP.out.1]; rfl
          have HSet := Lib.hid (Na.set_mid l (Na.dig x) k d HP.out.1 (by rw [HN.out]; exact hkn))
          clear ha hbb hea heb
          have hv1 : Hid True := trivial
          have HF5 : Hid (∃ w5, wr.setCell ⟨g, k, none⟩ (.int .i64 ((a : Int) - (bw : Int))) = w5 ∧ w5.cell? ⟨g, k, none⟩ = some (.int .i64 ((a : Int) - (bw : Int))) ∧ w5.frozen? ⟨g, k, none⟩ = false ∧ w5.cell? ⟨w.heap.size + 1, 0, none⟩ = some (.slice (some ad2) m c2) ∧ w5.ownsRow w2.heap.size 3 1 (.slice (some ⟨g, 0, none⟩) n3 ca) n3 ((nats (l ++ (Na.dig x).drop k)).set k (.int .i64 ((a : Int) - (bw : Int)))) ∧ Below w2.heap.size w2 w5) := by
            have o1 := own_put HO.out k (.int .i64 ((a : Int) - (bw : Int)))
            have b1 := bset HB.out ⟨g, k, none⟩ hgb (.int .i64 ((a : Int) - (bw : Int)))
            exact ⟨_, rfl, cell_of_set _ hca, o1.frozenAt k, (b1.cell (p := ⟨w.heap.size + 1, 0, none⟩) (by simp; omega)).trans he1, o1, b1⟩
          go_upto_region 11 with (fail)
          obtain ⟨w5, hw5, f1, f2, f3, f4, f5⟩ := HF5.out
          rw [hw5]
          have HO5 := Lib.hid f4
          have HB5 := Lib.hid f5
          clear HF5 hw5 f4 f5
          have hcb5 : w5.cell? (ad2.add k) = some (.int .i64 (b : Int)) := by
            obtain ⟨ad9, h9, _, hc9⟩ := (HS2.out.below (HB2.out.trans (HB5.out.mono HB2.out.size))).nat HYb.out
            cases h9
            exact hc9
          go_wp2_with fail
          refine wp_region_still_tail 11 (by kernel_rfl) (by kernel_rfl) ?_
          simp only [List.take_succ_cons, List.take_zero, List.drop_succ_cons, List.drop_zero]
          repeat (first | still_step)
          refine wpStill_nil ?_
          change wpList _ _ _ _ _ w5.drew
          have HF6 : Hid (∃ w6, (w5.setCell ⟨g, k, none⟩ (.int .i64 ((a : Int) - (bw : Int) - (b : Int)))).drew = w6 ∧ w6.cell? ⟨g, k, none⟩ = some (.int .i64 ((a : Int) - (bw : Int) - (b : Int))) ∧ w6.frozen? ⟨g, k, none⟩ = false ∧ w6.ownsRow w2.heap.size 3 1 (.slice (some ⟨g, 0, none⟩) n3 ca) n3 ((nats (l ++ (Na.dig x).drop k)).set k (.int .i64 ((a : Int) - (bw : Int) - (b : Int)))) ∧ Below w2.heap.size w2 w6) := by
            have o1 := (own_put HO5.out k (.int .i64 ((a : Int) - (bw : Int) - (b : Int)))).drew
            rw [List.set_set] at o1
            exact ⟨_, rfl, cell_of_set _ f1, o1.frozenAt k, o1, (bset HB5.out ⟨g, k, none⟩ hgb _).drew⟩
          go_upto_region 13 with (fail)
          obtain ⟨w6, hw6, g1, g2, g4, g5⟩ := HF6.out
          rw [hw6]
          have HO6 := Lib.hid g4
          have HB6 := Lib.hid g5
          clear HF6 hw6 g4 g5 f1 f2 f3 HO5 HB5 hcb5
          have hneg : ((a : Int) - (bw : Int) - (b : Int)) < 0 := by omega
          have hsum : ((a : Int) - (bw : Int) - (b : Int)) + 16777216 = (d : Int) := by omega
          go_wp2_with fail
          go_roundw
          case rel =>
            have o1 := own_put HO6.out k (.int .i64 (d : Int))
            rw [List.set_set, nats_set, HSet.out] at o1
            exact ⟨k + 1, 1, l ++ [d], by omega, by go_num, rfl, by omega, ⟨HLl.out, HLr.out, HST.out⟩, o1, bset HB6.out ⟨g, k, none⟩ hgb _⟩
          case measure => simp [intOf]; omega
      · have heb : Na.at0 (Na.dig y) k = 0 := Na.at0_none (by rw [HM.out]; exact hkm)
        by_cases hlt : bw ≤ a
        · obtain ⟨d, hd⟩ : ∃ d, d + bw = a := ⟨a - bw, by omega⟩
          have HST := Lib.hid (Na.sub_yes (Na.dig x) (Na.dig y) l k bw d HP.out.1 HP.out.2.2 (by rw [hea, heb]; omega))
          have HLr := Lib.hid (HP.out.2.1.append (Na.Lim.one (show d < 16777216 by omega)))
          have HLl : Hid ((l ++ [d]).length = k + 1) := by unfold Hid; rw [List.length_append, HP.out.1]; rfl
          have HSet := Lib.hid (Na.set_mid l (Na.dig x) k d HP.out.1 (by rw [HN.out]; exact hkn))
          clear ha hea heb
          have hv1 : Hid True := trivial
          have HF5 : Hid (∃ w5, wr.setCell ⟨g, k, none⟩ (.int .i64 ((a : Int) - (bw : Int))) = w5 ∧ w5.cell? ⟨g, k, none⟩ = some (.int .i64 ((a : Int) - (bw : Int))) ∧ w5.frozen? ⟨g, k, none⟩ = false ∧ w5.cell? ⟨w.heap.size + 1, 0, none⟩ = some (.slice A2 m c2) ∧ w5.ownsRow w2.heap.size 3 1 (.slice (some ⟨g, 0, none⟩) n3 ca) n3 ((nats (l ++ (Na.dig x).drop k)).set k (.int .i64 ((a : Int) - (bw : Int)))) ∧ Below w2.heap.size w2 w5) := by
            have o1 := own_put HO.out k (.int .i64 ((a : Int) - (bw : Int)))
            have b1 := bset HB.out ⟨g, k, none⟩ hgb (.int .i64 ((a : Int) - (bw : Int)))
            exact ⟨_, rfl, cell_of_set _ hca, o1.frozenAt k, (b1.cell (p := ⟨w.heap.size + 1, 0, none⟩) (by simp; omega)).trans he1, o1, b1⟩
          go_upto_region 11 with (fail)
          obtain ⟨w5, hw5, f1, f2, f3, f4, f5⟩ := HF5.out
          rw [hw5]
          have HO5 := Lib.hid f4
          have HB5 := Lib.hid f5
          clear HF5 hw5 f4 f5
          have hpos : 0 ≤ ((a : Int) - (bw : Int)) := by omega
          have HVal : Hid (((a : Int) - (bw : Int)) = (d : Int)) := by unfold Hid; omega
          go_wp2_with fail
          go_roundw
          case rel =>
            have o1 := HO5.out
            rw [HVal.out, nats_set, HSet.out] at o1
            exact ⟨k + 1, 0, l ++ [d], by omega, by go_num, rfl, by omega, ⟨HLl.out, HLr.out, HST.out⟩, o1, HB5.out⟩
          case measure => simp [intOf]; omega
        · obtain ⟨d, hd⟩ : ∃ d, d + bw = a + 16777216 := ⟨a + 16777216 - bw, by omega⟩
          have HST := Lib.hid (Na.sub_no (Na.dig x) (Na.dig y) l k bw d HP.out.1 HP.out.2.2 (by rw [hea, heb]; omega))
          have HLr := Lib.hid (HP.out.2.1.append (Na.Lim.one (show d < 16777216 by omega)))
          have HLl : Hid ((l ++ [d]).length = k + 1) := by unfold Hid; rw [List.length_append, HP.out.1]; rfl
          have HSet := Lib.hid (Na.set_mid l (Na.dig x) k d HP.out.1 (by rw [HN.out]; exact hkn))
          clear ha hea heb
          have hv1 : Hid True := trivial
          have HF5 : Hid (∃ w5, wr.setCell ⟨g, k, none⟩ (.int .i64 ((a : Int) - (bw : Int))) = w5 ∧ w5.cell? ⟨g, k, none⟩ = some (.int .i64 ((a : Int) - (bw : Int))) ∧ w5.frozen? ⟨g, k, none⟩ = false ∧ w5.cell? ⟨w.heap.size + 1, 0, none⟩ = some (.slice A2 m c2) ∧ w5.ownsRow w2.heap.size 3 1 (.slice (some ⟨g, 0, none⟩) n3 ca) n3 ((nats (l ++ (Na.dig x).drop k)).set k (.int .i64 ((a : Int) - (bw : Int)))) ∧ Below w2.heap.size w2 w5) := by
            have o1 := own_put HO.out k (.int .i64 ((a : Int) - (bw : Int)))
            have b1 := bset HB.out ⟨g, k, none⟩ hgb (.int .i64 ((a : Int) - (bw : Int)))
            exact ⟨_, rfl, cell_of_set _ hca, o1.frozenAt k, (b1.cell (p := ⟨w.heap.size + 1, 0, none⟩) (by simp; omega)).trans he1, o1, b1⟩
          go_upto_region 11 with (fail)
          obtain ⟨w5, hw5, f1, f2, f3, f4, f5⟩ := HF5.out
          rw [hw5]
          have HO5 := Lib.hid f4
          have HB5 := Lib.hid f5
          clear HF5 hw5 f4 f5
          have hneg : ((a : Int) - (bw : Int)) < 0 := by omega
          have hsum : ((a : Int) - (bw : Int)) + 16777216 = (d : Int) := by omega
          go_wp2_with fail
          go_roundw
          case rel =>
            have o1 := own_put HO5.out k (.int .i64 (d : Int))
            rw [List.set_set, nats_set, HSet.out] at o1
            exact ⟨k + 1, 1, l ++ [d], by omega, by go_num, rfl, by omega, ⟨HLl.out, HLr.out, HST.out⟩, o1, bset HB5.out ⟨g, k, none⟩ hgb _⟩
          case measure => simp [intOf]; omega
    · have hkn' : k = n3 := by omega
      have HLl : Hid (l.length = n3) := by unfold Hid; rw [← hkn']; exact HP.out.1
      have HLr := Lib.hid HP.out.2.1
      have HEnd : Hid (Na.val l = x - y) := by
        have h1 := Na.sub_end (Na.dig x) (Na.dig y) l k bw HP.out.2.1 HP.out.1 HP.out.2.2 (by rw [HN.out]; omega) (by rw [HM.out, hkn']; have := Na.dig_len_mono hcmp; rw [HN.out, HM.out] at this; exact this) (by rw [Na.val_dig, Na.val_dig]; exact hcmp)
        rw [Na.val_dig, Na.val_dig] at h1
        exact h1
      have hown : wr.ownsRow w2.heap.size 3 1 (.slice A3 n3 ca) n3 (nats l) := by
        have h1 := ho
        rw [List.drop_of_length_le (by rw [HN.out]; exact hkn), List.append_nil] at h1
        exact h1
      have hf : resL (x - y) = Na.dig (x - y) ∧ resE (x - y) = 0 := by
        have : x - y < Na.top := Nat.lt_of_le_of_lt (Nat.sub_le _ _) (by rw [← Na.dig_200, HN.out]; exact hn2)
        exact ⟨resL_ok this, resE_ok this⟩
      have HR := Lib.hid (nresult_any A3 n3 ca w2.heap.size l wr HLl.out hown HLr.out (by omega))
      rw [HEnd.out, hf.1, hf.2] at HR
      clear ho hb hkn' hown hf
      go_wp2_with fail
      refine HR.out.mono ?_
      rintro e w9 ⟨A9, n9, c9, rfl, hn9, ho9, hb9⟩
      have HN9 := Lib.hid hn9
      have HO9 := Lib.hid ho9
      have HB9 := Lib.hid (btr HB.out hb9)
      have hk9 : w9.cell? ⟨w.heap.size + 2, 0, none⟩ = some (.slice none 0 0) := (HB9.out.cell (p := ⟨w.heap.size + 2, 0, none⟩) (by simp; omega)).trans he2
      have hk9f : w9.frozen? ⟨w.heap.size + 2, 0, none⟩ = false := (HB9.out.frozen (p := ⟨w.heap.size + 2, 0, none⟩) (by simp; omega)).trans hh2
      clear hn9 ho9 hb9 he1 he2 hh2
      go_wp2_with fail
      refine bodyPost_ret (v := .tuple #[.agg #[.slice A9 n9 c9], .int .i64 0]) (by simp [results, Tryd.results45, go_sem, hk9]) rfl ?_
      exact resN_cell HO9.out HN9.out (by omega) (by omega) (HB2.out.trans (HB9.out.mono HB2.out.size)) (by omega) _ _

theorem sub_ok {x y : Nat} (hx : x < Na.top) (hy : y < Na.top) : subL (Na.up (Na.dig x)) (Na.up (Na.dig y)) = (if x < y then [] else Na.dig (x - y)) ∧ subE (Na.up (Na.dig x)) (Na.up (Na.dig y)) = (if x < y then 5 else 0) := by
  unfold subL subE
  rw [Na.vld_dig hx, Na.vld_dig hy, num_dig, num_dig]
  exact ⟨rfl, rfl⟩
theorem nsub_any (A A2 : Option Addr) (n c m c2 : Nat) (zs ys : List Int) (w : World) (hn : zs.length = n) (hm : ys.length = m) (hs : Sl w w.heap.size A (ints zs)) (hs2 : Sl w w.heap.size A2 (ints ys)) (hl : n ≤ 140737488351232) (hl2 : m ≤ 140737488351232) :
    Calls Tryd.prog 45 #[.agg #[.slice A n c], .agg #[.slice A2 m c2]] w (ResN w (subL zs ys) (subE zs ys)) := by
  cases hv : (Na.vld zs && Na.vld ys)
  · have e1 : subL zs ys = [] := by unfold subL; rw [hv]; rfl
    have e2 : subE zs ys = 1 := by unfold subE; rw [hv]; rfl
    rw [e1, e2]
    exact nsub_bad A A2 n c m c2 zs ys w hn hm hs hs2 hl hl2 hv
  · obtain ⟨x, y, hx, hy, rfl, rfl⟩ := vv_ex hv
    rw [(sub_ok hx hy).1, (sub_ok hx hy).2]
    rw [nats_up] at hs hs2
    rw [Na.up_length] at hn hm
    by_cases h : x < y
    · rw [if_pos h, if_pos h]
      exact nsub_neg A A2 n c m c2 x y w hn hm hs hs2 hx hy h
    · rw [if_neg h, if_neg h]
      exact nsub_pos A A2 n c m c2 x y w hn hm hs hs2 hx hy (by omega)
end Go.Proofs.YtjhaogbopmhkoaaDoor

namespace Go.Proofs.YtjhaogbopmhkoaaDoor
open Go.RowKit
set_option linter.unusedVariables false
set_option maxRecDepth 100000
def NPr (w : World) (B : Nat) (X Y : List Nat) (n N g c : Nat) (i : Value) (wr : World) : Prop :=
  ∃ (k : Nat) (out : List Nat), k ≤ n ∧ i = .int .i64 (k : Int) ∧ Hid (out.length = N ∧ Na.Cols out 281474976710656 k 0 ∧ Na.val out = Na.val (X.take k) * Na.val Y) ∧ wr.ownsRow B 3 1 (.slice (some ⟨g, 0, none⟩) N c) N (nats out) ∧ Below B w wr
def NPi (w : World) (B : Nat) (X Y : List Nat) (a i m N g c : Nat) (v : Value) (wr : World) : Prop :=
  ∃ (k : Nat) (out : List Nat), k ≤ m ∧ v = .int .i64 (k : Int) ∧ Hid (out.length = N ∧ Na.Cols out 281474976710656 i k ∧ Na.val out = Na.val (X.take i) * Na.val Y + 16777216 ^ i * (a * Na.val (Y.take k))) ∧ wr.ownsRow B 3 1 (.slice (some ⟨g, 0, none⟩) N c) N (nats out) ∧ Below B w wr
def NPc (w : World) (B : Nat) (out : List Nat) (V N g c : Nat) (i cr : Value) (wr : World) : Prop :=
  ∃ (k r : Nat) (o : List Nat), k ≤ N ∧ i = .int .i64 (k : Int) ∧ cr = .int .i64 (r : Int) ∧ r ≤ 288230376151711744 ∧ Hid (o.length = k ∧ Na.Lim o ∧ Na.val o + 16777216 ^ k * (r + Na.val (out.drop k)) = V) ∧ wr.ownsRow B 3 1 (.slice (some ⟨g, 0, none⟩) N c) N (nats (o ++ out.drop k)) ∧ Below B w wr
theorem made_nats (n : Nat) : nats (List.replicate n 0) = List.replicate n (.int .i64 0) := by simp [nats, encN]
set_option maxHeartbeats 4000000 in
theorem nproduct_any (A A2 : Option Addr) (n c m c2 : Nat) (X Y : List Nat) (w : World) (hn : X.length = n) (hm : Y.length = m) (hs : Sl w w.heap.size A (nats X)) (hs2 : Sl w w.heap.size A2 (nats Y)) (hX : Na.Lim X) (hY : Na.Lim Y) (hl : n ≤ 1000) (hl2 : m ≤ 1000) :
    Calls Tryd.prog 127 #[.slice A n c, .slice A2 m c2] w (FreshN w (Na.dig (Na.val X * Na.val Y))) := by
  obtain ⟨i0, hi, hz0, hz1, hz2⟩ := info_parts infoI
  rcases Nat.eq_zero_or_pos n with h0 | h0
  · subst h0
    have hx : X = [] := List.eq_nil_of_length_eq_zero hn
    have HR : Hid (Na.dig (Na.val X * Na.val Y) = []) := by unfold Hid; rw [hx, Na.val, Nat.zero_mul, Na.dig_zero]
    clear hs hs2 hn hm hx
    go_enter Tryd.func127, Tryd.ntmps127
    go_wp2_with fail
    go_ret
    rw [HR.out]
    exact ⟨none, 0, 0, rfl, rfl, World.ownsRow_nil _ _ _ _, Below.refl _ _⟩
  · have hz := nat_ne0 h0
    rcases Nat.eq_zero_or_pos m with h1 | h1
    · subst h1
      have hx : Y = [] := List.eq_nil_of_length_eq_zero hm
      have HR : Hid (Na.dig (Na.val X * Na.val Y) = []) := by unfold Hid; rw [hx, Na.val, Nat.mul_zero, Na.dig_zero]
      clear hs hs2 hn hm hx
      go_enter Tryd.func127, Tryd.ntmps127
      go_wp2_with fail
      go_ret
      rw [HR.out]
      exact ⟨none, 0, 0, rfl, rfl, World.ownsRow_nil _ _ _ _, Below.refl _ _⟩
    · have hz2' := nat_ne0 h1
      have hmk := run_make_one (P := Tryd.prog) 22 3 i0 (.int .i64 0) Tryd.underlying22 hi hz0 hz1 .i64 .i64 ((n : Int) + (m : Int)) ((n : Int) + (m : Int)) (n + m) (n + m) (by omega) (by omega) (Nat.le_refl _) (by rw [hz2]; omega) (by omega)
      have HN := Lib.hid hn
      have HM := Lib.hid hm
      have HS := Lib.hid hs
      have HS2 := Lib.hid hs2
      have HO0 : Hid ((w.alloc (.cells (madeCells #[Value.int .i64 0] (n + m)) 3)).ownsRow w.heap.size 3 1 (.slice (some ⟨w.heap.size, 0, none⟩) (n + m) (n + m)) (n + m) (nats (List.replicate (n + m) 0))) := by
        rw [made_nats]
        exact own_made w 3 (.int .i64 0) (n + m) (n + m) rfl (Nat.le_refl _) (by unfold maxLen; omega)
      have HB0 := Lib.hid (bal (Below.refl w.heap.size w) (.cells (madeCells #[Value.int .i64 0] (n + m)) 3))
      clear hs hs2 hn hm
      go_enter Tryd.func127, Tryd.ntmps127
      go_wp2_with fail
      clear hmk
      go_loopw [28] (fun i wr => NPr w w.heap.size X Y n (n + m) w.heap.size (n + m) i wr) (fun i _ => n - (intOf i).toNat)
      case atStart => exact ⟨0, _, Nat.zero_le _, rfl, ⟨List.length_replicate, Na.cols_zero _ _, by rw [Na.val_zeros]; simp [Na.val]⟩, HO0.out, HB0.out⟩
      case round =>
        clear HO0 HB0
        obtain ⟨i, out, hin, rfl, HP, ho, hb⟩ := hrel
        have HO := Lib.hid ho
        have HB := Lib.hid hb
        clear ho hb
        rcases Nat.lt_or_ge i n with hlt | hge
        · obtain ⟨a, ha⟩ := nat_at X i (by rw [HN.out]; exact hlt)
          obtain ⟨ad, rfl, hbk, hca⟩ := (HS.out.below HB.out).nat ha
          have ha24 := hX.at ha
          have HRow := Lib.hid (Na.prod_row X Y i a ha)
          clear ha
          go_wp2_with fail
          clear hca
          go_loopw [35] (fun v wr => NPi w w.heap.size X Y a i m (n + m) w.heap.size (n + m) v wr) (fun v _ => m - (intOf v).toNat)
          case atStart => exact ⟨0, out, Nat.zero_le _, rfl, ⟨HP.out.1, HP.out.2.1, by rw [HP.out.2.2]; simp [Na.val]⟩, HO.out, HB.out⟩
          case round =>
            clear HP HO HB
            obtain ⟨k, out, hk, rfl, HP, ho, hb⟩ := hrel
            have HO := Lib.hid ho
            have HB := Lib.hid hb
            rcases Nat.lt_or_ge k m with hkm | hkm
            · obtain ⟨b, hbb⟩ := nat_at Y k (by rw [HM.out]; exact hkm)
              obtain ⟨e, he⟩ := nat_at out (i + k) (by rw [HP.out.1]; omega)
              obtain ⟨ad2, rfl, hbk2, hcb⟩ := (HS2.out.below hb).nat hbb
              have hce := own_nat ho he
              have hfz := ho.frozenAt (i + k)
              have hp := Na.prod24 ha24 (hY.at hbb)
              obtain ⟨p, hpp⟩ : ∃ p, a * b = p := ⟨_, rfl⟩
              have hp1 : (a : Int) * (b : Int) = (p : Int) := by rw [← hpp]; rfl
              have he2 : e ≤ 281474976710656000 := by
                have h7 := (HP.out.2.1 _ _ he).2 (Nat.le_refl _)
                have h8 := Nat.mul_le_mul_right 281474976710656 (show i ≤ 1000 by omega)
                omega
              have HSt := Lib.hid (Na.prod_step out X Y i k e a b _ he HP.out.2.2 hbb)
              have HCo := Lib.hid (Na.cols_step HP.out.2.1 he hp)
              rw [hpp] at HSt HCo hp
              clear ho hb hbb he hpp
              have s1 : IntKind.i64.wrap ((i : Int) + (k : Int)) = (i : Int) + (k : Int) := IntWalk.i64_in _ (by omega)
              have s2 : 0 ≤ (i : Int) + (k : Int) := by omega
              have s3 : (i : Int) + (k : Int) < (n : Int) + (m : Int) := by omega
              have s4 : ((i : Int) + (k : Int)).toNat = i + k := by omega
              go_wp2_with fail
              go_roundw
              case rel =>
                have o1 := own_put HO.out (i + k) (.int .i64 ((e + p : Nat) : Int))
                rw [nats_set] at o1
                exact ⟨k + 1, out.set (i + k) (e + p), by omega, by go_num, ⟨by rw [List.length_set]; exact HP.out.1, HCo.out, HSt.out⟩, o1, bset HB.out ⟨w.heap.size, i + k, none⟩ (Nat.le_refl _) _⟩
              case measure => simp [intOf]; omega
            · have hkm' : k = m := by omega
              have HP2 : Hid (out.length = n + m ∧ Na.Cols out 281474976710656 (i + 1) 0 ∧ Na.val out = Na.val (X.take (i + 1)) * Na.val Y) := by
                refine ⟨HP.out.1, Na.cols_row HP.out.2.1, ?_⟩
                have h7 := HP.out.2.2
                rw [hkm', List.take_of_length_le (l := Y) (by rw [HM.out]; exact Nat.le_refl _), HRow.out] at h7
                exact h7
              clear hkm' ho hb
              go_wp2_with fail
              go_roundw
              case rel => exact ⟨i + 1, out, by omega, by go_num, HP2, HO.out, HB.out⟩
              case measure => simp [intOf]; omega
        · have hin' : i = n := by omega
          have HV : Hid (Na.val out = Na.val X * Na.val Y) := by
            have h7 := HP.out.2.2
            rw [List.take_of_length_le (by rw [HN.out]; exact hge)] at h7
            exact h7
          have HCol : Hid (∀ j e, out[j]? = some e → e ≤ 281756451687366656) := fun j e he => by
            have h7 := (HP.out.2.1 j e he).1
            have h8 := Nat.mul_le_mul_right 281474976710656 (show i + 1 ≤ 1001 by omega)
            omega
          have HLo : Hid (out.length = n + m) := HP.out.1
          clear hin' HP
          go_wp2_with fail
          go_loopw [55, 10] (fun v cr wr => NPc w w.heap.size out (Na.val X * Na.val Y) (n + m) w.heap.size (n + m) v cr wr) (fun v _ _ => n + m - (intOf v).toNat)
          case atStart => exact ⟨0, 0, [], Nat.zero_le _, rfl, rfl, Nat.zero_le _, ⟨rfl, Na.Lim.nil, by simp [Na.val, HV.out]⟩, by simpa using HO.out, HB.out⟩
          case round =>
            clear HO HB
            obtain ⟨k, r, o, hk, rfl, rfl, hr, HP, ho, hb⟩ := hrel
            have HO := Lib.hid ho
            have HB := Lib.hid hb
            rcases Nat.lt_or_ge k (n + m) with hkm | hkm
            · obtain ⟨e, he⟩ := nat_at out k (by rw [HLo.out]; exact hkm)
              have he2 := HCol.out k e he
              have hce := own_nat ho (Na.get_mid o out k e HP.out.1 he)
              have hfz := ho.frozenAt k
              obtain ⟨t, ht⟩ : ∃ t, r + e = t := ⟨_, rfl⟩
              obtain ⟨q, hq⟩ : ∃ q, t / 16777216 = q := ⟨_, rfl⟩
              obtain ⟨d, hd⟩ : ∃ d, t % 16777216 = d := ⟨_, rfl⟩
              have HSt := Lib.hid (Na.carry_step o out k r e t _ HP.out.1 he HP.out.2.2 ht.symm)
              rw [hq, hd] at HSt
              have hand : bits .and .i64 ((r : Int) + (e : Int)) 16777215 = (d : Int) := by rw [and24]; omega
              have hshr : ((r : Int) + (e : Int)) / 16777216 = (q : Int) := by omega
              have hq1 : q ≤ 288230376151711744 := by omega
              have hd24 : d < 16777216 := by omega
              have HLr := Lib.hid (HP.out.2.1.append (Na.Lim.one hd24))
              have HLl : Hid ((o ++ [d]).length = k + 1) := by unfold Hid; rw [List.length_append, HP.out.1]; rfl
              have HSet := Lib.hid (Na.set_mid o out k d HP.out.1 (by rw [HLo.out]; exact hkm))
              have s3 : (k : Int) < (n : Int) + (m : Int) := by omega
              clear ho hb he ht hq hd
              go_wp2_with fail
              go_roundw
              case rel =>
                have o1 := own_put HO.out k (.int .i64 (d : Int))
                rw [nats_set, HSet.out] at o1
                exact ⟨k + 1, q, o ++ [d], by omega, by go_num, rfl, hq1, ⟨HLl.out, HLr.out, HSt.out⟩, o1, bset HB.out ⟨w.heap.size, k, none⟩ (Nat.le_refl _) _⟩
              case measure => simp [intOf]; omega
            · have hkm' : k = n + m := by omega
              have HLen : Hid (o.length = n + m) := by unfold Hid; rw [← hkm']; exact HP.out.1
              have HEnd : Hid (Na.val o = Na.val X * Na.val Y) := by
                have h7 := Na.carry_end o out k r _ HP.out.1 (by rw [HLo.out]; exact hkm) HP.out.2.2 (by have := Na.val_mul_lt hX hY; rw [HN.out, HM.out] at this; rw [hkm']; exact this)
                exact h7
              have HOwn : Hid (wr.ownsRow w.heap.size 3 1 (.slice (some ⟨w.heap.size, 0, none⟩) (n + m) (n + m)) (n + m) (nats o)) := by
                have h7 := ho
                rw [List.drop_of_length_le (by rw [HLo.out]; exact hkm), List.append_nil] at h7
                exact h7
              have HTr := Lib.hid (ntrim_any (some ⟨w.heap.size, 0, none⟩) (n + m) (n + m) _ o wr HLen.out (Sl.of_own HOwn.out) (Nat.le_refl _) (by omega))
              have HT2 := Lib.hid (Na.trim_dig HP.out.2.1)
              clear ho hb hkm'
              go_wp2_with fail
              refine HTr.out.mono ?_
              rintro e w9 ⟨rfl, rfl⟩
              go_wp2_with fail
              go_ret
              rw [← HEnd.out, ← HT2.out]
              refine ⟨_, _, _, rfl, ?_, ?_, HB.out⟩
              · rw [Na.trim_length, HLen.out]
              · unfold Na.trim
                rw [HLen.out, ← nats_take]
                exact own_take HOwn.out (Na.tl_le o (n + m))

set_option maxHeartbeats 1000000 in
theorem nmul_bad (A A2 : Option Addr) (n c m c2 : Nat) (zs ys : List Int) (w : World) (hn : zs.length = n) (hm : ys.length = m) (hs : Sl w w.heap.size A (ints zs)) (hs2 : Sl w w.heap.size A2 (ints ys)) (hl : n ≤ 140737488351232) (hl2 : m ≤ 140737488351232) (hv : (Na.vld zs && Na.vld ys) = false) :
    Calls Tryd.prog 100 #[.agg #[.slice A n c], .agg #[.slice A2 m c2]] w (ResN w [] 1) := by
  obtain ⟨w0, hw0⟩ : ∃ w0, ((w.alloc (.cells #[.slice A n c] 24)).alloc (.cells #[.slice A2 m c2] 24)).alloc (.cells #[.slice none 0 0] 24) = w0 := ⟨_, rfl⟩
  have HW : Hid (((w.alloc (.cells #[.slice A n c] 24)).alloc (.cells #[.slice A2 m c2] 24)).alloc (.cells #[.slice none 0 0] 24) = w0) := hw0
  have hb0 : Below w.heap.size w w0 := by rw [← hw0]; exact bal (bal (bal (Below.refl _ _) _) _) _
  have HB0 := Lib.hid hb0
  have hzw : w0.heap.size = w.heap.size + 3 := by rw [← hw0]; simp
  have hc0 : w0.cell? ⟨w.heap.size, 0, none⟩ = some (.slice A n c) := by rw [← hw0]; simp [go_sem]
  have hc1 : w0.cell? ⟨w.heap.size + 1, 0, none⟩ = some (.slice A2 m c2) := by rw [← hw0]; simp [go_sem]
  have hc2 : w0.cell? ⟨w.heap.size + 2, 0, none⟩ = some (.slice none 0 0) := by rw [← hw0]; simp [go_sem]
  have hf2 : w0.frozen? ⟨w.heap.size + 2, 0, none⟩ = false := by rw [← hw0]; simp [go_sem]
  have HV := Lib.hid (nboth_any A A2 n c m c2 w0.heap.size zs ys w0 hn hm ((hs.below hb0).more hb0.size) ((hs2.below hb0).more hb0.size) (Nat.le_refl _) hl hl2)
  rw [hv] at HV
  clear hs hs2 hn hm hb0 hw0 hv
  go_enter Tryd.func100, Tryd.ntmps100
  go_wp2_with fail
  rw [HW.out]
  refine HV.out.mono ?_
  rintro e w1 ⟨rfl, hb⟩
  have HB1 := Lib.hid (btr HB0.out hb)
  have hd0 : w1.cell? ⟨w.heap.size, 0, none⟩ = some (.slice A n c) := (hb.cell (p := ⟨w.heap.size, 0, none⟩) (by simp [hzw])).trans hc0
  have hd1 : w1.cell? ⟨w.heap.size + 1, 0, none⟩ = some (.slice A2 m c2) := (hb.cell (p := ⟨w.heap.size + 1, 0, none⟩) (by simp [hzw])).trans hc1
  have hd2 : w1.cell? ⟨w.heap.size + 2, 0, none⟩ = some (.slice none 0 0) := (hb.cell (p := ⟨w.heap.size + 2, 0, none⟩) (by simp [hzw])).trans hc2
  have hg2 : w1.frozen? ⟨w.heap.size + 2, 0, none⟩ = false := (hb.frozen (p := ⟨w.heap.size + 2, 0, none⟩) (by simp [hzw])).trans hf2
  have hsz1 : w.heap.size + 3 ≤ w1.heap.size := by rw [← hzw]; exact hb.size
  clear hb hc0 hc1 hc2 hf2 HV HW hzw HB0
  go_wp2_with fail
  refine bodyPost_ret (v := .tuple #[.agg #[.slice none 0 0], .int .i64 1]) (by simp [results, Tryd.results100, go_sem, hd2]) rfl ?_
  exact resN_nil _ _ _ (bset HB1.out _ (by show w.heap.size ≤ w.heap.size + 2; omega) _)

def mulL (zs ys : List Int) : List Nat := if Na.vld zs && Na.vld ys then resL (num zs * num ys) else []
def mulE (zs ys : List Int) : Int := if Na.vld zs && Na.vld ys then resE (num zs * num ys) else 1
theorem mul_ok {x y : Nat} (hx : x < Na.top) (hy : y < Na.top) : mulL (Na.up (Na.dig x)) (Na.up (Na.dig y)) = resL (x * y) ∧ mulE (Na.up (Na.dig x)) (Na.up (Na.dig y)) = resE (x * y) := by
  unfold mulL mulE
  rw [Na.vld_dig hx, Na.vld_dig hy, num_dig, num_dig]
  exact ⟨rfl, rfl⟩
set_option maxHeartbeats 1000000 in
theorem nmul_ok (A A2 : Option Addr) (n c m c2 : Nat) (x y : Nat) (w : World) (hn : (Na.dig x).length = n) (hm : (Na.dig y).length = m) (hs : Sl w w.heap.size A (nats (Na.dig x))) (hs2 : Sl w w.heap.size A2 (nats (Na.dig y))) (hx : x < Na.top) (hy : y < Na.top) :
    Calls Tryd.prog 100 #[.agg #[.slice A n c], .agg #[.slice A2 m c2]] w (ResN w (resL (x * y)) (resE (x * y))) := by
  have hn2 : n ≤ 200 := by rw [← hn]; exact (Na.dig_200 x).2 hx
  have hm2 : m ≤ 200 := by rw [← hm]; exact (Na.dig_200 y).2 hy
  obtain ⟨w0, hw0⟩ : ∃ w0, ((w.alloc (.cells #[.slice A n c] 24)).alloc (.cells #[.slice A2 m c2] 24)).alloc (.cells #[.slice none 0 0] 24) = w0 := ⟨_, rfl⟩
  have HW : Hid (((w.alloc (.cells #[.slice A n c] 24)).alloc (.cells #[.slice A2 m c2] 24)).alloc (.cells #[.slice none 0 0] 24) = w0) := hw0
  have hb0 : Below w.heap.size w w0 := by rw [← hw0]; exact bal (bal (bal (Below.refl _ _) _) _) _
  have HB0 := Lib.hid hb0
  have hzw : w0.heap.size = w.heap.size + 3 := by rw [← hw0]; simp
  have hc0 : w0.cell? ⟨w.heap.size, 0, none⟩ = some (.slice A n c) := by rw [← hw0]; simp [go_sem]
  have hc1 : w0.cell? ⟨w.heap.size + 1, 0, none⟩ = some (.slice A2 m c2) := by rw [← hw0]; simp [go_sem]
  have hc2 : w0.cell? ⟨w.heap.size + 2, 0, none⟩ = some (.slice none 0 0) := by rw [← hw0]; simp [go_sem]
  have hf2 : w0.frozen? ⟨w.heap.size + 2, 0, none⟩ = false := by rw [← hw0]; simp [go_sem]
  have hvv : (Na.vld (Na.up (Na.dig x)) && Na.vld (Na.up (Na.dig y))) = true := by rw [Na.vld_dig hx, Na.vld_dig hy]; rfl
  have HV := Lib.hid (nboth_any A A2 n c m c2 w0.heap.size _ _ w0 (by rw [Na.up_length]; exact hn) (by rw [Na.up_length]; exact hm) (by rw [nats_up]; exact (hs.below hb0).more hb0.size) (by rw [nats_up]; exact (hs2.below hb0).more hb0.size) (Nat.le_refl _) (by omega) (by omega))
  rw [hvv] at HV
  have HN := Lib.hid hn
  have HM := Lib.hid hm
  have HS := Lib.hid hs
  have HS2 := Lib.hid hs2
  clear hs hs2 hn hm hb0 hw0 hvv hx hy
  go_enter Tryd.func100, Tryd.ntmps100
  go_wp2_with fail
  rw [HW.out]
  refine HV.out.mono ?_
  rintro e w1 ⟨rfl, hb⟩
  have HB1 := Lib.hid (btr HB0.out hb)
  have hd0 : w1.cell? ⟨w.heap.size, 0, none⟩ = some (.slice A n c) := (hb.cell (p := ⟨w.heap.size, 0, none⟩) (by simp [hzw])).trans hc0
  have hd1 : w1.cell? ⟨w.heap.size + 1, 0, none⟩ = some (.slice A2 m c2) := (hb.cell (p := ⟨w.heap.size + 1, 0, none⟩) (by simp [hzw])).trans hc1
  have hd2 : w1.cell? ⟨w.heap.size + 2, 0, none⟩ = some (.slice none 0 0) := (hb.cell (p := ⟨w.heap.size + 2, 0, none⟩) (by simp [hzw])).trans hc2
  have hg2 : w1.frozen? ⟨w.heap.size + 2, 0, none⟩ = false := (hb.frozen (p := ⟨w.heap.size + 2, 0, none⟩) (by simp [hzw])).trans hf2
  have hsz1 : w.heap.size + 3 ≤ w1.heap.size := by rw [← hzw]; exact hb.size
  clear hb hc0 hc1 hc2 hf2 HV HW hzw HB0
  have HPr := Lib.hid (nproduct_any A A2 n c m c2 (Na.dig x) (Na.dig y) w1 HN.out HM.out ((HS.out.below HB1.out).more HB1.out.size) ((HS2.out.below HB1.out).more HB1.out.size) (Na.dig_lim x) (Na.dig_lim y) (by omega) (by omega))
  rw [Na.val_dig, Na.val_dig] at HPr
  go_wp2_with fail
  refine HPr.out.mono ?_
  rintro e w2 ⟨A5, n5, c5, rfl, hn5, ho5, hb5⟩
  have hl5 : n5 ≤ 400 := by
    rw [← hn5]
    have h1 := Na.dig_len_mul x y
    rw [HN.out, HM.out] at h1
    omega
  have HR := Lib.hid (nresult_any A5 n5 c5 w1.heap.size (Na.dig (x * y)) w2 hn5 ho5 (Na.dig_lim _) (by omega))
  rw [Na.val_dig] at HR
  have HB2 := Lib.hid hb5
  clear hn5 ho5 hb5
  go_wp2_with fail
  refine HR.out.mono ?_
  rintro e w9 ⟨A9, n9, c9, rfl, hn9, ho9, hb9⟩
  have HN9 := Lib.hid hn9
  have HO9 := Lib.hid ho9
  have HB9 := Lib.hid (btr HB2.out hb9)
  have hk9 : w9.cell? ⟨w.heap.size + 2, 0, none⟩ = some (.slice none 0 0) := (HB9.out.cell (p := ⟨w.heap.size + 2, 0, none⟩) (by simp; omega)).trans hd2
  have hk9f : w9.frozen? ⟨w.heap.size + 2, 0, none⟩ = false := (HB9.out.frozen (p := ⟨w.heap.size + 2, 0, none⟩) (by simp; omega)).trans hg2
  clear hn9 ho9 hb9 hd0 hd1 hd2 hg2
  go_wp2_with fail
  refine bodyPost_ret (v := .tuple #[.agg #[.slice A9 n9 c9], .int .i64 (resE (x * y))]) (by simp [results, Tryd.results100, go_sem, hk9]) rfl ?_
  exact resN_cell HO9.out HN9.out (by omega) (by omega) (HB1.out.trans (HB9.out.mono HB1.out.size)) (by omega) _ _
theorem nmul_any (A A2 : Option Addr) (n c m c2 : Nat) (zs ys : List Int) (w : World) (hn : zs.length = n) (hm : ys.length = m) (hs : Sl w w.heap.size A (ints zs)) (hs2 : Sl w w.heap.size A2 (ints ys)) (hl : n ≤ 140737488351232) (hl2 : m ≤ 140737488351232) :
    Calls Tryd.prog 100 #[.agg #[.slice A n c], .agg #[.slice A2 m c2]] w (ResN w (mulL zs ys) (mulE zs ys)) := by
  cases hv : (Na.vld zs && Na.vld ys)
  · have e1 : mulL zs ys = [] := by unfold mulL; rw [hv]; rfl
    have e2 : mulE zs ys = 1 := by unfold mulE; rw [hv]; rfl
    rw [e1, e2]
    exact nmul_bad A A2 n c m c2 zs ys w hn hm hs hs2 hl hl2 hv
  · obtain ⟨x, y, hx, hy, rfl, rfl⟩ := vv_ex hv
    rw [(mul_ok hx hy).1, (mul_ok hx hy).2]
    rw [nats_up] at hs hs2
    rw [Na.up_length] at hn hm
    exact nmul_ok A A2 n c m c2 x y w hn hm hs hs2 hx hy
end Go.Proofs.YtjhaogbopmhkoaaDoor
