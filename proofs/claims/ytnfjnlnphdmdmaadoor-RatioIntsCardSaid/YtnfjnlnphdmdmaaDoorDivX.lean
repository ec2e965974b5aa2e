/- nat.Divide. -/
import Derived.Test.YtnfjnlnphdmdmaaDoorDivW
import Derived.Test.YtnfjnlnphdmdmaaDoorNatT
namespace Go.Proofs.YtnfjnlnphdmdmaaDoor
open Go.RowKit
set_option linter.unusedVariables false
set_option maxRecDepth 100000
def ResD (w : World) (l1 l2 : List Nat) (err : Int) (en : Ending) (w' : World) : Prop :=
  ∃ (A1 : Option Addr) (n1 c1 : Nat) (A2 : Option Addr) (n2 c2 : Nat), en = .returned (.tuple #[.agg #[.slice A1 n1 c1], .agg #[.slice A2 n2 c2], .int .i64 err]) ∧ l1.length = n1 ∧ l2.length = n2 ∧ w'.ownsRow w.heap.size 3 1 (.slice A1 n1 c1) n1 (nats l1) ∧ w'.ownsRow w.heap.size 3 1 (.slice A2 n2 c2) n2 (nats l2) ∧ Below w.heap.size w w'
theorem resD_nil (w w' : World) (err : Int) (h : Below w.heap.size w w') : ResD w [] [] err (.returned (.tuple #[.agg #[.slice none 0 0], .agg #[.slice none 0 0], .int .i64 err])) w' := ⟨none, 0, 0, none, 0, 0, rfl, rfl, rfl, World.ownsRow_nil _ _ _ _, World.ownsRow_nil _ _ _ _, h⟩
theorem trim_own {w : World} {base : Nat} {A : Option Addr} {n c : Nat} {l : List Nat} (ho : w.ownsRow base 3 1 (.slice A n c) n (nats l)) (hn : l.length = n) (hl : Na.Lim l) : Na.tl l n = (Na.dig (Na.val l)).length ∧ w.ownsRow base 3 1 (.slice A (Na.tl l n) c) (Na.tl l n) (nats (Na.dig (Na.val l))) := by
  subst hn
  refine ⟨Na.trim_len hl, ?_⟩
  have h := own_take ho (k := Na.tl l l.length) (Na.tl_le _ _)
  rw [nats_take] at h
  have e := Na.trim_dig hl
  unfold Na.trim at e
  rwa [e] at h
set_option maxHeartbeats 2000000 in
theorem nDivide_ok (A A2 : Option Addr) (n c m c2 : Nat) (x y : Nat) (w : World) (hn : (Na.dig x).length = n) (hm : (Na.dig y).length = m) (hs : Sl w w.heap.size A (nats (Na.dig x))) (hs2 : Sl w w.heap.size A2 (nats (Na.dig y))) (hx : x < Na.top) (hy : y < Na.top) (hy0 : 0 < y) :
    Calls Tryd.prog 55 #[.agg #[.slice A n c], .agg #[.slice A2 m c2]] w (ResD w (Na.dig (x / y)) (Na.dig (x % y)) 0) := by
  have hn2 : n ≤ 200 := by rw [← hn]; exact (Na.dig_200 x).2 hx
  have hm2 : m ≤ 200 := by rw [← hm]; exact (Na.dig_200 y).2 hy
  have hm0 : ((m : Int) == 0) = false := by
    rw [beq_eq_false_iff_ne]
    intro e
    have : m = 0 := by omega
    rw [this] at hm
    have := Na.dig_len0.1 hm
    omega
  obtain ⟨w0, hw0⟩ : ∃ w0, (((w.alloc (.cells #[.slice A n c] 25)).alloc (.cells #[.slice A2 m c2] 25)).alloc (.cells #[.slice none 0 0] 25)).alloc (.cells #[.slice none 0 0] 25) = w0 := ⟨_, rfl⟩
  have HW : Hid ((((w.alloc (.cells #[.slice A n c] 25)).alloc (.cells #[.slice A2 m c2] 25)).alloc (.cells #[.slice none 0 0] 25)).alloc (.cells #[.slice none 0 0] 25) = w0) := hw0
  obtain ⟨b, hb⟩ : ∃ b, w.heap.size = b := ⟨_, rfl⟩
  have hb0 : Below w.heap.size w w0 := by rw [← hw0]; exact bal (bal (bal (bal (Below.refl _ _) _) _) _) _
  have hzw : b + 4 ≤ w0.heap.size := by rw [← hw0, ← hb]; simp
  have k0 : w0.cell? ⟨b, 0, none⟩ = some (.slice A n c) := by rw [← hw0, ← hb]; simp [go_sem]
  have k1 : w0.cell? ⟨b + 1, 0, none⟩ = some (.slice A2 m c2) := by rw [← hw0, ← hb]; simp [go_sem]
  have k2 : w0.cell? ⟨b + 1 + 1, 0, none⟩ = some (.slice none 0 0) := by rw [← hw0, ← hb]; simp [go_sem]
  have k3 : w0.cell? ⟨b + 1 + 1 + 1, 0, none⟩ = some (.slice none 0 0) := by rw [← hw0, ← hb]; simp [go_sem]
  have f2 : w0.frozen? ⟨b + 1 + 1, 0, none⟩ = false := by rw [← hw0, ← hb]; simp [go_sem]
  have f3 : w0.frozen? ⟨b + 1 + 1 + 1, 0, none⟩ = false := by rw [← hw0, ← hb]; simp [go_sem]
  have hvv : (Na.vld (Na.up (Na.dig x)) && Na.vld (Na.up (Na.dig y))) = true := by rw [Na.vld_dig hx, Na.vld_dig hy]; rfl
  have HV := Lib.hid (nboth_any A A2 n c m c2 w0.heap.size _ _ w0 (by rw [Na.up_length]; exact hn) (by rw [Na.up_length]; exact hm) (by rw [nats_up]; exact (hs.below hb0).more hb0.size) (by rw [nats_up]; exact (hs2.below hb0).more hb0.size) (Nat.le_refl _) (by omega) (by omega))
  rw [hvv] at HV
  have HN := Lib.hid hn
  have HM := Lib.hid hm
  have HS := Lib.hid hs
  have HS2 := Lib.hid hs2
  have HB0 := Lib.hid hb0
  have HY := Lib.hid hy0
  have HBw := Lib.hid hb
  have HK : Hid (∀ W, Below w0.heap.size w0 W → W.cell? ⟨b, 0, none⟩ = some (.slice A n c) ∧ W.cell? ⟨b + 1, 0, none⟩ = some (.slice A2 m c2) ∧ W.cell? ⟨b + 1 + 1, 0, none⟩ = some (.slice none 0 0) ∧ W.cell? ⟨b + 1 + 1 + 1, 0, none⟩ = some (.slice none 0 0) ∧ W.frozen? ⟨b + 1 + 1, 0, none⟩ = false ∧ W.frozen? ⟨b + 1 + 1 + 1, 0, none⟩ = false) := fun W h =>
    ⟨(h.cell (p := ⟨b, 0, none⟩) (by simp only; omega)).trans k0, (h.cell (p := ⟨b + 1, 0, none⟩) (by simp only; omega)).trans k1, (h.cell (p := ⟨b + 1 + 1, 0, none⟩) (by simp only; omega)).trans k2, (h.cell (p := ⟨b + 1 + 1 + 1, 0, none⟩) (by simp only; omega)).trans k3, (h.frozen (p := ⟨b + 1 + 1, 0, none⟩) (by simp only; omega)).trans f2, (h.frozen (p := ⟨b + 1 + 1 + 1, 0, none⟩) (by simp only; omega)).trans f3⟩
  clear hs hs2 hn hm hw0 hvv hx hy hb k0 k1 k2 k3 f2 f3 hb0 hy0
  go_enter Tryd.func55, Tryd.ntmps55
  go_wp2_with fail
  rw [HW.out, HBw.out]
  refine HV.out.mono ?_
  rintro e w1 ⟨rfl, hb1⟩
  obtain ⟨k0, k1, -, -, -, -⟩ := HK.out w1 hb1
  have HB1 := Lib.hid hb1
  clear hb1 HV HW
  go_wp2_with fail
  have HBt : Hid (Below w.heap.size w w1) := btr HB0.out HB1.out
  refine (ndivide_any A A2 n c m c2 x y w1 HN.out HM.out ((HS.out.below HBt.out).more HBt.out.size) ((HS2.out.below HBt.out).more HBt.out.size) (by omega) (by omega) HY.out).mono ?_
  rintro e w2 ⟨A3, n3, c3, Q, A4, n4, c4, R, rfl, ⟨q1, q2, q3, q4⟩, ⟨r1, r2, r3, r4⟩, ho1, ho2, hb2⟩
  obtain ⟨-, -, k2, k3, f2, f3⟩ := HK.out w2 (btr HB1.out hb2)
  have HT1 := Lib.hid (ntrim_any A3 n3 c3 w2.heap.size Q w2 q1 (Sl.of_own ho1) (own_cap ho1).1 (by omega))
  have HT2 := Lib.hid (ntrim_any A4 n4 c4 w2.heap.size R w2 r1 (Sl.of_own ho2) (own_cap ho2).1 (by omega))
  obtain ⟨e1, o1⟩ := trim_own ho1 q1 q2
  obtain ⟨e2, o2⟩ := trim_own ho2 r1 r2
  rw [q3] at e1 o1
  rw [r3] at e2 o2
  have HQ := Lib.hid (And.intro e1 o1)
  have HR := Lib.hid (And.intro e2 o2)
  have HB2 := Lib.hid (btr HBt.out hb2)
  obtain ⟨s1, hs1⟩ : ∃ s, Na.tl Q n3 = s := ⟨_, rfl⟩
  obtain ⟨s2, hs2⟩ : ∃ s, Na.tl R n4 = s := ⟨_, rfl⟩
  rw [hs1] at HT1 HQ
  rw [hs2] at HT2 HR
  clear q1 q2 q3 r1 r2 r3 ho1 ho2 hb2 e1 o1 e2 o2 k0 k1 hs1 hs2 HK
  have k3' : (w2.setCell ⟨b + 1 + 1, 0, none⟩ (.slice A3 s1 c3)).cell? ⟨b + 1 + 1 + 1, 0, none⟩ = some (.slice none 0 0) := by rw [World.cell?_setCell_other _ _ _ _ (by simp)]; exact k3
  go_wp2_with fail
  refine HT1.out.mono ?_
  rintro e w2' ⟨rfl, rfl⟩
  go_wp2_with fail
  refine HT2.out.mono ?_
  rintro e w2' ⟨rfl, rfl⟩
  go_wp2_with fail
  have hc1 : ((w2.setCell ⟨b + 1 + 1, 0, none⟩ (.slice A3 s1 c3)).setCell ⟨b + 1 + 1 + 1, 0, none⟩ (.slice A4 s2 c4)).cell? ⟨b + 1 + 1, 0, none⟩ = some (.slice A3 s1 c3) := by rw [World.cell?_setCell_other _ _ _ _ (by simp)]; exact cell_of_set _ k2
  have hc2 : ((w2.setCell ⟨b + 1 + 1, 0, none⟩ (.slice A3 s1 c3)).setCell ⟨b + 1 + 1 + 1, 0, none⟩ (.slice A4 s2 c4)).cell? ⟨b + 1 + 1 + 1, 0, none⟩ = some (.slice A4 s2 c4) := cell_of_set _ k3'
  have hbw := HBw.out
  have h14 : b + 4 ≤ w1.heap.size := Nat.le_trans hzw HB1.out.size
  refine bodyPost_ret (v := .tuple #[.agg #[.slice A3 s1 c3], .agg #[.slice A4 s2 c4], .int .i64 0]) (by simp [results, Tryd.results55, go_sem, hc1, hc2]) rfl ?_
  exact ⟨A3, s1, c3, A4, s2, c4, rfl, HQ.out.1.symm, HR.out.1.symm, own_more (own_setLow (own_setLow HQ.out.2 _ _ (by simp only; omega)) _ _ (by simp only; omega)) HBt.out.size, own_more (own_setLow (own_setLow HR.out.2 _ _ (by simp only; omega)) _ _ (by simp only; omega)) HBt.out.size, bset (bset HB2.out _ (by simp only; omega) _) _ (by simp only; omega) _⟩
set_option maxHeartbeats 1000000 in
theorem nDivide_zero (A A2 : Option Addr) (n c c2 : Nat) (zs ys : List Int) (w : World) (hn : zs.length = n) (hm : ys.length = 0) (hs : Sl w w.heap.size A (ints zs)) (hs2 : Sl w w.heap.size A2 (ints ys)) (hl : n ≤ 140737488351232) (hv : (Na.vld zs && Na.vld ys) = true) :
    Calls Tryd.prog 55 #[.agg #[.slice A n c], .agg #[.slice A2 0 c2]] w (ResD w [] [] 4) := by
  obtain ⟨w0, hw0⟩ : ∃ w0, (((w.alloc (.cells #[.slice A n c] 25)).alloc (.cells #[.slice A2 0 c2] 25)).alloc (.cells #[.slice none 0 0] 25)).alloc (.cells #[.slice none 0 0] 25) = w0 := ⟨_, rfl⟩
  have HW : Hid ((((w.alloc (.cells #[.slice A n c] 25)).alloc (.cells #[.slice A2 0 c2] 25)).alloc (.cells #[.slice none 0 0] 25)).alloc (.cells #[.slice none 0 0] 25) = w0) := hw0
  obtain ⟨b, hb⟩ : ∃ b, w.heap.size = b := ⟨_, rfl⟩
  have hb0 : Below w.heap.size w w0 := by rw [← hw0]; exact bal (bal (bal (bal (Below.refl _ _) _) _) _) _
  have hzw : b + 4 ≤ w0.heap.size := by rw [← hw0, ← hb]; simp
  have k1 : w0.cell? ⟨b + 1, 0, none⟩ = some (.slice A2 0 c2) := by rw [← hw0, ← hb]; simp [go_sem]
  have k2 : w0.cell? ⟨b + 1 + 1, 0, none⟩ = some (.slice none 0 0) := by rw [← hw0, ← hb]; simp [go_sem]
  have k3 : w0.cell? ⟨b + 1 + 1 + 1, 0, none⟩ = some (.slice none 0 0) := by rw [← hw0, ← hb]; simp [go_sem]
  have f2 : w0.frozen? ⟨b + 1 + 1, 0, none⟩ = false := by rw [← hw0, ← hb]; simp [go_sem]
  have f3 : w0.frozen? ⟨b + 1 + 1 + 1, 0, none⟩ = false := by rw [← hw0, ← hb]; simp [go_sem]
  have HV := Lib.hid (nboth_any A A2 n c 0 c2 w0.heap.size _ _ w0 hn hm ((hs.below hb0).more hb0.size) ((hs2.below hb0).more hb0.size) (Nat.le_refl _) hl (by omega))
  rw [hv] at HV
  have HB0 := Lib.hid hb0
  have HBw := Lib.hid hb
  clear hs hs2 hn hm hw0 hb hb0 hv
  go_enter Tryd.func55, Tryd.ntmps55
  go_wp2_with fail
  rw [HW.out, HBw.out]
  refine HV.out.mono ?_
  rintro e w1 ⟨rfl, hb1⟩
  have k1' := (hb1.cell (p := ⟨b + 1, 0, none⟩) (by simp only; omega)).trans k1
  have k2' := (hb1.cell (p := ⟨b + 1 + 1, 0, none⟩) (by simp only; omega)).trans k2
  have k3' := (hb1.cell (p := ⟨b + 1 + 1 + 1, 0, none⟩) (by simp only; omega)).trans k3
  have f2' := (hb1.frozen (p := ⟨b + 1 + 1, 0, none⟩) (by simp only; omega)).trans f2
  have f3' := (hb1.frozen (p := ⟨b + 1 + 1 + 1, 0, none⟩) (by simp only; omega)).trans f3
  have HB1 := Lib.hid (btr HB0.out hb1)
  have k4 : (w1.setCell ⟨b + 1 + 1, 0, none⟩ (.slice none 0 0)).cell? ⟨b + 1 + 1 + 1, 0, none⟩ = some (.slice none 0 0) := by rw [World.cell?_setCell_other _ _ _ _ (by simp)]; exact k3'
  have hc1 : ((w1.setCell ⟨b + 1 + 1, 0, none⟩ (.slice none 0 0)).setCell ⟨b + 1 + 1 + 1, 0, none⟩ (.slice none 0 0)).cell? ⟨b + 1 + 1, 0, none⟩ = some (.slice none 0 0) := by rw [World.cell?_setCell_other _ _ _ _ (by simp)]; exact cell_of_set _ k2'
  have hc2 : ((w1.setCell ⟨b + 1 + 1, 0, none⟩ (.slice none 0 0)).setCell ⟨b + 1 + 1 + 1, 0, none⟩ (.slice none 0 0)).cell? ⟨b + 1 + 1 + 1, 0, none⟩ = some (.slice none 0 0) := cell_of_set _ k4
  clear hb1 k1 k2 k3 f2 f3 HV HW
  go_wp2_with fail
  have hbw := HBw.out
  refine bodyPost_ret (v := .tuple #[.agg #[.slice none 0 0], .agg #[.slice none 0 0], .int .i64 4]) (by simp [results, Tryd.results55, go_sem, hc1, hc2]) rfl ?_
  exact resD_nil _ _ _ (bset (bset HB1.out _ (by simp only; omega) _) _ (by simp only; omega) _)
set_option maxHeartbeats 1000000 in
theorem nDivide_bad (A A2 : Option Addr) (n c m c2 : Nat) (zs ys : List Int) (w : World) (hn : zs.length = n) (hm : ys.length = m) (hs : Sl w w.heap.size A (ints zs)) (hs2 : Sl w w.heap.size A2 (ints ys)) (hl : n ≤ 140737488351232) (hl2 : m ≤ 140737488351232) (hv : (Na.vld zs && Na.vld ys) = false) :
    Calls Tryd.prog 55 #[.agg #[.slice A n c], .agg #[.slice A2 m c2]] w (ResD w [] [] 1) := by
  obtain ⟨w0, hw0⟩ : ∃ w0, (((w.alloc (.cells #[.slice A n c] 25)).alloc (.cells #[.slice A2 m c2] 25)).alloc (.cells #[.slice none 0 0] 25)).alloc (.cells #[.slice none 0 0] 25) = w0 := ⟨_, rfl⟩
  have HW : Hid ((((w.alloc (.cells #[.slice A n c] 25)).alloc (.cells #[.slice A2 m c2] 25)).alloc (.cells #[.slice none 0 0] 25)).alloc (.cells #[.slice none 0 0] 25) = w0) := hw0
  obtain ⟨b, hb⟩ : ∃ b, w.heap.size = b := ⟨_, rfl⟩
  have hb0 : Below w.heap.size w w0 := by rw [← hw0]; exact bal (bal (bal (bal (Below.refl _ _) _) _) _) _
  have hzw : b + 4 ≤ w0.heap.size := by rw [← hw0, ← hb]; simp
  have k1 : w0.cell? ⟨b + 1, 0, none⟩ = some (.slice A2 m c2) := by rw [← hw0, ← hb]; simp [go_sem]
  have k2 : w0.cell? ⟨b + 1 + 1, 0, none⟩ = some (.slice none 0 0) := by rw [← hw0, ← hb]; simp [go_sem]
  have k3 : w0.cell? ⟨b + 1 + 1 + 1, 0, none⟩ = some (.slice none 0 0) := by rw [← hw0, ← hb]; simp [go_sem]
  have f2 : w0.frozen? ⟨b + 1 + 1, 0, none⟩ = false := by rw [← hw0, ← hb]; simp [go_sem]
  have f3 : w0.frozen? ⟨b + 1 + 1 + 1, 0, none⟩ = false := by rw [← hw0, ← hb]; simp [go_sem]
  have HV := Lib.hid (nboth_any A A2 n c m c2 w0.heap.size _ _ w0 hn hm ((hs.below hb0).more hb0.size) ((hs2.below hb0).more hb0.size) (Nat.le_refl _) hl hl2)
  rw [hv] at HV
  have HB0 := Lib.hid hb0
  have HBw := Lib.hid hb
  clear hs hs2 hn hm hw0 hb hb0 hv
  go_enter Tryd.func55, Tryd.ntmps55
  go_wp2_with fail
  rw [HW.out, HBw.out]
  refine HV.out.mono ?_
  rintro e w1 ⟨rfl, hb1⟩
  have k1' := (hb1.cell (p := ⟨b + 1, 0, none⟩) (by simp only; omega)).trans k1
  have k2' := (hb1.cell (p := ⟨b + 1 + 1, 0, none⟩) (by simp only; omega)).trans k2
  have k3' := (hb1.cell (p := ⟨b + 1 + 1 + 1, 0, none⟩) (by simp only; omega)).trans k3
  have f2' := (hb1.frozen (p := ⟨b + 1 + 1, 0, none⟩) (by simp only; omega)).trans f2
  have f3' := (hb1.frozen (p := ⟨b + 1 + 1 + 1, 0, none⟩) (by simp only; omega)).trans f3
  have HB1 := Lib.hid (btr HB0.out hb1)
  have k4 : (w1.setCell ⟨b + 1 + 1, 0, none⟩ (.slice none 0 0)).cell? ⟨b + 1 + 1 + 1, 0, none⟩ = some (.slice none 0 0) := by rw [World.cell?_setCell_other _ _ _ _ (by simp)]; exact k3'
  have hc1 : ((w1.setCell ⟨b + 1 + 1, 0, none⟩ (.slice none 0 0)).setCell ⟨b + 1 + 1 + 1, 0, none⟩ (.slice none 0 0)).cell? ⟨b + 1 + 1, 0, none⟩ = some (.slice none 0 0) := by rw [World.cell?_setCell_other _ _ _ _ (by simp)]; exact cell_of_set _ k2'
  have hc2 : ((w1.setCell ⟨b + 1 + 1, 0, none⟩ (.slice none 0 0)).setCell ⟨b + 1 + 1 + 1, 0, none⟩ (.slice none 0 0)).cell? ⟨b + 1 + 1 + 1, 0, none⟩ = some (.slice none 0 0) := cell_of_set _ k4
  clear hb1 k1 k2 k3 f2 f3 HV HW
  go_wp2_with fail
  have hbw := HBw.out
  refine bodyPost_ret (v := .tuple #[.agg #[.slice none 0 0], .agg #[.slice none 0 0], .int .i64 1]) (by simp [results, Tryd.results55, go_sem, hc1, hc2]) rfl ?_
  exact resD_nil _ _ _ (bset (bset HB1.out _ (by simp only; omega) _) _ (by simp only; omega) _)
section
variable {w0 w w' : World} {g : Option Nat} {M : List (Nat × Value)} {L : List Ob} {A A2 : Option Addr} {n c m c2 x y : Nat}
theorem St.push2 (h : St w0 w g M L) {B1 B2 : Option Addr} {n1 d1 n2 d2 : Nat} {us vs : List Value} {e : TypeId} (ho : w'.ownsRow w.heap.size e 1 (.slice B1 n1 d1) n1 us) (ho2 : w'.ownsRow w.heap.size e 1 (.slice B2 n2 d2) n2 vs) (hl : n1 ≤ 1000) (hl2 : n2 ≤ 1000) (hb : Below w.heap.size w w') : St w0 w' g M (L ++ [⟨B1, n1, d1, us⟩] ++ [⟨B2, n2, d2, vs⟩]) := by
  refine (h.push ho hl hb).add (Sl.of_own ho2) (Nat.le_refl _) (own_len ho2) (own_cap ho2).1 hl2 fun ad e h0 => ?_
  obtain ⟨g', hg', h1, _⟩ := own_form ho2 h0
  rw [e] at hg'
  obtain rfl := Option.some.inj hg'
  exact ⟨fun e2 => by have := (h.lt _ e2).1; simp only at this; omega, fun i b v hi e2 => by have := (h.box i b v hi).1; simp only at e2; omega⟩
def GotD (w0 : World) (g : Option Nat) (M : List (Nat × Value)) (L : List Ob) (l1 l2 : List Nat) (err : Int) (en : Ending) (w' : World) : Prop :=
  ∃ (A1 : Option Addr) (n1 c1 : Nat) (A2 : Option Addr) (n2 c2 : Nat), en = .returned (.tuple #[.agg #[.slice A1 n1 c1], .agg #[.slice A2 n2 c2], .int .i64 err]) ∧ St w0 w' g M (L ++ [⟨A1, n1, c1, nats l1⟩] ++ [⟨A2, n2, c2, nats l2⟩]) ∧ l1.length = n1 ∧ l2.length = n2
theorem got_resD (h : St w0 w g M L) {l1 l2 : List Nat} {e : Int} (h1 : l1.length ≤ 1000) (h2 : l2.length ≤ 1000) {en : Ending} (hr : ResD w l1 l2 e en w') : GotD w0 g M L l1 l2 e en w' := by
  obtain ⟨A1, n1, c1, A2, n2, c2, rfl, k1, k2, o1, o2, hb⟩ := hr
  exact ⟨A1, n1, c1, A2, n2, c2, rfl, h.push2 o1 o2 (by omega) (by omega) hb, k1, k2⟩
theorem divide_st (h : St w0 w g M L) (i j : Nat) (hi : L[i]? = some ⟨A, n, c, nats (Na.dig x)⟩) (hj : L[j]? = some ⟨A2, m, c2, nats (Na.dig y)⟩) (hx : x < Na.top) (hy : y < Na.top) (hy0 : 0 < y) :
    Calls Tryd.prog 55 #[.agg #[.slice A n c], .agg #[.slice A2 m c2]] w (GotD w0 g M L (Na.dig (x / y)) (Na.dig (x % y)) 0) := by
  obtain ⟨h1, h2, h3, h4⟩ := h.sl hi
  obtain ⟨k1, k2, k3, k4⟩ := h.sl hj
  rw [nats_length] at h1 k1
  have e1 := (Na.dig_200 (x / y)).2 (Nat.lt_of_le_of_lt (Nat.div_le_self x y) hx)
  have e2 := (Na.dig_200 (x % y)).2 (Nat.lt_of_le_of_lt (Nat.mod_le x y) hx)
  exact (nDivide_ok A A2 n c m c2 x y w h1 k1 h4 k4 hx hy hy0).mono fun en w' hr => got_resD h (by omega) (by omega) hr
theorem divide_zero_st (h : St w0 w g M L) (i j : Nat) (hi : L[i]? = some ⟨A, n, c, nats (Na.dig x)⟩) (hj : L[j]? = some ⟨A2, 0, c2, nats (Na.dig 0)⟩) (hx : x < Na.top) :
    Calls Tryd.prog 55 #[.agg #[.slice A n c], .agg #[.slice A2 0 c2]] w (GotD w0 g M L [] [] 4) := by
  obtain ⟨h1, h2, h3, h4⟩ := h.sl hi
  obtain ⟨k1, k2, k3, k4⟩ := h.sl hj
  rw [nats_length] at h1 k1
  have ht : 0 < Na.top := Nat.lt_of_le_of_lt (Nat.zero_le _) hx
  exact (nDivide_zero A A2 n c c2 (Na.up (Na.dig x)) (Na.up (Na.dig 0)) w (by rw [Na.up_length]; exact h1) (by rw [Na.up_length]; exact k1) (by rw [nats_up]; exact h4) (by rw [nats_up]; exact k4) (by omega) (by rw [Na.vld_dig hx, Na.vld_dig ht]; rfl)).mono fun en w' hr => got_resD h (Nat.zero_le _) (Nat.zero_le _) hr
end
end Go.Proofs.YtnfjnlnphdmdmaaDoor
