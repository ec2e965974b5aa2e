/- NatF NatS NatG NatH NatJ -/
import Derived.Test.YtenokdhldngkgaaGreatDoorE01
import Derived.Test.YtenokdhldngkgaaGreatDoorE02
import Derived.RegionIn
import Derived.Lib.IndexBytes
import Derived.Lib.BufferRead
import Derived.RegionTactic
import Derived.ChangeAlike
namespace Go.Proofs.YtenokdhldngkgaaGreatDoor
open Go.RowKit
set_option linter.unusedVariables false
set_option maxRecDepth 100000
def NPr (w : World) (B : Nat) (X Y : List Nat) (n N g c : Nat) (i : Value) (wr : World) : Prop :=
 ∃ (k : Nat) (out : List Nat), k ≤ n ∧ i = .int .i64 (k : Int) ∧ Hid (out.length = N ∧ Na.Cols out 281474976710656 k 0 ∧ Na.val out = Na.val (X.take k) * Na.val Y) ∧ wr.ownsRow B 3 1 (.slice (some ⟨g, 0, none⟩) N c) N (nats out) ∧ Below B w wr
def NPi (w : World) (B : Nat) (X Y : List Nat) (a i m N g c : Nat) (v : Value) (wr : World) : Prop :=
 ∃ (k : Nat) (out : List Nat), k ≤ m ∧ v = .int .i64 (k : Int) ∧ Hid (out.length = N ∧ Na.Cols out 281474976710656 i k ∧ Na.val out = Na.val (X.take i) * Na.val Y + 16777216 ^ i * (a * Na.val (Y.take k))) ∧ wr.ownsRow B 3 1 (.slice (some ⟨g, 0, none⟩) N c) N (nats out) ∧ Below B w wr
def NPc (w : World) (B : Nat) (out : List Nat) (V N g c : Nat) (i cr : Value) (wr : World) : Prop :=
 ∃ (k r : Nat) (o : List Nat), k ≤ N ∧ i = .int .i64 (k : Int) ∧ cr = .int .i64 (r : Int) ∧ r ≤ 288230376151711744 ∧ Hid (o.length = k ∧ Na.Lim o ∧ Na.val o + 16777216 ^ k * (r + Na.val (out.drop k)) = V) ∧ wr.ownsRow B 3 1 (.slice (some ⟨g, 0, none⟩) N c) N (nats (o ++ out.drop k)) ∧ Below B w wr
theorem made_nats (n : Nat) : nats (List.replicate n 0) = List.replicate n (.int .i64 0) := by simp [nats, encN]
set_option maxHeartbeats 4000000 in
theorem nproduct_any (A A2 : Option Addr) (n c m c2 : Nat) (X Y : List Nat) (w : World) (hn : X.length = n) (hm : Y.length = m) (hs : Sl w w.heap.size A (nats X)) (hs2 : Sl w w.heap.size A2 (nats Y)) (hX : Na.Lim X) (hY : Na.Lim Y) (hl : n ≤ 1000) (hl2 : m ≤ 1000) :
  Calls Tryz.prog 184 #[.slice A n c, .slice A2 m c2] w (FreshN w (Na.dig (Na.val X * Na.val Y))) := by
 obtain ⟨i0, hi, hz0, hz1, hz2⟩ := info_parts infoI
 rcases Nat.eq_zero_or_pos n with h0 | h0
 ·subst h0
  have hx : X = [] := List.eq_nil_of_length_eq_zero hn
  have HR : Hid (Na.dig (Na.val X * Na.val Y) = []) := by unfold Hid; rw [hx, Na.val, Nat.zero_mul, Na.dig_zero]
  clear hs hs2 hn hm hx
  go_enter Tryz.func184, Tryz.ntmps184
  go_wp2_with fail
  go_ret
  rw [HR.out]
  exact ⟨none, 0, 0, rfl, rfl, World.ownsRow_nil _ _ _ _, Below.refl _ _⟩
 ·have hz := nat_ne0 h0
  rcases Nat.eq_zero_or_pos m with h1 | h1
  ·subst h1
   have hx : Y = [] := List.eq_nil_of_length_eq_zero hm
   have HR : Hid (Na.dig (Na.val X * Na.val Y) = []) := by unfold Hid; rw [hx, Na.val, Nat.mul_zero, Na.dig_zero]
   clear hs hs2 hn hm hx
   go_enter Tryz.func184, Tryz.ntmps184
   go_wp2_with fail
   go_ret
   rw [HR.out]
   exact ⟨none, 0, 0, rfl, rfl, World.ownsRow_nil _ _ _ _, Below.refl _ _⟩
  ·have hz2' := nat_ne0 h1
   have hmk := run_make_one (P := Tryz.prog) 22 3 i0 (.int .i64 0) Tryz.underlying22 hi hz0 hz1 .i64 .i64 ((n : Int) + (m : Int)) ((n : Int) + (m : Int)) (n + m) (n + m) (by omega) (by omega) (Nat.le_refl _) (by rw [hz2]; omega) (by omega)
   have HN := Lib.hid hn
   have HM := Lib.hid hm
   have HS := Lib.hid hs
   have HS2 := Lib.hid hs2
   have HO0 : Hid ((w.alloc (.cells (madeCells #[Value.int .i64 0] (n + m)) 3)).ownsRow w.heap.size 3 1 (.slice (some ⟨w.heap.size, 0, none⟩) (n + m) (n + m)) (n + m) (nats (List.replicate (n + m) 0))) := by
    rw [made_nats]
    exact own_made w 3 (.int .i64 0) (n + m) (n + m) rfl (Nat.le_refl _) (by unfold maxLen; omega)
   have HB0 := Lib.hid (bal (Below.refl w.heap.size w) (.cells (madeCells #[Value.int .i64 0] (n + m)) 3))
   clear hs hs2 hn hm
   go_enter Tryz.func184, Tryz.ntmps184
   go_wp2_with fail
   clear hmk
   go_loopw [28] (fun i wr => NPr w w.heap.size X Y n (n + m) w.heap.size (n + m) i wr) (fun i _ => n - (intOf i).toNat)
   case atStart => exact ⟨0, _, Nat.zero_le _, rfl, ⟨List.length_replicate, Na.cols_zero _ _, by rw [Na.val_zeros]; simp [Na.val]⟩, HO0.out, HB0.out⟩
   case round =>
    clear HO0 HB0
    obtain ⟨i, out, hin, rfl, HP, ho, hb⟩ := hrel
    have HO := Lib.hid ho
    have HB := Lib.hid hb
    clear ho hb
    rcases Nat.lt_or_ge i n with hlt | hge
    ·obtain ⟨a, ha⟩ := nat_at X i (by rw [HN.out]; exact hlt)
     obtain ⟨ad, rfl, hbk, hca⟩ := (HS.out.below HB.out).nat ha
     have ha24 := hX.at ha
     have HRow := Lib.hid (Na.prod_row X Y i a ha)
     clear ha
     go_wp2_with fail
     clear hca
     go_loopw [35] (fun v wr => NPi w w.heap.size X Y a i m (n + m) w.heap.size (n + m) v wr) (fun v _ => m - (intOf v).toNat)
     case atStart => exact ⟨0, out, Nat.zero_le _, rfl, ⟨HP.out.1, HP.out.2.1, by rw [HP.out.2.2]; simp [Na.val]⟩, HO.out, HB.out⟩
     case round =>
      clear HP HO HB
      obtain ⟨k, out, hk, rfl, HP, ho, hb⟩ := hrel
      have HO := Lib.hid ho
      have HB := Lib.hid hb
      rcases Nat.lt_or_ge k m with hkm | hkm
      ·obtain ⟨b, hbb⟩ := nat_at Y k (by rw [HM.out]; exact hkm)
       obtain ⟨e, he⟩ := nat_at out (i + k) (by rw [HP.out.1]; omega)
       obtain ⟨ad2, rfl, hbk2, hcb⟩ := (HS2.out.below hb).nat hbb
       have hce := own_nat ho he
       have hfz := ho.frozenAt (i + k)
       have hp := Na.prod24 ha24 (hY.at hbb)
       obtain ⟨p, hpp⟩ : ∃ p, a * b = p := ⟨_, rfl⟩
       have hp1 : (a : Int) * (b : Int) = (p : Int) := by rw [← hpp]; rfl
       have he2 : e ≤ 281474976710656000 := by
        have h7 := (HP.out.2.1 _ _ he).2 (Nat.le_refl _)
        have h8 := Nat.mul_le_mul_right 281474976710656 (show i ≤ 1000 by omega)
        omega
       have HSt := Lib.hid (Na.prod_step out X Y i k e a b _ he HP.out.2.2 hbb)
       have HCo := Lib.hid (Na.cols_step HP.out.2.1 he hp)
       rw [hpp] at HSt HCo hp
       clear ho hb hbb he hpp
       have s1 : IntKind.i64.wrap ((i : Int) + (k : Int)) = (i : Int) + (k : Int) := IntWalk.i64_in _ (by omega)
       have s2 : 0 ≤ (i : Int) + (k : Int) := by omega
       have s3 : (i : Int) + (k : Int) < (n : Int) + (m : Int) := by omega
       have s4 : ((i : Int) + (k : Int)).toNat = i + k := by omega
       go_wp2_with fail
       go_roundw
       case rel =>
        have o1 := own_put HO.out (i + k) (.int .i64 ((e + p : Nat) : Int))
        rw [nats_set] at o1
        exact ⟨k + 1, out.set (i + k) (e + p), by omega, by go_num, ⟨by rw [List.length_set]; exact HP.out.1, HCo.out, HSt.out⟩, o1, bset HB.out ⟨w.heap.size, i + k, none⟩ (Nat.le_refl _) _⟩
       case measure => simp [intOf]; omega
      ·have hkm' : k = m := by omega
       have HP2 : Hid (out.length = n + m ∧ Na.Cols out 281474976710656 (i + 1) 0 ∧ Na.val out = Na.val (X.take (i + 1)) * Na.val Y) := by
        refine ⟨HP.out.1, Na.cols_row HP.out.2.1, ?_⟩
        have h7 := HP.out.2.2
        rw [hkm', List.take_of_length_le (l := Y) (by rw [HM.out]; exact Nat.le_refl _), HRow.out] at h7
        exact h7
       clear hkm' ho hb
       go_wp2_with fail
       go_roundw
       case rel => exact ⟨i + 1, out, by omega, by go_num, HP2, HO.out, HB.out⟩
       case measure => simp [intOf]; omega
    ·have hin' : i = n := by omega
     have HV : Hid (Na.val out = Na.val X * Na.val Y) := by
      have h7 := HP.out.2.2
      rw [List.take_of_length_le (by rw [HN.out]; exact hge)] at h7
      exact h7
     have HCol : Hid (∀ j e, out[j]? = some e → e ≤ 281756451687366656) := fun j e he => by
      have h7 := (HP.out.2.1 j e he).1
      have h8 := Nat.mul_le_mul_right 281474976710656 (show i + 1 ≤ 1001 by omega)
      omega
     have HLo : Hid (out.length = n + m) := HP.out.1
     clear hin' HP
     go_wp2_with fail
     go_loopw [55, 10] (fun v cr wr => NPc w w.heap.size out (Na.val X * Na.val Y) (n + m) w.heap.size (n + m) v cr wr) (fun v _ _ => n + m - (intOf v).toNat)
     case atStart => exact ⟨0, 0, [], Nat.zero_le _, rfl, rfl, Nat.zero_le _, ⟨rfl, Na.Lim.nil, by simp [Na.val, HV.out]⟩, by simpa using HO.out, HB.out⟩
     case round =>
      clear HO HB
      obtain ⟨k, r, o, hk, rfl, rfl, hr, HP, ho, hb⟩ := hrel
      have HO := Lib.hid ho
      have HB := Lib.hid hb
      rcases Nat.lt_or_ge k (n + m) with hkm | hkm
      ·obtain ⟨e, he⟩ := nat_at out k (by rw [HLo.out]; exact hkm)
       have he2 := HCol.out k e he
       have hce := own_nat ho (Na.get_mid o out k e HP.out.1 he)
       have hfz := ho.frozenAt k
       obtain ⟨t, ht⟩ : ∃ t, r + e = t := ⟨_, rfl⟩
       obtain ⟨q, hq⟩ : ∃ q, t / 16777216 = q := ⟨_, rfl⟩
       obtain ⟨d, hd⟩ : ∃ d, t % 16777216 = d := ⟨_, rfl⟩
       have HSt := Lib.hid (Na.carry_step o out k r e t _ HP.out.1 he HP.out.2.2 ht.symm)
       rw [hq, hd] at HSt
       have hand : bits .and .i64 ((r : Int) + (e : Int)) 16777215 = (d : Int) := by rw [and24]; omega
       have hshr : ((r : Int) + (e : Int)) / 16777216 = (q : Int) := by omega
       have hq1 : q ≤ 288230376151711744 := by omega
       have hd24 : d < 16777216 := by omega
       have HLr := Lib.hid (HP.out.2.1.append (Na.Lim.one hd24))
       have HLl : Hid ((o ++ [d]).length = k + 1) := by unfold Hid; rw [List.length_append, HP.out.1]; rfl
       have HSet := Lib.hid (Na.set_mid o out k d HP.out.1 (by rw [HLo.out]; exact hkm))
       have s3 : (k : Int) < (n : Int) + (m : Int) := by omega
       clear ho hb he ht hq hd
       go_wp2_with fail
       go_roundw
       case rel =>
        have o1 := own_put HO.out k (.int .i64 (d : Int))
        rw [nats_set, HSet.out] at o1
        exact ⟨k + 1, q, o ++ [d], by omega, by go_num, rfl, hq1, ⟨HLl.out, HLr.out, HSt.out⟩, o1, bset HB.out ⟨w.heap.size, k, none⟩ (Nat.le_refl _) _⟩
       case measure => simp [intOf]; omega
      ·have hkm' : k = n + m := by omega
       have HLen : Hid (o.length = n + m) := by unfold Hid; rw [← hkm']; exact HP.out.1
       have HEnd : Hid (Na.val o = Na.val X * Na.val Y) := by
        have h7 := Na.carry_end o out k r _ HP.out.1 (by rw [HLo.out]; exact hkm) HP.out.2.2 (by have := Na.val_mul_lt hX hY; rw [HN.out, HM.out] at this; rw [hkm']; exact this)
        exact h7
       have HOwn : Hid (wr.ownsRow w.heap.size 3 1 (.slice (some ⟨w.heap.size, 0, none⟩) (n + m) (n + m)) (n + m) (nats o)) := by
        have h7 := ho
        rw [List.drop_of_length_le (by rw [HLo.out]; exact hkm), List.append_nil] at h7
        exact h7
       have HTr := Lib.hid (ntrim_any (some ⟨w.heap.size, 0, none⟩) (n + m) (n + m) _ o wr HLen.out (Sl.of_own HOwn.out) (Nat.le_refl _) (by omega))
       have HT2 := Lib.hid (Na.trim_dig HP.out.2.1)
       clear ho hb hkm'
       go_wp2_with fail
       refine HTr.out.mono ?_
       rintro e w9 ⟨rfl, rfl⟩
       go_wp2_with fail
       go_ret
       rw [← HEnd.out, ← HT2.out]
       refine ⟨_, _, _, rfl, ?_, ?_, HB.out⟩
       ·rw [Na.trim_length, HLen.out]
       ·unfold Na.trim
        rw [HLen.out, ← nats_take]
        exact own_take HOwn.out (Na.tl_le o (n + m))

set_option maxHeartbeats 1000000 in
theorem nmul_bad (A A2 : Option Addr) (n c m c2 : Nat) (zs ys : List Int) (w : World) (hn : zs.length = n) (hm : ys.length = m) (hs : Sl w w.heap.size A (ints zs)) (hs2 : Sl w w.heap.size A2 (ints ys)) (hl : n ≤ 140737488351232) (hl2 : m ≤ 140737488351232) (hv : (Na.vld zs && Na.vld ys) = false) :
  Calls Tryz.prog 139 #[.agg #[.slice A n c], .agg #[.slice A2 m c2]] w (ResN w [] 1) := by
 obtain ⟨w0, hw0⟩ : ∃ w0, ((w.alloc (.cells #[.slice A n c] 25)).alloc (.cells #[.slice A2 m c2] 25)).alloc (.cells #[.slice none 0 0] 25) = w0 := ⟨_, rfl⟩
 have HW : Hid (((w.alloc (.cells #[.slice A n c] 25)).alloc (.cells #[.slice A2 m c2] 25)).alloc (.cells #[.slice none 0 0] 25) = w0) := hw0
 have hb0 : Below w.heap.size w w0 := by rw [← hw0]; exact bal (bal (bal (Below.refl _ _) _) _) _
 have HB0 := Lib.hid hb0
 have hzw : w0.heap.size = w.heap.size + 3 := by rw [← hw0]; simp
 have hc0 : w0.cell? ⟨w.heap.size, 0, none⟩ = some (.slice A n c) := by rw [← hw0]; simp [go_sem]
 have hc1 : w0.cell? ⟨w.heap.size + 1, 0, none⟩ = some (.slice A2 m c2) := by rw [← hw0]; simp [go_sem]
 have hc2 : w0.cell? ⟨w.heap.size + 2, 0, none⟩ = some (.slice none 0 0) := by rw [← hw0]; simp [go_sem]
 have hf2 : w0.frozen? ⟨w.heap.size + 2, 0, none⟩ = false := by rw [← hw0]; simp [go_sem]
 have HV := Lib.hid (nboth_any A A2 n c m c2 w0.heap.size zs ys w0 hn hm ((hs.below hb0).more hb0.size) ((hs2.below hb0).more hb0.size) (Nat.le_refl _) hl hl2)
 rw [hv] at HV
 clear hs hs2 hn hm hb0 hw0 hv
 go_enter Tryz.func139, Tryz.ntmps139
 go_wp2_with fail
 rw [HW.out]
 refine HV.out.mono ?_
 rintro e w1 ⟨rfl, hb⟩
 have HB1 := Lib.hid (btr HB0.out hb)
 have hd0 : w1.cell? ⟨w.heap.size, 0, none⟩ = some (.slice A n c) := (hb.cell (p := ⟨w.heap.size, 0, none⟩) (by simp [hzw])).trans hc0
 have hd1 : w1.cell? ⟨w.heap.size + 1, 0, none⟩ = some (.slice A2 m c2) := (hb.cell (p := ⟨w.heap.size + 1, 0, none⟩) (by simp [hzw])).trans hc1
 have hd2 : w1.cell? ⟨w.heap.size + 2, 0, none⟩ = some (.slice none 0 0) := (hb.cell (p := ⟨w.heap.size + 2, 0, none⟩) (by simp [hzw])).trans hc2
 have hg2 : w1.frozen? ⟨w.heap.size + 2, 0, none⟩ = false := (hb.frozen (p := ⟨w.heap.size + 2, 0, none⟩) (by simp [hzw])).trans hf2
 have hsz1 : w.heap.size + 3 ≤ w1.heap.size := by rw [← hzw]; exact hb.size
 clear hb hc0 hc1 hc2 hf2 HV HW hzw HB0
 go_wp2_with fail
 refine bodyPost_ret (v := .tuple #[.agg #[.slice none 0 0], .int .i64 1]) (by simp [results, Tryz.results139, go_sem, hd2]) rfl ?_
 exact resN_nil _ _ _ (bset HB1.out _ (by show w.heap.size ≤ w.heap.size + 2; omega) _)

def mulL (zs ys : List Int) : List Nat := if Na.vld zs && Na.vld ys then resL (num zs * num ys) else []
def mulE (zs ys : List Int) : Int := if Na.vld zs && Na.vld ys then resE (num zs * num ys) else 1
theorem mul_ok {x y : Nat} (hx : x < Na.top) (hy : y < Na.top) : mulL (Na.up (Na.dig x)) (Na.up (Na.dig y)) = resL (x * y) ∧ mulE (Na.up (Na.dig x)) (Na.up (Na.dig y)) = resE (x * y) := by
 unfold mulL mulE
 rw [Na.vld_dig hx, Na.vld_dig hy, num_dig, num_dig]
 exact ⟨rfl, rfl⟩
set_option maxHeartbeats 1000000 in
theorem nmul_ok (A A2 : Option Addr) (n c m c2 : Nat) (x y : Nat) (w : World) (hn : (Na.dig x).length = n) (hm : (Na.dig y).length = m) (hs : Sl w w.heap.size A (nats (Na.dig x))) (hs2 : Sl w w.heap.size A2 (nats (Na.dig y))) (hx : x < Na.top) (hy : y < Na.top) :
  Calls Tryz.prog 139 #[.agg #[.slice A n c], .agg #[.slice A2 m c2]] w (ResN w (resL (x * y)) (resE (x * y))) := by
 have hn2 : n ≤ 200 := by rw [← hn]; exact (Na.dig_200 x).2 hx
 have hm2 : m ≤ 200 := by rw [← hm]; exact (Na.dig_200 y).2 hy
 obtain ⟨w0, hw0⟩ : ∃ w0, ((w.alloc (.cells #[.slice A n c] 25)).alloc (.cells #[.slice A2 m c2] 25)).alloc (.cells #[.slice none 0 0] 25) = w0 := ⟨_, rfl⟩
 have HW : Hid (((w.alloc (.cells #[.slice A n c] 25)).alloc (.cells #[.slice A2 m c2] 25)).alloc (.cells #[.slice none 0 0] 25) = w0) := hw0
 have hb0 : Below w.heap.size w w0 := by rw [← hw0]; exact bal (bal (bal (Below.refl _ _) _) _) _
 have HB0 := Lib.hid hb0
 have hzw : w0.heap.size = w.heap.size + 3 := by rw [← hw0]; simp
 have hc0 : w0.cell? ⟨w.heap.size, 0, none⟩ = some (.slice A n c) := by rw [← hw0]; simp [go_sem]
 have hc1 : w0.cell? ⟨w.heap.size + 1, 0, none⟩ = some (.slice A2 m c2) := by rw [← hw0]; simp [go_sem]
 have hc2 : w0.cell? ⟨w.heap.size + 2, 0, none⟩ = some (.slice none 0 0) := by rw [← hw0]; simp [go_sem]
 have hf2 : w0.frozen? ⟨w.heap.size + 2, 0, none⟩ = false := by rw [← hw0]; simp [go_sem]
 have hvv : (Na.vld (Na.up (Na.dig x)) && Na.vld (Na.up (Na.dig y))) = true := by rw [Na.vld_dig hx, Na.vld_dig hy]; rfl
 have HV := Lib.hid (nboth_any A A2 n c m c2 w0.heap.size _ _ w0 (by rw [Na.up_length]; exact hn) (by rw [Na.up_length]; exact hm) (by rw [nats_up]; exact (hs.below hb0).more hb0.size) (by rw [nats_up]; exact (hs2.below hb0).more hb0.size) (Nat.le_refl _) (by omega) (by omega))
 rw [hvv] at HV
 have HN := Lib.hid hn
 have HM := Lib.hid hm
 have HS := Lib.hid hs
 have HS2 := Lib.hid hs2
 clear hs hs2 hn hm hb0 hw0 hvv hx hy
 go_enter Tryz.func139, Tryz.ntmps139
 go_wp2_with fail
 rw [HW.out]
 refine HV.out.mono ?_
 rintro e w1 ⟨rfl, hb⟩
 have HB1 := Lib.hid (btr HB0.out hb)
 have hd0 : w1.cell? ⟨w.heap.size, 0, none⟩ = some (.slice A n c) := (hb.cell (p := ⟨w.heap.size, 0, none⟩) (by simp [hzw])).trans hc0
 have hd1 : w1.cell? ⟨w.heap.size + 1, 0, none⟩ = some (.slice A2 m c2) := (hb.cell (p := ⟨w.heap.size + 1, 0, none⟩) (by simp [hzw])).trans hc1
 have hd2 : w1.cell? ⟨w.heap.size + 2, 0, none⟩ = some (.slice none 0 0) := (hb.cell (p := ⟨w.heap.size + 2, 0, none⟩) (by simp [hzw])).trans hc2
 have hg2 : w1.frozen? ⟨w.heap.size + 2, 0, none⟩ = false := (hb.frozen (p := ⟨w.heap.size + 2, 0, none⟩) (by simp [hzw])).trans hf2
 have hsz1 : w.heap.size + 3 ≤ w1.heap.size := by rw [← hzw]; exact hb.size
 clear hb hc0 hc1 hc2 hf2 HV HW hzw HB0
 have HPr := Lib.hid (nproduct_any A A2 n c m c2 (Na.dig x) (Na.dig y) w1 HN.out HM.out ((HS.out.below HB1.out).more HB1.out.size) ((HS2.out.below HB1.out).more HB1.out.size) (Na.dig_lim x) (Na.dig_lim y) (by omega) (by omega))
 rw [Na.val_dig, Na.val_dig] at HPr
 go_wp2_with fail
 refine HPr.out.mono ?_
 rintro e w2 ⟨A5, n5, c5, rfl, hn5, ho5, hb5⟩
 have hl5 : n5 ≤ 400 := by
  rw [← hn5]
  have h1 := Na.dig_len_mul x y
  rw [HN.out, HM.out] at h1
  omega
 have HR := Lib.hid (nresult_any A5 n5 c5 w1.heap.size (Na.dig (x * y)) w2 hn5 ho5 (Na.dig_lim _) (by omega))
 rw [Na.val_dig] at HR
 have HB2 := Lib.hid hb5
 clear hn5 ho5 hb5
 go_wp2_with fail
 refine HR.out.mono ?_
 rintro e w9 ⟨A9, n9, c9, rfl, hn9, ho9, hb9⟩
 have HN9 := Lib.hid hn9
 have HO9 := Lib.hid ho9
 have HB9 := Lib.hid (btr HB2.out hb9)
 have hk9 : w9.cell? ⟨w.heap.size + 2, 0, none⟩ = some (.slice none 0 0) := (HB9.out.cell (p := ⟨w.heap.size + 2, 0, none⟩) (by simp; omega)).trans hd2
 have hk9f : w9.frozen? ⟨w.heap.size + 2, 0, none⟩ = false := (HB9.out.frozen (p := ⟨w.heap.size + 2, 0, none⟩) (by simp; omega)).trans hg2
 clear hn9 ho9 hb9 hd0 hd1 hd2 hg2
 go_wp2_with fail
 refine bodyPost_ret (v := .tuple #[.agg #[.slice A9 n9 c9], .int .i64 (resE (x * y))]) (by simp [results, Tryz.results139, go_sem, hk9]) rfl ?_
 exact resN_cell HO9.out HN9.out (by omega) (by omega) (HB1.out.trans (HB9.out.mono HB1.out.size)) (by omega) _ _
theorem nmul_any (A A2 : Option Addr) (n c m c2 : Nat) (zs ys : List Int) (w : World) (hn : zs.length = n) (hm : ys.length = m) (hs : Sl w w.heap.size A (ints zs)) (hs2 : Sl w w.heap.size A2 (ints ys)) (hl : n ≤ 140737488351232) (hl2 : m ≤ 140737488351232) :
  Calls Tryz.prog 139 #[.agg #[.slice A n c], .agg #[.slice A2 m c2]] w (ResN w (mulL zs ys) (mulE zs ys)) := by
 cases hv : (Na.vld zs && Na.vld ys)
 ·have e1 : mulL zs ys = [] := by unfold mulL; rw [hv]; rfl
  have e2 : mulE zs ys = 1 := by unfold mulE; rw [hv]; rfl
  rw [e1, e2]
  exact nmul_bad A A2 n c m c2 zs ys w hn hm hs hs2 hl hl2 hv
 ·obtain ⟨x, y, hx, hy, rfl, rfl⟩ := vv_ex hv
  rw [(mul_ok hx hy).1, (mul_ok hx hy).2]
  rw [nats_up] at hs hs2
  rw [Na.up_length] at hn hm
  exact nmul_ok A A2 n c m c2 x y w hn hm hs hs2 hx hy
end Go.Proofs.YtenokdhldngkgaaGreatDoor
namespace Go.Proofs.YtenokdhldngkgaaGreatDoor
open Go.RowKit Go.Shelf
attribute [local go_sem] Oper.semAt_some
set_option linter.unusedVariables false
set_option maxRecDepth 100000
namespace Na
theorem small_step (L Q : List Nat) (d k a rest : Nat) (hd : 0 < d) (ha : L[k]? = some a) (hl : Lim L) (hq : Lim Q) (hv : val (L.drop (k + 1)) = d * val Q + rest) (hr : rest < d) :
  Lim ((16777216 * rest + a) / d :: Q) ∧ val (L.drop k) = d * val ((16777216 * rest + a) / d :: Q) + (16777216 * rest + a) % d ∧ (16777216 * rest + a) % d < d := by
 have h1 := hl.at ha
 have h2 : (16777216 * rest + a) / d < 16777216 := by
  rw [Nat.div_lt_iff_lt_mul hd]
  have : rest + 1 ≤ d := hr
  have h3 := Nat.mul_le_mul_left 16777216 this
  omega
 refine ⟨Lim.cons h2 hq, ?_, Nat.mod_lt _ hd⟩
 rw [val_drop_cons L k a ha, hv, val, Nat.mul_add, Nat.mul_add]
 have h4 := Nat.div_add_mod (16777216 * rest + a) d
 have h5 : d * (16777216 * val Q) = 16777216 * (d * val Q) := Nat.mul_left_comm _ _ _
 omega
theorem small_set (L Q : List Nat) (k q : Nat) (h : k < L.length) : (L.take (k + 1) ++ Q).set k q = L.take k ++ (q :: Q) := by
 have h1 : (L.take k).length = k := by rw [List.length_take]; omega
 rw [List.take_add_one, List.getElem?_eq_getElem h, Option.toList_some, List.append_assoc, List.set_append_right _ _ (by omega), h1, Nat.sub_self]
 rfl
end Na
theorem add_zero (b j : Nat) : (⟨b, 0, none⟩ : Addr).add j = ⟨b, j, none⟩ := by
 unfold Addr.add
 split
 ·rename_i h
  rw [h]
 ·simp
theorem own_from {W W' : World} {base n c B : Nat} {e : TypeId} {A : Option Addr} {xs : List Value} {row : Option Nat} (h : W.ownsRow base e 1 (.slice A n c) n xs) (hb : ∀ g, (Value.slice A n c).ownBlock = some g → g < B) (hg : W.grownBy W' row) (hr : ∀ r, row = some r → B ≤ r ∧ ∃ o : Obj, W.heap[r]? = some o ∧ o.isCells = false) : W'.ownsRow base e 1 (.slice A n c) n xs := by
 refine own_keep h hg ?_
 cases hA : (Value.slice A n c).ownBlock with
 | none => exact .inl rfl
 | some g =>
  refine .inr fun e => ?_
  have h1 := hb g hA
  have h2 := (hr g e.symm).1
  omega
def SmI (w : World) (base : Nat) (A : Option Addr) (n c : Nat) (L : List Nat) (d : Nat) (k : Nat) (W : World) : Prop :=
 ∃ (Q : List Nat) (rest : Nat), (Q.length = k ∧ Na.Lim Q ∧ Na.val (L.drop (n - k)) = d * Na.val Q + rest ∧ rest < d) ∧ W.ownsRow base 3 1 (.slice A n c) n (nats (L.take (n - k) ++ Q)) ∧
  (W.cell? ⟨w.heap.size, 0, none⟩ = some (.slice A n c) ∧ W.cell? ⟨w.heap.size + 1, 0, none⟩ = some (.int .i64 (d : Int)) ∧ W.cell? ⟨w.heap.size + 2, 0, none⟩ = some (.int .i64 (rest : Int)) ∧ W.frozen? ⟨w.heap.size + 2, 0, none⟩ = false ∧ W.cell? ⟨w.heap.size + 3, 0, none⟩ = some (.slice A n c)) ∧
  w.grownBy W (Value.slice A n c).ownBlock
set_option maxHeartbeats 2000000 in
theorem nsmall_in (F : Fence) (N : Nat) (q1 : F.fn 110) (q2 : F.fn 155) (q3 : F.fn 190) (hro : F.round = none) (hN : 3 ≤ N)
  (A : Option Addr) (n c base : Nat) (L : List Nat) (d : Nat) (w : World) (hn : L.length = n) (ho : w.ownsRow base 3 1 (.slice A n c) n (nats L)) (hL : Na.Lim L) (hd : 1 ≤ d) (hd2 : d ≤ 274877906944) (hl : n ≤ 140737488351232) :
  CallsIn F N Tryz.prog 110 #[.slice A n c, .int .i64 (d : Int)] w fun e w' => ∃ Q : List Nat, e = .returned (.int .i64 ((Na.val L % d : Nat) : Int)) ∧ Q.length = n ∧ Na.Lim Q ∧ Na.val Q = Na.val L / d ∧ w'.ownsRow base 3 1 (.slice A n c) n (nats Q) ∧ w.grownBy w' (Value.slice A n c).ownBlock := by
 have h1 : 1 ≤ N := by omega
 refine callsIn_of_wp_marks Tryz.func110 rfl q1 ?_ hro
 simp only [Tryz.ntmps110, List.size_toArray, List.length_cons, List.length_nil, Nat.reduceAdd, Nat.reduceSub, Array.replicate_succ, Array.replicate_zero, List.push_toArray, List.append_toArray, List.nil_append, List.cons_append]
 gi_wp2_with (gi_at_call 155; refine (backI_in F (N - 1) q2 hro _ _ _ _).mono ?_; rintro e w' ⟨rfl, rfl⟩)
 have bL := Boxed.new w 22 (.slice A n c)
 have bD := Boxed.new (w.alloc (.cells #[.slice A n c] 22)) 3 (.int .i64 (d : Int))
 have bR := Boxed.new ((w.alloc (.cells #[.slice A n c] 22)).alloc (.cells #[.int .i64 (d : Int)] 3)) 3 (.int .i64 0)
 have bS := Boxed.new (((w.alloc (.cells #[.slice A n c] 22)).alloc (.cells #[.int .i64 (d : Int)] 3)).alloc (.cells #[.int .i64 0] 3)) 22 (.slice A n c)
 simp only [World.size_alloc] at bD bR bS
 have HG0 : Hid (w.grownBy ((((w.alloc (.cells #[.slice A n c] 22)).alloc (.cells #[.int .i64 (d : Int)] 3)).alloc (.cells #[.int .i64 0] 3)).alloc (.cells #[.slice A n c] 22)) (Value.slice A n c).ownBlock) :=
  grown_alloc (grown_alloc (grown_alloc (grown_alloc (World.grownBy.refl w _) _) _) _) _
 have HI0 : Hid (SmI w base A n c L d 0 ((((w.alloc (.cells #[.slice A n c] 22)).alloc (.cells #[.int .i64 (d : Int)] 3)).alloc (.cells #[.int .i64 0] 3)).alloc (.cells #[.slice A n c] 22))) :=
  ⟨[], 0, ⟨rfl, Na.Lim.nil, by rw [List.drop_of_length_le (by omega)]; rfl, hd⟩, by rw [List.append_nil, Nat.sub_zero, List.take_of_length_le (by omega)]; exact own_alloc (own_alloc (own_alloc (own_alloc ho _) _) _) _,
   ⟨(((bL.alloc _).alloc _).alloc _).cell, ((bD.alloc _).alloc _).cell, (bR.alloc _).cell, (bR.alloc _).frozen, bS.cell⟩, HG0.out⟩
 have HBk : Hid (∀ g, (Value.slice A n c).ownBlock = some g → g < w.heap.size) := fun g hg => (ho.lt g hg).2
 have HN := Lib.hid hn
 have HL := Lib.hid hL
 clear hn ho hL bL bD bR bS HG0
 refine range_back (F := F) (n := N) (A := A) (Bs := w.heap.size + 1 + 1 + 1) (len := n) (cap := c) q3 hro (by omega) ?hg ?hps hl
  (SmI w base A n c L d) (fun _ => False) ?hI ?hX ?hBx ?hRd HI0.out ?a1 ?assign ?body ?done ?stop
 case hg => rfl
 case hps => rfl
 case hI =>
  rintro k W W' row ⟨Q, rest, hp, ho, ⟨h1, h2, h3, h4, h5⟩, hg0⟩ hg hr
  have hr' : ∀ r, row = some r → ∃ o : Obj, W.heap[r]? = some o ∧ o.isCells = false := fun r e => (hr r e).2
  refine ⟨Q, rest, hp, own_from ho (fun g e => Nat.lt_of_lt_of_le (HBk.out g e) (by simp; omega)) hg hr, ⟨cell_kept h1 hg hr', cell_kept h2 hg hr', cell_kept h3 hg hr', (frozen_kept h3 hg hr').trans h4, cell_kept h5 hg hr'⟩, ?_⟩
  exact grown_far hg0 hg (fun x e => by have := (hr x e).1; simp at this; omega)
 case hX => exact fun _ _ _ _ h => h.elim
 case hBx =>
  rintro k W ⟨Q, rest, hp, ho, hc, hg⟩
  exact hc.2.2.2.2
 case hRd =>
  rintro k W ⟨Q, rest, hp, ho, hc, hg⟩ hk
  obtain ⟨a, ha⟩ := nat_at (L.take (n - k) ++ Q) (n - 1 - k) (by rw [List.length_append, List.length_take, HN.out]; omega)
  obtain ⟨g, rfl, _, _⟩ := own_form ho (by omega)
  exact ⟨_, _, rfl, by rw [add_zero]; exact own_nat ho ha⟩
 case assign =>
  intro l k v W K hK
  dsimp only [encBack]
  gi_wp2
  exact hK
 case body =>
  rintro l k v W ⟨Q, rest, ⟨p1, p2, p3, p4⟩, ho, ⟨h1, h2, h3, h4, h5⟩, hg⟩ hk hR
  obtain ⟨j, hj⟩ : ∃ j, n - 1 - k = j := ⟨_, rfl⟩
  obtain ⟨ad', e1, hv⟩ := hR
  rw [hj] at hv ⊢
  obtain ⟨a, ha⟩ := nat_at L j (by rw [HN.out]; omega)
  obtain ⟨g, rfl, hgb, _⟩ := own_form ho (by omega)
  obtain rfl := Option.some.inj e1
  have ha2 : (L.take (n - k) ++ Q)[j]? = some a := by
   rw [List.getElem?_append_left (by rw [List.length_take, HN.out]; omega), List.getElem?_take, if_pos (by omega)]
   exact ha
  rw [add_zero, own_nat ho ha2] at hv
  obtain rfl := Option.some.inj hv
  obtain ⟨T, hT⟩ : ∃ T, 16777216 * rest + a = T := ⟨_, rfl⟩
  have ha3 := HL.out.at ha
  have hT1 : (rest : Int) * 16777216 + (a : Int) = (T : Int) := by omega
  have hT2 : T < 4611686018427387904 := by omega
  have HST := Lib.hid (Na.small_step L Q d j a rest hd ha HL.out p2 (by rw [show n - k = j + 1 by omega] at p3; exact p3) p4)
  have HSE := Lib.hid (Na.small_set L Q j (T / d) (by rw [HN.out]; omega))
  have HO := Lib.hid ho
  have HG := Lib.hid hg
  have hgw : g < w.heap.size := HBk.out g rfl
  have hTd := HST.out.1.head
  obtain ⟨qn, hqn⟩ : ∃ qn, T / d = qn := ⟨_, rfl⟩
  obtain ⟨rn, hrn⟩ : ∃ rn, T % d = rn := ⟨_, rfl⟩
  rw [hT, hqn] at hTd
  have hqb : (qn : Int) ≤ 16777215 := by omega
  have hqb0 : 0 ≤ (qn : Int) := by omega
  have hq1 : (T : Int) / (d : Int) = (qn : Int) := by rw [← hqn]; rfl
  have hr1 : (T : Int) % (d : Int) = (rn : Int) := by rw [← hrn]; rfl
  rw [hT, hqn, hrn] at HST
  rw [hqn] at HSE
  have hHF : Hid (∃ W1, W.setCell ⟨w.heap.size + 1 + 1, 0, none⟩ (.int .i64 (T : Int)) = W1 ∧ W1.cell? ⟨w.heap.size, 0, none⟩ = some (.slice (some ⟨g, 0, none⟩) n c) ∧ W1.cell? ⟨w.heap.size + 1, 0, none⟩ = some (.int .i64 (d : Int)) ∧ W1.cell? ⟨w.heap.size + 1 + 1, 0, none⟩ = some (.int .i64 (T : Int)) ∧
    W1.frozen? ⟨w.heap.size + 1 + 1, 0, none⟩ = false ∧ W1.cell? ⟨w.heap.size + 1 + 1 + 1, 0, none⟩ = some (.slice (some ⟨g, 0, none⟩) n c) ∧ W1.ownsRow base 3 1 (.slice (some ⟨g, 0, none⟩) n c) n (nats (L.take (n - k) ++ Q)) ∧ w.grownBy W1 (some g) ∧ KeepsFrom (w.heap.size + 1 + 1 + 1 + 1) W W1) :=
   ⟨_, rfl, by rw [World.cell?_setCell_other _ _ _ _ (by simp)]; exact h1, by rw [World.cell?_setCell_other _ _ _ _ (by simp)]; exact h2, cell_of_set _ h3, by rw [World.frozen?_setCell]; exact h4, by rw [World.cell?_setCell_other _ _ _ _ (by simp)]; exact h5,
    own_keep ho (grown_set _ _ _) (.inr (by simp [Value.ownBlock]; omega)), grown_far hg (grown_set _ _ _) (fun x e => by cases e; simp; omega), (KeepsOthers.setCell _ _ _).from _⟩
  have hjn : (j : Int) < (n : Int) := by omega
  have hj2 : j + k + 1 = n := by omega
  clear e1 ha hv HI0 ha2 ho hg p3 HBk hT hqn hrn hj
  gi_wp2
  clear h1 h2 h3 h4 h5
  obtain ⟨W1, hW1, h1, h2, h3, h4, h5, ho, hg, hkf⟩ := hHF.out
  rw [hW1]
  have hfz := ho.frozenAt j
  have HOs := Lib.hid (ho.drew.stored j (.int .i64 (qn : Int)))
  have HG1 := Lib.hid hg
  have HKF := Lib.hid hkf
  have HO1 := Lib.hid ho
  clear hHF hW1 hg hkf ho HO HG
  obtain ⟨oldv, hold⟩ : ∃ u, W1.cell? ⟨g, j, none⟩ = some u := by
   obtain ⟨a9, ha9⟩ := nat_at (L.take (n - k) ++ Q) j (by rw [List.length_append, List.length_take, HN.out]; omega)
   exact ⟨_, own_nat HO1.out ha9⟩
  have hHF2 : Hid (∃ W2, (W1.setCell ⟨g, j, none⟩ (.int .i64 (qn : Int))).drew = W2 ∧ W2.cell? ⟨w.heap.size, 0, none⟩ = some (.slice (some ⟨g, 0, none⟩) n c) ∧ W2.cell? ⟨w.heap.size + 1, 0, none⟩ = some (.int .i64 (d : Int)) ∧ W2.cell? ⟨w.heap.size + 1 + 1, 0, none⟩ = some (.int .i64 (T : Int)) ∧
    W2.frozen? ⟨w.heap.size + 1 + 1, 0, none⟩ = false ∧ W2.cell? ⟨w.heap.size + 1 + 1 + 1, 0, none⟩ = some (.slice (some ⟨g, 0, none⟩) n c) ∧ W2.ownsRow base 3 1 (.slice (some ⟨g, 0, none⟩) n c) n (nats (L.take j ++ (qn :: Q))) ∧ w.grownBy W2 (some g) ∧ KeepsFrom (w.heap.size + 1 + 1 + 1 + 1) W W2) := by
   have o1 := HOs.out
   have e3 : L.take (n - k) ++ Q = L.take (j + 1) ++ Q := by rw [show n - k = j + 1 by omega]
   rw [nats_set, e3, HSE.out] at o1
   refine ⟨_, rfl, (World.cell?_setCell_other _ _ _ _ (by intro e; simp at e <;> omega)).trans h1, (World.cell?_setCell_other _ _ _ _ (by intro e; simp at e <;> omega)).trans h2, (World.cell?_setCell_other _ _ _ _ (by intro e; simp at e <;> omega)).trans h3, ?_, (World.cell?_setCell_other _ _ _ _ (by intro e; simp at e <;> omega)).trans h5, o1.1, grown_trans HG1.out ?_, HKF.out.trans (((KeepsOthers.setCell _ _ _).from _).trans ((KeepsOthers.drew _).from _))⟩
   ·show (W1.setCell ⟨g, j, none⟩ (.int .i64 (qn : Int))).frozen? _ = false
    rw [World.frozen?_setCell]
    exact h4
   ·exact ⟨rfl, rfl, rfl, by simp [World.setCell], fun i hi hne => Below.heap_setCell _ _ _ _ (fun e => hne (by rw [e]))⟩
  clear HOs HKF HSE HO1 HG1
  gi_region
  all_goals
   clear h1 h2 h3 h4 h5 hfz hold
   obtain ⟨W2, hW2, h1, h2, h3, h4, h5, ho, hg, hkf⟩ := hHF2.out
   rw [hW2]
   have HOf := Lib.hid ho
   have HG := Lib.hid hg
   have HKF := Lib.hid hkf
   clear hHF2 hW2 ho hg hkf
   gi_wp2
   refine ⟨?_, qn :: Q, rn, ⟨by rw [List.length_cons, p1], HST.out.1, by rw [show n - (k + 1) = j by omega]; exact HST.out.2.1, HST.out.2.2⟩, ?_, ⟨?_, ?_, cell_of_set _ h3, ?_, ?_⟩, ?_⟩
   ·simp only [World.size_alloc]
    exact HKF.out.trans ((KeepsOthers.setCell _ _ _).from _)
   ·rw [show n - (k + 1) = j by omega]
    exact own_keep HOf.out (grown_set _ _ _) (.inr (by simp [Value.ownBlock]; omega))
   ·rw [World.cell?_setCell_other _ _ _ _ (by simp)]; exact h1
   ·rw [World.cell?_setCell_other _ _ _ _ (by simp)]; exact h2
   ·rw [World.frozen?_setCell]; exact h4
   ·rw [World.cell?_setCell_other _ _ _ _ (by simp)]; exact h5
   ·exact grown_far HG.out (grown_set _ _ _) (fun x e => by cases e; simp; omega)
 case done =>
  rintro D W hD ⟨Q, rest, ⟨p1, p2, p3, p4⟩, ho, ⟨h1, h2, h3, h4, h5⟩, hg⟩ hK
  have hD2 : w.heap.size + 4 ≤ D := by simpa using hD
  rw [Nat.sub_self, List.drop_zero] at p3
  rw [Nat.sub_self, List.take_zero, List.nil_append] at ho
  have HV1 : Hid (rest = Na.val L % d) := by
   unfold Hid
   rw [p3, Nat.mul_add_mod, Nat.mod_eq_of_lt p4]
  have HV2 : Hid (Na.val Q = Na.val L / d) := by
   unfold Hid
   rw [p3, Nat.mul_add_div hd, Nat.div_eq_of_lt p4, Nat.add_zero]
  have HP2 := Lib.hid p2
  have HO := Lib.hid ho
  have HG := Lib.hid hg
  clear p3 HI0 p2 ho hg
  gi_wp2
  refine ⟨by simp, .inl ⟨_, _, rfl, run_takeDeferred hK, ?_⟩⟩
  refine ⟨_, results_tmp rfl _ _ _, Q, by rw [← HV1.out]; rfl, p1, HP2.out, HV2.out, own_keep HO.out (grownBy_putObj' _ D _) ?_, grown_far HG.out (grownBy_putObj' _ D _) (fun x e => by cases e; omega)⟩
  cases hA : (Value.slice A n c).ownBlock with
  | none => exact .inl rfl
  | some g =>
   have := HBk.out g hA
   exact .inr (fun e => by cases e; omega)
 case stop => exact fun _ _ _ h => h.elim
theorem nsmall_any (A : Option Addr) (n c base : Nat) (L : List Nat) (d : Nat) (dv : Int) (hdv : dv = (d : Int)) (w : World) (hn : L.length = n) (ho : w.ownsRow base 3 1 (.slice A n c) n (nats L)) (hL : Na.Lim L) (hd : 1 ≤ d) (hd2 : d ≤ 274877906944) (hl : n ≤ 140737488351232) :
  Calls Tryz.prog 110 #[.slice A n c, .int .i64 dv] w fun e w' => ∃ Q : List Nat, e = .returned (.int .i64 ((Na.val L % d : Nat) : Int)) ∧ Q.length = n ∧ Na.Lim Q ∧ Na.val Q = Na.val L / d ∧ w'.ownsRow base 3 1 (.slice A n c) n (nats Q) ∧ w.grownBy w' (Value.slice A n c).ownBlock := by
 subst hdv
 exact (callsIn_wide (n := 3)).1 (nsmall_in Fence.wide 3 trivial trivial trivial rfl (Nat.le_refl _) A n c base L d w hn ho hL hd hd2 hl)
end Go.Proofs.YtenokdhldngkgaaGreatDoor
namespace Go.Proofs.YtenokdhldngkgaaGreatDoor
open Go.RowKit
set_option linter.unusedVariables false
set_option maxRecDepth 100000
def NGr (w : World) (base : Nat) (L : List Nat) (A : Option Addr) (n c t m0 : Nat) (i mr : Value) (wr : World) : Prop :=
 ∃ (k r : Nat) (o : List Nat), k ≤ n ∧ i = .int .i64 (k : Int) ∧ mr = .int .i64 (r : Int) ∧ r ≤ 1152921504606846976 ∧ Hid (o.length = k ∧ Na.Lim o ∧ Na.val o + 16777216 ^ k * r = Na.val (L.take k) * t + m0) ∧ wr.ownsRow base 3 1 (.slice A n c) n (nats (o ++ L.drop k)) ∧ Below base w wr ∧ base ≤ wr.heap.size
def Tight (n : Nat) (o : List Nat) : Prop := o.length = n ∨ ∃ a, o[o.length - 1]? = some a ∧ a ≠ 0
theorem tight_put (n : Nat) (o : List Nat) (d : Nat) (h : d ≠ 0) : Tight n (o ++ [d]) := .inr ⟨d, by rw [List.length_append, List.length_singleton, Nat.add_sub_cancel, List.getElem?_append_right (Nat.le_refl _), Nat.sub_self]; rfl, h⟩
def NGm (w : World) (base : Nat) (V n : Nat) (mr l : Value) (wr : World) : Prop :=
 ∃ (r : Nat) (A : Option Addr) (n' c' j : Nat) (o : List Nat), mr = .int .i64 (r : Int) ∧ l = .slice A n' c' ∧ n' = n + j ∧ ((j = 0 ∧ r ≤ 1152921504606846976) ∨ (j = 1 ∧ r ≤ 68719476736) ∨ (j = 2 ∧ r ≤ 4096) ∨ (j = 3 ∧ r = 0)) ∧
  Hid (o.length = n' ∧ Na.Lim o ∧ Na.val o + 16777216 ^ n' * r = V) ∧ Hid (r = 0 → Tight n o) ∧ wr.ownsRow base 3 1 (.slice A n' c') n' (nats o) ∧ Below base w wr ∧ base ≤ wr.heap.size
def Grew (w : World) (base n V : Nat) (e : Ending) (w' : World) : Prop :=
 ∃ (A : Option Addr) (n' c' : Nat) (o : List Nat), e = .returned (.slice A n' c') ∧ o.length = n' ∧ n' ≤ n + 3 ∧ Na.Lim o ∧ Na.val o = V ∧ w'.ownsRow base 3 1 (.slice A n' c') n' (nats o) ∧ Below base w w' ∧ base ≤ w'.heap.size ∧ Tight n o
set_option maxHeartbeats 2000000 in
theorem ngrow_any (A : Option Addr) (n c base : Nat) (L : List Nat) (t m0 : Nat) (tv mv : Int) (htv : tv = (t : Int)) (hmv : mv = (m0 : Int)) (w : World) (hn : L.length = n) (ho : w.ownsRow base 3 1 (.slice A n c) n (nats L)) (hL : Na.Lim L) (ht : t ≤ 16777216) (hm : m0 ≤ 1152921504606846976) (hl : n ≤ 1000) (hbase : base ≤ w.heap.size) :
  Calls Tryz.prog 207 #[.slice A n c, .int .i64 tv, .int .i64 mv] w (Grew w base n (Na.val L * t + m0)) := by
 subst htv hmv
 obtain ⟨i0, hi, hz0, hz1, hz2⟩ := info_parts infoI
 have HN := Lib.hid hn
 have HL := Lib.hid hL
 have HO0 := Lib.hid ho
 clear hn hL ho
 go_enter Tryz.func207, Tryz.ntmps207
 go_wp2_with fail
 go_loopw [10, 2] (fun i mr wr => NGr w base L A n c t m0 i mr wr) (fun i _ _ => n - (intOf i).toNat)
 case atStart => exact ⟨0, m0, [], Nat.zero_le _, rfl, rfl, hm, ⟨rfl, Na.Lim.nil, by simp [Na.val]⟩, by simpa using HO0.out, Below.refl _ _, hbase⟩
 case round =>
  clear HO0 hm hbase
  obtain ⟨k, r, o, hk, rfl, rfl, hr, HP, ho, hb, hbs⟩ := hrel
  have HO := Lib.hid ho
  have HB := Lib.hid hb
  have HBS := Lib.hid hbs
  rcases Nat.lt_or_ge k n with hkn | hkn
  ·obtain ⟨a, ha⟩ := nat_at L k (by rw [HN.out]; exact hkn)
   obtain ⟨g, rfl, hgb, hgw⟩ := own_form ho (by omega)
   have hca := own_nat ho (Na.get_mid o L k a HP.out.1 ha)
   have hfz := ho.frozenAt k
   have ha24 := HL.out.at ha
   obtain ⟨p, hp⟩ : ∃ p, a * t = p := ⟨_, rfl⟩
   have hp1 : (a : Int) * (t : Int) = (p : Int) := by rw [← hp]; rfl
   have hp2 : p ≤ 281474976710656 := by
    rw [← hp]
    have := Nat.mul_le_mul (Nat.le_of_lt ha24) ht
    omega
   obtain ⟨s, hs⟩ : ∃ s, r + p = s := ⟨_, rfl⟩
   obtain ⟨q, hq⟩ : ∃ q, s / 16777216 = q := ⟨_, rfl⟩
   obtain ⟨d, hd⟩ : ∃ d, s % 16777216 = d := ⟨_, rfl⟩
   have HSt := Lib.hid (Na.grow_step L o k a t r m0 s HP.out.1 ha HP.out.2.2 (by rw [hp]; exact hs.symm))
   rw [hq, hd] at HSt
   have hand : bits .and .i64 ((r : Int) + (p : Int)) 16777215 = (d : Int) := by rw [and24]; omega
   have hshr : ((r : Int) + (p : Int)) / 16777216 = (q : Int) := by omega
   have hq1 : q ≤ 1152921504606846976 := by omega
   have hd24 : d < 16777216 := by omega
   have HLr := Lib.hid (HP.out.2.1.append (Na.Lim.one hd24))
   have HLl : Hid ((o ++ [d]).length = k + 1) := by unfold Hid; rw [List.length_append, HP.out.1]; rfl
   have HSet := Lib.hid (Na.set_mid o L k d HP.out.1 (by rw [HN.out]; exact hkn))
   clear ho hb hbs ha hs hq hd hp
   go_wp2_with fail
   go_roundw
   case rel =>
    have o1 := own_put HO.out k (.int .i64 (d : Int))
    rw [nats_set, HSet.out] at o1
    exact ⟨k + 1, q, o ++ [d], by omega, by go_num, rfl, hq1, ⟨HLl.out, HLr.out, HSt.out⟩, o1, HB.out.setCell (p := ⟨g, k, none⟩) hgb _, by simpa [World.setCell] using HBS.out⟩
   case measure => simp [intOf]; omega
  ·have hkn' : k = n := by omega
   have HP2 : Hid (o.length = n ∧ Na.Lim o ∧ Na.val o + 16777216 ^ n * r = Na.val L * t + m0) := by
    have h7 := HP.out
    rw [hkn', List.take_of_length_le (by rw [HN.out]; exact Nat.le_refl _)] at h7
    exact h7
   have HO2 : Hid (wr.ownsRow base 3 1 (.slice A n c) n (nats o)) := by
    have h7 := ho
    rw [List.drop_of_length_le (by rw [HN.out]; exact hkn), List.append_nil] at h7
    exact h7
   have hdk : decide (k < n) = false := decide_eq_false (by omega)
   clear ho hb hbs hkn' HP
   go_wp2_with fail
   go_loopw [2, 0] (fun mr l wr => NGm w base (Na.val L * t + m0) n mr l wr) (fun mr _ _ => (intOf mr).toNat)
   case atStart => exact ⟨r, A, n, c, 0, o, rfl, rfl, rfl, .inl ⟨rfl, hr⟩, HP2.out, fun _ => .inl HP2.out.1, HO2.out, HB.out, HBS.out⟩
   case round =>
    clear HP2 HO2 HB HBS hr
    obtain ⟨r, A1, n1, c1, j, o, rfl, rfl, hn1, hj, HP, HTi, ho, hb, hbs⟩ := hrel
    rcases Nat.eq_zero_or_pos r with h0 | h0
    ·subst h0
     have HV : Hid (Na.val o = Na.val L * t + m0) := by
      have h7 := HP.out.2.2
      rw [Nat.mul_zero, Nat.add_zero] at h7
      exact h7
     have HTt := Lib.hid (HTi.out rfl)
     have HO := Lib.hid ho
     have HB := Lib.hid hb
     have HBS := Lib.hid hbs
     have hn3 : n1 ≤ n + 3 := by omega
     clear ho hb hbs hj hn1 HTi
     go_wp2_with fail
     go_ret
     exact ⟨A1, n1, c1, o, rfl, HP.out.1, hn3, HP.out.2.1, HV.out, HO.out, HB.out, HBS.out, HTt.out⟩
    ·obtain ⟨q, hq⟩ : ∃ q, r / 16777216 = q := ⟨_, rfl⟩
     obtain ⟨d, hd⟩ : ∃ d, r % 16777216 = d := ⟨_, rfl⟩
     have HJ : Hid ((j + 1 = 0 ∧ q ≤ 1152921504606846976) ∨ (j + 1 = 1 ∧ q ≤ 68719476736) ∨ (j + 1 = 2 ∧ q ≤ 4096) ∨ (j + 1 = 3 ∧ q = 0)) := by unfold Hid; omega
     have hj3 : j ≤ 2 := by omega
     have hr2 : r ≤ 1152921504606846976 := by omega
     have HSt := Lib.hid (Na.grow_more o n1 r _ HP.out.1 HP.out.2.2)
     rw [hq, hd] at HSt
     have hand : bits .and .i64 (r : Int) 16777215 = (d : Int) := by rw [and24]; omega
     have hshr : (r : Int) / 16777216 = (q : Int) := by omega
     have hpos : decide (0 < (r : Int)) = true := decide_eq_true (by omega)
     have hd24 : d < 16777216 := by omega
     have hqr : q < r := by omega
     have HTn : Hid (q = 0 → Tight n (o ++ [d])) := fun e => tight_put n o d (by omega)
     have HLr := Lib.hid (HP.out.2.1.append (Na.Lim.one hd24))
     have HLl : Hid ((o ++ [d]).length = n1 + 1) := by unfold Hid; rw [List.length_append, HP.out.1]; rfl
     have HO3 : Hid ((wr.alloc (.cells #[.int .i64 (d : Int)] 3)).ownsRow base 3 1 (.slice A1 n1 c1) n1 (nats o)) := own_alloc ho _
     have HSl := Lib.hid (sl_new1 wr 3 (.int .i64 (d : Int)))
     have HB := Lib.hid hb
     have HBS := Lib.hid hbs
     have hrow : ∀ y, (Value.slice A1 n1 c1).ownBlock = some y → base ≤ y := own_block ho
     have hn4 : n1 ≤ 1003 := by omega
     have HN1 := Lib.hid hn1
     clear ho hb hbs hq hd hj hn1
     go_wp2_with (at_builtin; refine wpList_append_sl _ rfl (.tmp 33) (.tmp 36) 22 rfl base 3 i0 (.int .i64 0) 8 Tryz.underlying22 hi hz0 hz1 hz2 rfl _ _ _ _ rfl HO3.out _ _ 1 _ _ rfl rfl HSl.out (fun u hu => by simp at hu; subst hu; rfl) (by unfold maxLen; omega) (by omega) (by have := HBS.out; simp; omega) ?_; intro A' c' w8 hown hgrow hblk)
     go_roundw
     case rel =>
      rw [nats_snoc] at hown
      have hz9 : base ≤ w8.heap.size := Nat.le_trans HBS.out (Nat.le_trans (by simp) hgrow.size)
      have hn1 := HN1.out
      exact ⟨q, A', n1 + 1, c', j + 1, o ++ [d], rfl, rfl, by omega, HJ.out, ⟨HLl.out, HLr.out, HSt.out⟩, HTn.out, hown, (HB.out.alloc HBS.out _).grown hgrow (by have := HBS.out; simp; omega) hrow, hz9⟩
     case measure => simp [intOf]; omega
def choL (n k : Int) : List Nat := if n < 0 ∨ 4096 < n then [] else if k < 0 ∨ n < k then [] else Na.dig (Na.bin n.toNat k.toNat)
def choE (n k : Int) : Int := if n < 0 ∨ 4096 < n then 2 else 0
def NCh (w : World) (B m kk : Nat) (i o : Value) (wr : World) : Prop :=
 ∃ (j : Nat) (A : Option Addr) (n' c' : Nat), j ≤ kk ∧ i = .int .i64 ((j : Int) + 1) ∧ o = .slice A n' c' ∧ n' ≤ 171 ∧ Hid ((Na.dig (Na.bin (m + j) j)).length = n') ∧ wr.ownsRow B 3 1 (.slice A n' c') n' (nats (Na.dig (Na.bin (m + j) j))) ∧ Below B w wr ∧ B ≤ wr.heap.size
theorem below_row {B : Nat} {w w' : World} {row : Option Nat} (hg : w.grownBy w' row) (hB : B ≤ w.heap.size) (hr : ∀ g, row = some g → B ≤ g) : Below B w w' := (Below.refl B w).grown hg hB hr
set_option maxHeartbeats 2000000 in
theorem nchoose_a (n kv m : Nat) (w : World) (hn : n ≤ 4096) (hk : kv ≤ n) (hmin : kv ≤ n - kv) (hm : m = n - kv) :
  Calls Tryz.prog 187 #[.int .i64 (n : Int), .int .i64 (kv : Int)] w (ResN w (Na.dig (Na.bin n kv)) 0) := by
 have h1 : decide ((n : Int) < 0) = false := decide_eq_false (by omega)
 have h2 : decide (4096 < (n : Int)) = false := decide_eq_false (by omega)
 have h3 : decide ((kv : Int) < 0) = false := decide_eq_false (by omega)
 have h4 : decide (n < kv) = false := decide_eq_false (by omega)
 have h5 : (kv : Int) ≤ (n : Int) - (kv : Int) := by omega
 have hmk : (n : Int) - (kv : Int) = (m : Int) := by omega
 have HBin : Hid (Na.bin (m + kv) kv = Na.bin n kv) := by unfold Hid; rw [show m + kv = n by omega]
 have hmn : m + kv ≤ 4096 := by omega
 rw [hmk] at h5
 clear hmin hm
 have HO0 : Hid (((w.alloc (.cells #[.slice none 0 0] 25)).alloc (.cells #[.int .i64 1] 3)).ownsRow (w.heap.size + 1) 3 1 (.slice (some ⟨w.heap.size + 1, 0, none⟩) 1 1) 1 (nats (Na.dig (Na.bin (m + 0) 0)))) := by
  unfold Hid
  rw [Na.bin_zero, Na.dig_small 1 (by omega) (by omega)]
  have h := World.ownsRow_lit (base := (w.alloc (.cells #[.slice none 0 0] 25)).heap.size) (e := 3) (size := 1) (w.alloc (.cells #[.slice none 0 0] 25)) #[.int .i64 1] 1 (Nat.le_refl _) (by unfold maxLen; omega) rfl
  rw [World.size_alloc] at h
  exact h
 have HL0 : Hid ((Na.dig (Na.bin (m + 0) 0)).length = 1) := by unfold Hid; rw [Na.bin_zero, Na.dig_small 1 (by omega) (by omega)]; rfl
 have hw1 : (w.alloc (.cells #[.slice none 0 0] 25)).cell? ⟨w.heap.size, 0, none⟩ = some (.slice none 0 0) := by simp [go_sem]
 have hw2 : (w.alloc (.cells #[.slice none 0 0] 25)).frozen? ⟨w.heap.size, 0, none⟩ = false := by simp [go_sem]
 obtain ⟨w0, hw0⟩ : ∃ w0, w.alloc (.cells #[.slice none 0 0] 25) = w0 := ⟨_, rfl⟩
 have HW : Hid (w.alloc (.cells #[.slice none 0 0] 25) = w0) := hw0
 have HB0 : Hid (Below w.heap.size w w0) := by rw [← hw0]; exact own_box1 _ _
 have hz0w : w0.heap.size = w.heap.size + 1 := by rw [← hw0]; simp
 rw [hw0] at hw1 hw2 HO0
 clear hw0
 go_enter Tryz.func187, Tryz.ntmps187
 go_wp2_with fail
 rw [HW.out]
 clear h1 h2 h3 h4
 go_loopw [7, 6] (fun i o wr => NCh w0 (w.heap.size + 1) m kv i o wr) (fun i _ _ => kv + 1 - (intOf i).toNat)
 case atStart => exact ⟨0, _, 1, 1, Nat.zero_le _, rfl, rfl, by omega, HL0.out, HO0.out, (Below.refl _ _).alloc (by omega) _, by simp; omega⟩
 case round =>
  clear HO0 HL0 HW
  obtain ⟨j, A1, n1, c1, hj, rfl, rfl, hn1, HLn, ho, hb, hbs⟩ := hrel
  have HO := Lib.hid ho
  have HB := Lib.hid hb
  have HBS := Lib.hid hbs
  clear ho hb hbs
  rcases Nat.lt_or_ge j kv with hlt | hge
  ·have ht1 : (j : Int) + 1 ≤ (kv : Int) := by omega
   have HGr := Lib.hid (ngrow_any A1 n1 c1 (w.heap.size + 1) (Na.dig (Na.bin (m + j) j)) (m + (j + 1)) 0 ((m : Int) + ((j : Int) + 1)) 0 (by omega) rfl wr HLn.out HO.out (Na.dig_lim _) (by omega) (by omega) (by omega) HBS.out)
   rw [Na.val_dig, Nat.add_zero] at HGr
   go_wp2_with fail
   refine HGr.out.mono ?_
   rintro e w2 ⟨A2, n2, c2, o, rfl, ho1, ho2, ho3, ho4, ho5, hb2, hbs2, -⟩
   have HSm := Lib.hid (nsmall_any A2 n2 c2 (w.heap.size + 1) o (j + 1) ((j : Int) + 1) (by omega) w2 ho1 ho5 ho3 (by omega) (by omega) (by omega))
   have HRow : Hid (∀ g, (Value.slice A2 n2 c2).ownBlock = some g → w.heap.size + 1 ≤ g) := own_block ho5
   have HC2 : Hid (n2 ≤ c2) := (own_cap ho5).1
   have HV := Lib.hid ho4
   have HB2 := Lib.hid hb2
   have HBS2 := Lib.hid hbs2
   have hn2 : n2 ≤ 174 := by omega
   clear ho1 ho2 ho3 ho4 ho5 hb2 hbs2 HGr
   go_wp2_with fail
   refine HSm.out.mono ?_
   rintro e w3 ⟨Q, rfl, hq1, hq2, hq3, hq4, hg3⟩
   have HD : Hid (Na.trim Q = Na.dig (Na.bin (m + (j + 1)) (j + 1))) := by
    unfold Hid
    rw [Na.trim_dig hq2, hq3, HV.out, Nat.add_zero, Na.bin_next]
   have HO3 := Lib.hid hq4
   have HB3 : Hid (Below (w.heap.size + 1) w2 w3) := below_row hg3 HBS2.out HRow.out
   have HQ1 := Lib.hid hq1
   have HT := Lib.hid (ntrim_any A2 n2 c2 _ Q w3 hq1 (Sl.of_own hq4) HC2.out (by omega))
   clear hq1 hq2 hq3 hq4 hg3 HSm
   go_wp2_with fail
   refine HT.out.mono ?_
   rintro e w4 ⟨rfl, rfl⟩
   go_wp2_with fail
   go_roundw
   case rel =>
    refine ⟨j + 1, A2, _, c2, by omega, by go_num, rfl, ?_, ?_, ?_, (HB.out.trans HB2.out).trans HB3.out, Nat.le_trans HBS2.out HB3.out.size⟩
    ·have h9 := Na.trim_length Q
     rw [HD.out, HQ1.out] at h9
     rw [← h9]
     exact (Na.bin_top _ _ (by omega)).2
    ·show (Na.dig (Na.bin (m + (j + 1)) (j + 1))).length = Na.tl Q n2
     rw [← HD.out, Na.trim_length, HQ1.out]
    ·rw [← HD.out]
     unfold Na.trim
     rw [HQ1.out, ← nats_take]
     exact own_take HO3.out (Na.tl_le Q n2)
   case measure => simp [intOf]; omega
  ·have ht1 : (kv : Int) < (j : Int) + 1 := by omega
   have hjk : j = kv := by omega
   have HEq : Hid (Na.bin (m + j) j = Na.bin n kv) := by unfold Hid; rw [hjk]; exact HBin.out
   have HR := Lib.hid (nresult_any A1 n1 c1 (w.heap.size + 1) (Na.dig (Na.bin (m + j) j)) wr HLn.out HO.out (Na.dig_lim _) (by omega))
   rw [Na.val_dig, HEq.out, resL_ok (Na.bin_top n kv hn).1, resE_ok (Na.bin_top n kv hn).1] at HR
   clear hjk
   go_wp2_with fail
   refine HR.out.mono ?_
   rintro e w9 ⟨A9, n9, c9, rfl, hn9, ho9, hb9⟩
   have HN9 := Lib.hid hn9
   have HO9 := Lib.hid ho9
   have HB9 := Lib.hid (HB.out.trans (hb9.mono HBS.out))
   have hk9 : w9.cell? ⟨w.heap.size, 0, none⟩ = some (.slice none 0 0) := (HB9.out.cell (p := ⟨w.heap.size, 0, none⟩) (by simp)).trans hw1
   have hk9f : w9.frozen? ⟨w.heap.size, 0, none⟩ = false := (HB9.out.frozen (p := ⟨w.heap.size, 0, none⟩) (by simp)).trans hw2
   clear hn9 ho9 hb9 hw1 hw2
   go_wp2_with fail
   refine bodyPost_ret (v := .tuple #[.agg #[.slice A9 n9 c9], .int .i64 0]) (by simp [results, Tryz.results187, go_sem, hk9]) rfl ?_
   exact resN_cell HO9.out HN9.out (by omega) (by omega) (HB0.out.trans (HB9.out.mono (by omega))) (Nat.le_refl _) _ _
set_option maxHeartbeats 2000000 in
theorem nchoose_b (n kv m kk : Nat) (w : World) (hn : n ≤ 4096) (hk : kv ≤ n) (hmin : n - kv < kv) (hkk : kk = n - kv) (hm : m = kv) :
  Calls Tryz.prog 187 #[.int .i64 (n : Int), .int .i64 (kv : Int)] w (ResN w (Na.dig (Na.bin n kv)) 0) := by
 have h1 : decide ((n : Int) < 0) = false := decide_eq_false (by omega)
 have h2 : decide (4096 < (n : Int)) = false := decide_eq_false (by omega)
 have h3 : decide ((kv : Int) < 0) = false := decide_eq_false (by omega)
 have h4 : decide (n < kv) = false := decide_eq_false (by omega)
 have hkn : (n : Int) - (kv : Int) = (kk : Int) := by omega
 have h5 : (kk : Int) < (kv : Int) := by omega
 have hmk : (n : Int) - (kk : Int) = (m : Int) := by omega
 have HBin : Hid (Na.bin (m + kk) kk = Na.bin n kv) := by unfold Hid; rw [show m + kk = n by omega, hkk, Na.bin_symm hk]
 have hmn : m + kk ≤ 4096 := by omega
 clear hmin hm hkk
 have HO0 : Hid (((w.alloc (.cells #[.slice none 0 0] 25)).alloc (.cells #[.int .i64 1] 3)).ownsRow (w.heap.size + 1) 3 1 (.slice (some ⟨w.heap.size + 1, 0, none⟩) 1 1) 1 (nats (Na.dig (Na.bin (m + 0) 0)))) := by
  unfold Hid
  rw [Na.bin_zero, Na.dig_small 1 (by omega) (by omega)]
  have h := World.ownsRow_lit (base := (w.alloc (.cells #[.slice none 0 0] 25)).heap.size) (e := 3) (size := 1) (w.alloc (.cells #[.slice none 0 0] 25)) #[.int .i64 1] 1 (Nat.le_refl _) (by unfold maxLen; omega) rfl
  rw [World.size_alloc] at h
  exact h
 have HL0 : Hid ((Na.dig (Na.bin (m + 0) 0)).length = 1) := by unfold Hid; rw [Na.bin_zero, Na.dig_small 1 (by omega) (by omega)]; rfl
 have hw1 : (w.alloc (.cells #[.slice none 0 0] 25)).cell? ⟨w.heap.size, 0, none⟩ = some (.slice none 0 0) := by simp [go_sem]
 have hw2 : (w.alloc (.cells #[.slice none 0 0] 25)).frozen? ⟨w.heap.size, 0, none⟩ = false := by simp [go_sem]
 obtain ⟨w0, hw0⟩ : ∃ w0, w.alloc (.cells #[.slice none 0 0] 25) = w0 := ⟨_, rfl⟩
 have HW : Hid (w.alloc (.cells #[.slice none 0 0] 25) = w0) := hw0
 have HB0 : Hid (Below w.heap.size w w0) := by rw [← hw0]; exact own_box1 _ _
 have hz0w : w0.heap.size = w.heap.size + 1 := by rw [← hw0]; simp
 rw [hw0] at hw1 hw2 HO0
 clear hw0
 go_enter Tryz.func187, Tryz.ntmps187
 go_wp2_with fail
 rw [HW.out]
 clear h1 h2 h3 h4
 go_loopw [7, 6] (fun i o wr => NCh w0 (w.heap.size + 1) m kk i o wr) (fun i _ _ => kk + 1 - (intOf i).toNat)
 case atStart => exact ⟨0, _, 1, 1, Nat.zero_le _, rfl, rfl, by omega, HL0.out, HO0.out, (Below.refl _ _).alloc (by omega) _, by simp; omega⟩
 case round =>
  clear HO0 HL0 HW
  obtain ⟨j, A1, n1, c1, hj, rfl, rfl, hn1, HLn, ho, hb, hbs⟩ := hrel
  have HO := Lib.hid ho
  have HB := Lib.hid hb
  have HBS := Lib.hid hbs
  clear ho hb hbs
  rcases Nat.lt_or_ge j kk with hlt | hge
  ·have ht1 : (j : Int) + 1 ≤ (kk : Int) := by omega
   have HGr := Lib.hid (ngrow_any A1 n1 c1 (w.heap.size + 1) (Na.dig (Na.bin (m + j) j)) (m + (j + 1)) 0 ((m : Int) + ((j : Int) + 1)) 0 (by omega) rfl wr HLn.out HO.out (Na.dig_lim _) (by omega) (by omega) (by omega) HBS.out)
   rw [Na.val_dig, Nat.add_zero] at HGr
   go_wp2_with fail
   refine HGr.out.mono ?_
   rintro e w2 ⟨A2, n2, c2, o, rfl, ho1, ho2, ho3, ho4, ho5, hb2, hbs2, -⟩
   have HSm := Lib.hid (nsmall_any A2 n2 c2 (w.heap.size + 1) o (j + 1) ((j : Int) + 1) (by omega) w2 ho1 ho5 ho3 (by omega) (by omega) (by omega))
   have HRow : Hid (∀ g, (Value.slice A2 n2 c2).ownBlock = some g → w.heap.size + 1 ≤ g) := own_block ho5
   have HC2 : Hid (n2 ≤ c2) := (own_cap ho5).1
   have HV := Lib.hid ho4
   have HB2 := Lib.hid hb2
   have HBS2 := Lib.hid hbs2
   have hn2 : n2 ≤ 174 := by omega
   clear ho1 ho2 ho3 ho4 ho5 hb2 hbs2 HGr
   go_wp2_with fail
   refine HSm.out.mono ?_
   rintro e w3 ⟨Q, rfl, hq1, hq2, hq3, hq4, hg3⟩
   have HD : Hid (Na.trim Q = Na.dig (Na.bin (m + (j + 1)) (j + 1))) := by
    unfold Hid
    rw [Na.trim_dig hq2, hq3, HV.out, Nat.add_zero, Na.bin_next]
   have HO3 := Lib.hid hq4
   have HB3 : Hid (Below (w.heap.size + 1) w2 w3) := below_row hg3 HBS2.out HRow.out
   have HQ1 := Lib.hid hq1
   have HT := Lib.hid (ntrim_any A2 n2 c2 _ Q w3 hq1 (Sl.of_own hq4) HC2.out (by omega))
   clear hq1 hq2 hq3 hq4 hg3 HSm
   go_wp2_with fail
   refine HT.out.mono ?_
   rintro e w4 ⟨rfl, rfl⟩
   go_wp2_with fail
   go_roundw
   case rel =>
    refine ⟨j + 1, A2, _, c2, by omega, by go_num, rfl, ?_, ?_, ?_, (HB.out.trans HB2.out).trans HB3.out, Nat.le_trans HBS2.out HB3.out.size⟩
    ·have h9 := Na.trim_length Q
     rw [HD.out, HQ1.out] at h9
     rw [← h9]
     exact (Na.bin_top _ _ (by omega)).2
    ·show (Na.dig (Na.bin (m + (j + 1)) (j + 1))).length = Na.tl Q n2
     rw [← HD.out, Na.trim_length, HQ1.out]
    ·rw [← HD.out]
     unfold Na.trim
     rw [HQ1.out, ← nats_take]
     exact own_take HO3.out (Na.tl_le Q n2)
   case measure => simp [intOf]; omega
  ·have ht1 : (kk : Int) < (j : Int) + 1 := by omega
   have hjk : j = kk := by omega
   have HEq : Hid (Na.bin (m + j) j = Na.bin n kv) := by unfold Hid; rw [hjk]; exact HBin.out
   have HR := Lib.hid (nresult_any A1 n1 c1 (w.heap.size + 1) (Na.dig (Na.bin (m + j) j)) wr HLn.out HO.out (Na.dig_lim _) (by omega))
   rw [Na.val_dig, HEq.out, resL_ok (Na.bin_top n kv hn).1, resE_ok (Na.bin_top n kv hn).1] at HR
   clear hjk
   go_wp2_with fail
   refine HR.out.mono ?_
   rintro e w9 ⟨A9, n9, c9, rfl, hn9, ho9, hb9⟩
   have HN9 := Lib.hid hn9
   have HO9 := Lib.hid ho9
   have HB9 := Lib.hid (HB.out.trans (hb9.mono HBS.out))
   have hk9 : w9.cell? ⟨w.heap.size, 0, none⟩ = some (.slice none 0 0) := (HB9.out.cell (p := ⟨w.heap.size, 0, none⟩) (by simp)).trans hw1
   have hk9f : w9.frozen? ⟨w.heap.size, 0, none⟩ = false := (HB9.out.frozen (p := ⟨w.heap.size, 0, none⟩) (by simp)).trans hw2
   clear hn9 ho9 hb9 hw1 hw2
   go_wp2_with fail
   refine bodyPost_ret (v := .tuple #[.agg #[.slice A9 n9 c9], .int .i64 0]) (by simp [results, Tryz.results187, go_sem, hk9]) rfl ?_
   exact resN_cell HO9.out HN9.out (by omega) (by omega) (HB0.out.trans (HB9.out.mono (by omega))) (Nat.le_refl _) _ _

theorem nchoose_any (n k : Int) (w : World) : Calls Tryz.prog 187 #[.int .i64 n, .int .i64 k] w (ResN w (choL n k) (choE n k)) := by
 by_cases h1 : n < 0
 ·have HR : Hid (choL n k = []) := if_pos (.inl h1)
  have HE : Hid (choE n k = 2) := if_pos (.inl h1)
  go_enter Tryz.func187, Tryz.ntmps187
  go_wp2_with fail
  refine bodyPost_ret (v := .tuple #[.agg #[.slice none 0 0], .int .i64 2]) (by simp [results, Tryz.results187, go_sem]) rfl ?_
  rw [HR.out, HE.out]
  exact resN_nil _ _ _ (own_box1 _ _)
 ·by_cases h2 : 4096 < n
  ·have HR : Hid (choL n k = []) := if_pos (.inr h2)
   have HE : Hid (choE n k = 2) := if_pos (.inr h2)
   have h1' : 0 ≤ n := by omega
   clear h1
   go_enter Tryz.func187, Tryz.ntmps187
   go_wp2_with fail
   refine bodyPost_ret (v := .tuple #[.agg #[.slice none 0 0], .int .i64 2]) (by simp [results, Tryz.results187, go_sem]) rfl ?_
   rw [HR.out, HE.out]
   exact resN_nil _ _ _ (own_box1 _ _)
  ·have hn : ¬ (n < 0 ∨ 4096 < n) := by omega
   have h1' : 0 ≤ n := by omega
   have h2' : n ≤ 4096 := by omega
   by_cases h3 : k < 0
   ·have HR : Hid (choL n k = []) := by unfold Hid choL; rw [if_neg hn, if_pos (.inl h3)]
    have HE : Hid (choE n k = 0) := by unfold Hid choE; rw [if_neg hn]
    clear h1 h2 hn
    go_enter Tryz.func187, Tryz.ntmps187
    go_wp2_with fail
    refine bodyPost_ret (v := .tuple #[.agg #[.slice none 0 0], .int .i64 0]) (by simp [results, Tryz.results187, go_sem]) rfl ?_
    rw [HR.out, HE.out]
    exact resN_nil _ _ _ (own_box1 _ _)
   ·by_cases h4 : n < k
    ·have HR : Hid (choL n k = []) := by unfold Hid choL; rw [if_neg hn, if_pos (.inr h4)]
     have HE : Hid (choE n k = 0) := by unfold Hid choE; rw [if_neg hn]
     have h3' : 0 ≤ k := by omega
     clear h1 h2 h3 hn
     go_enter Tryz.func187, Tryz.ntmps187
     go_wp2_with fail
     refine bodyPost_ret (v := .tuple #[.agg #[.slice none 0 0], .int .i64 0]) (by simp [results, Tryz.results187, go_sem]) rfl ?_
     rw [HR.out, HE.out]
     exact resN_nil _ _ _ (own_box1 _ _)
    ·obtain ⟨a, rfl⟩ := Int.eq_ofNat_of_zero_le h1'
     obtain ⟨b, rfl⟩ := Int.eq_ofNat_of_zero_le (show 0 ≤ k by omega)
     have e1 : choL (a : Int) (b : Int) = Na.dig (Na.bin a b) := by unfold choL; rw [if_neg hn, if_neg (by omega)]; rfl
     have e2 : choE (a : Int) (b : Int) = 0 := by unfold choE; rw [if_neg hn]
     rw [e1, e2]
     rcases Nat.lt_or_ge (a - b) b with h5 | h5
     ·exact nchoose_b a b b (a - b) w (by omega) (by omega) h5 rfl rfl
     ·exact nchoose_a a b (a - b) w (by omega) (by omega) h5 rfl
def str (l : List UInt8) : ByteArray := ⟨l.toArray⟩
theorem str_size (l : List UInt8) : (str l).size = l.length := by unfold str; simp [ByteArray.size]
theorem str_list (l : List UInt8) : (str l).data.toList = l := by unfold str; simp
theorem str_tail (b : UInt8) (l : List UInt8) : (str (b :: l)).extract 1 (str (b :: l)).size = str l := by
 have h := Lib.extract_to_end (str (b :: l)) 1
 rw [str_list] at h
 have h2 : ((str (b :: l)).extract 1 (str (b :: l)).size).data = l.toArray := Array.ext' (h.trans (by simp))
 cases hx : (str (b :: l)).extract 1 (str (b :: l)).size with
 | mk d =>
  rw [hx] at h2
  unfold str
  rw [← h2]
theorem str_get (l : List UInt8) (k : Nat) (b : UInt8) (h : l[k]? = some b) (hk : k < (str l).size) : (str l)[k] = b := by
 have h1 := get_lt h
 rw [List.getElem?_eq_getElem h1] at h
 exact Option.some.inj h
theorem ret_str {a b : List UInt8} (h : a = b) : Ending.returned (.string (str a)) = .returned (.string (str b)) := by rw [h]
set_option maxHeartbeats 1000000 in
theorem trimLeftByte_any (l : List UInt8) (w : World) (hl : l.length ≤ 9223372036854775807) : Calls Tryz.prog 156 #[.string (str l), .int .u8 48] w fun e w' => e = .returned (.string (str (De.strip l))) ∧ w = w' := by
 go_enter Tryz.func156, Tryz.ntmps156
 go_wp2_with fail
 go_loop [0] (fun v => ∃ l' : List UInt8, l'.length ≤ l.length ∧ v = .string (str l') ∧ Hid (De.strip l' = De.strip l)) (fun v => match v with | .string s => s.size | _ => 0)
 case atStart => exact ⟨l, Nat.le_refl _, rfl, rfl⟩
 case round =>
  obtain ⟨l', hl', rfl, HS⟩ := hrel
  cases l' with
  | nil =>
   have hz : (str []).size = 0 := str_size []
   go_wp2_with fail
   go_ret
   exact ⟨ret_str (by rw [← HS.out]; rfl), rfl⟩
  | cons b t =>
   have HT := Lib.hid (str_tail b t)
   have HG := Lib.hid (str_get (b :: t) 0 b rfl)
   have hz := str_size (b :: t)
   rw [List.length_cons] at hl' hz
   have hzt := Lib.hid (str_size t)
   obtain ⟨S, hS⟩ : ∃ S, str (b :: t) = S := ⟨_, rfl⟩
   rw [hS] at HT hz HG ⊢
   have hp : 0 < S.size := by omega
   have hp2 : (S.size : Int) ≤ 9223372036854775807 := by omega
   have hidx : ∀ w, (Instr.index 9 (.string S) (.int .i64 0)).run Tryz.prog w = .ok (.int .u8 (b.toNat : Int)) w := fun w => by
    rw [run_index_string w _ _ _ _ (by kernel_rfl), dif_pos ⟨by omega, by omega⟩]
    have := HG.out hp
    simp only [Int.toNat_zero]
    rw [this]
   have HZ := Lib.hid hz
   clear hz
   by_cases hb : b = 48
   ·have HS2 : Hid (De.strip t = De.strip l) := by unfold Hid; rw [← HS.out, hb, De.strip_zero]
    subst hb
    clear hS
    go_wp2_with fail
    rw [HT.out]
    go_round
    case rel => exact ⟨t, by omega, rfl, HS2⟩
    case measure => simp only [hzt.out, HZ.out]; omega
   ·have hne : ((b.toNat : Int) == 48) = false := u8_ne hb
    have HS2 : Hid (b :: t = De.strip l) := by unfold Hid; rw [← HS.out, De.strip_stop hb]
    have HSS := Lib.hid hS
    clear hS hb
    go_wp2_with fail
    go_ret
    exact ⟨by rw [← HSS.out]; exact ret_str HS2.out, rfl⟩
theorem str_toList (l : List UInt8) : (str l).toList = l := by rw [ByteArray.toList_eq, str_list]
theorem str_empty {l : List UInt8} (h : l ≠ []) : (str l).toList.isEmpty = false := by
 rw [str_toList]
 cases l with
 | nil => exact absurd rfl h
 | cons b t => rfl
theorem trimLeft_any (l : List UInt8) (w : World) (hl : l.length ≤ 9223372036854775807) : Calls Tryz.prog 112 #[.string (str l), .string ⟨#[48]⟩] w fun e w' => e = .returned (.string (str (De.strip l))) ∧ w = w' := by
 have HT := Lib.hid (trimLeftByte_any l w hl)
 have hidx48 : ∀ w, (Instr.index 9 (.string ⟨#[48]⟩) (.int .i64 0)).run Tryz.prog w = .ok (.int .u8 48) w := fun _ => by kernel_rfl
 cases l with
 | nil =>
  have hne : (str []).toList.isEmpty = true := by rw [str_toList]; rfl
  go_enter Tryz.func112, Tryz.ntmps112
  go_wp2_with fail
  go_ret
  exact ⟨rfl, rfl⟩
 | cons b t =>
  have hne : (str (b :: t)).toList.isEmpty = false := str_empty (by simp)
  go_enter Tryz.func112, Tryz.ntmps112
  go_wp2_with fail
  refine HT.out.mono ?_
  rintro e w1 ⟨rfl, rfl⟩
  go_wp2_with fail
  go_ret
  exact ⟨rfl, rfl⟩
namespace De
def rv (l : List UInt8) (k : Nat) : List UInt8 := (l.reverse.take k) ++ ((l.drop k).take (l.length - 2 * k)) ++ (l.reverse.drop (l.length - k))
theorem rv_length (l : List UInt8) (k : Nat) (h : 2 * k ≤ l.length) : (rv l k).length = l.length := by
 unfold rv
 simp
 omega
theorem rv_get (l : List UInt8) (k i : Nat) (h : 2 * k ≤ l.length) (hi : i < l.length) : (rv l k)[i]? = if i < k ∨ l.length - k ≤ i then l[l.length - 1 - i]? else l[i]? := by
 unfold rv
 rcases Nat.lt_or_ge i k with h1 | h1
 ·rw [if_pos (.inl h1), List.getElem?_append_left (by simp; omega), List.getElem?_append_left (by simp; omega), List.getElem?_take, if_pos h1, List.getElem?_reverse hi]
 ·rcases Nat.lt_or_ge i (l.length - k) with h2 | h2
  ·rw [if_neg (by omega), List.getElem?_append_left (by simp; omega), List.getElem?_append_right (by simp; omega), List.getElem?_take, if_pos (by simp; omega), List.getElem?_drop]
   congr 1
   simp
   omega
  ·rw [if_pos (.inr h2), List.getElem?_append_right (by simp; omega), List.getElem?_drop, List.getElem?_reverse (by simp; omega)]
   congr 1
   simp
   omega
theorem rv_zero (l : List UInt8) : rv l 0 = l := by unfold rv; simp
theorem rv_next (l : List UInt8) (k : Nat) (a b : UInt8) (h : 2 * (k + 1) ≤ l.length) (ha : l[k]? = some a) (hb : l[l.length - 1 - k]? = some b) : ((rv l k).set k b).set (l.length - 1 - k) a = rv l (k + 1) := by
 apply List.ext_getElem?
 intro i
 rcases Nat.lt_or_ge i l.length with hi | hi
 ·rw [rv_get l (k + 1) i h hi]
  by_cases h1 : i = l.length - 1 - k
  ·subst h1
   rw [List.getElem?_set_self (by rw [List.length_set, rv_length l k (by omega)]; omega), if_pos (.inr (by omega)), show l.length - 1 - (l.length - 1 - k) = k by omega, ha]
  ·rw [List.getElem?_set_ne (fun e => h1 e.symm)]
   by_cases h2 : i = k
   ·subst h2
    rw [List.getElem?_set_self (by rw [rv_length l i (by omega)]; omega), if_pos (.inl (by omega)), hb]
   ·rw [List.getElem?_set_ne (fun e => h2 e.symm), rv_get l k i (by omega) hi]
    by_cases h3 : i < k ∨ l.length - k ≤ i
    ·rw [if_pos h3, if_pos (by omega)]
    ·rw [if_neg h3, if_neg (by omega)]
 ·rw [List.getElem?_eq_none (by rw [List.length_set, List.length_set, rv_length l k (by omega)]; exact hi), List.getElem?_eq_none (by rw [rv_length l (k + 1) h]; exact hi)]
theorem rv_end (l : List UInt8) (k : Nat) (h : 2 * k ≤ l.length) (h2 : l.length ≤ 2 * k + 1) : rv l k = l.reverse := by
 apply List.ext_getElem?
 intro i
 rcases Nat.lt_or_ge i l.length with hi | hi
 ·rw [rv_get l k i h hi, List.getElem?_reverse hi]
  by_cases h3 : i < k ∨ l.length - k ≤ i
  ·rw [if_pos h3]
  ·rw [if_neg h3, show l.length - 1 - i = i by omega]
 ·rw [List.getElem?_eq_none (by rw [rv_length l k h]; exact hi), List.getElem?_eq_none (by simp; exact hi)]
end De
theorem bys_set (l : List UInt8) (k : Nat) (b : UInt8) : (bys l).set k (.int .u8 (b.toNat : Int)) = bys (l.set k b) := by unfold bys; rw [List.map_set]; rfl
set_option maxHeartbeats 2000000 in
theorem reverse_any (A : Option Addr) (n c base : Nat) (l : List UInt8) (w : World) (hn : l.length = n) (ho : w.ownsRow base 5 1 (.slice A n c) n (bys l)) (hl : n ≤ 140737488355328) (hbase : base ≤ w.heap.size) :
  Calls Tryz.prog 111 #[.slice A n c] w fun e w' => e = .returned (.tuple #[]) ∧ w'.ownsRow base 5 1 (.slice A n c) n (bys l.reverse) ∧ Below base w w' := by
 have HN := Lib.hid hn
 have HO0 := Lib.hid ho
 clear hn ho
 go_enter Tryz.func111, Tryz.ntmps111
 go_wp2_with fail
 go_loopw [2, 3] (fun i j wr => ∃ k : Nat, 2 * k ≤ n ∧ i = .int .i64 (k : Int) ∧ j = .int .i64 ((n : Int) - 1 - k) ∧ wr.ownsRow base 5 1 (.slice A n c) n (bys (De.rv l k)) ∧ Below base w wr ∧ base ≤ wr.heap.size) (fun i _ _ => n - (intOf i).toNat)
 case atStart => exact ⟨0, Nat.zero_le _, rfl, by simp, by rw [De.rv_zero]; exact HO0.out, Below.refl _ _, hbase⟩
 case round =>
  clear HO0 hbase
  obtain ⟨k, hk, rfl, rfl, ho, hb, hbs⟩ := hrel
  have HB := Lib.hid hb
  have HBS := Lib.hid hbs
  rcases Nat.lt_or_ge (2 * k + 1) n with hlt | hge
  ·obtain ⟨g, rfl, hgb, hgw⟩ := own_form ho (by omega)
   obtain ⟨j, hj⟩ : ∃ j, n - 1 - k = j := ⟨_, rfl⟩
   have hj1 : (n : Int) - 1 - (k : Int) = (j : Int) := by omega
   obtain ⟨a, ha⟩ := byte_at l k (by rw [HN.out]; omega)
   obtain ⟨b, hbb⟩ := byte_at l j (by rw [HN.out]; omega)
   have hca := own_byte ho (k := k) (b := a) (by rw [De.rv_get l k k (by rw [HN.out]; omega) (by rw [HN.out]; omega), if_neg (by rw [HN.out]; omega)]; exact ha)
   have hcb := own_byte ho (k := j) (b := b) (by rw [De.rv_get l k j (by rw [HN.out]; omega) (by rw [HN.out]; omega), if_neg (by rw [HN.out]; omega)]; exact hbb)
   have hf1 := ho.frozenAt k
   have hf2 := ho.frozenAt j
   have HNx := Lib.hid (De.rv_next l k a b (by rw [HN.out]; omega) ha (by rw [HN.out, hj]; exact hbb))
   rw [HN.out, hj] at HNx
   have HO := Lib.hid ho
   have hkn : (k : Int) < (n : Int) := by omega
   have hjn : (j : Int) < (n : Int) := by omega
   have hkj : k < j := by omega
   have hkj1 : (k : Int) < (j : Int) := by omega
   have HJ := Lib.hid hj
   rw [hj1]
   clear ho hb hbs ha hbb hj hj1
   go_wp2_with fail
   go_region
   all_goals
    go_wp2_with fail
    go_roundw
    case rel =>
     have o1 := own_put (own_put HO.out k (.int .u8 (b.toNat : Int))) j (.int .u8 (a.toNat : Int))
     rw [bys_set, bys_set, HNx.out] at o1
     have b1 := (HB.out.setCell (p := ⟨g, k, none⟩) hgb (.int .u8 (b.toNat : Int))).setCell (p := ⟨g, j, none⟩) hgb (.int .u8 (a.toNat : Int))
     have hj := HJ.out
     exact ⟨k + 1, by omega, by go_num, int_eqv (by omega), o1.drew, b1.drew, by simpa [World.setCell] using HBS.out⟩
    case measure => simp [intOf]; omega
  ·have hjk : (n : Int) - 1 - (k : Int) ≤ (k : Int) := by omega
   have HEnd := Lib.hid (De.rv_end l k (by rw [HN.out]; omega) (by rw [HN.out]; omega))
   have HO := Lib.hid ho
   clear ho hb hbs
   go_wp2_with fail
   go_end0
   exact ⟨rfl, by rw [← HEnd.out]; exact HO.out, HB.out⟩
namespace De
theorem len_bound' {n y x m : Nat} (h : 10 ^ n * y ≤ x) (hy : 0 < y) (hx : x < 16777216 ^ m) : n < 24 * m := by
 rcases Nat.lt_or_ge n (24 * m) with h1 | h1
 ·exact h1
 ·exfalso
  have h2 : 10 ^ n * 1 ≤ 10 ^ n * y := Nat.mul_le_mul_left _ hy
  have h3 : 2 ^ n ≤ 10 ^ n := Nat.pow_le_pow_left (by omega) n
  have h4 : (2 : Nat) ^ (24 * m) ≤ 2 ^ n := Nat.pow_le_pow_right (by omega) h1
  rw [Na.pow24] at hx
  omega
theorem len_bound {n y x : Nat} (h : 10 ^ n * y ≤ x) (hy : 0 < y) (hx : x < Na.top) : n ≤ 4800 := by
 have := len_bound' h hy (m := 200) hx
 omega
theorem map_snoc (ds : List Nat) (d : Nat) : ds.map asc ++ [asc d] = (ds ++ [d]).map asc := by simp
theorem text_pos {x : Nat} (h : 0 < x) : text x = ((dig x).map asc).reverse := by unfold text; rw [if_neg (by omega)]
theorem text_ne {x : Nat} (h : 0 < x) : ((dig x).map asc).reverse ≠ [] := by
 rw [dig_pos x h]
 simp
end De
def Apart (a b : Value) : Prop := a.ownBlock = none ∨ a.ownBlock ≠ b.ownBlock
theorem Apart.symm {a b : Value} (h : Apart a b) : Apart b a := by
 rcases h with h | h
 ·by_cases hb : b.ownBlock = none
  ·exact .inl hb
  ·exact .inr (by rw [h]; exact hb)
 ·exact .inr (fun e => h e.symm)
theorem Apart.next {w : World} {base n c n1 c1 n2 c2 : Nat} {e : TypeId} {A B B' : Option Addr} {xs : List Value} (h : Apart (.slice A n c) (.slice B n1 c1)) (ho : w.ownsRow base e 1 (.slice A n c) n xs) (hb : (Value.slice B' n2 c2).ownBlock = (Value.slice B n1 c1).ownBlock ∨ (Value.slice B' n2 c2).ownBlock = some w.heap.size) : Apart (.slice A n c) (.slice B' n2 c2) := by
 rcases hb with hb | hb
 ·rcases h with h | h
  ·exact .inl h
  ·exact .inr (by rw [hb]; exact h)
 ·by_cases ha : (Value.slice A n c).ownBlock = none
  ·exact .inl ha
  ·refine .inr fun e1 => ?_
   rw [hb] at e1
   have := (ho.lt _ e1).2
   omega
theorem Apart.of_len {A A' B B' : Option Addr} {n c n' c' m d m' d' : Nat} (h : Apart (.slice A n c) (.slice B m d)) (e1 : A' = A) (e2 : B' = B) : Apart (.slice A' n' c') (.slice B' m' d') := by
 subst e1 e2
 have f1 : ∀ (X : Option Addr) (a b a' b' : Nat), (Value.slice X a b).ownBlock = (Value.slice X a' b').ownBlock := fun X a b a' b' => by cases X <;> rfl
 rcases h with h | h
 ·exact .inl (by rw [f1 A' n' c' n c]; exact h)
 ·exact .inr (by rw [f1 A' n' c' n c, f1 B' m' d' m d]; exact h)
def NPt (w : World) (B x : Nat) (l o : Value) (wr : World) : Prop :=
 ∃ (y : Nat) (ds : List Nat) (A : Option Addr) (n c : Nat) (Ao : Option Addr) (no co : Nat), l = .slice A n c ∧ o = .slice Ao no co ∧ n ≤ 200 ∧ no ≤ 4900 ∧ Hid ((Na.dig y).length = n ∧ De.Lim ds ∧ ds.length = no ∧ De.val ds + 10 ^ no * y = x) ∧ Apart (.slice A n c) (.slice Ao no co) ∧
  wr.ownsRow B 3 1 (.slice A n c) n (nats (Na.dig y)) ∧ wr.ownsRow B 5 1 (.slice Ao no co) no (bys (ds.map De.asc)) ∧ Below B w wr ∧ B ≤ wr.heap.size
def NPi7 (w : World) (B x y : Nat) (Q : List Nat) (A : Option Addr) (n c no0 : Nat) (i o p : Value) (wr : World) : Prop :=
 ∃ (k r : Nat) (ds : List Nat) (Ao : Option Addr) (co : Nat), k ≤ 7 ∧ i = .int .i64 (k : Int) ∧ o = .slice Ao (no0 + k) co ∧ p = .int .i64 (r : Int) ∧ r < 10000000 ∧ Hid (r < 10 ^ (7 - k)) ∧ Hid (De.Lim ds ∧ ds.length = no0 + k ∧ De.val ds + 10 ^ (no0 + k) * (r + 10 ^ (7 - k) * y) = x) ∧ Apart (.slice A n c) (.slice Ao (no0 + k) co) ∧
  wr.ownsRow B 3 1 (.slice A n c) n (nats Q) ∧ wr.ownsRow B 5 1 (.slice Ao (no0 + k) co) (no0 + k) (bys (ds.map De.asc)) ∧ Below B w wr ∧ B ≤ wr.heap.size
theorem infoB' : (Tryz.prog.info? 5).map (fun i => (i.zero, i.size, i.bytes)) = some (some (.int .u8 0), 1, 1) := by kernel_rfl
set_option maxHeartbeats 4000000 in
theorem nprint_ok (A : Option Addr) (n c : Nat) (x : Nat) (w : World) (hn : (Na.dig x).length = n) (hs : Sl w w.heap.size A (nats (Na.dig x))) (hx : x < Na.top) :
  Calls Tryz.prog 57 #[.agg #[.slice A n c]] w fun e w' => e = .returned (.string (str (De.text x))) ∧ Below w.heap.size w w' := by
 obtain ⟨i0, hi, hz0, hz1, hz2⟩ := info_parts infoB'
 have hn2 : n ≤ 200 := by rw [← hn]; exact (Na.dig_200 x).2 hx
 obtain ⟨w0, hw0⟩ : ∃ w0, w.alloc (.cells #[.slice A n c] 25) = w0 := ⟨_, rfl⟩
 have HW : Hid (w.alloc (.cells #[.slice A n c] 25) = w0) := hw0
 have hb0 : Below w.heap.size w w0 := by rw [← hw0]; exact own_box1 _ _
 have HB0 := Lib.hid hb0
 have hzw : w0.heap.size = w.heap.size + 1 := by rw [← hw0]; simp
 have hc0 : w0.cell? ⟨w.heap.size, 0, none⟩ = some (.slice A n c) := by rw [← hw0]; simp [go_sem]
 have HV := Lib.hid (nvalid_any A n c w0.heap.size (Na.up (Na.dig x)) w0 (by rw [Na.up_length]; exact hn) (by rw [nats_up]; exact (hs.below hb0).more hb0.size) (Nat.le_refl _) (by omega))
 rw [Na.vld_dig hx] at HV
 have HN := Lib.hid hn
 have HS := Lib.hid hs
 have HX := Lib.hid hx
 clear hs hn hb0 hw0 hx
 go_enter Tryz.func57, Tryz.ntmps57
 go_wp2_with fail
 rw [HW.out]
 refine HV.out.mono ?_
 rintro e w1 ⟨rfl, hb⟩
 have HB1 := Lib.hid (btr HB0.out hb)
 have hd0 : w1.cell? ⟨w.heap.size, 0, none⟩ = some (.slice A n c) := (hb.cell (p := ⟨w.heap.size, 0, none⟩) (by simp [hzw])).trans hc0
 have HCl := Lib.hid (nclone_any A n c w1.heap.size (Na.dig x) w1 HN.out ((HS.out.below HB1.out).more HB1.out.size) (Nat.le_refl _) (by omega))
 clear hb hc0 HV HW hzw HB0
 go_wp2_with fail
 refine HCl.out.mono ?_
 rintro e w2 ⟨A2, n2, c2, rfl, hn2', ho2, hb2⟩
 have HN2 := Lib.hid hn2'
 have HO2 := Lib.hid ho2
 have HB2 := Lib.hid hb2
 have hn200 : n2 ≤ 200 := by rw [← hn2', HN.out]; exact hn2
 clear hn2' ho2 hb2 HCl hd0
 go_wp2_with fail
 go_loopw [4, 3] (fun l o wr => NPt w1 w1.heap.size x l o wr) (fun _ o _ => 5000 - slen o)
 case atStart => exact ⟨x, [], A2, n2, c2, none, 0, 0, rfl, rfl, hn200, by omega, ⟨HN2.out, De.Lim.nil, rfl, by simp [De.val]⟩, Apart.symm (.inl rfl), HO2.out, World.ownsRow_nil _ _ _ _, HB2.out, HB2.out.size⟩
 case round =>
  clear HN2 HO2 HB2 hn200
  obtain ⟨y, ds, A3, n3, c3, Ao, no, co, rfl, rfl, hn3, hno, HP, hap, ho1, ho2, hb, hbs⟩ := hrel
  have HAp := Lib.hid hap
  have HO1 := Lib.hid ho1
  have HO2 := Lib.hid ho2
  have HB := Lib.hid hb
  have HBS := Lib.hid hbs
  have HC3 : Hid (n3 ≤ c3) := (own_cap ho1).1
  have HCo : Hid (no ≤ co) := (own_cap ho2).1
  clear hap ho1 ho2 hb hbs
  rcases Nat.eq_zero_or_pos n3 with h0 | h0
  ·have hy0 : y = 0 := Na.dig_len0.1 (by rw [HP.out.1]; exact h0)
   have HVal : Hid (De.val ds = x) := by
    have h1 := HP.out.2.2.2
    rw [hy0, Nat.mul_zero, Nat.add_zero] at h1
    exact h1
   have HStr := Lib.hid (De.strip_text ds HP.out.2.1)
   rw [HVal.out] at HStr
   have HRv := Lib.hid (reverse_any Ao no co w1.heap.size (ds.map De.asc) wr (by rw [List.length_map]; exact HP.out.2.2.1) HO2.out (by omega) HBS.out)
   have HLen : Hid ((ds.map De.asc).reverse.length = no) := by unfold Hid; rw [List.length_reverse, List.length_map]; exact HP.out.2.2.1
   clear hy0
   subst h0
   go_wp2_with fail
   refine HRv.out.mono ?_
   rintro e w4 ⟨rfl, ho4, hb4⟩
   have HB4 := Lib.hid (HB.out.trans hb4)
   have hconv : (convert 122 9 (.slice Ao no co)).run Tryz.prog w4 = .ok (.string (str (ds.map De.asc).reverse)) w4 := by
    rcases Nat.eq_zero_or_pos no with h5 | h5
    ·subst h5
     have h6 : (ds.map De.asc).reverse = [] := List.eq_nil_of_length_eq_zero HLen.out
     rw [h6]
     rcases ho4.2 with ⟨h7, _⟩ | ⟨g, cap, cur, h7, _⟩
     ·injection h7 with e1 e2 e3
      subst e1
      exact Lib.run_convert_nil_bytes w4 _ _ 5 co Tryz.underlying122 Tryz.underlying5 Tryz.underlying9
     ·injection h7 with e1 e2 e3
      subst e1
      exact run_convert_bytes_back w4 _ _ 5 ⟨g, 0, none⟩ co [] Tryz.underlying122 Tryz.underlying5 Tryz.underlying9 (fun j hj => by cases hj)
    ·obtain ⟨g, rfl, _, _⟩ := own_form ho4 h5
     have h6 := run_convert_bytes_back w4 122 9 5 ⟨g, 0, none⟩ co (ds.map De.asc).reverse Tryz.underlying122 Tryz.underlying5 Tryz.underlying9 (fun j hj => by rw [add_zero]; exact own_byte ho4 (List.getElem?_eq_getElem hj))
     rw [HLen.out] at h6
     exact h6
   have HTL := Lib.hid (trimLeft_any (ds.map De.asc).reverse w4 (by rw [HLen.out]; omega))
   rw [HStr.out] at HTL
   clear ho4 hb4 HRv
   go_wp2_with fail
   refine HTL.out.mono ?_
   rintro e w5 ⟨rfl, rfl⟩
   clear hconv
   rcases Nat.eq_zero_or_pos x with hx0 | hx0
   ·subst hx0
    have hemp : (str ((De.dig 0).map De.asc).reverse).toList.isEmpty = true := by rw [str_toList, De.dig_zero]; rfl
    go_wp2_with fail
    go_ret
    exact ⟨rfl, HB1.out.trans (HB4.out.mono HB1.out.size)⟩
   ·have hemp : (str ((De.dig x).map De.asc).reverse).toList.isEmpty = false := str_empty (De.text_ne hx0)
    have HTx := Lib.hid (De.text_pos hx0)
    go_wp2_with fail
    go_ret
    exact ⟨by rw [HTx.out]; rfl, HB1.out.trans (HB4.out.mono HB1.out.size)⟩
  ·have hpos : decide (0 < (n3 : Int)) = true := decide_eq_true (by omega)
   have HY : Hid (0 < y) := by
    unfold Hid
    rcases Nat.eq_zero_or_pos y with h | h
    ·have := Na.dig_len0.2 h
     rw [HP.out.1] at this
     omega
    ·exact h
   have hno2 : no ≤ 4800 := De.len_bound (by have := HP.out.2.2.2; omega) HY.out HX.out
   have HSt := Lib.hid (De.part_start ds no x y HP.out.2.2.2)
   have HSm := Lib.hid (nsmall_any A3 n3 c3 w1.heap.size (Na.dig y) 10000000 10000000 rfl wr HP.out.1 HO1.out (Na.dig_lim _) (by omega) (by omega) (by omega))
   rw [Na.val_dig] at HSm
   clear hno
   go_wp2_with fail
   refine HSm.out.mono ?_
   rintro e w4 ⟨Q, rfl, hq1, hq2, hq3, hq4, hg4⟩
   obtain ⟨p, hp⟩ : ∃ p, y % 10000000 = p := ⟨_, rfl⟩
   obtain ⟨y', hy'⟩ : ∃ y', y / 10000000 = y' := ⟨_, rfl⟩
   rw [hp, hy'] at HSt
   rw [hp]
   have hp7 : p < 10000000 := by omega
   have HQ1 := Lib.hid hq1
   have HQ : Hid (Na.trim Q = Na.dig y') := by unfold Hid; rw [Na.trim_dig hq2, hq3, hy']
   have HOq := Lib.hid hq4
   have HOo := Lib.hid (own_keep HO2.out hg4 (HAp.out.symm))
   have HB4 := Lib.hid (HB.out.trans (below_row hg4 HBS.out (own_block HO1.out)))
   have HBS4 : Hid (w1.heap.size ≤ w4.heap.size) := Nat.le_trans HBS.out hg4.size
   clear hq1 hq2 hq3 hq4 hg4 HSm hp hy' HO1 HO2 HB HBS
   go_wp2_with fail
   go_loopw [20, 3, 5] (fun i o q wr => NPi7 w1 w1.heap.size x y' Q A3 n3 c3 no i o q wr) (fun i _ _ _ => 7 - (intOf i).toNat)
   case atStart => exact ⟨0, p, ds, Ao, co, by omega, rfl, rfl, rfl, hp7, hp7, ⟨HP.out.2.1, HP.out.2.2.1, HSt.out⟩, HAp.out, HOq.out, HOo.out, HB4.out, HBS4.out⟩
   case round =>
    clear HOq HOo HB4 HBS4 hp7 HAp HSt
    obtain ⟨k, r, es, A4, c4, hk, rfl, rfl, rfl, hr7, HR, HE, hap, ho1, ho2, hb, hbs⟩ := hrel
    have HAp := Lib.hid hap
    have HO1 := Lib.hid ho1
    have HB := Lib.hid hb
    have HBS := Lib.hid hbs
    rcases Nat.lt_or_ge k 7 with hk7 | hk7
    ·obtain ⟨d, hd⟩ : ∃ d, r % 10 = d := ⟨_, rfl⟩
     obtain ⟨q, hq⟩ : ∃ q, r / 10 = q := ⟨_, rfl⟩
     have hd10 : d < 10 := by omega
     have hmod : (r : Int) % 10 = (d : Int) := by omega
     have hdiv : (r : Int) / 10 = (q : Int) := by omega
     obtain ⟨b, hb8⟩ : ∃ b, b = De.asc d := ⟨_, rfl⟩
     have hb9 : (48 : Int) + (d : Int) = (b.toNat : Int) := by rw [hb8, De.asc_toNat hd10]; omega
     have HSt := Lib.hid (De.part_step es (no + k) r y' (6 - k) x HE.out.2.1 (by have := HE.out.2.2; rw [show 7 - k = 6 - k + 1 by omega] at this; exact this))
     rw [hd, hq] at HSt
     have HRq : Hid (q < 10 ^ (7 - (k + 1))) := by
      have h1 := HR.out
      unfold Hid at h1 ⊢
      rw [show 7 - k = 6 - k + 1 by omega, Nat.pow_succ] at h1
      rw [show 7 - (k + 1) = 6 - k by omega]
      omega
     have hq7 : q < 10000000 := by omega
     have HLm : Hid (De.Lim (es ++ [d])) := HE.out.1.append (De.Lim.one hd10)
     have HLl : Hid ((es ++ [d]).length = no + (k + 1)) := by unfold Hid; rw [List.length_append, HE.out.2.1]; rfl
     have HMap : Hid (es.map De.asc ++ [b] = (es ++ [d]).map De.asc) := by unfold Hid; rw [hb8]; exact De.map_snoc es d
     have HO3 : Hid ((wr.alloc (.cells #[.int .u8 (b.toNat : Int)] 5)).ownsRow w1.heap.size 5 1 (.slice A4 (no + k) c4) (no + k) (bys (es.map De.asc))) := own_alloc ho2 _
     have HSl := Lib.hid (sl_new1 wr 5 (.int .u8 (b.toNat : Int)))
     have hrow : ∀ y, (Value.slice A4 (no + k) c4).ownBlock = some y → w1.heap.size ≤ y := own_block ho2
     have h48 : 0 ≤ (48 : Int) + (d : Int) := by omega
     clear hap ho1 ho2 hb hbs hd hq hb8 HR HE
     go_wp2_with (at_builtin; refine wpList_append_sl _ rfl (.tmp 22) (.tmp 27) 122 rfl w1.heap.size 5 i0 (.int .u8 0) 1 Tryz.underlying122 hi hz0 hz1 hz2 rfl _ _ _ _ rfl HO3.out _ _ 1 _ _ rfl rfl HSl.out (fun u hu => by simp at hu; subst hu; rfl) (by unfold maxLen; omega) (by omega) (by have := HBS.out; simp; omega) ?_; intro A' c' w8 hown hgrow hblk)
     go_roundw
     case rel =>
      rw [bys_snoc, HMap.out] at hown
      have hz9 : w1.heap.size ≤ w8.heap.size := Nat.le_trans HBS.out (Nat.le_trans (by simp) hgrow.size)
      have HO1a : (wr.alloc (.cells #[.int .u8 (b.toNat : Int)] 5)).ownsRow w1.heap.size 3 1 (.slice A3 n3 c3) n3 (nats Q) := own_alloc HO1.out _
      exact ⟨k + 1, q, es ++ [d], A', c', by omega, by go_num, rfl, rfl, hq7, HRq.out, ⟨HLm.out, HLl.out, by rw [show 7 - (k + 1) = 6 - k by omega]; exact HSt.out⟩, HAp.out.next HO1a hblk, own_keep HO1a hgrow HAp.out, hown, (HB.out.alloc HBS.out _).grown hgrow (by have := HBS.out; simp; omega) hrow, hz9⟩
     case measure => simp [intOf]; omega
    ·have hk' : k = 7 := by omega
     subst hk'
     have HO2 := Lib.hid ho2
     have HEq : Hid (De.val es + 10 ^ (no + 7) * y' = x) := by
      unfold Hid
      have h1 := HE.out.2.2
      have h2 := HR.out
      unfold Hid at h2
      rw [Nat.sub_self] at h1 h2
      have h3 : r = 0 := by simpa using h2
      rw [h3] at h1
      simpa using h1
     have HT := Lib.hid (ntrim_any A3 n3 c3 _ Q wr HQ1.out (Sl.of_own HO1.out) HC3.out (by omega))
     clear hap ho1 ho2 hb hbs HR
     go_wp2_with fail
     refine HT.out.mono ?_
     rintro e w6 ⟨rfl, rfl⟩
     have HTl : Hid ((Na.dig y').length = Na.tl Q n3 ∧ Na.tl Q n3 ≤ n3 ∧ nats (Na.dig y') = (nats Q).take (Na.tl Q n3)) := by
      refine ⟨?_, Na.tl_le _ _, ?_⟩
      ·rw [← HQ.out, Na.trim_length, HQ1.out]
      ·rw [← HQ.out, nats_take]
       unfold Na.trim
       rw [HQ1.out]
     go_wp2_with fail
     go_roundw
     case rel => exact ⟨y', es, A3, _, c3, A4, no + 7, c4, rfl, rfl, by have := HTl.out.2.1; omega, by omega, ⟨HTl.out.1, HE.out.1, HE.out.2.1, HEq.out⟩, HAp.out.of_len rfl rfl, by rw [HTl.out.2.2]; exact own_take HO1.out HTl.out.2.1, HO2.out, HB.out, HBS.out⟩
     case measure => simp only [slen_slice]; omega
theorem nprint_bad (A : Option Addr) (n c : Nat) (zs : List Int) (w : World) (hn : zs.length = n) (hs : Sl w w.heap.size A (ints zs)) (hl : n ≤ 140737488351232) (hv : Na.vld zs = false) :
  Calls Tryz.prog 57 #[.agg #[.slice A n c]] w fun e w' => e = .returned (.string (str [])) ∧ Below w.heap.size w w' := by
 have HV := Lib.hid (nvalid_any A n c w.heap.size zs (w.alloc (.cells #[.slice A n c] 25)) hn (hs.alloc (Nat.le_refl _) _) (by simp) (by omega))
 rw [hv] at HV
 clear hs hn hv
 go_enter Tryz.func57, Tryz.ntmps57
 go_wp2_with fail
 refine HV.out.mono ?_
 rintro e w1 ⟨rfl, hb⟩
 have HB1 := Lib.hid (btr (own_box1 w _) hb)
 clear hb
 go_wp2_with fail
 go_ret
 exact ⟨rfl, HB1.out⟩
end Go.Proofs.YtenokdhldngkgaaGreatDoor
