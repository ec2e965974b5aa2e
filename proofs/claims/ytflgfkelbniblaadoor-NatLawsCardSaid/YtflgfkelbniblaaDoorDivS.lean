/- nat.shift. -/
import Derived.Test.YtflgfkelbniblaaDoorDivA
namespace Go.Proofs.YtflgfkelbniblaaDoor
open Go.RowKit
set_option linter.unusedVariables false
set_option maxRecDepth 100000
def NSh (w : World) (X : List Nat) (k n : Nat) (i cr o : Value) (wr : World) : Prop :=
  ∃ (j c : Nat) (Ao : Option Addr) (co : Nat) (l : List Nat), j ≤ n ∧ i = .int .i64 (j : Int) ∧ cr = .int .i64 (c : Int) ∧ o = .slice Ao j co ∧ Hid (l.length = j ∧ Na.Lim l ∧ Na.val l + 16777216 ^ j * c = Na.val (X.take j) * 2 ^ k ∧ c < 2 ^ k) ∧ wr.ownsRow w.heap.size 3 1 (.slice Ao j co) j (nats l) ∧ Below w.heap.size w wr
set_option maxHeartbeats 400000 in
theorem nshift_any (A : Option Addr) (n c k : Nat) (X : List Nat) (w : World) (hn : X.length = n) (hs : Sl w w.heap.size A (nats X)) (hX : Na.Lim X) (hl : n ≤ 1000) (hk : k < 24) :
    Calls Tryd.prog 79 #[.slice A n c, .int .i64 (k : Int)] w fun e w' => ∃ (A' : Option Addr) (c' : Nat) (o : List Nat), e = .returned (.slice A' (n + 1) c') ∧ o.length = n + 1 ∧ Na.Lim o ∧ Na.val o = Na.val X * 2 ^ k ∧ w'.ownsRow w.heap.size 3 1 (.slice A' (n + 1) c') (n + 1) (nats o) ∧ Below w.heap.size w w' := by
  obtain ⟨i0, hi, hz0, hz1, hz2⟩ := info_parts infoI
  have HN := Lib.hid hn
  have HS := Lib.hid hs
  have HX := Lib.hid hX
  have hmk := run_make_one (P := Tryd.prog) 23 3 i0 (.int .i64 0) Tryd.underlying23 hi hz0 hz1 .i64 .i64 0 ((n : Int) + 1) 0 (n + 1) (by omega) (by omega) (Nat.zero_le _) (by rw [hz2]; omega) (by omega)
  have HO0 : Hid ((w.alloc (.cells (madeCells #[Value.int .i64 0] (n + 1)) 3)).ownsRow w.heap.size 3 1 (.slice (some ⟨w.heap.size, 0, none⟩) 0 (n + 1)) 0 (nats [])) := own_zero w (.int .i64 0) (n + 1) 3 rfl (by unfold maxLen; omega)
  have HBB : Hid (Below w.heap.size w (w.alloc (.cells (madeCells #[Value.int .i64 0] (n + 1)) 3))) := own_box1 _ _
  have hp0 : 0 < 2 ^ k := Nat.pow_pos (by omega)
  have HP0 := Lib.hid hp0
  clear hn hs hX hp0
  go_enter Tryd.func79, Tryd.ntmps79
  go_wp2_with fail
  clear hmk
  go_loopw [15, 6, 5] (fun i cr o wr => NSh w X k n i cr o wr) (fun i _ _ _ => n - (intOf i).toNat)
  case atStart => exact ⟨0, 0, _, _, [], Nat.zero_le _, rfl, rfl, rfl, ⟨rfl, Na.Lim.nil, by simp [Na.val], HP0.out⟩, HO0.out, HBB.out⟩
  case round =>
    clear HO0 HBB
    obtain ⟨j, cr, Ao, co, l, hj, rfl, rfl, rfl, HP, ho, hb⟩ := hrel
    have HO := Lib.hid ho
    have HB := Lib.hid hb
    rcases Nat.lt_or_ge j n with hjn | hjn
    · obtain ⟨a, ha⟩ := nat_at X j (by rw [HN.out]; exact hjn)
      obtain ⟨ad, rfl, hbk, hca⟩ := (HS.out.below hb).nat ha
      have ha24 := HX.out.at ha
      have ham : a * 2 ^ k ≤ a * 2 ^ 23 := Nat.mul_le_mul_left _ (Nat.pow_le_pow_right (by omega) (by omega))
      have HOR := Lib.hid (or_shift a k cr ha24 hk HP.out.2.2.2)
      have HE1 : Hid ((a : Int) * 2 ^ k = ((a * 2 ^ k : Nat) : Int)) := by unfold Hid; simp
      obtain ⟨m, hm⟩ : ∃ m : Nat, a * 2 ^ k = m := ⟨_, rfl⟩
      rw [hm] at HOR HE1 ham
      have hm1 : m ≤ 140737488355328 := by omega
      have hcr : cr < 8388608 := Nat.lt_of_lt_of_le HP.out.2.2.2 (Nat.pow_le_pow_right (n := 2) (j := 23) (by omega) (by omega))
      have HSH : Hid (wrap64 ((a : Int) * 2 ^ k) = (m : Int)) := by
        unfold Hid
        rw [HE1.out]
        exact IntWalk.wrap64_in _ ⟨by omega, by omega⟩
      obtain ⟨t, ht⟩ : ∃ t : Nat, m + cr = t := ⟨_, rfl⟩
      have ht2 : t < 281474976710656 := by omega
      rw [ht] at HOR
      obtain ⟨d, hd⟩ : ∃ d, t % 16777216 = d := ⟨_, rfl⟩
      obtain ⟨q, hq⟩ : ∃ q, t / 16777216 = q := ⟨_, rfl⟩
      have HAND : Hid (bits .and .i64 (t : Int) 16777215 = (d : Int)) := by unfold Hid; rw [and24]; omega
      have hshr : (t : Int) / 16777216 = (q : Int) := by omega
      have hd24 : d < 16777216 := by omega
      have HQ : Hid (q < 2 ^ k) := by
        unfold Hid
        have := Na.shift_carry ha24 HP.out.2.2.2
        rw [hm, ht, hq] at this
        exact this
      have hq24 : q < 16777216 := by omega
      have HST : Hid (Na.val (l ++ [d]) + 16777216 ^ (j + 1) * q = Na.val (X.take (j + 1)) * 2 ^ k) := by
        unfold Hid
        have h1 := Na.split24 (16777216 ^ j) t
        rw [hd, hq] at h1
        have h2 := HP.out.2.2.1
        rw [Na.val_snoc, HP.out.1, Na.val_take_succ X j a ha, Nat.add_mul, ← h2, Nat.mul_assoc (16777216 ^ j) a, hm, Nat.pow_succ]
        have h3 : 16777216 ^ j * t = 16777216 ^ j * m + 16777216 ^ j * cr := by rw [← ht, Nat.mul_add]
        omega
      have HLr := Lib.hid (HP.out.2.1.append (Na.Lim.one hd24))
      have HLl : Hid ((l ++ [d]).length = j + 1) := by unfold Hid; rw [List.length_append, HP.out.1]; rfl
      have HO3 : Hid ((wr.alloc (.cells #[.int .i64 (d : Int)] 3)).ownsRow w.heap.size 3 1 (.slice Ao j co) j (nats l)) := own_alloc ho _
      have HSl := Lib.hid (sl_new1 wr 3 (.int .i64 (d : Int)))
      have HBW : Hid (w.heap.size ≤ wr.heap.size) := hb.size
      have hrow : ∀ y, (Value.slice Ao j co).ownBlock = some y → w.heap.size ≤ y := own_block ho
      have HM1 : Hid (j + 1 ≤ maxLen ∧ (j + 1) * 8 ≤ 140737488355328) := ⟨by unfold maxLen; omega, by omega⟩
      have HM3 : Hid (w.heap.size ≤ (wr.alloc (.cells #[.int .i64 (d : Int)] 3)).heap.size) := by have := HBW.out; unfold Hid; simp; omega
      clear ho hb ha ham hm ht hd hq hcr hm1
      have hor := HOR.out
      have hsh := HSH.out
      have hand := HAND.out
      clear HOR HSH HAND HE1
      go_wp2_with (at_builtin; refine wpList_append_sl _ rfl (.tmp 24) (.tmp 27) 23 rfl w.heap.size 3 i0 (.int .i64 0) 8 Tryd.underlying23 hi hz0 hz1 hz2 rfl _ _ _ _ rfl HO3.out _ _ 1 _ _ rfl rfl HSl.out (fun u hu => by simp at hu; subst hu; rfl) HM1.out.1 HM1.out.2 HM3.out ?_; intro A' c' w8 hown hgrow hblk; clear hor hsh hand)
      go_roundw
      case rel =>
        rw [nats_snoc] at hown
        exact ⟨j + 1, q, A', c', l ++ [d], by omega, by go_num, rfl, rfl, ⟨HLl.out, HLr.out, HST.out, HQ.out⟩, hown, (HB.out.alloc HBW.out _).grown hgrow (by have := HBW.out; simp; omega) hrow⟩
      case measure => simp [intOf]; omega
    · obtain rfl : n = j := by omega
      have hc24 : cr < 16777216 := Nat.lt_of_lt_of_le HP.out.2.2.2 (Nat.pow_le_pow_right (n := 2) (j := 24) (by omega) (by omega))
      have hdk : decide (n < n) = false := decide_eq_false (by omega)
      have HLr := Lib.hid (HP.out.2.1.append (Na.Lim.one hc24))
      have HLl : Hid ((l ++ [cr]).length = n + 1) := by unfold Hid; rw [List.length_append, HP.out.1]; rfl
      have HVl : Hid (Na.val (l ++ [cr]) = Na.val X * 2 ^ k) := by
        unfold Hid
        rw [Na.val_snoc, HP.out.1, HP.out.2.2.1, List.take_of_length_le (by have := HN.out; omega)]
      have HO3 : Hid ((wr.alloc (.cells #[.int .i64 (cr : Int)] 3)).ownsRow w.heap.size 3 1 (.slice Ao n co) n (nats l)) := own_alloc ho _
      have HSl := Lib.hid (sl_new1 wr 3 (.int .i64 (cr : Int)))
      have HBW : Hid (w.heap.size ≤ wr.heap.size) := hb.size
      have hrow : ∀ y, (Value.slice Ao n co).ownBlock = some y → w.heap.size ≤ y := own_block ho
      clear ho hb HS HP0 hjn
      go_wp2_with (at_builtin; refine wpList_append_sl _ rfl (.tmp 32) (.tmp 34) 23 rfl w.heap.size 3 i0 (.int .i64 0) 8 Tryd.underlying23 hi hz0 hz1 hz2 rfl _ _ _ _ rfl HO3.out _ _ 1 _ _ rfl rfl HSl.out (fun u hu => by simp at hu; subst hu; rfl) (by unfold maxLen; omega) (by omega) (by have := HBW.out; simp; omega) ?_; intro A' c' w8 hown hgrow hblk)
      go_ret
      rw [nats_snoc] at hown
      exact ⟨A', c', l ++ [cr], rfl, HLl.out, HLr.out, HVl.out, hown, (HB.out.alloc HBW.out _).grown hgrow (by have := HBW.out; simp; omega) hrow⟩
end Go.Proofs.YtflgfkelbniblaaDoor
