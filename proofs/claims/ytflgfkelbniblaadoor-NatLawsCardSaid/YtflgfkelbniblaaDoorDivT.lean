/- nat.take and nat.give: a window of limbs, less a multiple, and more. -/
import Derived.Test.YtflgfkelbniblaaDoorDivS
namespace Go.Proofs.YtflgfkelbniblaaDoor
open Go.RowKit
set_option linter.unusedVariables false
set_option maxRecDepth 100000
namespace Na
/-- a list with a window turned as far as it is done -/
def win (U o : List Nat) (j : Nat) : List Nat := U.take j ++ (o ++ U.drop (j + o.length))
theorem win_length (U o : List Nat) (j : Nat) (h : j + o.length ≤ U.length) : (win U o j).length = U.length := by
  unfold win
  simp
  omega
theorem win_nil (U : List Nat) (j : Nat) (h : j ≤ U.length) : win U [] j = U := by
  unfold win
  simp
theorem win_get (U o : List Nat) (j k a : Nat) (hk : o.length ≤ k) (h : U[j + k]? = some a) : (win U o j)[j + k]? = some a := by
  unfold win
  have hj : j + k < U.length := lt_of_get h
  rw [List.getElem?_append_right (by rw [List.length_take]; omega), List.length_take, Nat.min_eq_left (by omega), show j + k - j = k by omega, List.getElem?_append_right hk, List.getElem?_drop, show j + o.length + (k - o.length) = j + k by omega]
  exact h
theorem win_set (U o : List Nat) (j d : Nat) (h : j + o.length < U.length) : (win U o j).set (j + o.length) d = win U (o ++ [d]) j := by
  unfold win
  rw [List.set_append_right _ _ (by rw [List.length_take]; omega), List.length_take, Nat.min_eq_left (by omega), show j + o.length - j = o.length by omega, List.set_append_right _ _ (Nat.le_refl _), Nat.sub_self]
  rw [List.drop_eq_getElem_cons h]
  simp [Nat.add_assoc]
theorem win_new (U o : List Nat) (j k : Nat) (h : k < o.length) (hj : j ≤ U.length) : (win U o j)[j + k]? = o[k]? := by
  unfold win
  rw [List.getElem?_append_right (by rw [List.length_take]; omega), List.length_take, Nat.min_eq_left hj, show j + k - j = k by omega, List.getElem?_append_left h]
theorem take_digit (u X : Nat) (hX : X ≤ 281475000000000) (hu : u < 16777216) : ∃ d b : Nat, d < 16777216 ∧ d + X = u + 16777216 * b ∧ ((u : Int) - (X : Int)) % 16777216 = (d : Int) ∧ ((d : Int) - ((u : Int) - (X : Int))) / 16777216 = (b : Int) := by
  refine ⟨(((u : Int) - (X : Int)) % 16777216).toNat, ((((u : Int) - (X : Int)) % 16777216 - ((u : Int) - (X : Int))) / 16777216).toNat, ?_, ?_, ?_, ?_⟩ <;> omega
end Na
def NTk (w : World) (g j N m c base : Nat) (U V : List Nat) (t : Nat) (i bw : Value) (wr : World) : Prop :=
  ∃ (k b : Nat) (o : List Nat), k ≤ N ∧ i = .int .i64 (k : Int) ∧ bw = .int .i64 (b : Int) ∧ b ≤ 16777216 ∧ Hid (o.length = k ∧ Na.Lim o ∧ Na.val o + t * Na.val (V.take k) = Na.val ((U.drop j).take k) + 16777216 ^ k * b) ∧
    wr.ownsRow base 3 1 (.slice (some ⟨g, 0, none⟩) m c) m (nats (Na.win U o j)) ∧ w.grownBy wr (some g)
set_option maxHeartbeats 2000000 in
theorem ntake_any (g j N cap m c base n c2 B : Nat) (A2 : Option Addr) (U V : List Nat) (t : Nat) (w : World) (hU : U.length = m) (hV : V.length = n) (ho : w.ownsRow base 3 1 (.slice (some ⟨g, 0, none⟩) m c) m (nats U)) (hs2 : Sl w B A2 (nats V)) (hg2 : ∀ ad, A2 = some ad → 0 < n → ad.block ≠ g) (hB : B ≤ w.heap.size)
    (hUl : Na.Lim U) (hVl : Na.Lim V) (hN : j + N ≤ m) (hm : m ≤ 1000) (hn1 : n ≤ 1000) (ht : t ≤ 16777216) :
    Calls Tryd.prog 80 #[.slice (some ⟨g, j, none⟩) N cap, .slice A2 n c2, .int .i64 (t : Int)] w fun e w' => ∃ (b : Nat) (o : List Nat), e = .returned (.bool (decide (0 < b))) ∧ o.length = N ∧ Na.Lim o ∧ Na.val o + t * Na.val (V.take N) = Na.val ((U.drop j).take N) + 16777216 ^ N * b ∧
      w'.ownsRow base 3 1 (.slice (some ⟨g, 0, none⟩) m c) m (nats (Na.win U o j)) ∧ w.grownBy w' (some g) := by
  have HU := Lib.hid hU
  have HV := Lib.hid hV
  have HO0 := Lib.hid ho
  have HS2 := Lib.hid hs2
  have HUl := Lib.hid hUl
  have HVl := Lib.hid hVl
  have HG2 := Lib.hid hg2
  clear hU hV ho hs2 hUl hVl hg2
  go_enter Tryd.func80, Tryd.ntmps80
  go_wp2_with fail
  go_loopw [12, 7] (fun i bw wr => NTk w g j N m c base U V t i bw wr) (fun i _ _ => N - (intOf i).toNat)
  case atStart => exact ⟨0, 0, [], Nat.zero_le _, rfl, rfl, Nat.zero_le _, ⟨rfl, Na.Lim.nil, by simp [Na.val]⟩, by rw [Na.win_nil U j (by have := HU.out; omega)]; exact HO0.out, World.grownBy.refl w _⟩
  case round =>
    clear HO0
    obtain ⟨k, b, o, hk, rfl, rfl, hb, HP, ho, hg⟩ := hrel
    have HO := Lib.hid ho
    have HG := Lib.hid hg
    rcases Nat.lt_or_ge k N with hkN | hkN
    · obtain ⟨a, ha⟩ := nat_at U (j + k) (by rw [HU.out]; omega)
      have hca := own_nat ho (Na.win_get U o j k a (by rw [HP.out.1]; exact Nat.le_refl _) ha)
      have hfz := ho.frozenAt (j + k)
      have ha24 := HUl.out.at ha
      have HA0 : Hid (Na.at0 (U.drop j) k = a) := Na.at0_some (by rw [List.getElem?_drop]; exact ha)
      rcases Nat.lt_or_ge k n with hkn | hkn
      · obtain ⟨y, hy⟩ := nat_at V k (by rw [HV.out]; exact hkn)
        obtain ⟨ad2, rfl, hbk2, hcy⟩ := HS2.out.nat hy
        have hcb := (World.cell?_of_block (a := ad2.add k) (hg.block (ad2.add k).block (by rw [add_block]; omega) (by rw [add_block]; intro e; exact HG2.out ad2 rfl (by omega) (Option.some.inj e)))).trans hcy
        have hy24 := HVl.out.at hy
        have HY0 : Hid (Na.at0 V k = y) := Na.at0_some hy
        obtain ⟨p, hp⟩ : ∃ p, t * y = p := ⟨_, rfl⟩
        have hp2 : p ≤ 281474976710656 := by
          have := Nat.mul_le_mul ht (Nat.le_of_lt hy24)
          omega
        have HP1 : Hid ((t : Int) * (y : Int) = (p : Int)) := by unfold Hid; rw [← hp]; exact (Int.natCast_mul t y).symm
        obtain ⟨d, b', hd24, hdb, hd1, hd2⟩ := Na.take_digit a (b + p) (by omega) ha24
        have HAND : Hid (bits .and .i64 ((a : Int) - (b : Int) - (p : Int)) 16777215 = (d : Int)) := by unfold Hid; rw [and24]; omega
        have HSHR : Hid (((d : Int) - ((a : Int) - (b : Int) - (p : Int))) / 16777216 = (b' : Int)) := by unfold Hid; omega
        have HBB : Hid (b' ≤ 16777216) := Na.take_borrow ht hb hy24 hd24 (by rw [hp]; exact hdb)
        have HST := Lib.hid (Na.take_step (U.drop j) V o t k b d b' HP.out.1 HP.out.2.2 (by rw [HA0.out, HY0.out, hp]; exact hdb))
        have HLr := Lib.hid (HP.out.2.1.append (Na.Lim.one hd24))
        have HLl : Hid ((o ++ [d]).length = k + 1) := by unfold Hid; rw [List.length_append, HP.out.1]; rfl
        have HSet := Lib.hid (Na.win_set U o j d (by rw [HU.out, HP.out.1]; omega))
        rw [HP.out.1] at HSet
        clear ho hg ha hy hcy hp hd1 hd2 hdb hbk2
        have hmul := HP1.out
        have hand := HAND.out
        have hshr := HSHR.out
        clear HP1 HAND HSHR
        go_wp2_with fail
        go_roundw
        case rel =>
          have o1 := own_put HO.out (j + k) (.int .i64 (d : Int))
          rw [nats_set, HSet.out] at o1
          exact ⟨k + 1, b', o ++ [d], by omega, by go_num, rfl, HBB.out, ⟨HLl.out, HLr.out, HST.out⟩, o1, grown_trans HG.out (grown_set _ _ _)⟩
        case measure => simp [intOf]; omega
      · have HY0 : Hid (Na.at0 V k = 0) := Na.at0_none (by rw [HV.out]; exact hkn)
        obtain ⟨d, b', hd24, hdb, hd1, hd2⟩ := Na.take_digit a b (by omega) ha24
        have HAND : Hid (bits .and .i64 ((a : Int) - (b : Int)) 16777215 = (d : Int)) := by unfold Hid; rw [and24]; omega
        have HSHR : Hid (((d : Int) - ((a : Int) - (b : Int))) / 16777216 = (b' : Int)) := by unfold Hid; omega
        have HBB : Hid (b' ≤ 16777216) := by unfold Hid; omega
        have HST := Lib.hid (Na.take_step (U.drop j) V o t k b d b' HP.out.1 HP.out.2.2 (by rw [HA0.out, HY0.out, Nat.mul_zero, Nat.add_zero]; exact hdb))
        have HLr := Lib.hid (HP.out.2.1.append (Na.Lim.one hd24))
        have HLl : Hid ((o ++ [d]).length = k + 1) := by unfold Hid; rw [List.length_append, HP.out.1]; rfl
        have HSet := Lib.hid (Na.win_set U o j d (by rw [HU.out, HP.out.1]; omega))
        rw [HP.out.1] at HSet
        have hkd : decide (k < n) = false := decide_eq_false (by omega)
        clear ho hg ha hd1 hd2 hdb
        have hand := HAND.out
        have hshr := HSHR.out
        clear HAND HSHR
        go_wp2_with fail
        go_roundw
        case rel =>
          have o1 := own_put HO.out (j + k) (.int .i64 (d : Int))
          rw [nats_set, HSet.out] at o1
          exact ⟨k + 1, b', o ++ [d], by omega, by go_num, rfl, HBB.out, ⟨HLl.out, HLr.out, HST.out⟩, o1, grown_trans HG.out (grown_set _ _ _)⟩
        case measure => simp [intOf]; omega
    · obtain rfl : N = k := by omega
      have hdk : decide (N < N) = false := decide_eq_false (by omega)
      have HBd : Hid (decide (0 < (b : Int)) = decide (0 < b)) := by
        unfold Hid
        by_cases h : 0 < b
        · rw [decide_eq_true h, decide_eq_true (by omega)]
        · rw [decide_eq_false h, decide_eq_false (by omega)]
      clear ho hg hkN
      go_wp2_with fail
      go_ret
      exact ⟨b, o, ret_bool (by first | rfl | exact HBd.out), HP.out.1, HP.out.2.1, HP.out.2.2, HO.out, HG.out⟩
def NGi (w : World) (g j N m c base : Nat) (U V : List Nat) (i cr : Value) (wr : World) : Prop :=
  ∃ (k b : Nat) (o : List Nat), k ≤ N ∧ i = .int .i64 (k : Int) ∧ cr = .int .i64 (b : Int) ∧ b ≤ 1 ∧ Hid (o.length = k ∧ Na.Lim o ∧ Na.val o + 16777216 ^ k * b = Na.val ((U.drop j).take k) + Na.val (V.take k)) ∧
    wr.ownsRow base 3 1 (.slice (some ⟨g, 0, none⟩) m c) m (nats (Na.win U o j)) ∧ w.grownBy wr (some g)
set_option maxHeartbeats 2000000 in
theorem ngive_any (g j N cap m c base n c2 B : Nat) (A2 : Option Addr) (U V : List Nat) (w : World) (hU : U.length = m) (hV : V.length = n) (ho : w.ownsRow base 3 1 (.slice (some ⟨g, 0, none⟩) m c) m (nats U)) (hs2 : Sl w B A2 (nats V)) (hg2 : ∀ ad, A2 = some ad → 0 < n → ad.block ≠ g) (hB : B ≤ w.heap.size)
    (hUl : Na.Lim U) (hVl : Na.Lim V) (hN : j + N ≤ m) (hm : m ≤ 1000) (hn1 : n ≤ 1000) :
    Calls Tryd.prog 81 #[.slice (some ⟨g, j, none⟩) N cap, .slice A2 n c2] w fun e w' => ∃ (b : Nat) (o : List Nat), e = .returned (.tuple #[]) ∧ o.length = N ∧ Na.Lim o ∧ Na.val o + 16777216 ^ N * b = Na.val ((U.drop j).take N) + Na.val (V.take N) ∧
      w'.ownsRow base 3 1 (.slice (some ⟨g, 0, none⟩) m c) m (nats (Na.win U o j)) ∧ w.grownBy w' (some g) := by
  have HU := Lib.hid hU
  have HV := Lib.hid hV
  have HO0 := Lib.hid ho
  have HS2 := Lib.hid hs2
  have HUl := Lib.hid hUl
  have HVl := Lib.hid hVl
  have HG2 := Lib.hid hg2
  clear hU hV ho hs2 hUl hVl hg2
  go_enter Tryd.func81, Tryd.ntmps81
  go_wp2_with fail
  go_loopw [8, 4] (fun i cr wr => NGi w g j N m c base U V i cr wr) (fun i _ _ => N - (intOf i).toNat)
  case atStart => exact ⟨0, 0, [], Nat.zero_le _, rfl, rfl, Nat.zero_le _, ⟨rfl, Na.Lim.nil, by simp [Na.val]⟩, by rw [Na.win_nil U j (by have := HU.out; omega)]; exact HO0.out, World.grownBy.refl w _⟩
  case round =>
    clear HO0
    obtain ⟨k, b, o, hk, rfl, rfl, hb, HP, ho, hg⟩ := hrel
    have HO := Lib.hid ho
    have HG := Lib.hid hg
    rcases Nat.lt_or_ge k N with hkN | hkN
    · obtain ⟨a, ha⟩ := nat_at U (j + k) (by rw [HU.out]; omega)
      have hca := own_nat ho (Na.win_get U o j k a (by rw [HP.out.1]; exact Nat.le_refl _) ha)
      have hfz := ho.frozenAt (j + k)
      have ha24 := HUl.out.at ha
      have HA0 : Hid (Na.at0 (U.drop j) k = a) := Na.at0_some (by rw [List.getElem?_drop]; exact ha)
      rcases Nat.lt_or_ge k n with hkn | hkn
      · obtain ⟨y, hy⟩ := nat_at V k (by rw [HV.out]; exact hkn)
        obtain ⟨ad2, rfl, hbk2, hcy⟩ := HS2.out.nat hy
        have hcb := (World.cell?_of_block (a := ad2.add k) (hg.block (ad2.add k).block (by rw [add_block]; omega) (by rw [add_block]; intro e; exact HG2.out ad2 rfl (by omega) (Option.some.inj e)))).trans hcy
        have hy24 := HVl.out.at hy
        have HY0 : Hid (Na.at0 V k = y) := Na.at0_some hy
        obtain ⟨s, hs⟩ : ∃ s, b + a + y = s := ⟨_, rfl⟩
        obtain ⟨d, hd⟩ : ∃ d, s % 16777216 = d := ⟨_, rfl⟩
        obtain ⟨q, hq⟩ : ∃ q, s / 16777216 = q := ⟨_, rfl⟩
        have HAND : Hid (bits .and .i64 ((b : Int) + (a : Int) + (y : Int)) 16777215 = (d : Int)) := by unfold Hid; rw [and24]; omega
        have HSHR : Hid (((b : Int) + (a : Int) + (y : Int)) / 16777216 = (q : Int)) := by unfold Hid; omega
        have hd24 : d < 16777216 := by omega
        have HBB : Hid (q ≤ 1) := by unfold Hid; omega
        have HST := Lib.hid (Na.add_step (U.drop j) V o k b s HP.out.1 HP.out.2.2 (by rw [HA0.out, HY0.out]; omega))
        rw [hd, hq] at HST
        have HLr := Lib.hid (HP.out.2.1.append (Na.Lim.one hd24))
        have HLl : Hid ((o ++ [d]).length = k + 1) := by unfold Hid; rw [List.length_append, HP.out.1]; rfl
        have HSet := Lib.hid (Na.win_set U o j d (by rw [HU.out, HP.out.1]; omega))
        rw [HP.out.1] at HSet
        clear ho hg ha hy hcy hs hd hq hbk2
        have hand := HAND.out
        have hshr := HSHR.out
        clear HAND HSHR
        go_wp2_with fail
        go_roundw
        case rel =>
          have o1 := own_put HO.out (j + k) (.int .i64 (d : Int))
          rw [nats_set, HSet.out] at o1
          exact ⟨k + 1, q, o ++ [d], by omega, by go_num, rfl, HBB.out, ⟨HLl.out, HLr.out, HST.out⟩, o1, grown_trans HG.out (grown_set _ _ _)⟩
        case measure => simp [intOf]; omega
      · have HY0 : Hid (Na.at0 V k = 0) := Na.at0_none (by rw [HV.out]; exact hkn)
        obtain ⟨s, hs⟩ : ∃ s, b + a = s := ⟨_, rfl⟩
        obtain ⟨d, hd⟩ : ∃ d, s % 16777216 = d := ⟨_, rfl⟩
        obtain ⟨q, hq⟩ : ∃ q, s / 16777216 = q := ⟨_, rfl⟩
        have HAND : Hid (bits .and .i64 ((b : Int) + (a : Int)) 16777215 = (d : Int)) := by unfold Hid; rw [and24]; omega
        have HSHR : Hid (((b : Int) + (a : Int)) / 16777216 = (q : Int)) := by unfold Hid; omega
        have hd24 : d < 16777216 := by omega
        have HBB : Hid (q ≤ 1) := by unfold Hid; omega
        have HST := Lib.hid (Na.add_step (U.drop j) V o k b s HP.out.1 HP.out.2.2 (by rw [HA0.out, HY0.out]; omega))
        rw [hd, hq] at HST
        have HLr := Lib.hid (HP.out.2.1.append (Na.Lim.one hd24))
        have HLl : Hid ((o ++ [d]).length = k + 1) := by unfold Hid; rw [List.length_append, HP.out.1]; rfl
        have HSet := Lib.hid (Na.win_set U o j d (by rw [HU.out, HP.out.1]; omega))
        rw [HP.out.1] at HSet
        have hkd : decide (k < n) = false := decide_eq_false (by omega)
        clear ho hg ha hs hd hq
        have hand := HAND.out
        have hshr := HSHR.out
        clear HAND HSHR
        go_wp2_with fail
        go_roundw
        case rel =>
          have o1 := own_put HO.out (j + k) (.int .i64 (d : Int))
          rw [nats_set, HSet.out] at o1
          exact ⟨k + 1, q, o ++ [d], by omega, by go_num, rfl, HBB.out, ⟨HLl.out, HLr.out, HST.out⟩, o1, grown_trans HG.out (grown_set _ _ _)⟩
        case measure => simp [intOf]; omega
    · obtain rfl : N = k := by omega
      have hdk : decide (N < N) = false := decide_eq_false (by omega)
      clear ho hg hkN
      go_wp2_with fail
      go_end0
      exact ⟨b, o, rfl, HP.out.1, HP.out.2.1, HP.out.2.2, HO.out, HG.out⟩
end Go.Proofs.YtflgfkelbniblaaDoor
