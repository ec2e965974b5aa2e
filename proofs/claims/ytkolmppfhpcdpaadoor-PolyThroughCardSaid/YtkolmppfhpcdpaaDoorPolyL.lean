/- The contract of Through. -/
import Derived.Test.YtkolmppfhpcdpaaDoorPolyJ
import Derived.Test.YtkolmppfhpcdpaaDoorPolyK
import Derived.RegionTactic
import Derived.ChangeAlike
import Derived.Deep.RegionHeld3
namespace Go.Proofs.YtkolmppfhpcdpaaDoor
open Go.RowKit
set_option linter.unusedVariables false
set_option maxRecDepth 100000
def ThLoop (w : World) (xs ys : List UInt8) (Ao : Option Addr) (n : Nat) (v b : Value) (wr : World) : Prop :=
  ∃ (k : Nat) (Ab : Option Addr) (cb : Nat), k ≤ n ∧ v = .int .i64 (k : Int) ∧ b = .slice Ab (k + 1) cb ∧ Hid (Po.thBad xs k = false) ∧
    wr.ownsRow w.heap.size 5 1 (.slice Ao n n) n (bys (Po.thO xs ys k)) ∧ wr.ownsRow w.heap.size 5 1 (.slice Ab (k + 1) cb) (k + 1) (bys (Po.thB xs k)) ∧
    ((Value.slice Ao n n).ownBlock = none ∨ (Value.slice Ao n n).ownBlock ≠ (Value.slice Ab (k + 1) cb).ownBlock) ∧ Below w.heap.size w wr
theorem own_zeros (w : World) (n : Nat) (h : n ≤ 255) : (w.alloc (.cells (madeCells #[Value.int .u8 0] n) 5)).ownsRow w.heap.size 5 1 (.slice (some ⟨w.heap.size, 0, none⟩) n n) n (bys (List.replicate n 0)) := by
  have h1 := own_made w 5 (.int .u8 0) n n rfl (Nat.le_refl _) (by unfold maxLen; omega)
  have e : bys (List.replicate n 0) = List.replicate n (.int .u8 0) := by simp [bys, encB]
  rw [e]
  exact h1
theorem own_one (w : World) (n : Nat) (h : n ≤ 255) : (w.alloc (.cells ((madeCells #[Value.int .u8 0] (n + 1)).setIfInBounds 0 (.int .u8 1)) 5)).ownsRow w.heap.size 5 1 (.slice (some ⟨w.heap.size, 0, none⟩) (0 + 1) (n + 1)) (0 + 1) (bys [1]) := by
  have h1 := World.ownsRow_lit (base := w.heap.size) (e := 5) (size := 1) w ((madeCells #[Value.int .u8 0] (n + 1)).setIfInBounds 0 (.int .u8 1)) (n + 1) (Nat.le_refl _) (by unfold maxLen; omega) (by simp [size_madeCells])
  have h2 := own_take h1 (k := 1) (by omega)
  have e : ((madeCells #[Value.int .u8 0] (n + 1)).setIfInBounds 0 (.int .u8 1)).toList.take 1 = bys [1] := by
    rw [Array.toList_setIfInBounds, toList_madeCells_one]
    rfl
  rw [e] at h2
  exact h2
theorem keepS {wr W W' : World} {a : Addr} {v : Value} (h1 : W.cell? a = some v) (h2 : Below wr.heap.size wr W) (ha : a.block < wr.heap.size) (hb : Below W.heap.size W W') : W'.cell? a = some v ∧ Below wr.heap.size wr W' :=
  ⟨(hb.cell (Nat.lt_of_lt_of_le ha h2.size)).trans h1, h2.trans (hb.mono h2.size)⟩
set_option maxHeartbeats 2000000 in
theorem through_fit (A A2 : Option Addr) (n c c2 : Nat) (xs ys : List UInt8) (w : World) (hn : xs.length = n) (hm : ys.length = n) (hp : Sl w w.heap.size A (bys xs)) (hq : Sl w w.heap.size A2 (bys ys))
    (hl : n ≤ 255) :
    Calls Tryd.prog 20 #[.slice A n c, .slice A2 n c2] w (ResB w (Po.thR xs ys) (Po.thE xs ys)) := by
  obtain ⟨i0, hi, hz0, hz1, hz2⟩ := info_parts infoB
  have hmk1 := run_make_one (P := Tryd.prog) 27 5 i0 (.int .u8 0) Tryd.underlying27 hi hz0 hz1 .i64 .i64 (n : Int) (n : Int) n n rfl rfl (Nat.le_refl _) (by rw [hz2]; omega) (by omega)
  have hmk2 := run_make_one (P := Tryd.prog) 27 5 i0 (.int .u8 0) Tryd.underlying27 hi hz0 hz1 .i64 .i64 1 ((n : Int) + 1) 1 (n + 1) rfl (by omega) (by omega) (by rw [hz2]; omega) (by omega)
  have hne : ((n : Int) != (n : Int)) = false := by simp
  have hb1 : decide (255 < (n : Int)) = false := decide_eq_false (by omega)
  have HFit : Hid (Po.thFit xs ys = true) := by unfold Hid Po.thFit; rw [decide_eq_true (hn.trans hm.symm), decide_eq_true (by omega)]; rfl
  have HN := Lib.hid hn
  have HM := Lib.hid hm
  have HP := Lib.hid hp
  have HQ := Lib.hid hq
  have hm0 : (madeCells #[Value.int .u8 0] (n + 1))[0]? = some (.int .u8 0) := by
    rw [← Array.getElem?_toList, toList_madeCells_one]
    rfl
  clear hp hq hn hm
  go_enter Tryd.func20, Tryd.ntmps20
  go_wp2_with fail
  go_region
  · have HS0 : Hid (((w.alloc (.cells (madeCells #[Value.int .u8 0] n) 5)).alloc (.cells ((madeCells #[Value.int .u8 0] (n + 1)).setIfInBounds 0 (.int .u8 1)) 5)).drew.ownsRow w.heap.size 5 1 (.slice (some ⟨w.heap.size, 0, none⟩) n n) n (bys (Po.thO xs ys 0)) ∧ ((w.alloc (.cells (madeCells #[Value.int .u8 0] n) 5)).alloc (.cells ((madeCells #[Value.int .u8 0] (n + 1)).setIfInBounds 0 (.int .u8 1)) 5)).drew.ownsRow w.heap.size 5 1 (.slice (some ⟨w.heap.size + 1, 0, none⟩) (0 + 1) (n + 1)) (0 + 1) (bys (Po.thB xs 0)) ∧ Below w.heap.size w ((w.alloc (.cells (madeCells #[Value.int .u8 0] n) 5)).alloc (.cells ((madeCells #[Value.int .u8 0] (n + 1)).setIfInBounds 0 (.int .u8 1)) 5)).drew) := ⟨by rw [show Po.thO xs ys 0 = List.replicate n 0 from by rw [Po.thO, HN.out]]; exact own_alloc (own_zeros w n (by omega)) _, by have h := own_one (w.alloc (.cells (madeCells #[Value.int .u8 0] n) 5)) n (by omega); rw [World.size_alloc] at h; exact own_more h (Nat.le_succ _), (((Below.refl _ w).alloc (Nat.le_refl _) _).alloc (by simp) _).drew⟩
    go_wp2_with fail
    go_loopw [34, 7] (fun v b wr => ThLoop w xs ys (some ⟨w.heap.size, 0, none⟩) n v b wr) (fun v _ _ => n - (intOf v).toNat)
    case atStart =>
      exact ⟨0, some ⟨w.heap.size + 1, 0, none⟩, n + 1, Nat.zero_le _, rfl, rfl, rfl, HS0.out.1, HS0.out.2.1, .inr (by simp [Value.ownBlock]), HS0.out.2.2⟩
    case round =>
      clear HS0
      obtain ⟨k, Ab, cb, hk, rfl, rfl, HBad, ho, ho2, hdis, hb⟩ := hrel
      have HO := Lib.hid ho
      have HO2 := Lib.hid ho2
      have HB := Lib.hid hb
      clear hmk1 hmk2 hm0
      rcases Nat.lt_or_ge k n with hkn | hkn
      · obtain ⟨x, hx⟩ := byte_at xs k (by rw [HN.out]; exact hkn)
        obtain ⟨y, hy⟩ := byte_at ys k (by rw [HM.out]; exact hkn)
        obtain ⟨ad, rfl, hbk, hcx⟩ := (HP.out.below hb).byte hx
        obtain ⟨ad2, rfl, hbk2, hcy⟩ := (HQ.out.below hb).byte hy
        obtain ⟨gb, rfl, hgb, hgb2⟩ := own_form ho2 (by omega)
        have HX := Lib.hid hx
        have HDIS : Hid (gb ≠ w.heap.size) := by
          unfold Hid
          intro e
          subst e
          rcases hdis with hdis | hdis
          · simp [Value.ownBlock] at hdis
          · exact hdis rfl
        have HSZ : Hid (w.heap.size ≤ wr.heap.size) := hb.size
        have HEO : Hid (∀ W, Below wr.heap.size wr W → Calls Tryd.prog 15 #[.slice (some ⟨w.heap.size, 0, none⟩) n n, .int .u8 (x.toNat : Int)] W fun e W' => e = .returned (.int .u8 ((Po.eval (Po.thO xs ys k) x).toNat : Int)) ∧ Below W.heap.size W W') :=
          fun W hW => eval_at _ n n W.heap.size _ x _ rfl (by rw [Po.thO_length, HN.out]) (by omega) W ((Sl.of_own (own_below HO.out hW))) (Nat.le_refl _)
        have HEB : Hid (∀ W, Below wr.heap.size wr W → Calls Tryd.prog 15 #[.slice (some ⟨gb, 0, none⟩) (k + 1) cb, .int .u8 (x.toNat : Int)] W fun e W' => e = .returned (.int .u8 ((Po.eval (Po.thB xs k) x).toNat : Int)) ∧ Below W.heap.size W W') :=
          fun W hW => eval_at _ (k + 1) cb W.heap.size _ x _ rfl (by rw [Po.thB_length]) (by omega) W ((Sl.of_own (own_below HO2.out hW))) (Nat.le_refl _)
        obtain ⟨z, hz, HZ⟩ := xor_ex y (Po.eval (Po.thO xs ys k) x)
        have HTO := Lib.hid (Po.thO_succ xs ys k x y (Gf.gmul z (Gf.ginv (Po.eval (Po.thB xs k) x))) hx hy (by rw [HZ.out]))
        have HTB := Lib.hid (Po.thB_succ xs k x hx)
        have hlt2 : ad2.block < wr.heap.size := by omega
        have hab : (ad2.add k).block < wr.heap.size := by rw [add_block]; exact hlt2
        by_cases hev : Po.eval (Po.thB xs k) x = 0
        · have he : Gf.ez (Po.eval (Po.thB xs k) x) = 4 := by rw [hev]; rfl
          have HRes : Hid (Po.thR xs ys = [] ∧ Po.thE xs ys = 8) := Po.th_twice HFit.out (Po.thBad_more xs (k + 1) (Po.thBad_hit xs k x hx hev) _ (by rw [HN.out]; omega))
          clear ho ho2 hx hy hb hdis hev
          go_wp2_with fail
          go_region_held3 (fun W => W.cell? (ad2.add k) = some (.int .u8 (y.toNat : Int)) ∧ Below wr.heap.size wr W) (first | exact ⟨hcy, (Below.refl _ _).drew⟩ | go_keep | (go_split_ands; refine ⟨?_, ?_⟩ <;> assumption) | (go_split_ands; refine keepS ?_ ?_ hab hbE <;> assumption)) ((first | (go_at_call 15; first | ((with_reducible refine (HEO.out _ ?_).mono ?_); (first | assumption | (go_split_ands; assumption)); rintro e w' ⟨rfl, hbE⟩) | ((with_reducible refine (HEB.out _ ?_).mono ?_); (first | assumption | (go_split_ands; assumption)); rintro e w' ⟨rfl, hbE⟩)) | (go_at_call 35; ((with_reducible refine (divide_any _ _ _).mono ?_); rintro e w' ⟨rfl, rfl⟩))))
          have HS := Lib.hid (show Below wr.heap.size wr w' from (by assumption : _ ∧ Below wr.heap.size wr w').2)
          go_wp2_with fail
          go_ret2
          rw [HRes.out.1, HRes.out.2]
          exact resB_nil _ _ _ (HB.out.trans (HS.out.mono HSZ.out))
        · have he : Gf.ez (Po.eval (Po.thB xs k) x) = 0 := Gf.ez_ne _ hev
          have HBad2 := Lib.hid (Po.thBad_miss xs k x hx hev HBad.out)
          clear ho ho2 hx hy hb hdis hev
          go_wp2_with fail
          go_region_held3 (fun W => W.cell? (ad2.add k) = some (.int .u8 (y.toNat : Int)) ∧ Below wr.heap.size wr W) (first | exact ⟨hcy, (Below.refl _ _).drew⟩ | go_keep | (go_split_ands; refine ⟨?_, ?_⟩ <;> assumption) | (go_split_ands; refine keepS ?_ ?_ hab hbE <;> assumption)) ((first | (go_at_call 15; first | ((with_reducible refine (HEO.out _ ?_).mono ?_); (first | assumption | (go_split_ands; assumption)); rintro e w' ⟨rfl, hbE⟩) | ((with_reducible refine (HEB.out _ ?_).mono ?_); (first | assumption | (go_split_ands; assumption)); rintro e w' ⟨rfl, hbE⟩)) | (go_at_call 35; ((with_reducible refine (divide_any _ _ _).mono ?_); rintro e w' ⟨rfl, rfl⟩))))
          have HS := Lib.hid (show Below wr.heap.size wr w' from (by assumption : _ ∧ Below wr.heap.size wr w').2)
          go_wp2_with fail
          refine (add_two (some ⟨w.heap.size, 0, none⟩) (some ⟨gb, 0, none⟩) n n (k + 1) cb w.heap.size w.heap.size (Po.thO xs ys k) (Po.thB xs k) (Gf.gmul z (Gf.ginv (Po.eval (Po.thB xs k) x))) 0 _ 0 rfl rfl w' (by rw [Po.thO_length, HN.out]) (Po.thB_length xs k) (own_below HO.out HS.out) (own_below HO2.out HS.out) (.inr (fun e => HDIS.out (by simpa [Value.ownBlock] using e))) (by omega) (by omega)).mono ?_
          rintro e w7 ⟨rfl, ho7, hg7⟩
          rw [← HTO.out] at ho7
          have HO7 := Lib.hid ho7
          have HOB7 : Hid (w7.ownsRow w.heap.size 5 1 (.slice (some ⟨gb, 0, none⟩) (k + 1) cb) (k + 1) (bys (Po.thB xs k))) :=
            own_keep (own_below HO2.out HS.out) hg7 (.inr (fun e => HDIS.out (by simpa [Value.ownBlock] using e)))
          have HB7 : Hid (Below w.heap.size w w7) := (HB.out.trans (HS.out.mono HSZ.out)).grown hg7 (Nat.le_trans HSZ.out HS.out.size) (fun x' hx' => own_block ho7 x' hx')
          clear ho7 hg7
          have HSZ7 : Hid (w.heap.size ≤ w7.heap.size) := HB7.out.size
          have hgo7 : w.heap.size < w7.heap.size := by
            obtain ⟨g', hg', _, hg2'⟩ := own_form HO7.out (by omega)
            injection hg' with hg'
            injection hg' with hg'
            omega
          go_wp2_with (at_make; refine wpList_make_full _ rfl (.tmp 62) (.tmp 62) 27 rfl w7.heap.size 5 i0 (.int .u8 0) 1 Tryd.underlying27 hi hz0 hz1 _ _ _ _ (k + 2) rfl rfl (by omega) (by omega) (by rw [hz2]; omega) (by unfold maxLen; omega) (Nat.le_refl _) ?_; intro w8 hown8 hg8)
          rw [made_bys] at hown8
          refine (add_at _ (some ⟨gb, 0, none⟩) (k + 2) (k + 2) (k + 1) cb w7.heap.size w7.heap.size _ (Po.thB xs k) 1 1 1 1 rfl rfl w8 List.length_replicate (Po.thB_length xs k) hown8 ((Sl.of_own HOB7.out).grown hg8 (Nat.le_refl _) (fun _ e => by cases e)) (Nat.le_refl _) hg8.size (by omega) (by omega)).mono ?_
          rintro e w9 ⟨rfl, ho9, hg9⟩
          have HG9 := Lib.hid (grown_far hg8 hg9 (own_block hown8))
          clear hg8 hg9 hown8
          go_wp2_with fail
          refine (add_at _ (some ⟨gb, 0, none⟩) (k + 2) (k + 2) (k + 1) cb w7.heap.size w7.heap.size _ (Po.thB xs k) x 0 _ 0 rfl rfl w9 (by rw [Po.addAt_length, List.length_replicate]) (Po.thB_length xs k) ho9 ((Sl.of_own HOB7.out).grown HG9.out (Nat.le_refl _) (fun _ e => by cases e)) (Nat.le_refl _) HG9.out.size (by omega) (by omega)).mono ?_
          rintro e w10 ⟨rfl, ho10, hg10⟩
          rw [← HTB.out] at ho10
          have HO10 := Lib.hid (own_more ho10 HSZ7.out)
          have HG10 := Lib.hid (grown_far HG9.out hg10 (own_block ho9))
          clear hg10 ho9 ho10
          go_wp2_with fail
          go_roundw
          case rel =>
            exact ⟨k + 1, some ⟨w7.heap.size, 0, none⟩, k + 2, by omega, by go_num, rfl, HBad2.out, own_keep HO7.out HG10.out (.inr (by simp [Value.ownBlock])), HO10.out, .inr (fun e => by simp [Value.ownBlock] at e; omega), HB7.out.grown HG10.out HSZ7.out (fun _ e => by cases e)⟩
          case measure => simp [intOf]; omega
      · have hkn' : k = n := by omega
        have HRes : Hid (Po.thR xs ys = Po.trim (Po.thO xs ys n) ∧ Po.thE xs ys = 0) := by
          have h1 := HBad.out
          rw [hkn', ← HN.out] at h1
          have h2 := Po.th_ok HFit.out h1
          rw [HN.out] at h2
          exact h2
        have hlo : Hid ((Po.thO xs ys n).length = n) := by unfold Hid; rw [Po.thO_length, HN.out]
        have HOn : Hid (wr.ownsRow w.heap.size 5 1 (.slice (some ⟨w.heap.size, 0, none⟩) n n) n (bys (Po.thO xs ys n))) := by
          have h1 := HO.out
          rw [hkn'] at h1
          exact h1
        have HT := Lib.hid (trim_any (some ⟨w.heap.size, 0, none⟩) n n _ (Po.thO xs ys n) wr hlo.out (Sl.of_own HOn.out) (Nat.le_refl _) (by omega))
        clear ho ho2 hb hdis hkn'
        go_wp2_with fail
        refine HT.out.mono ?_
        rintro e w5 ⟨rfl, rfl⟩
        go_wp2_with fail
        go_ret2
        rw [HRes.out.1, HRes.out.2]
        have h5 := own_take HOn.out (Po.tl_le (Po.thO xs ys n) n)
        rw [bys_take] at h5
        refine ⟨_, _, _, rfl, ?_, ?_, HB.out⟩
        · rw [Po.trim_length, hlo.out]
        · unfold Po.trim
          rw [hlo.out]
          exact h5
  · have HS0 : Hid (((w.alloc (.cells ((madeCells #[Value.int .u8 0] (n + 1)).setIfInBounds 0 (.int .u8 1)) 5)).alloc (.cells (madeCells #[Value.int .u8 0] n) 5)).drew.ownsRow w.heap.size 5 1 (.slice (some ⟨w.heap.size + 1, 0, none⟩) n n) n (bys (Po.thO xs ys 0)) ∧ ((w.alloc (.cells ((madeCells #[Value.int .u8 0] (n + 1)).setIfInBounds 0 (.int .u8 1)) 5)).alloc (.cells (madeCells #[Value.int .u8 0] n) 5)).drew.ownsRow w.heap.size 5 1 (.slice (some ⟨w.heap.size, 0, none⟩) (0 + 1) (n + 1)) (0 + 1) (bys (Po.thB xs 0)) ∧ Below w.heap.size w ((w.alloc (.cells ((madeCells #[Value.int .u8 0] (n + 1)).setIfInBounds 0 (.int .u8 1)) 5)).alloc (.cells (madeCells #[Value.int .u8 0] n) 5)).drew) := ⟨by rw [show Po.thO xs ys 0 = List.replicate n 0 from by rw [Po.thO, HN.out]]; have h := own_zeros (w.alloc (.cells ((madeCells #[Value.int .u8 0] (n + 1)).setIfInBounds 0 (.int .u8 1)) 5)) n (by omega); rw [World.size_alloc] at h; exact own_more h (Nat.le_succ _), own_alloc (own_one w n (by omega)) _, (((Below.refl _ w).alloc (Nat.le_refl _) _).alloc (by simp) _).drew⟩
    go_wp2_with fail
    go_loopw [34, 7] (fun v b wr => ThLoop w xs ys (some ⟨w.heap.size + 1, 0, none⟩) n v b wr) (fun v _ _ => n - (intOf v).toNat)
    case atStart =>
      exact ⟨0, some ⟨w.heap.size, 0, none⟩, n + 1, Nat.zero_le _, rfl, rfl, rfl, HS0.out.1, HS0.out.2.1, .inr (by simp [Value.ownBlock]), HS0.out.2.2⟩
    case round =>
      clear HS0
      obtain ⟨k, Ab, cb, hk, rfl, rfl, HBad, ho, ho2, hdis, hb⟩ := hrel
      have HO := Lib.hid ho
      have HO2 := Lib.hid ho2
      have HB := Lib.hid hb
      clear hmk1 hmk2 hm0
      rcases Nat.lt_or_ge k n with hkn | hkn
      · obtain ⟨x, hx⟩ := byte_at xs k (by rw [HN.out]; exact hkn)
        obtain ⟨y, hy⟩ := byte_at ys k (by rw [HM.out]; exact hkn)
        obtain ⟨ad, rfl, hbk, hcx⟩ := (HP.out.below hb).byte hx
        obtain ⟨ad2, rfl, hbk2, hcy⟩ := (HQ.out.below hb).byte hy
        obtain ⟨gb, rfl, hgb, hgb2⟩ := own_form ho2 (by omega)
        have HX := Lib.hid hx
        have HDIS : Hid (gb ≠ w.heap.size + 1) := by
          unfold Hid
          intro e
          subst e
          rcases hdis with hdis | hdis
          · simp [Value.ownBlock] at hdis
          · exact hdis rfl
        have HSZ : Hid (w.heap.size ≤ wr.heap.size) := hb.size
        have HEO : Hid (∀ W, Below wr.heap.size wr W → Calls Tryd.prog 15 #[.slice (some ⟨w.heap.size + 1, 0, none⟩) n n, .int .u8 (x.toNat : Int)] W fun e W' => e = .returned (.int .u8 ((Po.eval (Po.thO xs ys k) x).toNat : Int)) ∧ Below W.heap.size W W') :=
          fun W hW => eval_at _ n n W.heap.size _ x _ rfl (by rw [Po.thO_length, HN.out]) (by omega) W ((Sl.of_own (own_below HO.out hW))) (Nat.le_refl _)
        have HEB : Hid (∀ W, Below wr.heap.size wr W → Calls Tryd.prog 15 #[.slice (some ⟨gb, 0, none⟩) (k + 1) cb, .int .u8 (x.toNat : Int)] W fun e W' => e = .returned (.int .u8 ((Po.eval (Po.thB xs k) x).toNat : Int)) ∧ Below W.heap.size W W') :=
          fun W hW => eval_at _ (k + 1) cb W.heap.size _ x _ rfl (by rw [Po.thB_length]) (by omega) W ((Sl.of_own (own_below HO2.out hW))) (Nat.le_refl _)
        obtain ⟨z, hz, HZ⟩ := xor_ex y (Po.eval (Po.thO xs ys k) x)
        have HTO := Lib.hid (Po.thO_succ xs ys k x y (Gf.gmul z (Gf.ginv (Po.eval (Po.thB xs k) x))) hx hy (by rw [HZ.out]))
        have HTB := Lib.hid (Po.thB_succ xs k x hx)
        have hlt2 : ad2.block < wr.heap.size := by omega
        have hab : (ad2.add k).block < wr.heap.size := by rw [add_block]; exact hlt2
        by_cases hev : Po.eval (Po.thB xs k) x = 0
        · have he : Gf.ez (Po.eval (Po.thB xs k) x) = 4 := by rw [hev]; rfl
          have HRes : Hid (Po.thR xs ys = [] ∧ Po.thE xs ys = 8) := Po.th_twice HFit.out (Po.thBad_more xs (k + 1) (Po.thBad_hit xs k x hx hev) _ (by rw [HN.out]; omega))
          clear ho ho2 hx hy hb hdis hev
          go_wp2_with fail
          go_region_held3 (fun W => W.cell? (ad2.add k) = some (.int .u8 (y.toNat : Int)) ∧ Below wr.heap.size wr W) (first | exact ⟨hcy, (Below.refl _ _).drew⟩ | go_keep | (go_split_ands; refine ⟨?_, ?_⟩ <;> assumption) | (go_split_ands; refine keepS ?_ ?_ hab hbE <;> assumption)) ((first | (go_at_call 15; first | ((with_reducible refine (HEO.out _ ?_).mono ?_); (first | assumption | (go_split_ands; assumption)); rintro e w' ⟨rfl, hbE⟩) | ((with_reducible refine (HEB.out _ ?_).mono ?_); (first | assumption | (go_split_ands; assumption)); rintro e w' ⟨rfl, hbE⟩)) | (go_at_call 35; ((with_reducible refine (divide_any _ _ _).mono ?_); rintro e w' ⟨rfl, rfl⟩))))
          have HS := Lib.hid (show Below wr.heap.size wr w' from (by assumption : _ ∧ Below wr.heap.size wr w').2)
          go_wp2_with fail
          go_ret2
          rw [HRes.out.1, HRes.out.2]
          exact resB_nil _ _ _ (HB.out.trans (HS.out.mono HSZ.out))
        · have he : Gf.ez (Po.eval (Po.thB xs k) x) = 0 := Gf.ez_ne _ hev
          have HBad2 := Lib.hid (Po.thBad_miss xs k x hx hev HBad.out)
          clear ho ho2 hx hy hb hdis hev
          go_wp2_with fail
          go_region_held3 (fun W => W.cell? (ad2.add k) = some (.int .u8 (y.toNat : Int)) ∧ Below wr.heap.size wr W) (first | exact ⟨hcy, (Below.refl _ _).drew⟩ | go_keep | (go_split_ands; refine ⟨?_, ?_⟩ <;> assumption) | (go_split_ands; refine keepS ?_ ?_ hab hbE <;> assumption)) ((first | (go_at_call 15; first | ((with_reducible refine (HEO.out _ ?_).mono ?_); (first | assumption | (go_split_ands; assumption)); rintro e w' ⟨rfl, hbE⟩) | ((with_reducible refine (HEB.out _ ?_).mono ?_); (first | assumption | (go_split_ands; assumption)); rintro e w' ⟨rfl, hbE⟩)) | (go_at_call 35; ((with_reducible refine (divide_any _ _ _).mono ?_); rintro e w' ⟨rfl, rfl⟩))))
          have HS := Lib.hid (show Below wr.heap.size wr w' from (by assumption : _ ∧ Below wr.heap.size wr w').2)
          go_wp2_with fail
          refine (add_two (some ⟨w.heap.size + 1, 0, none⟩) (some ⟨gb, 0, none⟩) n n (k + 1) cb w.heap.size w.heap.size (Po.thO xs ys k) (Po.thB xs k) (Gf.gmul z (Gf.ginv (Po.eval (Po.thB xs k) x))) 0 _ 0 rfl rfl w' (by rw [Po.thO_length, HN.out]) (Po.thB_length xs k) (own_below HO.out HS.out) (own_below HO2.out HS.out) (.inr (fun e => HDIS.out (by simpa [Value.ownBlock] using e))) (by omega) (by omega)).mono ?_
          rintro e w7 ⟨rfl, ho7, hg7⟩
          rw [← HTO.out] at ho7
          have HO7 := Lib.hid ho7
          have HOB7 : Hid (w7.ownsRow w.heap.size 5 1 (.slice (some ⟨gb, 0, none⟩) (k + 1) cb) (k + 1) (bys (Po.thB xs k))) :=
            own_keep (own_below HO2.out HS.out) hg7 (.inr (fun e => HDIS.out (by simpa [Value.ownBlock] using e)))
          have HB7 : Hid (Below w.heap.size w w7) := (HB.out.trans (HS.out.mono HSZ.out)).grown hg7 (Nat.le_trans HSZ.out HS.out.size) (fun x' hx' => own_block ho7 x' hx')
          clear ho7 hg7
          have HSZ7 : Hid (w.heap.size ≤ w7.heap.size) := HB7.out.size
          have hgo7 : w.heap.size + 1 < w7.heap.size := by
            obtain ⟨g', hg', _, hg2'⟩ := own_form HO7.out (by omega)
            injection hg' with hg'
            injection hg' with hg'
            omega
          go_wp2_with (at_make; refine wpList_make_full _ rfl (.tmp 62) (.tmp 62) 27 rfl w7.heap.size 5 i0 (.int .u8 0) 1 Tryd.underlying27 hi hz0 hz1 _ _ _ _ (k + 2) rfl rfl (by omega) (by omega) (by rw [hz2]; omega) (by unfold maxLen; omega) (Nat.le_refl _) ?_; intro w8 hown8 hg8)
          rw [made_bys] at hown8
          refine (add_at _ (some ⟨gb, 0, none⟩) (k + 2) (k + 2) (k + 1) cb w7.heap.size w7.heap.size _ (Po.thB xs k) 1 1 1 1 rfl rfl w8 List.length_replicate (Po.thB_length xs k) hown8 ((Sl.of_own HOB7.out).grown hg8 (Nat.le_refl _) (fun _ e => by cases e)) (Nat.le_refl _) hg8.size (by omega) (by omega)).mono ?_
          rintro e w9 ⟨rfl, ho9, hg9⟩
          have HG9 := Lib.hid (grown_far hg8 hg9 (own_block hown8))
          clear hg8 hg9 hown8
          go_wp2_with fail
          refine (add_at _ (some ⟨gb, 0, none⟩) (k + 2) (k + 2) (k + 1) cb w7.heap.size w7.heap.size _ (Po.thB xs k) x 0 _ 0 rfl rfl w9 (by rw [Po.addAt_length, List.length_replicate]) (Po.thB_length xs k) ho9 ((Sl.of_own HOB7.out).grown HG9.out (Nat.le_refl _) (fun _ e => by cases e)) (Nat.le_refl _) HG9.out.size (by omega) (by omega)).mono ?_
          rintro e w10 ⟨rfl, ho10, hg10⟩
          rw [← HTB.out] at ho10
          have HO10 := Lib.hid (own_more ho10 HSZ7.out)
          have HG10 := Lib.hid (grown_far HG9.out hg10 (own_block ho9))
          clear hg10 ho9 ho10
          go_wp2_with fail
          go_roundw
          case rel =>
            exact ⟨k + 1, some ⟨w7.heap.size, 0, none⟩, k + 2, by omega, by go_num, rfl, HBad2.out, own_keep HO7.out HG10.out (.inr (by simp [Value.ownBlock])), HO10.out, .inr (fun e => by simp [Value.ownBlock] at e; omega), HB7.out.grown HG10.out HSZ7.out (fun _ e => by cases e)⟩
          case measure => simp [intOf]; omega
      · have hkn' : k = n := by omega
        have HRes : Hid (Po.thR xs ys = Po.trim (Po.thO xs ys n) ∧ Po.thE xs ys = 0) := by
          have h1 := HBad.out
          rw [hkn', ← HN.out] at h1
          have h2 := Po.th_ok HFit.out h1
          rw [HN.out] at h2
          exact h2
        have hlo : Hid ((Po.thO xs ys n).length = n) := by unfold Hid; rw [Po.thO_length, HN.out]
        have HOn : Hid (wr.ownsRow w.heap.size 5 1 (.slice (some ⟨w.heap.size + 1, 0, none⟩) n n) n (bys (Po.thO xs ys n))) := by
          have h1 := HO.out
          rw [hkn'] at h1
          exact h1
        have HT := Lib.hid (trim_any (some ⟨w.heap.size + 1, 0, none⟩) n n _ (Po.thO xs ys n) wr hlo.out (Sl.of_own HOn.out) (Nat.le_refl _) (by omega))
        clear ho ho2 hb hdis hkn'
        go_wp2_with fail
        refine HT.out.mono ?_
        rintro e w5 ⟨rfl, rfl⟩
        go_wp2_with fail
        go_ret2
        rw [HRes.out.1, HRes.out.2]
        have h5 := own_take HOn.out (Po.tl_le (Po.thO xs ys n) n)
        rw [bys_take] at h5
        refine ⟨_, _, _, rfl, ?_, ?_, HB.out⟩
        · rw [Po.trim_length, hlo.out]
        · unfold Po.trim
          rw [hlo.out]
          exact h5
theorem through_any (A A2 : Option Addr) (n c m c2 : Nat) (xs ys : List UInt8) (w : World) (hn : xs.length = n) (hm : ys.length = m) (hp : Sl w w.heap.size A (bys xs)) (hq : Sl w w.heap.size A2 (bys ys))
    (hl : n ≤ 140737488355328) (hl2 : m ≤ 140737488355328) :
    Calls Tryd.prog 20 #[.slice A n c, .slice A2 m c2] w (ResB w (Po.thR xs ys) (Po.thE xs ys)) := by
  by_cases hnm : n = m
  · subst hnm
    rcases Nat.lt_or_ge 255 n with h | h
    · have HR : Hid (Po.thR xs ys = [] ∧ Po.thE xs ys = 7) := Po.th_no (by unfold Po.thFit; rw [decide_eq_false (show ¬ xs.length ≤ 255 by omega), Bool.and_false])
      have hne : ((n : Int) != (n : Int)) = false := by simp
      clear hp hq hn hm
      go_enter Tryd.func20, Tryd.ntmps20
      go_wp2_with fail
      go_ret2
      rw [HR.out.1, HR.out.2]
      exact resB_nil _ _ _ (Below.refl _ _)
    · exact through_fit A A2 n c c2 xs ys w hn hm hp hq h
  · have HR : Hid (Po.thR xs ys = [] ∧ Po.thE xs ys = 7) := Po.th_no (by unfold Po.thFit; rw [decide_eq_false (show ¬ xs.length = ys.length by omega), Bool.false_and])
    have hne : ((n : Int) != (m : Int)) = true := by rw [bne_iff_ne]; omega
    clear hp hq hn hm hnm
    go_enter Tryd.func20, Tryd.ntmps20
    go_wp2_with fail
    go_ret2
    rw [HR.out.1, HR.out.2]
    exact resB_nil _ _ _ (Below.refl _ _)
end Go.Proofs.YtkolmppfhpcdpaaDoor
