/- The document's Through. -/
import Derived.Test.YtkolmppfhpcdpaaDoorRefC
import Derived.Test.YtkolmppfhpcdpaaDoorPolyW
import Derived.Test.YtkolmppfhpcdpaaDoorPolyL
import Derived.Test.YtkolmppfhpcdpaaDoorFieldC
import Derived.RegionTactic
import Derived.ChangeAlike
import Derived.Deep.RegionHeld3
namespace Go.Proofs.YtkolmppfhpcdpaaDoor
open Go.RowKit
set_option linter.unusedVariables false
set_option maxRecDepth 100000
/-- nothing but draws so far -/
def Drawn (w wr : World) : Prop := Below w.heap.size w wr ∧ ∀ p, wr.cell? p = w.cell? p
def RTwOut (w : World) (xs : List UInt8) (n : Nat) (v : Value) (wr : World) : Prop := ∃ i : Nat, i ≤ n ∧ v = .int .i64 (i : Int) ∧ Hid (Po.thBad xs i = false) ∧ Hid (Drawn w wr)
def RTwIn (w : World) (xs : List UInt8) (x : UInt8) (i : Nat) (v : Value) (wr : World) : Prop := ∃ j : Nat, j ≤ i ∧ v = .int .i64 (j : Int) ∧ Hid (∀ b, b < j → xs[b]? = some x → False) ∧ Hid (Drawn w wr)
def RThMain (w : World) (xs ys : List UInt8) (n : Nat) (v o b : Value) (wr : World) : Prop :=
  ∃ (i : Nat) (Ao : Option Addr) (co : Nat) (Ab : Option Addr) (cb : Nat), i ≤ n ∧ v = .int .i64 (i : Int) ∧ o = .slice Ao i co ∧ b = .slice Ab (i + 1) cb ∧
    wr.ownsRow w.heap.size 5 1 (.slice Ao i co) i (bys ((Po.thO xs ys i).take i)) ∧ wr.ownsRow w.heap.size 5 1 (.slice Ab (i + 1) cb) (i + 1) (bys (Po.thB xs i)) ∧
    ((Value.slice Ao i co).ownBlock = none ∨ (Value.slice Ao i co).ownBlock ≠ (Value.slice Ab (i + 1) cb).ownBlock) ∧ Below w.heap.size w wr
theorem own_lit1 (u : World) (base : Nat) (h : base ≤ u.heap.size) : (u.alloc (.cells #[.int .u8 1] 5)).ownsRow base 5 1 (.slice (some ⟨u.heap.size, 0, none⟩) 1 1) 1 (bys [1]) :=
  own_more (World.ownsRow_lit (base := u.heap.size) (e := 5) (size := 1) u #[.int .u8 1] 1 (Nat.le_refl _) (by unfold maxLen; omega) rfl) h
theorem keepS3 {wr W W' : World} {a b : Addr} {u v : Value} (h0 : W.cell? b = some u) (h1 : W.cell? a = some v) (h2 : Below wr.heap.size wr W) (hb' : b.block < wr.heap.size) (ha : a.block < wr.heap.size) (hb : Below W.heap.size W W') : W'.cell? b = some u ∧ W'.cell? a = some v ∧ Below wr.heap.size wr W' :=
  ⟨(hb.cell (Nat.lt_of_lt_of_le hb' h2.size)).trans h0, (hb.cell (Nat.lt_of_lt_of_le ha h2.size)).trans h1, h2.trans (hb.mono h2.size)⟩
def RThSum (w : World) (l B : List UInt8) (t : UInt8) (ga c' gb cb n m : Nat) (v : Value) (wr : World) : Prop :=
  ∃ k : Nat, k ≤ m ∧ v = .int .i64 (k : Int) ∧ wr.ownsRow w.heap.size 5 1 (.slice (some ⟨ga, 0, none⟩) n c') n (bys (Po.addTo l B t 0 k)) ∧ wr.ownsRow w.heap.size 5 1 (.slice (some ⟨gb, 0, none⟩) m cb) m (bys B) ∧ Below w.heap.size w wr
def RThNext (w : World) (l B : List UInt8) (x : UInt8) (ga c' gb cb gn n m : Nat) (v : Value) (wr : World) : Prop :=
  ∃ k : Nat, k ≤ m ∧ v = .int .i64 (k : Int) ∧ wr.ownsRow w.heap.size 5 1 (.slice (some ⟨ga, 0, none⟩) n c') n (bys l) ∧ wr.ownsRow w.heap.size 5 1 (.slice (some ⟨gb, 0, none⟩) m cb) m (bys B) ∧
    wr.ownsRow w.heap.size 5 1 (.slice (some ⟨gn, 0, none⟩) (m + 1) (m + 1)) (m + 1) (bys (Po.nx B x k)) ∧ Below w.heap.size w wr
set_option maxHeartbeats 4000000 in
theorem rthrough_fit (A A2 : Option Addr) (n c c2 : Nat) (xs ys : List UInt8) (w : World) (hn : xs.length = n) (hm : ys.length = n) (hp : Sl w w.heap.size A (bys xs)) (hq : Sl w w.heap.size A2 (bys ys)) (hl : n ≤ 255) :
    Calls Tryd.prog 21 #[.slice A n c, .slice A2 n c2] w (ResB w (Po.thR xs ys) (Po.thE xs ys)) := by
  obtain ⟨i0, hi, hz0, hz1, hz2⟩ := info_parts infoB
  have hne : ((n : Int) != (n : Int)) = false := by simp
  have HFit : Hid (Po.thFit xs ys = true) := by unfold Hid Po.thFit; rw [decide_eq_true (hn.trans hm.symm), decide_eq_true (by omega)]; rfl
  have HN := Lib.hid hn
  have HM := Lib.hid hm
  have HP := Lib.hid hp
  have HQ := Lib.hid hq
  clear hn hm hp hq
  go_enter Tryd.func21, Tryd.ntmps21
  go_wp2_with fail
  go_loopw [6] (fun v wr => RTwOut w xs n v wr) (fun v _ => n - (intOf v).toNat)
  case atStart => exact ⟨0, Nat.zero_le _, rfl, rfl, Below.refl _ _, fun _ => rfl⟩
  case round =>
    obtain ⟨i, hin, rfl, HBad, HW⟩ := hrel
    rcases Nat.lt_or_ge i n with h1 | h1
    · obtain ⟨x, hx⟩ := byte_at xs i (by rw [HN.out]; exact h1)
      have HX := Lib.hid hx
      clear hx
      go_wp2_with fail
      go_loopw [7] (fun v wr => RTwIn w xs x i v wr) (fun v _ => i - (intOf v).toNat)
      case atStart => exact ⟨0, Nat.zero_le _, rfl, fun b hb => by omega, HW⟩
      case round =>
        clear HW
        obtain ⟨j, hj, rfl, HNo, HW⟩ := hrel
        rcases Nat.lt_or_ge j i with h2 | h2
        · obtain ⟨y, hy⟩ := byte_at xs j (by rw [HN.out]; omega)
          obtain ⟨ad, rfl, hbk, hc0⟩ := HP.out.byte HX.out
          obtain ⟨ad', had, _, hc1⟩ := HP.out.byte hy
          cases had
          have hcx := (HW.out.2 _).trans hc0
          have hcy := (HW.out.2 _).trans hc1
          clear hc0 hc1
          have hin2 : (i : Int) < (n : Int) := by omega
          have hjn2 : (j : Int) < (n : Int) := by omega
          by_cases hxy : x = y
          · subst hxy
            have HRes : Hid (Po.thR xs ys = [] ∧ Po.thE xs ys = 8) := Po.th_twice HFit.out (Po.thBad_twin xs i j x h2 HX.out hy)
            clear hy
            go_wp2_with fail
            go_quiet (fail)
            go_wp2_with fail
            go_ret2
            rw [HRes.out.1, HRes.out.2]
            exact resB_nil _ _ _ (below_drewN HW.out.1 _)
          · have hxyb := u8_ne hxy
            have HNo2 : Hid (∀ b, b < j + 1 → xs[b]? = some x → False) := fun b hb e => by
              by_cases hbj : b = j
              · subst hbj
                rw [hy] at e
                exact hxy (Option.some.inj e).symm
              · exact HNo.out b (by omega) e
            clear hy hxy
            go_wp2_with fail
            go_quiet (fail)
            go_wp2_with fail
            go_roundw
            case rel => exact ⟨j + 1, by omega, by go_num, HNo2, below_drewN HW.out.1 _, fun p => HW.out.2 p⟩
            case measure => simp [intOf]; omega
        · obtain rfl : j = i := by omega
          have HBad2 : Hid (Po.thBad xs (j + 1) = false) := Po.thBad_next xs j x HX.out HBad.out HNo.out
          go_wp2_with fail
          go_roundw
          case rel => exact ⟨j + 1, by omega, by go_num, HBad2, HW⟩
          case measure => simp [intOf]; omega
    · obtain rfl : i = n := by omega
      have HOne := Lib.hid (own_lit1 wr w.heap.size HW.out.1.size)
      have HBe0 := Lib.hid (HW.out.1.alloc HW.out.1.size (.cells #[.int .u8 1] 5))
      go_wp2_with fail
      go_loopw [10, 8, 9] (fun v o b wr => RThMain w xs ys i v o b wr) (fun v _ _ _ => i - (intOf v).toNat)
      case atStart => exact ⟨0, none, 0, some ⟨wr.heap.size, 0, none⟩, 1, Nat.zero_le _, rfl, rfl, rfl, World.ownsRow_nil _ _ _ _, HOne.out, .inl rfl, HBe0.out⟩
      case round =>
        clear HOne HBe0 HW
        obtain ⟨k, Ao, co, Ab, cb, hk, rfl, rfl, rfl, ho, ho2, hdis, hb⟩ := hrel
        have HO := Lib.hid ho
        have HO2 := Lib.hid ho2
        have HB := Lib.hid hb
        have HDis := Lib.hid hdis
        have hcap := (own_cap ho).1
        rcases Nat.lt_or_ge k i with hki | hki
        · obtain ⟨x, hx⟩ := byte_at xs k (by rw [HN.out]; exact hki)
          obtain ⟨y, hy⟩ := byte_at ys k (by rw [HM.out]; exact hki)
          obtain ⟨ad, rfl, hbk, hcx⟩ := (HP.out.below hb).byte hx
          obtain ⟨ad2, rfl, hbk2, hcy⟩ := (HQ.out.below hb).byte hy
          obtain ⟨gb, rfl, hgb, hgb2⟩ := own_form ho2 (by omega)
          have HSZ : Hid (w.heap.size ≤ wr.heap.size) := hb.size
          have hlx : ys.length = xs.length := HM.out.trans HN.out.symm
          have HEO : Hid (∀ W, Below wr.heap.size wr W → Calls Tryd.prog 37 #[.slice Ao k co, .int .u8 (x.toNat : Int)] W fun e W' => e = .returned (.int .u8 ((Po.eval (Po.thO xs ys k) x).toNat : Int)) ∧ Below W.heap.size W W') :=
            fun W hW => by
              rw [← Po.eval_out xs ys hlx k (by rw [HN.out]; omega) x]
              exact reval_any Ao k co W.heap.size _ x W (by rw [List.length_take, Po.thO_length, HN.out]; omega) (by omega) (Sl.of_own (own_below HO.out hW))
          have HEB : Hid (∀ W, Below wr.heap.size wr W → Calls Tryd.prog 37 #[.slice (some ⟨gb, 0, none⟩) (k + 1) cb, .int .u8 (x.toNat : Int)] W fun e W' => e = .returned (.int .u8 ((Po.eval (Po.thB xs k) x).toNat : Int)) ∧ Below W.heap.size W W') :=
            fun W hW => reval_any _ (k + 1) cb W.heap.size _ x W (Po.thB_length xs k) (by omega) (Sl.of_own (own_below HO2.out hW))
          obtain ⟨z, hz, HZ⟩ := xor_ex y (Po.eval (Po.thO xs ys k) x)
          obtain ⟨t, ht⟩ : ∃ t, t = Gf.gmul z (Gf.ginv (Po.eval (Po.thB xs k) x)) := ⟨_, rfl⟩
          have HT := Lib.hid ht
          have HTA := Lib.hid (Po.thO_add xs ys k x y t hx hy (by rw [ht, HZ.out]))
          have HTG := Lib.hid (Po.thO_grow xs ys hlx k (by rw [HN.out]; exact hki))
          have HNX := Lib.hid (Po.nx_all xs k x hx)
          have HX := Lib.hid hx
          have hax : (ad.add k).block < wr.heap.size := by rw [add_block]; omega
          have hay : (ad2.add k).block < wr.heap.size := by rw [add_block]; omega
          clear ho ho2 hx hy hb hdis ht hlx
          go_wp2_with fail
          go_region_held3 (fun W => W.cell? (ad2.add k) = some (.int .u8 (y.toNat : Int)) ∧ W.cell? (ad.add k) = some (.int .u8 (x.toNat : Int)) ∧ Below wr.heap.size wr W) (first | exact ⟨hcy, hcx, (Below.refl _ _).drew⟩ | go_keep | (go_split_ands; refine ⟨?_, ?_, ?_⟩ <;> assumption) | (go_split_ands; refine keepS3 ?_ ?_ ?_ hay hax hbE <;> assumption)) ((first | (go_at_call 37; first | ((with_reducible refine (HEO.out _ ?_).mono ?_); (first | assumption | (go_split_ands; assumption)); rintro e w' ⟨rfl, hbE⟩) | ((with_reducible refine (HEB.out _ ?_).mono ?_); (first | assumption | (go_split_ands; assumption)); rintro e w' ⟨rfl, hbE⟩)) | (go_at_call 36; ((with_reducible refine (refdivide_any _ _ _).mono ?_); rintro e w' ⟨rfl, rfl⟩))))
          rw [← HT.out]
          have HS := Lib.hid (show Below wr.heap.size wr w' from (by assumption : _ ∧ _ ∧ Below wr.heap.size wr w').2.2)
          have HB7 : Hid (Below w.heap.size w w') := HB.out.trans (HS.out.mono HSZ.out)
          have HO7 : Hid ((w'.alloc (.cells #[.int .u8 0] 5)).ownsRow w.heap.size 5 1 (.slice Ao k co) k (bys ((Po.thO xs ys k).take k))) := own_alloc (own_below HO.out HS.out) _
          have HP7 : Hid ((w'.alloc (.cells #[.int .u8 0] 5)).ownsRow w.heap.size 5 1 (.slice (some ⟨gb, 0, none⟩) (k + 1) cb) (k + 1) (bys (Po.thB xs k))) := own_alloc (own_below HO2.out HS.out) _
          have HSl := Lib.hid (sl_new1 w' 5 (.int .u8 0))
          have HBW : Hid (w.heap.size ≤ w'.heap.size) := HB7.out.size
          have hgb3 : gb < w'.heap.size := Nat.lt_of_lt_of_le hgb2 HS.out.size
          go_wp2_with fail
          refine wp_loop_rounds 2 ?_
          rw [rounds_succ]
          go_wp2_with (at_builtin; refine wpList_append_sl _ rfl (.tmp 79) (.tmp 80) 27 rfl w.heap.size 5 i0 (.int .u8 0) 1 Tryd.underlying27 hi hz0 hz1 hz2 rfl _ _ _ _ rfl HO7.out _ _ 1 _ _ rfl rfl HSl.out (fun u hu => by simp at hu; subst hu; rfl) (by unfold maxLen; omega) (by omega) (by have := HBW.out; simp; omega) ?_; intro A' c' w8 hown hgrow hblk)
          have HO8 : Hid (w8.ownsRow w.heap.size 5 1 (.slice A' (k + 1) c') (k + 1) (bys ((Po.thO xs ys k).take (k + 1)))) := by
            have h2 := bys_snoc ((Po.thO xs ys k).take k) 0
            rw [← HTG.out] at h2
            exact h2 ▸ hown
          have HP8 : Hid (w8.ownsRow w.heap.size 5 1 (.slice (some ⟨gb, 0, none⟩) (k + 1) cb) (k + 1) (bys (Po.thB xs k))) :=
            own_keep HP7.out hgrow (.inr (fun e => by
              rcases HDis.out with h | h
              · rw [h] at e; simp [Value.ownBlock] at e
              · exact h e.symm))
          have HB8 : Hid (Below w.heap.size w w8) := (HB7.out.alloc HBW.out _).grown hgrow (by have := HBW.out; simp; omega) (own_block HO7.out)
          obtain ⟨ga, rfl, hga, hga2⟩ := own_form HO8.out (by omega)
          have HAB : Hid (ga ≠ gb) := by
            unfold Hid
            intro e
            subst e
            rcases hblk with h | h
            · rcases HDis.out with h' | h'
              · rw [h'] at h; simp [Value.ownBlock] at h
              · exact h' (h.symm.trans (by simp [Value.ownBlock]))
            · simp [Value.ownBlock] at h
              omega
          clear hown hgrow hblk hga2 HO7 HP7 HB7 hgb3
          rw [rounds_succ]
          go_wp2_with fail
          go_loopw [13] (fun v wr => RThSum w ((Po.thO xs ys k).take (k + 1)) (Po.thB xs k) t ga c' gb cb (k + 1) (k + 1) v wr) (fun v _ => k + 1 - (intOf v).toNat)
          case atStart => exact ⟨0, Nat.zero_le _, rfl, HO8.out, HP8.out, HB8.out⟩
          case round =>
            clear HO8 HP8 HB8
            obtain ⟨j, hj, rfl, ho, ho2, hb⟩ := hrel
            rcases Nat.lt_or_ge j (k + 1) with hjk | hjk
            · obtain ⟨b2, hb2⟩ := byte_at (Po.thB xs k) j (by rw [Po.thB_length]; exact hjk)
              obtain ⟨d, hd⟩ := byte_at (Po.addTo ((Po.thO xs ys k).take (k + 1)) (Po.thB xs k) t 0 j) j (by rw [Po.addTo_length, List.length_take, Po.thO_length, HN.out]; omega)
              obtain ⟨x1, hx1, HX1⟩ := xor_ex d (Gf.gmul t b2)
              have HSi := Lib.hid (Po.addTo_succ ((Po.thO xs ys k).take (k + 1)) (Po.thB xs k) t d b2 x1 0 j (by rw [Nat.zero_add]; exact hd) hb2 HX1.out)
              have hc2 := own_byte ho2 hb2
              have hc3 := own_byte ho hd
              have hfz := ho.frozenAt j
              clear hb2 hd
              have HO := Lib.hid ho
              have HO2 := Lib.hid ho2
              have HG := Lib.hid hb
              clear ho ho2 hb
              have hb8 := u8_lt t
              have hb82 := u8_lt b2
              have hd8 := u8_lt d
              go_wp2_with fail
              have s5 : (j : Int) < (k : Int) + 1 := by omega
              refine wp_region_still_tail 12 (by kernel_rfl) (by kernel_rfl) ?_
              simp only [List.take_succ_cons, List.take_zero, List.drop_succ_cons, List.drop_zero]
              repeat (first | still_step | still_call (flip_same (refmul_any _ _ _)))
              refine wpStill_nil ?_
              change wpList _ _ _ _ _ wr.drew
              clear s5
              go_wp2_with fail
              go_roundw
              case rel =>
                have h1 := HO.out.drew.stored j (.int .u8 (x1.toNat : Int))
                refine ⟨j + 1, by omega, by go_num, ?_, own_keep (HO2.out.drew) h1.2 (.inr (fun e => HAB.out (by simpa [Value.ownBlock] using e.symm))), HG.out.drew.grown h1.2 HG.out.size (fun y e => by cases e; exact hga)⟩
                rw [HSi.out, Nat.zero_add]
                have h2 := h1.1
                unfold bys at h2 ⊢
                rw [List.map_set]
                exact h2
              case measure => simp [intOf]; omega
            · have hjk2 : j = k + 1 := by omega
              have HO9 : Hid (wr.ownsRow w.heap.size 5 1 (.slice (some ⟨ga, 0, none⟩) (k + 1) c') (k + 1) (bys ((Po.thO xs ys (k + 1)).take (k + 1)))) := by
                unfold Hid
                rw [← HTA.out]
                unfold Po.addAt
                rw [Po.thB_length]
                have h1 := ho
                rw [hjk2] at h1
                exact h1
              clear hjk2
              have HO10 := Lib.hid ho2
              have HB9 := Lib.hid hb
              clear ho ho2 hb
              have hmk := run_make_one (P := Tryd.prog) 27 5 i0 (.int .u8 0) Tryd.underlying27 hi hz0 hz1 .i64 .i64 ((k : Int) + 1 + 1) ((k : Int) + 1 + 1) (k + 2) (k + 2) (by omega) (by omega) (Nat.le_refl _) (by rw [hz2]; omega) (by omega)
              go_wp2_with fail
              have hgaw : ga < wr.heap.size := by obtain ⟨g', he, _, h2⟩ := own_form HO9.out (by omega); cases he; exact h2
              have hgbw : gb < wr.heap.size := by obtain ⟨g', he, _, h2⟩ := own_form HO10.out (by omega); cases he; exact h2
              have HW9 : Hid (w.heap.size ≤ wr.heap.size) := HB9.out.size
              have HN0 : Hid ((wr.alloc (.cells (madeCells #[Value.int .u8 0] (k + 2)) 5)).ownsRow w.heap.size 5 1 (.slice (some ⟨wr.heap.size, 0, none⟩) (k + 2) (k + 2)) (k + 2) (bys (Po.nx (Po.thB xs k) x 0))) := by
                have h1 := own_made wr 5 (.int .u8 0) (k + 2) (k + 2) rfl (Nat.le_refl _) (by unfold maxLen; omega)
                have e : bys (Po.nx (Po.thB xs k) x 0) = List.replicate (k + 2) (.int .u8 0) := by rw [Po.nx, Po.thB_length]; simp [bys, encB]
                unfold Hid
                rw [e]
                exact own_more h1 HW9.out
              obtain ⟨gn, hgn⟩ : ∃ gn, wr.heap.size = gn := ⟨_, rfl⟩
              have HGN := Lib.hid hgn
              have HOa := Lib.hid (own_alloc HO9.out (.cells (madeCells #[Value.int .u8 0] (k + 2)) 5))
              have HOb := Lib.hid (own_alloc HO10.out (.cells (madeCells #[Value.int .u8 0] (k + 2)) 5))
              have HBa := Lib.hid (HB9.out.alloc HW9.out (.cells (madeCells #[Value.int .u8 0] (k + 2)) 5))
              rw [hgn] at HN0 hgaw hgbw HW9
              rw [hgn]
              clear hgn HO9 HO10 HB9 hmk
              go_loopw [15] (fun v wr => RThNext w ((Po.thO xs ys (k + 1)).take (k + 1)) (Po.thB xs k) x ga c' gb cb gn (k + 1) (k + 1) v wr) (fun v _ => k + 1 - (intOf v).toNat)
              case atStart => exact ⟨0, Nat.zero_le _, rfl, HOa.out, HOb.out, HN0.out, HBa.out⟩
              case round =>
                clear HOa HOb HN0 HBa
                obtain ⟨j, hj, rfl, ho, ho2, ho3, hb⟩ := hrel
                rcases Nat.lt_or_ge j (k + 1) with hjk | hjk
                · obtain ⟨b2, hb2⟩ := byte_at (Po.thB xs k) j (by rw [Po.thB_length]; exact hjk)
                  obtain ⟨d1, hd1⟩ := byte_at (Po.nx (Po.thB xs k) x j) (j + 1) (by rw [Po.nx_length, Po.thB_length]; omega)
                  obtain ⟨y1, hy1, HY1⟩ := xor_ex d1 b2
                  obtain ⟨d2, hd2⟩ := byte_at ((Po.nx (Po.thB xs k) x j).set (j + 1) y1) j (by rw [List.length_set, Po.nx_length, Po.thB_length]; omega)
                  obtain ⟨y2, hy2, HY2⟩ := xor_ex d2 (Gf.gmul b2 x)
                  have HNX1 : Hid (Po.nx (Po.thB xs k) x (j + 1) = ((Po.nx (Po.thB xs k) x j).set (j + 1) y1).set j y2) := by
                    have e1 : Po.co (Po.nx (Po.thB xs k) x j) (j + 1) = d1 := by unfold Po.co; rw [hd1]; rfl
                    have e2 : Po.co (Po.thB xs k) j = b2 := by unfold Po.co; rw [hb2]; rfl
                    unfold Hid
                    rw [Po.nx, e1, e2, ← HY1.out, HY2.out]
                    have e3 : Po.co ((Po.nx (Po.thB xs k) x j).set (j + 1) y1) j = d2 := by unfold Po.co; rw [hd2]; rfl
                    rw [e3]
                  have hc1 := own_byte ho3 hd1
                  have hc2 := own_byte ho2 hb2
                  have hfz1 := ho3.frozenAt (j + 1)
                  have HS1 := Lib.hid (ho3.drew.stored (j + 1) (.int .u8 (y1.toNat : Int)))
                  have HHX : Hid (∃ ad0, some ad = some ad0 ∧ ad0.block < w.heap.size ∧ wr.cell? (ad0.add k) = some (.int .u8 (x.toNat : Int))) := (HP.out.below hb).byte HX.out
                  have hcx2 : wr.cell? (ad.add k) = some (.int .u8 (x.toNat : Int)) := by
                    obtain ⟨ad0, h0, _, h2⟩ := HHX.out
                    cases h0
                    exact h2
                  have HO := Lib.hid ho
                  have HO2 := Lib.hid ho2
                  have HO3 := Lib.hid ho3
                  have HG := Lib.hid hb
                  have HD2 := Lib.hid hd2
                  have HB2 := Lib.hid hb2
                  clear ho ho2 ho3 hb hd1 hb2 hd2 HHX
                  have hb8 := u8_lt b2
                  have hb82 := u8_lt d1
                  have hd8 := u8_lt d2
                  have HF : Hid (∃ w5, (wr.setCell ⟨gn, j + 1, none⟩ (.int .u8 (y1.toNat : Int))).drew = w5 ∧ w5.ownsRow w.heap.size 5 1 (.slice (some ⟨gn, 0, none⟩) (k + 2) (k + 2)) (k + 2) (bys ((Po.nx (Po.thB xs k) x j).set (j + 1) y1)) ∧
                      w5.ownsRow w.heap.size 5 1 (.slice (some ⟨gb, 0, none⟩) (k + 1) cb) (k + 1) (bys (Po.thB xs k)) ∧ w5.ownsRow w.heap.size 5 1 (.slice (some ⟨ga, 0, none⟩) (k + 1) c') (k + 1) (bys ((Po.thO xs ys (k + 1)).take (k + 1))) ∧
                      Below w.heap.size w w5 ∧ w5.cell? (ad.add k) = some (.int .u8 (x.toNat : Int)) ∧ w5.cell? ⟨gb, j, none⟩ = some (.int .u8 (b2.toNat : Int)) ∧ w5.cell? ⟨gn, j, none⟩ = some (.int .u8 (d2.toNat : Int)) ∧ w5.frozen? ⟨gn, j, none⟩ = false) := by
                    have g1 := HS1.out
                    have e1 : bys ((Po.nx (Po.thB xs k) x j).set (j + 1) y1) = (bys (Po.nx (Po.thB xs k) x j)).set (j + 1) (.int .u8 (y1.toNat : Int)) := by unfold bys; rw [List.map_set]; rfl
                    have g2 : ((wr.setCell ⟨gn, j + 1, none⟩ (.int .u8 (y1.toNat : Int))).drew).ownsRow w.heap.size 5 1 (.slice (some ⟨gn, 0, none⟩) (k + 2) (k + 2)) (k + 2) (bys ((Po.nx (Po.thB xs k) x j).set (j + 1) y1)) := by rw [e1]; exact g1.1
                    have g3 : wr.grownBy ((wr.setCell ⟨gn, j + 1, none⟩ (.int .u8 (y1.toNat : Int))).drew) (some gn) := ⟨g1.2.os, g1.2.tape, g1.2.output, g1.2.size, g1.2.block⟩
                    have g4 : ((wr.setCell ⟨gn, j + 1, none⟩ (.int .u8 (y1.toNat : Int))).drew).ownsRow w.heap.size 5 1 (.slice (some ⟨gb, 0, none⟩) (k + 1) cb) (k + 1) (bys (Po.thB xs k)) := own_keep HO2.out g3 (.inr (by simp [Value.ownBlock]; omega))
                    have g5 : ((wr.setCell ⟨gn, j + 1, none⟩ (.int .u8 (y1.toNat : Int))).drew).ownsRow w.heap.size 5 1 (.slice (some ⟨ga, 0, none⟩) (k + 1) c') (k + 1) (bys ((Po.thO xs ys (k + 1)).take (k + 1))) := own_keep HO.out g3 (.inr (by simp [Value.ownBlock]; omega))
                    have g6 := HG.out.grown g3 HG.out.size (fun y e => by cases e; exact HW9.out)
                    have g7 := (HP.out.below g6).byte HX.out
                    have g8 : ((wr.setCell ⟨gn, j + 1, none⟩ (.int .u8 (y1.toNat : Int))).drew).cell? (ad.add k) = some (.int .u8 (x.toNat : Int)) := by
                      obtain ⟨ad0, h0, _, h2⟩ := g7
                      cases h0
                      exact h2
                    exact ⟨_, rfl, g2, g4, g5, g6, g8, own_byte g4 HB2.out, own_byte g2 HD2.out, g2.frozenAt j⟩
                  clear HS1 HO HO2 HO3 HG
                  go_wp2_with fail
                  have s1 : IntKind.i64.wrap ((j : Int) + 1) = (j : Int) + 1 := IntWalk.i64_in _ (by omega)
                  have s2 : 0 ≤ (j : Int) + 1 := by omega
                  have s3 : (j : Int) + 1 < (k : Int) + 2 := by omega
                  have s4 : ((j : Int) + 1).toNat = j + 1 := by omega
                  have s5 : (j : Int) < (k : Int) + 1 := by omega
                  refine wp_region_still_tail 11 (by kernel_rfl) (by kernel_rfl) ?_
                  simp only [List.take_succ_cons, List.take_zero, List.drop_succ_cons, List.drop_zero]
                  repeat (first | still_step)
                  refine wpStill_nil ?_
                  change wpList _ _ _ _ _ wr.drew
                  clear s1 s2 s3 s4 s5
                  go_wp2_with fail
                  clear hc1 hc2 hfz1 hcx2
                  obtain ⟨w5, hw5, g2, g4, g5, g6, hq1, hq2, hq3, hq4⟩ := HF.out
                  rw [hw5]
                  have HG2 := Lib.hid g2
                  have HG4 := Lib.hid g4
                  have HG5 := Lib.hid g5
                  have HG6 := Lib.hid g6
                  clear hw5 HF g2 g4 g5 g6
                  have s3 : (j : Int) < (k : Int) + 2 := by omega
                  have s5 : (j : Int) < (k : Int) + 1 := by omega
                  have s6 : (k : Int) < (i : Int) := by omega
                  refine wp_region_still_tail 15 (by kernel_rfl) (by kernel_rfl) ?_
                  simp only [List.take_succ_cons, List.take_zero, List.drop_succ_cons, List.drop_zero]
                  repeat (first | still_step | still_call (flip_same (refmul_any _ _ _)))
                  refine wpStill_nil ?_
                  change wpList _ _ _ _ _ w5.drew
                  clear s3 s5 s6
                  go_wp2_with fail
                  go_roundw
                  case rel =>
                    have h1 := HG2.out.drew.stored j (.int .u8 (y2.toNat : Int))
                    refine ⟨j + 1, by omega, by go_num, own_keep (HG5.out.drew) h1.2 (.inr (by simp [Value.ownBlock]; omega)), own_keep (HG4.out.drew) h1.2 (.inr (by simp [Value.ownBlock]; omega)), ?_, HG6.out.drew.grown h1.2 HG6.out.size (fun y e => by cases e; exact HW9.out)⟩
                    have e2 : bys (((Po.nx (Po.thB xs k) x j).set (j + 1) y1).set j y2) = (bys ((Po.nx (Po.thB xs k) x j).set (j + 1) y1)).set j (.int .u8 (y2.toNat : Int)) := by unfold bys; rw [List.map_set]; rfl
                    rw [HNX1.out, e2]
                    exact h1.1
                  case measure => simp [intOf]; omega
                · obtain rfl : j = k + 1 := by omega
                  have HNX2 := HNX.out
                  have HNew : Hid (wr.ownsRow w.heap.size 5 1 (.slice (some ⟨gn, 0, none⟩) (k + 2) (k + 2)) (k + 2) (bys (Po.thB xs (k + 1)))) := by
                    unfold Hid
                    rw [← HNX.out]
                    exact ho3
                  have HO := Lib.hid ho
                  have HG := Lib.hid hb
                  clear ho ho2 ho3 hb HNX2
                  go_wp2_with fail
                  go_roundw
                  case rel =>
                    exact ⟨k + 1, some ⟨ga, 0, none⟩, c', some ⟨gn, 0, none⟩, k + 2, by omega, by go_num, rfl, rfl, HO.out, HNew.out, .inr (by simp [Value.ownBlock]; omega), HG.out⟩
                  case measure => simp [intOf]; omega
        · obtain rfl : k = i := by omega
          have hall : (Po.thO xs ys k).take k = Po.thO xs ys k := List.take_of_length_le (by rw [Po.thO_length, HN.out]; exact Nat.le_refl _)
          have HRes : Hid (Po.thR xs ys = Po.trim (Po.thO xs ys k) ∧ Po.thE xs ys = 0) := by
            have h1 := HBad.out
            rw [← HN.out] at h1
            have h2 := Po.th_ok HFit.out h1
            rw [HN.out] at h2
            exact h2
          rw [hall] at ho
          have HTm := Lib.hid (rtrim_any Ao k co wr.heap.size (Po.thO xs ys k) wr (by rw [Po.thO_length, HN.out]) (Sl.of_own ho) (Nat.le_refl _) hcap (by omega))
          clear ho ho2 hb hdis hall
          go_wp2_with fail
          refine HTm.out.mono ?_
          rintro e w5 ⟨A5, n5, c5, rfl, hn5, ho5, hb5⟩
          have HF : Hid (ResB w (Po.thR xs ys) (Po.thE xs ys) (.returned (.tuple #[.slice A5 n5 c5, .int .i64 0])) w5) := by
            unfold Hid
            rw [HRes.out.1, HRes.out.2]
            exact ⟨A5, n5, c5, rfl, hn5, own_more ho5 HB.out.size, HB.out.trans (hb5.mono HB.out.size)⟩
          clear hn5 ho5 hb5
          go_wp2_with fail
          go_ret2
          exact HF.out
end Go.Proofs.YtkolmppfhpcdpaaDoor
