/- The document's Eval, Derive and Roots. -/
import Derived.Test.YtkolmppfhpcdpaaDoorRefA
import Derived.Test.YtkolmppfhpcdpaaDoorFieldB
import Derived.Test.YtkolmppfhpcdpaaDoorPolyF
namespace Go.Proofs.YtkolmppfhpcdpaaDoor
open Go.RowKit
set_option linter.unusedVariables false
set_option maxRecDepth 100000
namespace Po
theorem eval_step (l : List UInt8) (j : Nat) (b x : UInt8) (h : l[j]? = some b) : eval (l.drop j) x = Gf.gmul (eval (l.drop (j + 1)) x) x ^^^ b := by
  have hlt : j < l.length := by
    rcases Nat.lt_or_ge j l.length with h1 | h1
    · exact h1
    · rw [List.getElem?_eq_none h1] at h; cases h
  rw [List.drop_eq_getElem_cons hlt, eval_cons]
  rw [List.getElem?_eq_getElem hlt] at h
  rw [Option.some.inj h]
theorem derA_at (l : List UInt8) (k : Nat) (h : k + 1 < l.length) : (derA l)[k]? = some (if k % 2 = 0 then co l (k + 1) else 0) := by
  have h1 := co_derA l k
  unfold dF at h1
  rw [← h1]
  unfold co
  rw [List.getElem?_eq_getElem (by rw [derA_length]; omega)]
  rfl
theorem derA_even (l : List UInt8) (k : Nat) (b : UInt8) (hb : l[k + 1]? = some b) (hk : k % 2 = 0) : (derA l).take (k + 1) = (derA l).take k ++ [b] := by
  have hlt : k + 1 < l.length := by
    rcases Nat.lt_or_ge (k + 1) l.length with h1 | h1
    · exact h1
    · rw [List.getElem?_eq_none h1] at hb; cases hb
  rw [List.take_add_one, derA_at l k hlt, if_pos hk]
  unfold co
  rw [hb]
  rfl
theorem derA_odd (l : List UInt8) (k : Nat) (h : k + 1 < l.length) (hk : k % 2 = 1) : (derA l).take (k + 1) = (derA l).take k ++ [0] := by
  rw [List.take_add_one, derA_at l k h, if_neg (by omega)]
  rfl
end Po
def REvalLoop (w : World) (l : List UInt8) (x : UInt8) (n : Nat) (i v : Value) (wr : World) : Prop :=
  ∃ j : Nat, j ≤ n ∧ i = .int .i64 ((j : Int) - 1) ∧ v = .int .u8 ((Po.eval (l.drop j) x).toNat : Int) ∧ Hid (Below w.heap.size w wr ∧ ∀ p, wr.cell? p = w.cell? p)
theorem reval_any (A : Option Addr) (n c B : Nat) (l : List UInt8) (x : UInt8) (w : World) (hn : l.length = n) (hl : n ≤ 140737488351232) (hs : Sl w B A (bys l)) :
    Calls Tryd.prog 37 #[.slice A n c, .int .u8 (x.toNat : Int)] w fun e w' => e = .returned (.int .u8 ((Po.eval l x).toNat : Int)) ∧ Below w.heap.size w w' := by
  have HN := Lib.hid hn
  have HD0 : Hid (l.drop n = []) := List.drop_eq_nil_of_le (by omega)
  clear hn
  go_enter Tryd.func37, Tryd.ntmps37
  go_wp2_with fail
  go_loopw [6, 5] (fun i v wr => REvalLoop w l x n i v wr) (fun i _ _ => ((intOf i) + 1).toNat)
  case atStart => exact ⟨n, Nat.le_refl _, by go_num, by rw [HD0.out]; rfl, Below.refl _ _, fun _ => rfl⟩
  case round =>
    obtain ⟨j, hj, rfl, rfl, HW⟩ := hrel
    rcases Nat.eq_zero_or_pos j with h0 | h0
    · subst h0
      clear hs
      go_wp2_with fail
      go_ret
      exact ⟨rfl, HW.out.1⟩
    · obtain ⟨i, rfl⟩ : ∃ i, j = i + 1 := ⟨j - 1, by omega⟩
      obtain ⟨b, hb⟩ := byte_at l i (by rw [HN.out]; omega)
      have HE := Lib.hid (Po.eval_step l i b x hb)
      obtain ⟨ad, rfl, hbk, hc0⟩ := hs.byte hb
      have hc := (HW.out.2 _).trans hc0
      clear hc0
      obtain ⟨v, hv⟩ : ∃ v, Hid (Po.eval (l.drop (i + 1)) x = v) := ⟨_, rfl⟩
      rw [hv.out]
      rw [hv.out] at HE
      obtain ⟨z, hx, HX⟩ := xor_ex (Gf.gmul v x) b
      have e1 : ((i + 1 : Nat) : Int) - 1 = (i : Int) := by omega
      rw [e1]
      have HE1 := Lib.hid e1
      clear hb hs e1
      go_wp2_with fail
      go_quiet ((go_at_call 38; with_reducible exact quiet_left (refmul_any _ _ _)))
      go_wp2_with fail
      go_roundw
      case rel => exact ⟨i, by omega, by go_num, by rw [HE.out, ← HX.out], below_drewN HW.out.1 _, fun p => HW.out.2 p⟩
      case measure => simp [intOf]
theorem reval_at (A : Option Addr) (n c B : Nat) (l : List UInt8) (x : UInt8) (xv : Int) (hx : xv = (x.toNat : Int)) (hn : l.length = n) (hl : n ≤ 140737488351232) (w : World) (hs : Sl w B A (bys l)) (hB : B ≤ w.heap.size) :
    Calls Tryd.prog 37 #[.slice A n c, .int .u8 xv] w fun e w' => e = .returned (.int .u8 ((Po.eval l x).toNat : Int)) ∧ Below w.heap.size w w' := by
  subst hx
  exact reval_any A n c B l x w hn hl hs
set_option maxHeartbeats 1000000 in
theorem rroots_any (A : Option Addr) (n c : Nat) (l : List UInt8) (w : World) (hn : l.length = n) (hs : Sl w w.heap.size A (bys l)) (hl : n ≤ 140737488351232) :
    Calls Tryd.prog 48 #[.slice A n c] w (FreshB w (Po.rootsR l)) := by
  obtain ⟨i0, hi, hz0, hz1, hz2⟩ := info_parts infoB
  have HV := Lib.hid (rvalid_any A n c _ l w hn hs (by omega))
  cases hv : Po.vld l
  · have HR : Hid (Po.rootsR l = []) := by unfold Hid Po.rootsR; rw [hv]; rfl
    rw [hv] at HV
    clear hs hn hv
    go_enter Tryd.func48, Tryd.ntmps48
    go_wp2_with fail
    refine HV.out.mono ?_
    rintro e w1 ⟨rfl, rfl⟩
    go_wp2_with fail
    go_ret
    rw [HR.out]
    exact freshB_nil _ _ (Below.refl _ _)
  · rw [hv] at HV
    rcases Nat.eq_zero_or_pos n with hn0 | hn0
    · have HR : Hid (Po.rootsR l = []) := by unfold Hid Po.rootsR; rw [hv, decide_eq_false (by omega)]; rfl
      clear hs hn hv
      subst hn0
      go_enter Tryd.func48, Tryd.ntmps48
      go_wp2_with fail
      refine HV.out.mono ?_
      rintro e w1 ⟨rfl, rfl⟩
      go_wp2_with fail
      go_ret
      rw [HR.out]
      exact freshB_nil _ _ (Below.refl _ _)
    · have HR : Hid (Po.rootsR l = Po.rootsTo l 256) := by unfold Hid Po.rootsR; rw [hv, decide_eq_true (by omega)]; rfl
      have hz := nat_ne0 hn0
      have HN := Lib.hid hn
      have HS := Lib.hid hs
      clear hv hn hs
      go_enter Tryd.func48, Tryd.ntmps48
      go_wp2_with fail
      refine HV.out.mono ?_
      rintro e w1 ⟨rfl, rfl⟩
      go_wp2_with fail
      go_loopw [4, 3] (fun v o wr => RootsLoop w l v o wr) (fun v _ _ => 256 - (intOf v).toNat)
      case atStart => exact ⟨0, none, 0, 0, Nat.zero_le _, rfl, rfl, rfl, World.ownsRow_nil _ _ _ _, Below.refl _ _⟩
      case round =>
        obtain ⟨k, A1, n1, c1, hk, rfl, rfl, hl1, ho, hb⟩ := hrel
        have hle := Po.rootsTo_le l k
        rw [hl1] at hle
        have HO := Lib.hid ho
        have HB := Lib.hid hb
        have HL1 := Lib.hid hl1
        clear ho hb hl1
        rcases Nat.lt_or_ge k 256 with hk2 | hk2
        · have hkx : (k : Int) = ((UInt8.ofNat k).toNat : Int) := by rw [UInt8.toNat_ofNat']; omega
          have HKX := Lib.hid hkx
          have HE := Lib.hid (reval_at A n c w.heap.size l (UInt8.ofNat k) (k : Int) hkx HN.out hl wr (HS.out.below HB.out) HB.out.size)
          clear hkx
          go_wp2_with fail
          refine HE.out.mono ?_
          rintro e w2 ⟨rfl, hb2⟩
          have HB2 := Lib.hid (HB.out.trans (hb2.mono HB.out.size))
          have HO2 := Lib.hid (own_below HO.out hb2)
          have hsz : wr.heap.size ≤ w2.heap.size := hb2.size
          clear hb2
          by_cases hx : Po.eval l (UInt8.ofNat k) = 0
          · have hb0 : (((Po.eval l (UInt8.ofNat k)).toNat : Int) == 0) = true := by rw [hx]; rfl
            have HR1 : Hid (Po.rootsTo l (k + 1) = Po.rootsTo l k ++ [UInt8.ofNat k]) := by unfold Hid; rw [Po.rootsTo, if_pos hx]
            have HO3 : Hid ((w2.alloc (.cells #[.int .u8 (k : Int)] 5)).ownsRow w.heap.size 5 1 (.slice A1 n1 c1) n1 (bys (Po.rootsTo l k))) := own_alloc HO2.out _
            have HSl := Lib.hid (sl_new1 w2 5 (.int .u8 (k : Int)))
            have HBW : Hid (w.heap.size ≤ w2.heap.size) := HB2.out.size
            clear hx
            go_wp2_with (at_builtin; refine wpList_append_sl _ rfl (.tmp 22) (.tmp 25) 27 rfl w.heap.size 5 i0 (.int .u8 0) 1 Tryd.underlying27 hi hz0 hz1 hz2 rfl _ _ _ _ rfl HO3.out _ _ 1 _ _ rfl rfl HSl.out (fun u hu => by simp at hu; subst hu; rfl) (by unfold maxLen; omega) (by omega) (by have := HBW.out; simp; omega) ?_; intro A' c' w3 hown hgrow hblk)
            have hrow : ∀ x, (Value.slice A1 n1 c1).ownBlock = some x → w.heap.size ≤ x := own_block HO.out
            go_roundw
            case rel =>
              refine ⟨k + 1, A', n1 + 1, c', by omega, by go_num, rfl, by rw [HR1.out, List.length_append, HL1.out]; rfl, ?_, (HB2.out.alloc HBW.out _).grown hgrow (by have := HBW.out; simp; omega) hrow⟩
              rw [HR1.out]
              rw [HKX.out] at hown
              rw [bys_snoc] at hown
              exact hown
            case measure => simp [intOf]; omega
          · have hb0 : (((Po.eval l (UInt8.ofNat k)).toNat : Int) == 0) = false := by
              rw [beq_eq_false_iff_ne]
              intro e
              exact hx (UInt8.toNat_inj.1 (by simpa using e))
            have HR1 : Hid (Po.rootsTo l (k + 1) = Po.rootsTo l k) := by unfold Hid; rw [Po.rootsTo, if_neg hx]
            clear hx
            go_wp2_with fail
            go_roundw
            case rel => exact ⟨k + 1, A1, n1, c1, by omega, by go_num, rfl, by rw [HR1.out]; exact HL1.out, by rw [HR1.out]; exact HO2.out, HB2.out⟩
            case measure => simp [intOf]; omega
        · have hk3 : k = 256 := by omega
          subst hk3
          go_wp2_with fail
          go_ret
          rw [HR.out]
          exact ⟨A1, n1, c1, rfl, HL1.out, HO.out, HB.out⟩

def RDerRel (w : World) (l : List UInt8) (n : Nat) (v o : Value) (wr : World) : Prop :=
  ∃ (k : Nat) (A : Option Addr) (c : Nat), k ≤ n - 1 ∧ v = .int .i64 (k : Int) ∧ o = .slice A k c ∧ wr.ownsRow w.heap.size 5 1 (.slice A k c) k (bys ((Po.derA l).take k)) ∧ Below w.heap.size w wr
set_option maxHeartbeats 2000000 in
theorem rderive_any (A : Option Addr) (n c : Nat) (l : List UInt8) (w : World) (hn : l.length = n) (hs : Sl w w.heap.size A (bys l)) (hl : n ≤ 140737488351232) :
    Calls Tryd.prog 47 #[.slice A n c] w (FreshB w (Po.derR l)) := by
  obtain ⟨i0, hi, hz0, hz1, hz2⟩ := info_parts infoB
  rcases Nat.lt_or_ge 255 n with h | h
  · have HR : Hid (Po.derR l = []) := by unfold Hid Po.derR; rw [if_pos (.inr (by omega))]
    clear hs hn
    go_enter Tryd.func47, Tryd.ntmps47
    go_wp2_with fail
    go_ret
    rw [HR.out]
    exact freshB_nil _ _ (Below.refl _ _)
  · have HR : Hid (Po.derR l = Po.trim (Po.derA l)) := by
      unfold Hid Po.derR
      split
      · rename_i h0
        have : l = [] := List.eq_nil_of_length_eq_zero (by omega)
        rw [this]
        rfl
      · rfl
    have HLn : Hid ((Po.derA l).length = n - 1) := by unfold Hid; rw [Po.derA_length, hn]
    have HN := Lib.hid hn
    have HS := Lib.hid hs
    clear hn hs
    go_enter Tryd.func47, Tryd.ntmps47
    go_wp2_with fail
    go_loopw [4, 3] (fun v o wr => RDerRel w l n v o wr) (fun v _ _ => n - (intOf v).toNat)
    case atStart => exact ⟨0, none, 0, Nat.zero_le _, rfl, rfl, World.ownsRow_nil _ _ _ _, Below.refl _ _⟩
    case round =>
      obtain ⟨k, A1, c1, hk, rfl, rfl, ho, hb⟩ := hrel
      have HO := Lib.hid ho
      have HB := Lib.hid hb
      clear ho hb
      rcases Nat.lt_or_ge (k + 1) n with hk2 | hk2
      · have hlt : decide ((k : Int) + 1 < (n : Int)) = true := decide_eq_true (by omega)
        have HBW : Hid (w.heap.size ≤ wr.heap.size) := HB.out.size
        obtain ⟨b, hb⟩ := byte_at l (k + 1) (by rw [HN.out]; exact hk2)
        have hrow : ∀ x, (Value.slice A1 k c1).ownBlock = some x → w.heap.size ≤ x := own_block HO.out
        rcases Nat.mod_two_eq_zero_or_one k with hm | hm
        · have HTk := Lib.hid (Po.derA_even l k b hb hm)
          have hrem : ((k : Int) % 2 == 0) = true := by
            rw [beq_iff_eq]
            omega
          obtain ⟨ad, rfl, hbk, hcb⟩ := (HS.out.below HB.out).byte hb
          have hcb' : wr.cell? ⟨ad.block, ad.off + (k + 1), none⟩ = some (.int .u8 (b.toNat : Int)) := by simpa [Addr.add] using hcb
          have HO3 : Hid ((wr.alloc (.cells #[.int .u8 (b.toNat : Int)] 5)).ownsRow w.heap.size 5 1 (.slice A1 k c1) k (bys ((Po.derA l).take k))) := own_alloc HO.out _
          have HSl := Lib.hid (sl_new1 wr 5 (.int .u8 (b.toNat : Int)))
          clear hb hm
          go_wp2_with (at_builtin; refine wpList_append_sl _ rfl (.tmp 18) (.tmp 24) 27 rfl w.heap.size 5 i0 (.int .u8 0) 1 Tryd.underlying27 hi hz0 hz1 hz2 rfl _ _ _ _ rfl HO3.out _ _ 1 _ _ rfl rfl HSl.out (fun u hu => by simp at hu; subst hu; rfl) (by unfold maxLen; omega) (by omega) (by have := HBW.out; simp; omega) ?_; intro A' c' w3 hown hgrow hblk)
          go_roundw
          case rel =>
            rw [bys_snoc, ← HTk.out] at hown
            exact ⟨k + 1, A', c', by omega, by go_num, rfl, hown, (HB.out.alloc HBW.out _).grown hgrow (by have := HBW.out; simp; omega) hrow⟩
          case measure => simp [intOf]; omega
        · have HTk := Lib.hid (Po.derA_odd l k (by rw [HN.out]; exact hk2) hm)
          have hrem : ((k : Int) % 2 == 0) = false := by
            rw [beq_eq_false_iff_ne]
            omega
          have HO3 : Hid ((wr.alloc (.cells #[.int .u8 0] 5)).ownsRow w.heap.size 5 1 (.slice A1 k c1) k (bys ((Po.derA l).take k))) := own_alloc HO.out _
          have HSl := Lib.hid (sl_new1 wr 5 (.int .u8 0))
          clear hb hm
          go_wp2_with (at_builtin; refine wpList_append_sl _ rfl (.tmp 26) (.tmp 27) 27 rfl w.heap.size 5 i0 (.int .u8 0) 1 Tryd.underlying27 hi hz0 hz1 hz2 rfl _ _ _ _ rfl HO3.out _ _ 1 _ _ rfl rfl HSl.out (fun u hu => by simp at hu; subst hu; rfl) (by unfold maxLen; omega) (by omega) (by have := HBW.out; simp; omega) ?_; intro A' c' w3 hown hgrow hblk)
          go_roundw
          case rel =>
            have h2 := bys_snoc ((Po.derA l).take k) 0
            rw [← HTk.out] at h2
            exact ⟨k + 1, A', c', by omega, by go_num, rfl, h2 ▸ hown, (HB.out.alloc HBW.out _).grown hgrow (by have := HBW.out; simp; omega) hrow⟩
          case measure => simp [intOf]; omega
      · have hlt : decide ((k : Int) + 1 < (n : Int)) = false := decide_eq_false (by omega)
        have hall : (Po.derA l).take k = Po.derA l := List.take_of_length_le (by rw [HLn.out]; omega)
        have ho := HO.out
        rw [hall] at ho
        have HTm := Lib.hid (rtrim_any A1 k c1 wr.heap.size (Po.derA l) wr (by rw [HLn.out]; omega) (Sl.of_own ho) (Nat.le_refl _) (own_cap ho).1 (by omega))
        clear ho hall
        go_wp2_with fail
        refine HTm.out.mono ?_
        rintro e w2 ⟨A3, n3, c3, rfl, hn3, ho3, hb3⟩
        have HF : Hid (FreshB w (Po.derR l) (.returned (.slice A3 n3 c3)) w2) := by
          unfold Hid
          rw [HR.out]
          exact ⟨A3, n3, c3, rfl, hn3, own_more ho3 HB.out.size, HB.out.trans (hb3.mono HB.out.size)⟩
        clear hn3 ho3 hb3
        go_wp2_with fail
        go_ret
        exact HF.out
end Go.Proofs.YtkolmppfhpcdpaaDoor
