/- The contracts of Clone and of the sum in place. -/
import Derived.Test.YtkolmppfhpcdpaaDoorPolyA
import Derived.StillTailTactics
namespace Go.Proofs.YtkolmppfhpcdpaaDoor
open Go.RowKit
set_option linter.unusedVariables false
set_option maxRecDepth 100000

theorem infoB : (Tryd.prog.info? 5).map (fun i => (i.zero, i.size, i.bytes)) = some (some (.int .u8 0), 1, 1) := by kernel_rfl
theorem cloneB_any (A : Option Addr) (n c B : Nat) (l : List UInt8) (w : World) (hn : l.length = n) (hs : Sl w B A (bys l)) (hB : B ≤ w.heap.size) (hl : n ≤ 140737488355328) :
    Calls Tryd.prog 33 #[.slice A n c] w (Fresh 5 w n (bys l)) := by
  obtain ⟨i0, hi, hz0, hz1, hz2⟩ := info_parts infoB
  cases A with
  | none =>
    have h0 : n = 0 := by
      rcases Nat.eq_zero_or_pos n with h | h
      · exact h
      · obtain ⟨ad, h, _⟩ := hs (by rw [bys_length]; omega)
        cases h
    subst h0
    have hl0 : l = [] := List.eq_nil_of_length_eq_zero hn
    subst hl0
    have heq := fun w => Lib.run_eql_slice_nil (P := Tryd.prog) w 27 5 none 0 c 0 0 Tryd.underlying27
    clear hs hn
    go_enter Tryd.func33, Tryd.ntmps33
    go_wp2_with fail
    go_ret
    exact ret_fresh (World.ownsRow_nil _ _ _ _) (Below.refl _ _) rfl
  | some ad =>
    have heq := fun w => Lib.run_eql_slice_nil (P := Tryd.prog) w 27 5 (some ad) n c 0 0 Tryd.underlying27
    have HN := Lib.hid ((bys_length l).trans hn)
    have hbw := (Below.refl w.heap.size w).alloc (Nat.le_refl _) (.cells #[] 5)
    have HS : Hid (Sl (w.alloc (.cells #[] 5)) B (some ad) (bys l)) := hs.alloc hB _
    have HO := Lib.hid (own_empty w 5)
    clear hn hs
    go_enter Tryd.func33, Tryd.ntmps33
    go_wp2_with (at_builtin; refine wpList_append_sl _ rfl (.tmp 5) (.tmp 6) 27 rfl w.heap.size 5 i0 (.int .u8 0) 1 Tryd.underlying27 hi hz0 hz1 hz2 rfl _ _ _ _ rfl HO.out B _ _ _ _ rfl HN.out HS.out (bys_one l) (by unfold maxLen; omega) (by omega) (by simp) ?_; intro A' c' w1 hown hgrow hblk)
    go_ret
    rw [Nat.zero_add] at hown
    exact ret_fresh hown (hbw.grown hgrow (by simp) (fun g hg => by cases hg; exact Nat.le_refl _)) rfl
theorem flip_same {P : Program} {f : FuncId} {args : Array Value} {w : World} {v : Value} (h : Calls P f args w fun e w' => e = .returned v ∧ w = w') : Calls P f args w fun e w' => e = .returned v ∧ w' = w := h.mono fun _ _ ⟨he, hw⟩ => ⟨he, hw.symm⟩
def AddRel (w : World) (base : Nat) (A : Option Addr) (n c : Nat) (l r : List UInt8) (t : UInt8) (i m : Nat) (v : Value) (wr : World) : Prop :=
  ∃ k : Nat, k ≤ m ∧ v = .int .i64 (k : Int) ∧ wr.ownsRow base 5 1 (.slice A n c) n (bys (Po.addTo l r t i k)) ∧ w.grownBy wr (Value.slice A n c).ownBlock
theorem add_gen (A A2 : Option Addr) (n c m c2 base : Nat) (l r : List UInt8) (t : UInt8) (i : Nat) (w : World) (hn : l.length = n) (hm : r.length = m) (hown : w.ownsRow base 5 1 (.slice A n c) n (bys l))
    (hs : ∀ W, w.grownBy W (Value.slice A n c).ownBlock → ∃ B, Sl W B A2 (bys r)) (hfit : i + m ≤ n) (hl : n ≤ 9223372036854775807) :
    Calls Tryd.prog 30 #[.slice A n c, .slice A2 m c2, .int .u8 (t.toNat : Int), .int .i64 (i : Int)] w fun e w' => e = .returned (.tuple #[]) ∧ w'.ownsRow base 5 1 (.slice A n c) n (bys (Po.addAt l r t i)) ∧ w.grownBy w' (Value.slice A n c).ownBlock := by
  have HM := Lib.hid hm
  have HN := Lib.hid hn
  have ht := u8_lt t
  clear hm hn
  go_enter Tryd.func30, Tryd.ntmps30
  go_wp2_with fail
  go_loopw [12] (fun v wr => AddRel w base A n c l r t i m v wr) (fun v _ => m - (intOf v).toNat)
  case atStart => exact ⟨0, Nat.zero_le _, rfl, hown, World.grownBy.refl _ _⟩
  case round =>
    obtain ⟨k, hk, rfl, ho, hg⟩ := hrel
    rcases Nat.lt_or_ge k m with hkm | hkm
    · obtain ⟨g, rfl, hgb, hgw⟩ := own_form ho (by omega)
      obtain ⟨b, hb⟩ := byte_at r k (by rw [HM.out]; exact hkm)
      obtain ⟨d, hd⟩ := byte_at (Po.addTo l r t i k) (i + k) (by rw [Po.addTo_length, HN.out]; omega)
      obtain ⟨x, hx, HX⟩ := xor_ex d (Gf.gmul t b)
      have HS := Lib.hid (Po.addTo_succ l r t d b x i k hd hb HX.out)
      obtain ⟨B, hsB⟩ := hs wr hg
      obtain ⟨ad, rfl, hbk, hc⟩ := hsB.byte hb
      have hc2 := own_byte ho hd
      have hfz := ho.frozenAt (i + k)
      clear hb hd hs hown hsB
      have HO := Lib.hid ho
      have HG := Lib.hid hg
      clear ho hg
      have hb8 := u8_lt b
      have hd8 := u8_lt d
      go_wp2_with fail
      have s1 : IntKind.i64.wrap ((i : Int) + (k : Int)) = (i : Int) + (k : Int) := IntWalk.i64_in _ (by omega)
      have s2 : 0 ≤ (i : Int) + (k : Int) := by omega
      have s3 : (i : Int) + (k : Int) < (n : Int) := by omega
      have s4 : ((i : Int) + (k : Int)).toNat = i + k := by omega
      refine wp_region_still_tail 11 (by kernel_rfl) (by kernel_rfl) ?_
      simp only [List.take_succ_cons, List.take_zero, List.drop_succ_cons, List.drop_zero]
      repeat (first | still_step | still_call (flip_same (mul_any _ _ _)))
      refine wpStill_nil ?_
      change wpList _ _ _ _ _ wr.drew
      clear s1 s2 s3 s4
      go_wp2_with fail
      go_roundw
      case rel =>
        have h1 := HO.out.drew.stored (i + k) (.int .u8 (x.toNat : Int))
        refine ⟨k + 1, by omega, by go_num, ?_, grown_trans (grown_drew HG.out) h1.2⟩
        rw [HS.out]
        have h2 := h1.1
        unfold bys at h2 ⊢
        rw [List.map_set]
        exact h2
      case measure => simp [intOf]; omega
    · have hkm' : k = m := by omega
      subst hkm'
      have HO : Hid (wr.ownsRow base 5 1 (.slice A n c) n (bys (Po.addAt l r t i))) := by
        unfold Hid Po.addAt
        rw [HM.out]
        exact ho
      have HG := Lib.hid hg
      clear ho hg hs hown
      go_wp2_with fail
      go_end0
      exact ⟨rfl, HO.out, HG.out⟩
theorem add_any (A A2 : Option Addr) (n c m c2 base B : Nat) (l r : List UInt8) (t : UInt8) (i : Nat) (w : World) (hn : l.length = n) (hm : r.length = m) (hown : w.ownsRow base 5 1 (.slice A n c) n (bys l)) (hs : Sl w B A2 (bys r))
    (hB : B ≤ base) (hbw : base ≤ w.heap.size) (hfit : i + m ≤ n) (hl : n ≤ 9223372036854775807) :
    Calls Tryd.prog 30 #[.slice A n c, .slice A2 m c2, .int .u8 (t.toNat : Int), .int .i64 (i : Int)] w fun e w' => e = .returned (.tuple #[]) ∧ w'.ownsRow base 5 1 (.slice A n c) n (bys (Po.addAt l r t i)) ∧ w.grownBy w' (Value.slice A n c).ownBlock :=
  add_gen A A2 n c m c2 base l r t i w hn hm hown (fun W hg => ⟨B, hs.grown hg (Nat.le_trans hB hbw) (fun g hg' => Nat.le_trans hB (own_block hown g hg'))⟩) hfit hl
theorem add_two (A A2 : Option Addr) (n c m c2 base base2 : Nat) (l r : List UInt8) (t : UInt8) (i : Nat) (tv iv : Int) (htv : tv = (t.toNat : Int)) (hiv : iv = (i : Int)) (w : World) (hn : l.length = n) (hm : r.length = m) (hown : w.ownsRow base 5 1 (.slice A n c) n (bys l))
    (hown2 : w.ownsRow base2 5 1 (.slice A2 m c2) m (bys r)) (hdis : (Value.slice A2 m c2).ownBlock = none ∨ (Value.slice A2 m c2).ownBlock ≠ (Value.slice A n c).ownBlock) (hfit : i + m ≤ n) (hl : n ≤ 9223372036854775807) :
    Calls Tryd.prog 30 #[.slice A n c, .slice A2 m c2, .int .u8 tv, .int .i64 iv] w fun e w' => e = .returned (.tuple #[]) ∧ w'.ownsRow base 5 1 (.slice A n c) n (bys (Po.addAt l r t i)) ∧ w.grownBy w' (Value.slice A n c).ownBlock := by
  subst htv hiv
  exact add_gen A A2 n c m c2 base l r t i w hn hm hown (fun W hg => ⟨_, Sl.of_own (own_keep hown2 hg hdis)⟩) hfit hl
theorem add_at (A A2 : Option Addr) (n c m c2 base B : Nat) (l r : List UInt8) (t : UInt8) (i : Nat) (tv iv : Int) (htv : tv = (t.toNat : Int)) (hiv : iv = (i : Int)) (w : World) (hn : l.length = n) (hm : r.length = m) (hown : w.ownsRow base 5 1 (.slice A n c) n (bys l)) (hs : Sl w B A2 (bys r))
    (hB : B ≤ base) (hbw : base ≤ w.heap.size) (hfit : i + m ≤ n) (hl : n ≤ 9223372036854775807) :
    Calls Tryd.prog 30 #[.slice A n c, .slice A2 m c2, .int .u8 tv, .int .i64 iv] w fun e w' => e = .returned (.tuple #[]) ∧ w'.ownsRow base 5 1 (.slice A n c) n (bys (Po.addAt l r t i)) ∧ w.grownBy w' (Value.slice A n c).ownBlock := by
  subst htv hiv
  exact add_any A A2 n c m c2 base B l r t i w hn hm hown hs hB hbw hfit hl
/-- what a call leaves that hands back a list of bytes of its own and an error -/
def ResB (w : World) (l : List UInt8) (err : Int) (en : Ending) (w' : World) : Prop :=
  ∃ (A : Option Addr) (n c : Nat), en = .returned (.tuple #[.slice A n c, .int .i64 err]) ∧ l.length = n ∧ w'.ownsRow w.heap.size 5 1 (.slice A n c) n (bys l) ∧ Below w.heap.size w w'
theorem resB_nil (w w' : World) (err : Int) (h : Below w.heap.size w w') : ResB w [] err (.returned (.tuple #[.slice none 0 0, .int .i64 err])) w' := ⟨none, 0, 0, rfl, rfl, World.ownsRow_nil _ _ _ _, h⟩
theorem made_bys (n : Nat) : (madeCells (Value.int .u8 0).cells (n * 1)).toList = bys (List.replicate n 0) := by
  show (madeCells #[.int .u8 0] (n * 1)).toList = _
  rw [toList_madeCells_one, Nat.mul_one]
  simp [bys, encB]
/-- what a call leaves that hands back a list of bytes of its own -/
def FreshB (w : World) (l : List UInt8) (en : Ending) (w' : World) : Prop :=
  ∃ (A : Option Addr) (n c : Nat), en = .returned (.slice A n c) ∧ l.length = n ∧ w'.ownsRow w.heap.size 5 1 (.slice A n c) n (bys l) ∧ Below w.heap.size w w'
theorem freshB_nil (w w' : World) (h : Below w.heap.size w w') : FreshB w [] (.returned (.slice none 0 0)) w' := ⟨none, 0, 0, rfl, rfl, World.ownsRow_nil _ _ _ _, h⟩
theorem cloneB_fresh (A : Option Addr) (n c B : Nat) (l : List UInt8) (w : World) (hn : l.length = n) (hs : Sl w B A (bys l)) (hB : B ≤ w.heap.size) (hl : n ≤ 140737488355328) :
    Calls Tryd.prog 33 #[.slice A n c] w (FreshB w l) :=
  (cloneB_any A n c B l w hn hs hB hl).mono fun e w' ⟨A', c', he, ho, hb⟩ => ⟨A', n, c', he, hn, ho, hb⟩
end Go.Proofs.YtkolmppfhpcdpaaDoor
