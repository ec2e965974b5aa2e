/- NatA Ni -/
import Derived.Test.YtjhaogbopmhkoaaDoorY01
import Derived.Test.YtjhaogbopmhkoaaDoorChecked
import Derived.Outline
namespace Go.Proofs.YtjhaogbopmhkoaaDoor
open Go.RowKit
set_option linter.unusedVariables false
set_option maxRecDepth 100000

theorem and24 (n : Int) : bits .and .i64 n 16777215 = n % 16777216 := by
  have hm : (BitVec.ofInt 64 16777215).toNat = 2 ^ 24 - 1 := by decide
  have key : (BitVec.ofInt 64 n &&& BitVec.ofInt 64 16777215).toNat = (n % ((2 ^ 64 : Nat) : Int)).toNat % 2 ^ 24 := by
    rw [BitVec.toNat_and, BitVec.toNat_ofInt, hm, Nat.and_two_pow_sub_one_eq_mod]
  show IntKind.i64.wrap ((BitVec.ofInt 64 n &&& BitVec.ofInt 64 16777215).toNat : Nat) = n % 16777216
  rw [key, IntKind.wrap_i64]
  omega
/-- limbs as values -/
def encN (n : Nat) : Value := .int .i64 (n : Int)
def nats (l : List Nat) : List Value := l.map encN
theorem nats_length (l : List Nat) : (nats l).length = l.length := List.length_map _
theorem nats_one (l : List Nat) : ∀ u ∈ nats l, u.oneCell' = true := by
  intro u hu
  obtain ⟨b, _, rfl⟩ := List.mem_map.1 hu
  rfl
theorem nats_up (l : List Nat) : ints (Na.up l) = nats l := by unfold ints Na.up nats; rw [List.map_map]; rfl
theorem nats_take (l : List Nat) (k : Nat) : (nats l).take k = nats (l.take k) := by simp [nats, List.map_take]
theorem nats_snoc (l : List Nat) (b : Nat) : nats l ++ [.int .i64 (b : Int)] = nats (l ++ [b]) := by simp [nats, encN]
theorem nats_set (l : List Nat) (k b : Nat) : (nats l).set k (.int .i64 (b : Int)) = nats (l.set k b) := by unfold nats; rw [List.map_set]; rfl
theorem get_lt {α : Type} {l : List α} {k : Nat} {b : α} (hk : l[k]? = some b) : k < l.length := by
  rcases Nat.lt_or_ge k l.length with h | h
  · exact h
  · rw [List.getElem?_eq_none h] at hk; cases hk
theorem Sl.nat {w : World} {B : Nat} {A : Option Addr} {l : List Nat} (h : Sl w B A (nats l)) {k : Nat} {b : Nat} (hk : l[k]? = some b) : ∃ ad, A = some ad ∧ ad.block < B ∧ w.cell? (ad.add k) = some (.int .i64 (b : Int)) := by
  have hlt := get_lt hk
  obtain ⟨ad, e, hb, hc⟩ := h (by rw [nats_length]; omega)
  exact ⟨ad, e, hb, hc k _ (by unfold nats; rw [List.getElem?_map, hk]; rfl)⟩
theorem own_nat {w : World} {base n c g : Nat} {e : TypeId} {l : List Nat} (h : w.ownsRow base e 1 (.slice (some ⟨g, 0, none⟩) n c) n (nats l)) {k : Nat} {b : Nat} (hk : l[k]? = some b) : w.cell? ⟨g, k, none⟩ = some (.int .i64 (b : Int)) := by
  have hl := own_len h
  rw [nats_length] at hl
  have hlt := get_lt hk
  rw [h.cellAt k (by omega)]
  unfold nats
  rw [List.getElem?_map, hk]
  rfl
theorem nat_at (l : List Nat) (k : Nat) (h : k < l.length) : ∃ b : Nat, l[k]? = some b := ⟨_, List.getElem?_eq_getElem h⟩
theorem bcell {W w1 : World} (hb : Below W.heap.size W w1) : (∀ b o, b < W.heap.size → w1.cell? ⟨b, o, none⟩ = W.cell? ⟨b, o, none⟩) ∧ (∀ b o, b < W.heap.size → w1.frozen? ⟨b, o, none⟩ = W.frozen? ⟨b, o, none⟩) :=
  ⟨fun b o h => hb.cell (p := ⟨b, o, none⟩) h, fun b o h => hb.frozen (p := ⟨b, o, none⟩) h⟩
theorem infoI : (Tryd.prog.info? 3).map (fun i => (i.zero, i.size, i.bytes)) = some (some (.int .i64 0), 1, 8) := by kernel_rfl
/-- what a call leaves that hands back limbs and an error number -/
def ResN (w : World) (l : List Nat) (err : Int) (en : Ending) (w' : World) : Prop :=
  ∃ (A : Option Addr) (n c : Nat), en = .returned (.tuple #[.agg #[.slice A n c], .int .i64 err]) ∧ l.length = n ∧ w'.ownsRow w.heap.size 3 1 (.slice A n c) n (nats l) ∧ Below w.heap.size w w'
theorem resN_nil (w w' : World) (err : Int) (h : Below w.heap.size w w') : ResN w [] err (.returned (.tuple #[.agg #[.slice none 0 0], .int .i64 err])) w' := ⟨none, 0, 0, rfl, rfl, World.ownsRow_nil _ _ _ _, h⟩
/-- what a call leaves that hands back limbs alone -/
def FreshN (w : World) (l : List Nat) (en : Ending) (w' : World) : Prop :=
  ∃ (A : Option Addr) (n c : Nat), en = .returned (.slice A n c) ∧ l.length = n ∧ w'.ownsRow w.heap.size 3 1 (.slice A n c) n (nats l) ∧ Below w.heap.size w w'
namespace Na
theorem vld_bad (zs : List Int) (k : Nat) (z : Int) (hz : zs[k]? = some z) (h : lim z = false) : vld zs = false := by
  unfold vld
  have : zs.all lim = false := by
    rw [List.all_eq_false]
    exact ⟨z, List.mem_of_getElem? hz, by rw [h]; exact Bool.false_ne_true⟩
  rw [this, Bool.false_and]
theorem all_take (zs : List Int) (k : Nat) (z : Int) (hz : zs[k]? = some z) (h : (zs.take k).all lim = true) (h1 : lim z = true) : (zs.take (k + 1)).all lim = true := by
  rw [List.take_add_one, hz, List.all_append, h]
  simp [h1]
theorem vld_long (zs : List Int) (h : 200 < zs.length) : vld zs = false := by
  unfold vld
  rw [decide_eq_false (by omega)]
  simp
theorem vld_nil : vld [] = true := by rfl
theorem vld_end (zs : List Int) (z : Int) (h : zs.all lim = true) (h2 : zs.length ≤ 200) (h3 : zs[zs.length - 1]? = some z) : vld zs = (z != 0) := by
  unfold vld
  rw [h, decide_eq_true h2, List.getLast?_eq_getElem?, h3, Bool.eq_iff_iff]
  simp
theorem lim_lo {z : Int} (h : z < 0) : lim z = false := by unfold lim; rw [decide_eq_false (by omega), Bool.false_and]
theorem lim_hi {z : Int} (h : 16777216 ≤ z) : lim z = false := by unfold lim; rw [decide_eq_false (p := z < 16777216) (by omega), Bool.and_false]
theorem lim_ok {z : Int} (h : 0 ≤ z) (h2 : z < 16777216) : lim z = true := by unfold lim; rw [decide_eq_true h, decide_eq_true h2]; rfl
end Na
theorem own_box1 (w : World) (o : Obj) : Below w.heap.size w (w.alloc o) := (Below.refl _ _).alloc (Nat.le_refl _) _
set_option maxHeartbeats 1000000 in
theorem nvalid_any (A : Option Addr) (n c B : Nat) (zs : List Int) (w : World) (hn : zs.length = n) (hs : Sl w B A (ints zs)) (hB : B ≤ w.heap.size) (hl : n ≤ 140737488355328) :
    Calls Tryd.prog 86 #[.agg #[.slice A n c]] w fun e w' => e = .returned (.bool (Na.vld zs)) ∧ Below w.heap.size w w' := by
  have HN := Lib.hid hn
  have HS := Lib.hid ((hs.more hB).alloc (Nat.le_refl _) (.cells #[.slice A n c] 24))
  have HB := Lib.hid (own_box1 w (.cells #[.slice A n c] 24))
  clear hs hn
  go_enter Tryd.func86, Tryd.ntmps86
  go_wp2_with fail
  go_loop [4, 9] (fun x v => ∃ k : Nat, k ≤ n ∧ v = .int .i64 (k : Int) ∧ Hid ((zs.take k).all Na.lim = true)) (fun _ v => n - (intOf v).toNat)
  case atStart => exact ⟨0, Nat.zero_le _, rfl, rfl⟩
  case round =>
    obtain ⟨k, hk, rfl, HA⟩ := hrel
    rcases Nat.lt_or_ge k n with hkn | hkn
    · obtain ⟨z, hz⟩ := int_at zs k (by rw [HN.out]; exact hkn)
      obtain ⟨ad, rfl, hbk, hc⟩ := HS.out.int hz
      have HZ := Lib.hid hz
      clear hz
      by_cases h0 : z < 0
      · have HR := Lib.hid (Na.vld_bad zs k z HZ.out (Na.lim_lo h0))
        go_wp2_with fail
        go_ret
        exact ⟨ret_bool HR.out.symm, HB.out⟩
      · have h0' : 0 ≤ z := by omega
        clear h0
        by_cases h1 : z < 16777216
        · have HA2 := Lib.hid (Na.all_take zs k z HZ.out HA.out (Na.lim_ok h0' h1))
          go_wp2_with fail
          go_round
          case rel => exact ⟨k + 1, by omega, by go_num, HA2⟩
          case measure => simp [intOf]; omega
        · have h1' : 16777216 ≤ z := by omega
          have HR := Lib.hid (Na.vld_bad zs k z HZ.out (Na.lim_hi h1'))
          clear h1
          go_wp2_with fail
          go_ret
          exact ⟨ret_bool HR.out.symm, HB.out⟩
    · obtain rfl : k = n := by omega
      have HA2 : Hid (zs.all Na.lim = true) := by
        have := HA.out
        rw [← HN.out, List.take_length] at this
        exact this
      clear HA
      rcases Nat.lt_or_ge 200 k with h2 | h2
      · have HR := Lib.hid (Na.vld_long zs (by rw [HN.out]; exact h2))
        go_wp2_with fail
        go_ret
        exact ⟨ret_bool HR.out.symm, HB.out⟩
      · rcases Nat.eq_zero_or_pos k with h3 | h3
        · have hz : zs = [] := List.eq_nil_of_length_eq_zero (by rw [HN.out, h3])
          have HR : Hid (Na.vld zs = true) := by rw [hz]; exact Na.vld_nil
          clear hz
          subst h3
          go_wp2_with fail
          go_ret
          exact ⟨ret_bool HR.out.symm, HB.out⟩
        · obtain ⟨z, hz⟩ := int_at zs (k - 1) (by rw [HN.out]; omega)
          obtain ⟨ad, rfl, hbk, hc⟩ := HS.out.int hz
          have HR := Lib.hid (Na.vld_end zs z HA2.out (by rw [HN.out]; exact h2) (by rw [HN.out]; exact hz))
          have hne := nat_ne0 h3
          clear hz
          go_wp2_with fail
          go_ret
          exact ⟨ret_bool HR.out.symm, HB.out⟩
theorem ntrim_any (A : Option Addr) (n c B : Nat) (l : List Nat) (w : World) (hn : l.length = n) (hs : Sl w B A (nats l)) (hnc : n ≤ c) (hl : n ≤ 140737488355328) :
    Calls Tryd.prog 128 #[.slice A n c] w fun e w' => e = .returned (.slice A (Na.tl l n) c) ∧ w = w' := by
  go_enter Tryd.func128, Tryd.ntmps128
  go_wp2_with fail
  go_loop [0] (fun v => ∃ k : Nat, k ≤ n ∧ v = .slice A k c ∧ Hid (Na.tl l k = Na.tl l n)) (fun v => slen v)
  case atStart => exact ⟨n, Nat.le_refl _, rfl, rfl⟩
  case round =>
    obtain ⟨k, hk, rfl, HT⟩ := hrel
    rcases Nat.eq_zero_or_pos k with rfl | hk0
    · go_wp2_with fail
      go_ret
      have := HT.out
      exact ⟨by rw [← this]; rfl, rfl⟩
    · have hd : decide (0 < (k : Int)) = true := decide_eq_true (by omega)
      obtain ⟨b, hb⟩ := nat_at l (k - 1) (by omega)
      obtain ⟨ad, rfl, hbk, hc⟩ := hs.nat hb
      by_cases hb0 : b = 0
      · have ht : Hid (Na.tl l (k - 1) = Na.tl l n) := by
          unfold Hid
          rw [← HT.out, ← Na.tl_zero l (k - 1) (by rw [hb, hb0]), show k - 1 + 1 = k from by omega]
        subst hb0
        clear hb
        go_wp2_with fail
        go_round
        case rel => exact ⟨k - 1, by omega, rfl, ht⟩
        case measure => simp [slen]; omega
      · have ht : Hid (Na.tl l n = k) := by
          unfold Hid
          rw [← HT.out, show k = k - 1 + 1 from by omega]
          exact Na.tl_stop l (k - 1) (by rw [hb]; intro e; exact hb0 (Option.some.inj e))
        have hne : ((b : Int) == 0) = false := by rw [beq_eq_false_iff_ne]; omega
        clear hb hb0
        go_wp2_with fail
        go_ret
        exact ⟨by rw [ht.out]; rfl, rfl⟩
/-- 'result': a number's limbs without zeros at the end, or the error -/
def resL (x : Nat) : List Nat := if x < Na.top then Na.dig x else []
def resE (x : Nat) : Int := if x < Na.top then 0 else 3
theorem resL_ok {x : Nat} (h : x < Na.top) : resL x = Na.dig x := if_pos h
theorem resE_ok {x : Nat} (h : x < Na.top) : resE x = 0 := if_pos h
theorem resL_no {x : Nat} (h : Na.top ≤ x) : resL x = [] := if_neg (by omega)
theorem resE_no {x : Nat} (h : Na.top ≤ x) : resE x = 3 := if_neg (by omega)
/-- the same of a row that the caller owns: nothing of it turns -/
theorem nresult_any (A : Option Addr) (n c base : Nat) (l : List Nat) (w : World) (hn : l.length = n) (ho : w.ownsRow base 3 1 (.slice A n c) n (nats l)) (hl : Na.Lim l) (h47 : n ≤ 140737488355328) :
    Calls Tryd.prog 85 #[.slice A n c] w fun e w' => ∃ A' n' c', e = .returned (.tuple #[.agg #[.slice A' n' c'], .int .i64 (resE (Na.val l))]) ∧ (resL (Na.val l)).length = n' ∧ w'.ownsRow base 3 1 (.slice A' n' c') n' (nats (resL (Na.val l))) ∧ Below w.heap.size w w' := by
  have HT := Lib.hid (ntrim_any A n c _ l (w.alloc (.cells #[.slice none 0 0] 24)) hn ((Sl.of_own ho).alloc (Nat.le_refl _) _) (own_cap ho).1 h47)
  have HLn : Hid (Na.tl l n = (Na.dig (Na.val l)).length) := by unfold Hid; rw [← hn]; exact Na.trim_len hl
  have HO := Lib.hid ho
  have HL := Lib.hid hl
  have HN := Lib.hid hn
  clear ho hl hn
  go_enter Tryd.func85, Tryd.ntmps85
  go_wp2_with fail
  refine HT.out.mono ?_
  rintro e w1 ⟨rfl, rfl⟩
  rcases Nat.lt_or_ge (Na.val l) Na.top with h | h
  · have h1 : Na.tl l n ≤ 200 := by rw [HLn.out]; exact (Na.dig_200 _).2 h
    have HR := Lib.hid (resL_ok h)
    have HE := Lib.hid (resE_ok h)
    clear h
    go_wp2_with fail
    have hd : Na.dig (Na.val l) = l.take (Na.tl l n) := by rw [← Na.trim_dig HL.out]; unfold Na.trim; rw [HN.out]
    refine bodyPost_ret (v := .tuple #[.agg #[.slice A (Na.tl l n) c], .int .i64 0]) (by simp [results, Tryd.results85, go_sem]) rfl ?_
    rw [HR.out, HE.out]
    refine ⟨A, Na.tl l n, c, rfl, HLn.out.symm, ?_, ?_⟩
    · rw [hd, ← nats_take]
      exact own_alloc (own_take HO.out (Na.tl_le l n)) _
    · exact own_box1 _ _
  · have h1 : 200 < Na.tl l n := by
      rw [HLn.out]
      exact Na.dig_len_ge h
    have HR := Lib.hid (resL_no h)
    have HE := Lib.hid (resE_no h)
    clear h
    go_wp2_with fail
    refine bodyPost_ret (v := .tuple #[.agg #[.slice none 0 0], .int .i64 3]) (by simp [results, Tryd.results85, go_sem]) rfl ?_
    rw [HR.out, HE.out]
    exact ⟨none, 0, 0, rfl, rfl, World.ownsRow_nil _ _ _ _, own_box1 _ _⟩
def LimbsRel (w : World) (m : Nat) (v l : Value) (wr : World) : Prop :=
  ∃ (x : Nat) (A : Option Addr) (c : Nat) (d : List Nat), x ≤ m ∧ v = .int .i64 (x : Int) ∧ l = .slice A d.length c ∧ Hid (Na.dig m = d ++ Na.dig x) ∧ wr.ownsRow w.heap.size 3 1 (.slice A d.length c) d.length (nats d) ∧ Below w.heap.size w wr
theorem nlimbs_any (m : Nat) (w : World) (hm : m ≤ 9223372036854775807) :
    Calls Tryd.prog 125 #[.int .i64 (m : Int)] w (FreshN w (Na.dig m)) := by
  obtain ⟨i0, hi, hz0, hz1, hz2⟩ := info_parts infoI
  have hlen : (Na.dig m).length ≤ 3 := Na.dig_len_le (Nat.lt_of_le_of_lt hm (by decide))
  go_enter Tryd.func125, Tryd.ntmps125
  go_wp2_with fail
  go_loopw [0, 3] (fun v l wr => LimbsRel w m v l wr) (fun v _ _ => (intOf v).toNat)
  case atStart => exact ⟨m, none, 0, [], Nat.le_refl _, rfl, rfl, rfl, World.ownsRow_nil _ _ _ _, Below.refl _ _⟩
  case round =>
    obtain ⟨x, A, c, d, hx, rfl, rfl, HD, ho, hb⟩ := hrel
    rcases Nat.eq_zero_or_pos x with rfl | h0
    · have hd : Na.dig m = d := by rw [HD.out, Na.dig_zero, List.append_nil]
      have HO := Lib.hid ho
      have HB := Lib.hid hb
      have HDD := Lib.hid hd
      clear ho hb hd
      go_wp2_with fail
      go_ret
      rw [HDD.out]
      exact ⟨A, _, c, rfl, rfl, HO.out, HB.out⟩
    · have hdx := Na.dig_pos x h0
      have hdl : d.length + 1 ≤ 3 := by
        have h1 := congrArg List.length HD.out
        rw [List.length_append, hdx, List.length_cons] at h1
        omega
      have HD2 : Hid (Na.dig m = (d ++ [x % 16777216]) ++ Na.dig (x / 16777216)) := by
        unfold Hid
        rw [HD.out, hdx, List.append_assoc]
        rfl
      clear hdx
      have hand : bits .and .i64 (x : Int) 16777215 = ((x % 16777216 : Nat) : Int) := by rw [and24]; omega
      obtain ⟨r, hr⟩ : ∃ r, x % 16777216 = r := ⟨_, rfl⟩
      rw [hr] at hand HD2
      have hd : decide (0 < (x : Int)) = true := decide_eq_true (by omega)
      have HO3 : Hid ((wr.alloc (.cells #[.int .i64 (r : Int)] 3)).ownsRow w.heap.size 3 1 (.slice A d.length c) d.length (nats d)) := own_alloc ho _
      have HSl := Lib.hid (sl_new1 wr 3 (.int .i64 (r : Int)))
      have HBW : Hid (w.heap.size ≤ wr.heap.size) := hb.size
      have HB := Lib.hid hb
      have hrow : ∀ y, (Value.slice A d.length c).ownBlock = some y → w.heap.size ≤ y := own_block ho
      clear ho hb hr
      go_wp2_with (at_builtin; refine wpList_append_sl _ rfl (.tmp 8) (.tmp 11) 22 rfl w.heap.size 3 i0 (.int .i64 0) 8 Tryd.underlying22 hi hz0 hz1 hz2 rfl _ _ _ _ rfl HO3.out _ _ 1 _ _ rfl rfl HSl.out (fun u hu => by simp at hu; subst hu; rfl) (by unfold maxLen; omega) (by omega) (by have := HBW.out; simp; omega) ?_; intro A' c' w8 hown hgrow hblk)
      go_roundw
      case rel =>
        rw [nats_snoc] at hown
        have hl1 : (d ++ [r]).length = d.length + 1 := by simp
        refine ⟨x / 16777216, A', c', d ++ [r], by omega, int_eqv (by omega), by rw [hl1], HD2, by rw [hl1]; exact hown, (HB.out.alloc HBW.out _).grown hgrow (by have := HBW.out; simp; omega) hrow⟩
      case measure => simp [intOf]; omega
theorem grown_set (w : World) (a : Addr) (v : Value) : w.grownBy (w.setCell a v) (some a.block) := ⟨rfl, rfl, rfl, by simp [World.setCell], fun i hi hne => Below.heap_setCell _ _ _ _ (fun e => hne (by rw [e]))⟩
theorem own_setLow {w : World} {base n c : Nat} {e : TypeId} {A : Option Addr} {xs : List Value} (h : w.ownsRow base e 1 (.slice A n c) n xs) (a : Addr) (v : Value) (ha : a.block < base) : (w.setCell a v).ownsRow base e 1 (.slice A n c) n xs :=
  own_grown h (grown_set w a v) ha
theorem cell_of_set {w : World} {a : Addr} {u : Value} (v : Value) (h : w.cell? a = some u) : (w.setCell a v).cell? a = some v := World.cell?_setCell_same' _ _ _ (by rw [h]; rfl)
theorem bal {w W : World} (h : Below w.heap.size w W) (o : Obj) : Below w.heap.size w (W.alloc o) := h.alloc h.size o
theorem btr {w W W1 : World} (h : Below w.heap.size w W) (k : Below W.heap.size W W1) : Below w.heap.size w W1 := h.trans (k.mono h.size)
theorem bset {w W : World} (h : Below w.heap.size w W) (a : Addr) (ha : w.heap.size ≤ a.block) (v : Value) : Below w.heap.size w (W.setCell a v) := h.setCell (p := a) ha v
/-- a row that a call made, beside the named result's cell -/
theorem resN_cell {w w1 : World} {A : Option Addr} {n c base g : Nat} {l : List Nat} (ho : w1.ownsRow base 3 1 (.slice A n c) n (nats l)) (hn : l.length = n) (hg : g < base) (hB : w.heap.size ≤ base) (hb : Below w.heap.size w w1) (hg2 : w.heap.size ≤ g) (v : Value) (err : Int) :
    ResN w l err (.returned (.tuple #[.agg #[.slice A n c], .int .i64 err])) (w1.setCell ⟨g, 0, none⟩ v) :=
  ⟨A, n, c, rfl, hn, own_more (own_setLow ho _ _ hg) hB, bset hb _ hg2 _⟩
def ofL (m : Int) : List Nat := if m < 0 then [] else Na.dig m.toNat
def ofE (m : Int) : Int := if m < 0 then 2 else 0
theorem nof_any (m : Int) (w : World) (hm : m ≤ 9223372036854775807) : Calls Tryd.prog 81 #[.int .i64 m] w (ResN w (ofL m) (ofE m)) := by
  by_cases h : m < 0
  · have HR : Hid (ofL m = []) := if_pos h
    have HE : Hid (ofE m = 2) := if_pos h
    go_enter Tryd.func81, Tryd.ntmps81
    go_wp2_with fail
    refine bodyPost_ret (v := .tuple #[.agg #[.slice none 0 0], .int .i64 2]) (by simp [results, Tryd.results81, go_sem]) rfl ?_
    rw [HR.out, HE.out]
    exact resN_nil _ _ _ (own_box1 _ _)
  · have h' : 0 ≤ m := by omega
    obtain ⟨x, rfl⟩ := Int.eq_ofNat_of_zero_le h'
    have HR : Hid (ofL x = Na.dig x) := if_neg (by omega)
    have HE : Hid (ofE x = 0) := if_neg (by omega)
    have HLm := Lib.hid (nlimbs_any x (w.alloc (.cells #[.slice none 0 0] 24)) (by omega))
    clear h
    go_enter Tryd.func81, Tryd.ntmps81
    go_wp2_with fail
    refine HLm.out.mono ?_
    rintro e w1 ⟨A, n, c, rfl, hn, ho, hb⟩
    have HO := Lib.hid ho
    have HB := Lib.hid hb
    have HN := Lib.hid hn
    obtain ⟨hc1, hf1⟩ := bcell hb
    have hc2 : w1.cell? ⟨w.heap.size, 0, none⟩ = some (.slice none 0 0) := by rw [hc1 _ _ (by simp)]; simp [go_sem]
    clear ho hn
    go_wp2_with fail
    refine bodyPost_ret (v := .tuple #[.agg #[.slice A n c], .int .i64 0]) (by simp [results, Tryd.results81, go_sem, hc2]) rfl ?_
    rw [HR.out, HE.out]
    exact resN_cell HO.out HN.out (by simp) (by simp) (btr (own_box1 w _) HB.out) (Nat.le_refl _) _ _
end Go.Proofs.YtjhaogbopmhkoaaDoor

namespace Go.Proofs.YtjhaogbopmhkoaaDoor
open Go.RowKit Go.Shelf
attribute [local go_sem] Oper.semAt_some
set_option linter.unusedVariables false
set_option maxRecDepth 100000
set_option maxHeartbeats 2000000 in
theorem backI_gives (F : Fence) (n : Nat) (h8 : F.fn 160) (hro : F.round = none) (hn : 1 ≤ n) (Bs len cap : Nat) (A : Option Addr) (hreach : len ≤ 140737488351232) :
    GivesK F n Tryd.prog 160 #[.pointer (some ⟨Bs, 0, none⟩)] len (encBack len) (fun k v W => ReadBack A len k v W) (fun W => W.cell? ⟨Bs, 0, none⟩ = some (.slice A len cap)) := by
  intro l J Jx hBx hRd hY W h0
  show CallsIn F n Tryd.prog 160 #[.func (.yield l) #[] #[], .pointer (some ⟨Bs, 0, none⟩)] W _
  have hB0 := hBx 0 W h0
  have HBx := Lib.hid hBx
  have HRd := Lib.hid hRd
  have HY := Lib.hid hY
  clear hBx hRd hY
  refine callsIn_of_wp Tryd.func160 rfl h8 ?_ hro
  simp only [Tryd.ntmps160, List.size_toArray, List.length_cons, List.length_nil, Nat.reduceAdd, Nat.reduceSub, Array.replicate_succ, Array.replicate_zero, List.push_toArray, List.append_toArray, List.nil_append, List.cons_append]
  gi_wp2
  gi_loopw [3] (fun i wr => ∃ k : Nat, k ≤ len ∧ i = .int .i64 ((len : Int) - 1 - k) ∧ J k wr) (fun i _ => (intOf i + 1).toNat)
  case atStart => exact ⟨0, Nat.zero_le _, by simp, h0⟩
  case round =>
    clear hB0 h0
    obtain ⟨k, hk, rfl, hJs⟩ := hrel
    have hcb := HBx.out k wr hJs
    by_cases hlt : k < len
    · obtain ⟨v, ad, hA, hc⟩ := HRd.out k wr hJs hlt
      subst hA
      obtain ⟨fn, tmps, assign, body, hy, hR⟩ := HY.out k v wr hJs hlt ⟨ad, rfl, hc⟩
      have e1 : ((len - 1 - k : Nat) : Int) = (len : Int) - 1 - k := by omega
      have e2 : ((len : Int) - 1 - k).toNat = len - 1 - k := by omega
      dsimp only [encBack] at hy
      rw [e1] at hy
      clear e1
      have hlo : 0 ≤ (len : Int) - 1 - k := by omega
      have hhi : (len : Int) - 1 - k < len := by omega
      gi_wp2
      refine hR.mono ?_
      rintro e W3 (⟨rfl, hJ3⟩ | ⟨rfl, hJx3⟩)
      · gi_wp2
        go_roundw
        case rel => exact ⟨k + 1, by omega, int_eqv (by omega), hJ3⟩
        case measure => simp [intOf]; omega
      · gi_wp2
        refine bodyPost_ret (results_none rfl _ _ _) rfl ?_
        exact ⟨⟨_, rfl⟩, .inr hJx3⟩
    · obtain rfl : k = len := by omega
      have e1 : (k : Int) - 1 - k = -1 := by omega
      rw [e1]
      clear e1
      gi_wp2
      go_end0
      exact ⟨⟨_, rfl⟩, .inl hJs⟩
set_option maxHeartbeats 1000000 in
theorem backI_in (F : Fence) (n : Nat) (h5 : F.fn 136) (hro : F.round = none) (a : Option Addr) (len cap : Nat) (w : World) :
    CallsIn F n Tryd.prog 136 #[.slice a len cap] w fun e w' => e = .returned (.func (.func 160) #[] #[.pointer (some ⟨w.heap.size, 0, none⟩)]) ∧ w' = w.alloc (.cells #[.slice a len cap] 22) := by
  refine callsIn_of_wp Tryd.func136 rfl h5 ?_ hro
  simp only [Tryd.ntmps136, List.size_toArray, List.length_cons, List.length_nil, Nat.reduceAdd, Nat.reduceSub, Array.replicate_succ, Array.replicate_zero, List.push_toArray, List.append_toArray, List.nil_append, List.cons_append]
  gi_wp2
  go_ret
  exact ⟨rfl, rfl⟩
set_option maxHeartbeats 2000000 in
theorem backW_gives (F : Fence) (n : Nat) (h8 : F.fn 186) (hro : F.round = none) (hn : 1 ≤ n) (Bs len cap : Nat) (A : Option Addr) (hreach : len ≤ 140737488351232) :
    GivesK F n Tryd.prog 186 #[.pointer (some ⟨Bs, 0, none⟩)] len (encBack len) (fun k v W => ReadBack A len k v W) (fun W => W.cell? ⟨Bs, 0, none⟩ = some (.slice A len cap)) := by
  intro l J Jx hBx hRd hY W h0
  show CallsIn F n Tryd.prog 186 #[.func (.yield l) #[] #[], .pointer (some ⟨Bs, 0, none⟩)] W _
  have hB0 := hBx 0 W h0
  have HBx := Lib.hid hBx
  have HRd := Lib.hid hRd
  have HY := Lib.hid hY
  clear hBx hRd hY
  refine callsIn_of_wp Tryd.func186 rfl h8 ?_ hro
  simp only [Tryd.ntmps186, List.size_toArray, List.length_cons, List.length_nil, Nat.reduceAdd, Nat.reduceSub, Array.replicate_succ, Array.replicate_zero, List.push_toArray, List.append_toArray, List.nil_append, List.cons_append]
  gi_wp2
  gi_loopw [3] (fun i wr => ∃ k : Nat, k ≤ len ∧ i = .int .i64 ((len : Int) - 1 - k) ∧ J k wr) (fun i _ => (intOf i + 1).toNat)
  case atStart => exact ⟨0, Nat.zero_le _, by simp, h0⟩
  case round =>
    clear hB0 h0
    obtain ⟨k, hk, rfl, hJs⟩ := hrel
    have hcb := HBx.out k wr hJs
    by_cases hlt : k < len
    · obtain ⟨v, ad, hA, hc⟩ := HRd.out k wr hJs hlt
      subst hA
      obtain ⟨fn, tmps, assign, body, hy, hR⟩ := HY.out k v wr hJs hlt ⟨ad, rfl, hc⟩
      have e1 : ((len - 1 - k : Nat) : Int) = (len : Int) - 1 - k := by omega
      have e2 : ((len : Int) - 1 - k).toNat = len - 1 - k := by omega
      dsimp only [encBack] at hy
      rw [e1] at hy
      clear e1
      have hlo : 0 ≤ (len : Int) - 1 - k := by omega
      have hhi : (len : Int) - 1 - k < len := by omega
      gi_wp2
      refine hR.mono ?_
      rintro e W3 (⟨rfl, hJ3⟩ | ⟨rfl, hJx3⟩)
      · gi_wp2
        go_roundw
        case rel => exact ⟨k + 1, by omega, int_eqv (by omega), hJ3⟩
        case measure => simp [intOf]; omega
      · gi_wp2
        refine bodyPost_ret (results_none rfl _ _ _) rfl ?_
        exact ⟨⟨_, rfl⟩, .inr hJx3⟩
    · obtain rfl : k = len := by omega
      have e1 : (k : Int) - 1 - k = -1 := by omega
      rw [e1]
      clear e1
      gi_wp2
      go_end0
      exact ⟨⟨_, rfl⟩, .inl hJs⟩
set_option maxHeartbeats 1000000 in
theorem backW_in (F : Fence) (n : Nat) (h5 : F.fn 176) (hro : F.round = none) (a : Option Addr) (len cap : Nat) (w : World) :
    CallsIn F n Tryd.prog 176 #[.slice a len cap] w fun e w' => e = .returned (.func (.func 186) #[] #[.pointer (some ⟨w.heap.size, 0, none⟩)]) ∧ w' = w.alloc (.cells #[.slice a len cap] 132) := by
  refine callsIn_of_wp Tryd.func176 rfl h5 ?_ hro
  simp only [Tryd.ntmps176, List.size_toArray, List.length_cons, List.length_nil, Nat.reduceAdd, Nat.reduceSub, Array.replicate_succ, Array.replicate_zero, List.push_toArray, List.append_toArray, List.nil_append, List.cons_append]
  gi_wp2
  go_ret
  exact ⟨rfl, rfl⟩
/-- the loop over slices.Backward(l) -/
theorem range_back {F : Fence} {n : Nat} {g : Operand} {ps : Array Tmp} {assign body : Code} {Q : Exit → Act → World → Prop} {a : Act} {w : World} (h8 : F.fn 160) (hro : F.round = none) (hn : 2 ≤ n) {A : Option Addr} {Bs len cap : Nat}
    (hg : a.eval g = .func (.func 160) #[] #[.pointer (some ⟨Bs, 0, none⟩)]) (hps : ps.size = 2) (hreach : len ≤ 140737488351232)
    (I : Nat → World → Prop) (X : World → Prop) (hI : OwnFrom w.heap.size I) (hX : OwnFrom w.heap.size (fun (_ : Unit) W => X W)) (hBx : ∀ k W, I k W → W.cell? ⟨Bs, 0, none⟩ = some (.slice A len cap)) (hRd : ∀ k W, I k W → k < len → ∃ v, ReadBack A len k v W)
    (h0 : I 0 w) (a₁ : Nat → Value → Act)
    (hassign : ∀ (l k : Nat) (v : Value) (W : World) (K : Act → World → Prop), K (a₁ k v) W → assign.wpIn (F.inRound l) (n - 1 - 1) Tryd.prog (Exit.then K (fun _ _ _ => False)) { tmps := (ps.zip (encBack len k v)).foldl (fun t (p, v) => t.setIfInBounds p v) a.tmps, defers := [] } W)
    (hbody : ∀ (l k : Nat) (v : Value) (W : World), I k W → k < len → ReadBack A len k v W → body.wpIn (F.inRound l) (n - 1 - 1) Tryd.prog (LeftBy w.heap.size (I (k + 1)) X W) (a₁ k v) W)
    (hdone : ∀ (D : Nat) (W : World), w.heap.size ≤ D → I len W → W.heap[D]? = some (.deferred (some [])) → Q .normal { a with defers := { target := .collected D, args := #[] } :: a.defers } W)
    (hstop : ∀ (D : Nat) (W : World), w.heap.size ≤ D → X W → W.heap[D]? = some (.deferred (some [])) → Code.ret.wpIn F n Tryd.prog Q { a with defers := { target := .collected D, args := #[] } :: a.defers } W) :
    (Code.rangeFunc g ps assign body).wpIn F n Tryd.prog Q a w :=
  range_k hro (by omega) hg h8 (enters_of Tryd.func160 (by kernel_rfl) rfl) (backI_gives F (n - 1) h8 hro (by omega) Bs len cap A hreach) (fun k v => by rw [hps]; rfl) I X hI hX (fun v => readBack_own w.heap.size A len v) hBx hRd h0 a₁ hassign hbody hdone hstop
end Go.Proofs.YtjhaogbopmhkoaaDoor

namespace Go.Proofs.YtjhaogbopmhkoaaDoor
open Go.RowKit Go.Shelf
attribute [local go_sem] Oper.semAt_some
set_option linter.unusedVariables false
set_option maxRecDepth 100000
theorem nsign_any (x y : Nat) (w : World) : Calls Tryd.prog 135 #[.int .i64 (x : Int), .int .i64 (y : Int)] w fun e w' => e = .returned (.int .i64 (Na.sgn x y)) ∧ w = w' := by
  rcases Na.sgn_cases x y with ⟨h, e⟩ | ⟨h, e⟩ | ⟨h, e⟩
  · have H := Lib.hid e
    have h1 : decide (x < y) = true := decide_eq_true h
    clear e
    go_enter Tryd.func135, Tryd.ntmps135
    go_wp2_with fail
    go_ret
    exact ⟨ret_int H.out.symm, rfl⟩
  · have H := Lib.hid e
    subst h
    have h1 : decide (x < x) = false := decide_eq_false (by omega)
    clear e
    go_enter Tryd.func135, Tryd.ntmps135
    go_wp2_with fail
    go_ret
    exact ⟨ret_int H.out.symm, rfl⟩
  · have H := Lib.hid e
    have h1 : decide (x < y) = false := decide_eq_false (by omega)
    have h2 : decide (y < x) = true := decide_eq_true h
    clear e
    go_enter Tryd.func135, Tryd.ntmps135
    go_wp2_with fail
    go_ret
    exact ⟨ret_int H.out.symm, rfl⟩
namespace Na
theorem drop_same {X Y : List Nat} {k a : Nat} (hX : X[k]? = some a) (hY : Y[k]? = some a) (h : X.drop (k + 1) = Y.drop (k + 1)) : X.drop k = Y.drop k := by
  have h1 := get_lt hX
  have h2 := get_lt hY
  rw [List.drop_eq_getElem_cons h1, List.drop_eq_getElem_cons h2, h]
  rw [List.getElem?_eq_getElem h1] at hX
  rw [List.getElem?_eq_getElem h2] at hY
  rw [Option.some.inj hX, Option.some.inj hY]
theorem sgn_at {x y k a b : Nat} (hX : (dig x)[k]? = some a) (hY : (dig y)[k]? = some b) (h : (dig x).drop (k + 1) = (dig y).drop (k + 1)) (hab : a ≠ b) : sgn x y = sgn a b := by
  rcases Nat.lt_or_gt_of_ne hab with h1 | h1
  · have := val_cmp (dig_lim x) (dig_lim y) k a b hX hY h h1
    rw [val_dig, val_dig] at this
    rw [sgn_lt this, sgn_lt h1]
  · have := val_cmp (dig_lim y) (dig_lim x) k b a hY hX h.symm h1
    rw [val_dig, val_dig] at this
    rw [sgn_gt this, sgn_gt h1]
theorem sgn_of_len {x y : Nat} (h : (dig x).length ≠ (dig y).length) : sgn x y = sgn (dig x).length (dig y).length := by
  rcases Nat.lt_or_gt_of_ne h with h1 | h1
  · rw [sgn_lt (sgn_len h1), sgn_lt h1]
  · rw [sgn_gt (sgn_len h1), sgn_gt h1]
end Na
def CmpX (w : World) (g : Nat) (r : Int) (W : World) : Prop := W.cell? ⟨g, 0, none⟩ = some (.int .i64 r) ∧ Below w.heap.size w W
def CmpI (w : World) (x y n : Nat) (A2 A : Option Addr) (c2 c : Nat) (k : Nat) (W : World) : Prop :=
  ((Na.dig x).drop (n - k) = (Na.dig y).drop (n - k)) ∧ W.cell? ⟨w.heap.size, 0, none⟩ = some (.slice A2 n c2) ∧ W.cell? ⟨w.heap.size + 1, 0, none⟩ = some (.int .i64 0) ∧ W.frozen? ⟨w.heap.size + 1, 0, none⟩ = false ∧ W.cell? ⟨w.heap.size + 2, 0, none⟩ = some (.slice A n c) ∧ Below w.heap.size w W
theorem below_from {w W W' : World} {B : Nat} {row : Option Nat} (h : Below w.heap.size w W) (hg : W.grownBy W' row) (hB : w.heap.size ≤ B) (hr : ∀ r, row = some r → B ≤ r ∧ ∃ o : Obj, W.heap[r]? = some o ∧ o.isCells = false) : Below w.heap.size w W' :=
  h.grown hg h.size (fun r e => Nat.le_trans hB (hr r e).1)
set_option maxHeartbeats 2000000 in
theorem ncompare_eq (F : Fence) (N : Nat) (q1 : F.fn 98) (q2 : F.fn 136) (q3 : F.fn 160) (q4 : F.fn 135) (hro : F.round = none) (hN : 3 ≤ N)
    (hsg : ∀ (m x y : Nat) (w : World), CallsIn F m Tryd.prog 135 #[.int .i64 (x : Int), .int .i64 (y : Int)] w fun e w' => e = .returned (.int .i64 (Na.sgn x y)) ∧ w = w') (A A2 : Option Addr) (n c c2 : Nat) (x y : Nat) (w : World) (hn : (Na.dig x).length = n) (hm : (Na.dig y).length = n) (hs : Sl w w.heap.size A (nats (Na.dig x))) (hs2 : Sl w w.heap.size A2 (nats (Na.dig y))) (hl : n ≤ 140737488351232) :
    CallsIn F N Tryd.prog 98 #[.slice A n c, .slice A2 n c2] w fun e w' => e = .returned (.int .i64 (Na.sgn x y)) ∧ Below w.heap.size w w' := by
  have hne : ((n : Int) != (n : Int)) = false := by simp
  have h1 : 1 ≤ N := by omega
  refine callsIn_of_wp_marks Tryd.func98 rfl q1 ?_ hro
  simp only [Tryd.ntmps98, List.size_toArray, List.length_cons, List.length_nil, Nat.reduceAdd, Nat.reduceSub, Array.replicate_succ, Array.replicate_zero, List.push_toArray, List.append_toArray, List.nil_append, List.cons_append]
  gi_wp2_with (gi_at_call 136; refine (backI_in F (N - 1) q2 hro _ _ _ _).mono ?_; rintro e w' ⟨rfl, rfl⟩)
  have bB := Boxed.new w 22 (.slice A2 n c2)
  have bR := Boxed.new (w.alloc (.cells #[.slice A2 n c2] 22)) 3 (.int .i64 0)
  have bS := Boxed.new ((w.alloc (.cells #[.slice A2 n c2] 22)).alloc (.cells #[.int .i64 0] 3)) 22 (.slice A n c)
  simp only [World.size_alloc] at bR bS
  have HI0 : Hid (CmpI w x y n A2 A c2 c 0 (((w.alloc (.cells #[.slice A2 n c2] 22)).alloc (.cells #[.int .i64 0] 3)).alloc (.cells #[.slice A n c] 22))) :=
    ⟨by rw [List.drop_of_length_le (by omega), List.drop_of_length_le (by omega)], ((bB.alloc _).alloc _).cell, (bR.alloc _).cell, (bR.alloc _).frozen, bS.cell, bal (bal (bal (Below.refl _ _) _) _) _⟩
  have HN := Lib.hid hn
  have HM := Lib.hid hm
  have HS := Lib.hid hs
  have HS2 := Lib.hid hs2
  clear hn hm hs hs2 bB bR bS
  refine range_back (F := F) (n := N) (A := A) (Bs := w.heap.size + 1 + 1) (len := n) (cap := c) q3 hro (by omega) ?hg ?hps hl
    (CmpI w x y n A2 A c2 c) (CmpX w (w.heap.size + 1) (Na.sgn x y)) ?hI ?hX (fun k W h => h.2.2.2.2.1) ?hRd HI0.out ?a1 ?assign ?body ?done ?stop
  case hg => rfl
  case hps => rfl
  case hI => exact fun k W W' row h hg hr => ⟨h.1, cell_kept h.2.1 hg (fun r e => (hr r e).2), cell_kept h.2.2.1 hg (fun r e => (hr r e).2), (frozen_kept h.2.2.1 hg (fun r e => (hr r e).2)).trans h.2.2.2.1, cell_kept h.2.2.2.2.1 hg (fun r e => (hr r e).2), below_from h.2.2.2.2.2 hg (by simp; omega) hr⟩
  case hX => exact fun k W W' row h hg hr => ⟨cell_kept h.1 hg (fun r e => (hr r e).2), below_from h.2 hg (by simp; omega) hr⟩
  case hRd =>
    intro k W h hk
    obtain ⟨a, ha⟩ := nat_at (Na.dig x) (n - 1 - k) (by rw [HN.out]; omega)
    obtain ⟨ad, e, _, hc⟩ := (HS.out.below h.2.2.2.2.2).nat ha
    exact ⟨_, ad, e, hc⟩
  case assign =>
    intro l k v W K hK
    dsimp only [encBack]
    gi_wp2
    exact hK
  case body =>
    intro l k v W hI hk hR
    obtain ⟨h1, h2, h3, h4, h5, h6⟩ := hI
    obtain ⟨a, ha⟩ := nat_at (Na.dig x) (n - 1 - k) (by rw [HN.out]; omega)
    obtain ⟨b, hb⟩ := nat_at (Na.dig y) (n - 1 - k) (by rw [HM.out]; omega)
    obtain ⟨ad, rfl, _, hca⟩ := (HS.out.below h6).nat ha
    obtain ⟨ad2, rfl, _, hcb⟩ := (HS2.out.below h6).nat hb
    obtain ⟨ad', e1, hv⟩ := hR
    obtain rfl := Option.some.inj e1
    rw [hca] at hv
    obtain rfl := Option.some.inj hv
    have HHA := Lib.hid ha
    have HHB := Lib.hid hb
    have HD := Lib.hid h1
    have HB := Lib.hid h6
    clear ha hb hca e1 h1 h6 HI0
    have e2 : ((n - 1 - k : Nat) : Int).toNat = n - 1 - k := by omega
    have hi1 : ((n - 1 - k : Nat) : Int) < (n : Int) := by omega
    obtain ⟨j, hj⟩ : ∃ j, n - 1 - k = j := ⟨_, rfl⟩
    rw [hj] at e2 hi1 hcb HHA HHB
    rw [hj]
    by_cases hab : a = b
    · subst hab
      have hne2 : ((a : Int) != (a : Int)) = false := by simp
      have HD2 : Hid ((Na.dig x).drop (n - (k + 1)) = (Na.dig y).drop (n - (k + 1))) := by
        have h7 := HD.out
        rw [show n - k = j + 1 by omega] at h7
        have h8 := Na.drop_same HHA.out HHB.out h7
        rw [show n - (k + 1) = j by omega]
        exact h8
      clear hj
      gi_wp2
      exact ⟨KeepsFrom.refl _ _, HD2.out, h2, h3, h4, h5, HB.out⟩
    · have hne2 : ((a : Int) != (b : Int)) = true := by rw [bne_iff_ne]; omega
      have HS' : Hid (Na.sgn a b = Na.sgn x y) := by
        have h7 := HD.out
        rw [show n - k = j + 1 by omega] at h7
        exact (Na.sgn_at HHA.out HHB.out h7 hab).symm
      have hn1 : 1 ≤ N - 1 - 1 := by omega
      have HSG := Lib.hid hsg
      clear hj hab hsg
      gi_wp2_with (gi_at_call 135; refine (CallsIn.inRound l (HSG.out _ _ _ _)).mono ?_; rintro e w' ⟨rfl, rfl⟩)
      exact ⟨(KeepsOthers.setCell _ _ _).from _, by rw [← HS'.out]; exact cell_of_set _ h3, bset HB.out _ (by simp) _⟩
  case done =>
    intro D W hD hI hK
    obtain ⟨h1, h2, h3, h4, h5, h6⟩ := hI
    have HE : Hid (Na.sgn x y = 0) := by
      rw [Nat.sub_self, List.drop_zero, List.drop_zero] at h1
      exact Na.sgn_eq (Na.dig_inj h1)
    clear h1 HI0
    have hD2 : w.heap.size + 3 ≤ D := by simpa using hD
    have hK2 : (W.setCell ⟨w.heap.size + 1, 0, none⟩ (.int .i64 0)).heap[D]? = some (.deferred (some [])) := (Below.heap_setCell _ _ _ _ (by simp; omega)).trans hK
    have hc2 : ((W.setCell ⟨w.heap.size + 1, 0, none⟩ (.int .i64 0)).putObj D (.deferred none)).cell? ⟨w.heap.size + 1, 0, none⟩ = some (.int .i64 0) :=
      (World.cell?_of_block (World.putObj_heap_other (k := w.heap.size + 1) (by omega))).trans (cell_of_set _ h3)
    gi_wp2
    refine ⟨by simp, .inl ⟨_, _, rfl, run_takeDeferred hK2, ?_⟩⟩
    refine ⟨.int .i64 0, by simp [results, Tryd.results98, go_sem, hc2], by rw [HE.out], ?_⟩
    exact (bset h6 _ (by simp) _).grown (grownBy_putObj' _ D _) (by simp [World.setCell]; have := h6.size; omega) (fun r e => by cases e; omega)
  case stop =>
    intro D W hD hX hK
    obtain ⟨h3, h6⟩ := hX
    have hD2 : w.heap.size + 3 ≤ D := by simpa using hD
    have hc2 : (W.putObj D (.deferred none)).cell? ⟨w.heap.size + 1, 0, none⟩ = some (.int .i64 (Na.sgn x y)) := (World.cell?_of_block (World.putObj_heap_other (k := w.heap.size + 1) (by omega))).trans h3
    gi_wp2
    refine ⟨by simp, .inl ⟨_, _, rfl, run_takeDeferred hK, ?_⟩⟩
    refine ⟨.int .i64 (Na.sgn x y), by simp [results, Tryd.results98, go_sem, hc2], rfl, ?_⟩
    exact h6.grown (grownBy_putObj' _ D _) h6.size (fun r e => by cases e; omega)
theorem ncompare_any (A A2 : Option Addr) (n c m c2 B : Nat) (x y : Nat) (w : World) (hn : (Na.dig x).length = n) (hm : (Na.dig y).length = m) (hs : Sl w B A (nats (Na.dig x))) (hs2 : Sl w B A2 (nats (Na.dig y))) (hB : B ≤ w.heap.size) (hl : n ≤ 140737488351232) (hl2 : m ≤ 140737488351232) :
    Calls Tryd.prog 98 #[.slice A n c, .slice A2 m c2] w fun e w' => e = .returned (.int .i64 (Na.sgn x y)) ∧ Below w.heap.size w w' := by
  by_cases hnm : n = m
  · subst hnm
    exact (callsIn_wide (n := 3)).1 (ncompare_eq Fence.wide 3 trivial trivial trivial trivial rfl (Nat.le_refl _) (fun m x y w => callsIn_wide.2 (nsign_any x y w)) A A2 n c c2 x y w hn hm (hs.more hB) (hs2.more hB) hl)
  · have hne : ((n : Int) != (m : Int)) = true := by rw [bne_iff_ne]; omega
    have HS : Hid (Na.sgn n m = Na.sgn x y) := by rw [← hn, ← hm]; exact (Na.sgn_of_len (by omega)).symm
    clear hs hs2 hn hm hnm
    go_enter Tryd.func98, Tryd.ntmps98
    go_wp2_with fail
    refine (nsign_any n m _).mono ?_
    rintro e w1 ⟨rfl, rfl⟩
    go_wp2_with fail
    refine bodyPost_ret (v := .int .i64 (Na.sgn n m)) (by simp [results, Tryd.results98, go_sem]) rfl ?_
    exact ⟨by rw [HS.out], bal (bal (Below.refl _ _) _) _⟩
theorem ncmp_any (A A2 : Option Addr) (n c m c2 B : Nat) (x y : Nat) (w : World) (hn : (Na.dig x).length = n) (hm : (Na.dig y).length = m) (hs : Sl w B A (nats (Na.dig x))) (hs2 : Sl w B A2 (nats (Na.dig y))) (hB : B ≤ w.heap.size) (hl : n ≤ 140737488351232) (hl2 : m ≤ 140737488351232) :
    Calls Tryd.prog 58 #[.agg #[.slice A n c], .agg #[.slice A2 m c2]] w fun e w' => e = .returned (.int .i64 (Na.sgn x y)) ∧ Below w.heap.size w w' := by
  have HC := Lib.hid (ncompare_any A A2 n c m c2 w.heap.size x y ((w.alloc (.cells #[.slice A n c] 24)).alloc (.cells #[.slice A2 m c2] 24)) hn hm (((hs.more hB).alloc (Nat.le_refl _) _).alloc (by simp) _) (((hs2.more hB).alloc (Nat.le_refl _) _).alloc (by simp) _) (by simp; omega) hl hl2)
  clear hs hs2 hn hm
  go_enter Tryd.func58, Tryd.ntmps58
  go_wp2_with fail
  refine HC.out.mono ?_
  rintro e w1 ⟨rfl, hb⟩
  have HB := Lib.hid (btr (bal (bal (Below.refl w.heap.size w) _) _) hb)
  clear hb
  go_wp2_with fail
  go_ret
  exact ⟨rfl, HB.out⟩
end Go.Proofs.YtjhaogbopmhkoaaDoor
