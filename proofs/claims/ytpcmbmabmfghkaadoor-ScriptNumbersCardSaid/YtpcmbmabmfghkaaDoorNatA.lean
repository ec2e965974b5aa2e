/- Limbs in memory; the contracts of Valid, trim, result, limbs, Of, both. -/
import Derived.Test.YtpcmbmabmfghkaaDoorNat
import Derived.Test.YtpcmbmabmfghkaaDoorDice
import Derived.Test.YtpcmbmabmfghkaaDoorChecked
import Derived.Outline
namespace Go.Proofs.YtpcmbmabmfghkaaDoor
open Go.RowKit
set_option linter.unusedVariables false
set_option maxRecDepth 100000

theorem and24 (n : Int) : bits .and .i64 n 16777215 = n % 16777216 := by
  have hm : (BitVec.ofInt 64 16777215).toNat = 2 ^ 24 - 1 := by decide
  have key : (BitVec.ofInt 64 n &&& BitVec.ofInt 64 16777215).toNat = (n % ((2 ^ 64 : Nat) : Int)).toNat % 2 ^ 24 := by
    rw [BitVec.toNat_and, BitVec.toNat_ofInt, hm, Nat.and_two_pow_sub_one_eq_mod]
  show IntKind.i64.wrap ((BitVec.ofInt 64 n &&& BitVec.ofInt 64 16777215).toNat : Nat) = n % 16777216
  rw [key, IntKind.wrap_i64]
  omega
/-- limbs as values -/
def encN (n : Nat) : Value := .int .i64 (n : Int)
def nats (l : List Nat) : List Value := l.map encN
theorem nats_length (l : List Nat) : (nats l).length = l.length := List.length_map _
theorem nats_one (l : List Nat) : ∀ u ∈ nats l, u.oneCell' = true := by
  intro u hu
  obtain ⟨b, _, rfl⟩ := List.mem_map.1 hu
  rfl
theorem nats_up (l : List Nat) : ints (Na.up l) = nats l := by unfold ints Na.up nats; rw [List.map_map]; rfl
theorem nats_take (l : List Nat) (k : Nat) : (nats l).take k = nats (l.take k) := by simp [nats, List.map_take]
theorem nats_drop (l : List Nat) (k : Nat) : (nats l).drop k = nats (l.drop k) := by simp [nats, List.map_drop]
theorem nats_snoc (l : List Nat) (b : Nat) : nats l ++ [.int .i64 (b : Int)] = nats (l ++ [b]) := by simp [nats, encN]
theorem nats_set (l : List Nat) (k b : Nat) : (nats l).set k (.int .i64 (b : Int)) = nats (l.set k b) := by unfold nats; rw [List.map_set]; rfl
theorem nats_append (l m : List Nat) : nats (l ++ m) = nats l ++ nats m := by simp [nats]
theorem get_lt {α : Type} {l : List α} {k : Nat} {b : α} (hk : l[k]? = some b) : k < l.length := by
  rcases Nat.lt_or_ge k l.length with h | h
  · exact h
  · rw [List.getElem?_eq_none h] at hk; cases hk
theorem Sl.nat {w : World} {B : Nat} {A : Option Addr} {l : List Nat} (h : Sl w B A (nats l)) {k : Nat} {b : Nat} (hk : l[k]? = some b) : ∃ ad, A = some ad ∧ ad.block < B ∧ w.cell? (ad.add k) = some (.int .i64 (b : Int)) := by
  have hlt := get_lt hk
  obtain ⟨ad, e, hb, hc⟩ := h (by rw [nats_length]; omega)
  exact ⟨ad, e, hb, hc k _ (by unfold nats; rw [List.getElem?_map, hk]; rfl)⟩
theorem own_nat {w : World} {base n c g : Nat} {e : TypeId} {l : List Nat} (h : w.ownsRow base e 1 (.slice (some ⟨g, 0, none⟩) n c) n (nats l)) {k : Nat} {b : Nat} (hk : l[k]? = some b) : w.cell? ⟨g, k, none⟩ = some (.int .i64 (b : Int)) := by
  have hl := own_len h
  rw [nats_length] at hl
  have hlt := get_lt hk
  rw [h.cellAt k (by omega)]
  unfold nats
  rw [List.getElem?_map, hk]
  rfl
theorem nat_at (l : List Nat) (k : Nat) (h : k < l.length) : ∃ b : Nat, l[k]? = some b := ⟨_, List.getElem?_eq_getElem h⟩
theorem bcell {W w1 : World} (hb : Below W.heap.size W w1) : (∀ b o, b < W.heap.size → w1.cell? ⟨b, o, none⟩ = W.cell? ⟨b, o, none⟩) ∧ (∀ b o, b < W.heap.size → w1.frozen? ⟨b, o, none⟩ = W.frozen? ⟨b, o, none⟩) :=
  ⟨fun b o h => hb.cell (p := ⟨b, o, none⟩) h, fun b o h => hb.frozen (p := ⟨b, o, none⟩) h⟩
theorem infoI : (Tryd.prog.info? 3).map (fun i => (i.zero, i.size, i.bytes)) = some (some (.int .i64 0), 1, 8) := by kernel_rfl
/-- what a call leaves that hands back limbs and an error number -/
def ResN (w : World) (l : List Nat) (err : Int) (en : Ending) (w' : World) : Prop :=
  ∃ (A : Option Addr) (n c : Nat), en = .returned (.tuple #[.agg #[.slice A n c], .int .i64 err]) ∧ l.length = n ∧ w'.ownsRow w.heap.size 3 1 (.slice A n c) n (nats l) ∧ Below w.heap.size w w'
theorem resN_nil (w w' : World) (err : Int) (h : Below w.heap.size w w') : ResN w [] err (.returned (.tuple #[.agg #[.slice none 0 0], .int .i64 err])) w' := ⟨none, 0, 0, rfl, rfl, World.ownsRow_nil _ _ _ _, h⟩
/-- what a call leaves that hands back limbs alone -/
def FreshN (w : World) (l : List Nat) (en : Ending) (w' : World) : Prop :=
  ∃ (A : Option Addr) (n c : Nat), en = .returned (.slice A n c) ∧ l.length = n ∧ w'.ownsRow w.heap.size 3 1 (.slice A n c) n (nats l) ∧ Below w.heap.size w w'
namespace Na
theorem vld_bad (zs : List Int) (k : Nat) (z : Int) (hz : zs[k]? = some z) (h : lim z = false) : vld zs = false := by
  unfold vld
  have : zs.all lim = false := by
    rw [List.all_eq_false]
    exact ⟨z, List.mem_of_getElem? hz, by rw [h]; exact Bool.false_ne_true⟩
  rw [this, Bool.false_and]
theorem all_take (zs : List Int) (k : Nat) (z : Int) (hz : zs[k]? = some z) (h : (zs.take k).all lim = true) (h1 : lim z = true) : (zs.take (k + 1)).all lim = true := by
  rw [List.take_add_one, hz, List.all_append, h]
  simp [h1]
theorem vld_long (zs : List Int) (h : 200 < zs.length) : vld zs = false := by
  unfold vld
  rw [decide_eq_false (by omega)]
  simp
theorem vld_nil : vld [] = true := by rfl
theorem vld_end (zs : List Int) (z : Int) (h : zs.all lim = true) (h2 : zs.length ≤ 200) (h3 : zs[zs.length - 1]? = some z) : vld zs = (z != 0) := by
  unfold vld
  rw [h, decide_eq_true h2, List.getLast?_eq_getElem?, h3, Bool.eq_iff_iff]
  simp
theorem lim_lo {z : Int} (h : z < 0) : lim z = false := by unfold lim; rw [decide_eq_false (by omega), Bool.false_and]
theorem lim_hi {z : Int} (h : 16777216 ≤ z) : lim z = false := by unfold lim; rw [decide_eq_false (p := z < 16777216) (by omega), Bool.and_false]
theorem lim_ok {z : Int} (h : 0 ≤ z) (h2 : z < 16777216) : lim z = true := by unfold lim; rw [decide_eq_true h, decide_eq_true h2]; rfl
end Na
theorem own_box1 (w : World) (o : Obj) : Below w.heap.size w (w.alloc o) := (Below.refl _ _).alloc (Nat.le_refl _) _
/-- 'result': a number's limbs without zeros at the end, or the error -/
def resL (x : Nat) : List Nat := if x < Na.top then Na.dig x else []
def resE (x : Nat) : Int := if x < Na.top then 0 else 3
theorem resL_ok {x : Nat} (h : x < Na.top) : resL x = Na.dig x := if_pos h
theorem resE_ok {x : Nat} (h : x < Na.top) : resE x = 0 := if_pos h
theorem resL_no {x : Nat} (h : Na.top ≤ x) : resL x = [] := if_neg (by omega)
theorem resE_no {x : Nat} (h : Na.top ≤ x) : resE x = 3 := if_neg (by omega)
def LimbsRel (w : World) (m : Nat) (v l : Value) (wr : World) : Prop :=
  ∃ (x : Nat) (A : Option Addr) (c : Nat) (d : List Nat), x ≤ m ∧ v = .int .i64 (x : Int) ∧ l = .slice A d.length c ∧ Hid (Na.dig m = d ++ Na.dig x) ∧ wr.ownsRow w.heap.size 3 1 (.slice A d.length c) d.length (nats d) ∧ Below w.heap.size w wr
theorem grown_set (w : World) (a : Addr) (v : Value) : w.grownBy (w.setCell a v) (some a.block) := ⟨rfl, rfl, rfl, by simp [World.setCell], fun i hi hne => Below.heap_setCell _ _ _ _ (fun e => hne (by rw [e]))⟩
theorem own_setLow {w : World} {base n c : Nat} {e : TypeId} {A : Option Addr} {xs : List Value} (h : w.ownsRow base e 1 (.slice A n c) n xs) (a : Addr) (v : Value) (ha : a.block < base) : (w.setCell a v).ownsRow base e 1 (.slice A n c) n xs :=
  own_grown h (grown_set w a v) ha
theorem cell_of_set {w : World} {a : Addr} {u : Value} (v : Value) (h : w.cell? a = some u) : (w.setCell a v).cell? a = some v := World.cell?_setCell_same' _ _ _ (by rw [h]; rfl)
theorem bal {w W : World} (h : Below w.heap.size w W) (o : Obj) : Below w.heap.size w (W.alloc o) := h.alloc h.size o
theorem btr {w W W1 : World} (h : Below w.heap.size w W) (k : Below W.heap.size W W1) : Below w.heap.size w W1 := h.trans (k.mono h.size)
theorem bset {w W : World} (h : Below w.heap.size w W) (a : Addr) (ha : w.heap.size ≤ a.block) (v : Value) : Below w.heap.size w (W.setCell a v) := h.setCell (p := a) ha v
/-- a row that a call made, beside the named result's cell -/
theorem resN_cell {w w1 : World} {A : Option Addr} {n c base g : Nat} {l : List Nat} (ho : w1.ownsRow base 3 1 (.slice A n c) n (nats l)) (hn : l.length = n) (hg : g < base) (hB : w.heap.size ≤ base) (hb : Below w.heap.size w w1) (hg2 : w.heap.size ≤ g) (v : Value) (err : Int) :
    ResN w l err (.returned (.tuple #[.agg #[.slice A n c], .int .i64 err])) (w1.setCell ⟨g, 0, none⟩ v) :=
  ⟨A, n, c, rfl, hn, own_more (own_setLow ho _ _ hg) hB, bset hb _ hg2 _⟩
def ofL (m : Int) : List Nat := if m < 0 then [] else Na.dig m.toNat
def ofE (m : Int) : Int := if m < 0 then 2 else 0
end Go.Proofs.YtpcmbmabmfghkaaDoor
