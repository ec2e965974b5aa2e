/- XNRefA XNRefB XNRefC joined. -/
import Derived.Test.YtpcmbmabmfghkaaDoorNatE
import Derived.Test.YtpcmbmabmfghkaaDoorNatF
import Derived.Deep.RegionHeld3
/- The document's Valid, Same, fit, limb of numbers. -/
namespace Go.Proofs.YtpcmbmabmfghkaaDoor
open Go.RowKit
set_option linter.unusedVariables false
set_option maxRecDepth 100000
namespace Na
theorem vld_zero (zs : List Int) (h : zs[zs.length - 1]? = some 0) : vld zs = false := by
  unfold vld
  rw [List.getLast?_eq_getElem?, h]
  simp
theorem vld_all (zs : List Int) (h : zs.all lim = true) (h2 : zs.length ≤ 200) (h3 : zs.length = 0 ∨ ∃ z, zs[zs.length - 1]? = some z ∧ z ≠ 0) : vld zs = true := by
  rcases h3 with h3 | ⟨z, h3, h4⟩
  · have : zs = [] := List.eq_nil_of_length_eq_zero h3
    rw [this]; rfl
  · rw [vld_end zs z h h2 h3, bne_iff_ne]
    exact h4
end Na
/-- equal lists of ints -/
theorem ints_same {p q : List Int} (h : p.length = q.length) : (∀ k, k < p.length → p[k]? = q[k]?) → p = q := fun h2 => by
  apply List.ext_getElem?
  intro i
  rcases Nat.lt_or_ge i p.length with h3 | h3
  · exact h2 i h3
  · rw [List.getElem?_eq_none h3, List.getElem?_eq_none (by omega)]
end Go.Proofs.YtpcmbmabmfghkaaDoor

/- The document's Add, Mul of numbers. -/
namespace Go.Proofs.YtpcmbmabmfghkaaDoor
open Go.RowKit
set_option linter.unusedVariables false
set_option maxRecDepth 100000
theorem keepN3 {wr W W' : World} {a b : Addr} {u v : Value} (h0 : W.cell? a = some u) (h1 : W.cell? b = some v) (h2 : Below wr.heap.size wr W) (ha : a.block < wr.heap.size) (hb' : b.block < wr.heap.size) (hb : Below W.heap.size W W') : W'.cell? a = some u ∧ W'.cell? b = some v ∧ Below wr.heap.size wr W' :=
  ⟨(hb.cell (Nat.lt_of_lt_of_le ha h2.size)).trans h0, (hb.cell (Nat.lt_of_lt_of_le hb' h2.size)).trans h1, h2.trans (hb.mono h2.size)⟩
namespace Na
theorem radd_end (x y k cr : Nat) (o : List Nat) (N : Nat) (ho : o.length = k) (hk : k = N + 1) (h : val o + 16777216 ^ k * cr = val ((dig x).take k) + val ((dig y).take k)) (hX : (dig x).length ≤ N) (hY : (dig y).length ≤ N) : val o = x + y := by
  have h1 := (dig_len_iff x N).1 hX
  have h2 := (dig_len_iff y N).1 hY
  rw [List.take_of_length_le (by omega), List.take_of_length_le (by omega), val_dig, val_dig, hk, Nat.pow_succ] at h
  generalize 16777216 ^ N = P at h h1 h2
  rcases Nat.eq_zero_or_pos cr with h3 | h3
  · rw [h3, Nat.mul_zero] at h
    exact h
  · have h4 := Nat.mul_le_mul_left (P * 16777216) h3
    rw [Nat.mul_one] at h4
    omega
end Na

def NRAdd (w : World) (B : Nat) (X Y : List Nat) (n : Nat) (i o cr : Value) (wr : World) : Prop :=
  ∃ (k c : Nat) (A : Option Addr) (ca : Nat) (l : List Nat), k ≤ n + 1 ∧ i = .int .i64 (k : Int) ∧ cr = .int .i64 (c : Int) ∧ o = .slice A k ca ∧ c ≤ 1 ∧ Hid (l.length = k ∧ Na.Lim l ∧ Na.val l + 16777216 ^ k * c = Na.val (X.take k) + Na.val (Y.take k)) ∧ wr.ownsRow B 3 1 (.slice A k ca) k (nats l) ∧ Below B w wr

end Go.Proofs.YtpcmbmabmfghkaaDoor

/- The document's mul and Mul of numbers. -/
namespace Go.Proofs.YtpcmbmabmfghkaaDoor
open Go.RowKit
set_option linter.unusedVariables false
set_option maxRecDepth 100000
theorem keepN5 {wr W W' : World} {a b c d : Addr} {u v x y : Value} (h0 : W.cell? a = some u) (h1 : W.cell? b = some v) (h3 : W.cell? c = some x) (h4 : W.cell? d = some y) (h2 : Below wr.heap.size wr W) (ha : a.block < wr.heap.size) (hb' : b.block < wr.heap.size) (hc : c.block < wr.heap.size) (hd : d.block < wr.heap.size) (hb : Below W.heap.size W W') : W'.cell? a = some u ∧ W'.cell? b = some v ∧ W'.cell? c = some x ∧ W'.cell? d = some y ∧ Below wr.heap.size wr W' :=
  ⟨(hb.cell (Nat.lt_of_lt_of_le ha h2.size)).trans h0, (hb.cell (Nat.lt_of_lt_of_le hb' h2.size)).trans h1, (hb.cell (Nat.lt_of_lt_of_le hc h2.size)).trans h3, (hb.cell (Nat.lt_of_lt_of_le hd h2.size)).trans h4, h2.trans (hb.mono h2.size)⟩
namespace Na
/-- one place of a product by the school's rule -/
theorem rprod_step (l Y : List Nat) (i k e a c v S : Nat) (he : l[i + k]? = some e) (h : val l + 16777216 ^ (i + k) * c = S + 16777216 ^ i * (a * val (Y.take k))) (hv : v = e + a * at0 Y k + c) :
    val (l.set (i + k) (v % 16777216)) + 16777216 ^ (i + (k + 1)) * (v / 16777216) = S + 16777216 ^ i * (a * val (Y.take (k + 1))) := by
  have h1 := val_set l (i + k) e (v % 16777216) he
  have h2 := split24 (16777216 ^ (i + k)) v
  rw [val_take_at0, Nat.mul_add, Nat.mul_add, ← Nat.add_assoc S, ← h, show i + (k + 1) = i + k + 1 by omega, Nat.pow_succ]
  have h3 : 16777216 ^ i * (a * (16777216 ^ k * at0 Y k)) = 16777216 ^ (i + k) * (a * at0 Y k) := by rw [Nat.pow_add, Nat.mul_left_comm a, Nat.mul_assoc]
  have h4 : 16777216 ^ (i + k) * v = 16777216 ^ (i + k) * e + 16777216 ^ (i + k) * (a * at0 Y k) + 16777216 ^ (i + k) * c := by rw [hv, Nat.mul_add, Nat.mul_add]
  rw [h3]
  omega
/-- what is carried ends behind the second number -/
theorem rprod_room (l X Y : List Nat) (i k a c m : Nat) (hX : Lim X) (hY : Lim Y) (hm : Y.length = m) (ha : X[i]? = some a) (hk : m ≤ k) (h : val l + 16777216 ^ (i + k) * c = val (X.take i) * val Y + 16777216 ^ i * (a * val (Y.take k))) (hc : 0 < c) : k ≤ m := by
  rw [List.take_of_length_le (l := Y) (by omega), ← Nat.mul_assoc, ← Nat.add_mul, ← val_take_succ X i a ha] at h
  have h1 := val_lt (hX.take (i + 1))
  have h2 : (X.take (i + 1)).length ≤ i + 1 := List.length_take_le _ _
  have h3 := Nat.lt_of_lt_of_le h1 (Nat.pow_le_pow_right (show 0 < 16777216 by omega) h2)
  have h4 := val_lt hY
  rw [hm] at h4
  have h5 : val (X.take (i + 1)) * val Y < 16777216 ^ (i + 1) * 16777216 ^ m := Nat.mul_lt_mul_of_lt_of_lt h3 h4
  rw [← Nat.pow_add] at h5
  rcases Nat.lt_or_ge m k with h6 | h6
  · exfalso
    have h7 := Nat.mul_le_mul_left (16777216 ^ (i + k)) hc
    rw [Nat.mul_one] at h7
    have h8 := Nat.pow_le_pow_right (show 0 < 16777216 by omega) (show i + 1 + m ≤ i + k by omega)
    omega
  · exact h6
theorem sq24 {e a b c : Nat} (he : e < 16777216) (ha : a < 16777216) (hb : b < 16777216) (hc : c < 16777216) : e + a * b + c < 281474976710656 := by
  have := Nat.mul_le_mul (show a ≤ 16777215 by omega) (show b ≤ 16777215 by omega)
  omega
end Na
/-- what mul leaves -/
def Muld (w : World) (N V : Nat) (e : Ending) (w' : World) : Prop :=
  ∃ (A : Option Addr) (c : Nat) (o : List Nat), e = .returned (.slice A N c) ∧ o.length = N ∧ Na.Lim o ∧ Na.val o = V ∧ w'.ownsRow w.heap.size 3 1 (.slice A N c) N (nats o) ∧ Below w.heap.size w w'
def NRmo (w : World) (B g N : Nat) (X Y : List Nat) (n : Nat) (i : Value) (wr : World) : Prop :=
  ∃ (k : Nat) (l : List Nat), k ≤ n ∧ i = .int .i64 (k : Int) ∧ Hid (l.length = N ∧ Na.Lim l ∧ Na.val l = Na.val (X.take k) * Na.val Y) ∧ wr.ownsRow B 3 1 (.slice (some ⟨g, 0, none⟩) N N) N (nats l) ∧ Below B w wr
def NRmi (w : World) (B g N : Nat) (X Y : List Nat) (a i m : Nat) (v cr : Value) (wr : World) : Prop :=
  ∃ (k c : Nat) (l : List Nat), k ≤ m + 1 ∧ v = .int .i64 (k : Int) ∧ cr = .int .i64 (c : Int) ∧ c < 16777216 ∧ Hid (l.length = N ∧ Na.Lim l ∧ Na.val l + 16777216 ^ (i + k) * c = Na.val (X.take i) * Na.val Y + 16777216 ^ i * (a * Na.val (Y.take k))) ∧ wr.ownsRow B 3 1 (.slice (some ⟨g, 0, none⟩) N N) N (nats l) ∧ Below B w wr
end Go.Proofs.YtpcmbmabmfghkaaDoor
