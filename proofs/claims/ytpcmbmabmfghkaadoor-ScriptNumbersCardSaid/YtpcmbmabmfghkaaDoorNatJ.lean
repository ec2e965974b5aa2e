/- The contract of Print. -/
import Derived.Test.YtpcmbmabmfghkaaDoorNatH
namespace Go.Proofs.YtpcmbmabmfghkaaDoor
open Go.RowKit
set_option linter.unusedVariables false
set_option maxRecDepth 100000
namespace De
theorem len_bound' {n y x m : Nat} (h : 10 ^ n * y ≤ x) (hy : 0 < y) (hx : x < 16777216 ^ m) : n < 24 * m := by
  rcases Nat.lt_or_ge n (24 * m) with h1 | h1
  · exact h1
  · exfalso
    have h2 : 10 ^ n * 1 ≤ 10 ^ n * y := Nat.mul_le_mul_left _ hy
    have h3 : 2 ^ n ≤ 10 ^ n := Nat.pow_le_pow_left (by omega) n
    have h4 : (2 : Nat) ^ (24 * m) ≤ 2 ^ n := Nat.pow_le_pow_right (by omega) h1
    rw [Na.pow24] at hx
    omega
theorem len_bound {n y x : Nat} (h : 10 ^ n * y ≤ x) (hy : 0 < y) (hx : x < Na.top) : n ≤ 4800 := by
  have := len_bound' h hy (m := 200) hx
  omega
theorem map_snoc (ds : List Nat) (d : Nat) : ds.map asc ++ [asc d] = (ds ++ [d]).map asc := by simp
theorem text_zero : text 0 = [48] := rfl
theorem text_pos {x : Nat} (h : 0 < x) : text x = ((dig x).map asc).reverse := by unfold text; rw [if_neg (by omega)]
theorem text_ne {x : Nat} (h : 0 < x) : ((dig x).map asc).reverse ≠ [] := by
  rw [dig_pos x h]
  simp
end De
theorem apart_grown {w w' : World} {base n c : Nat} {e e2 : TypeId} {A B : Option Addr} {n2 c2 : Nat} {xs : List Value} (h : w.ownsRow base e 1 (.slice A n c) n xs) (hg : w.grownBy w' (Value.slice B n2 c2).ownBlock) (hd : (Value.slice A n c).ownBlock = none ∨ (Value.slice A n c).ownBlock ≠ (Value.slice B n2 c2).ownBlock) : w'.ownsRow base e 1 (.slice A n c) n xs := own_keep h hg hd
def Apart (a b : Value) : Prop := a.ownBlock = none ∨ a.ownBlock ≠ b.ownBlock
theorem Apart.symm {a b : Value} (h : Apart a b) : Apart b a := by
  rcases h with h | h
  · by_cases hb : b.ownBlock = none
    · exact .inl hb
    · exact .inr (by rw [h]; exact hb)
  · exact .inr (fun e => h e.symm)
/-- an append leaves its row apart from another one -/
theorem Apart.next {w : World} {base n c n1 c1 n2 c2 : Nat} {e : TypeId} {A B B' : Option Addr} {xs : List Value} (h : Apart (.slice A n c) (.slice B n1 c1)) (ho : w.ownsRow base e 1 (.slice A n c) n xs) (hb : (Value.slice B' n2 c2).ownBlock = (Value.slice B n1 c1).ownBlock ∨ (Value.slice B' n2 c2).ownBlock = some w.heap.size) : Apart (.slice A n c) (.slice B' n2 c2) := by
  rcases hb with hb | hb
  · rcases h with h | h
    · exact .inl h
    · exact .inr (by rw [hb]; exact h)
  · by_cases ha : (Value.slice A n c).ownBlock = none
    · exact .inl ha
    · refine .inr fun e1 => ?_
      rw [hb] at e1
      have := (ho.lt _ e1).2
      omega
theorem Apart.of_len {A A' B B' : Option Addr} {n c n' c' m d m' d' : Nat} (h : Apart (.slice A n c) (.slice B m d)) (e1 : A' = A) (e2 : B' = B) : Apart (.slice A' n' c') (.slice B' m' d') := by
  subst e1 e2
  have f1 : ∀ (X : Option Addr) (a b a' b' : Nat), (Value.slice X a b).ownBlock = (Value.slice X a' b').ownBlock := fun X a b a' b' => by cases X <;> rfl
  rcases h with h | h
  · exact .inl (by rw [f1 A' n' c' n c]; exact h)
  · exact .inr (by rw [f1 A' n' c' n c, f1 B' m' d' m d]; exact h)
def NPt (w : World) (B x : Nat) (l o : Value) (wr : World) : Prop :=
  ∃ (y : Nat) (ds : List Nat) (A : Option Addr) (n c : Nat) (Ao : Option Addr) (no co : Nat), l = .slice A n c ∧ o = .slice Ao no co ∧ n ≤ 200 ∧ no ≤ 4900 ∧ Hid ((Na.dig y).length = n ∧ De.Lim ds ∧ ds.length = no ∧ De.val ds + 10 ^ no * y = x) ∧ Apart (.slice A n c) (.slice Ao no co) ∧
    wr.ownsRow B 3 1 (.slice A n c) n (nats (Na.dig y)) ∧ wr.ownsRow B 5 1 (.slice Ao no co) no (bys (ds.map De.asc)) ∧ Below B w wr ∧ B ≤ wr.heap.size
def NPi7 (w : World) (B x y : Nat) (Q : List Nat) (A : Option Addr) (n c no0 : Nat) (i o p : Value) (wr : World) : Prop :=
  ∃ (k r : Nat) (ds : List Nat) (Ao : Option Addr) (co : Nat), k ≤ 7 ∧ i = .int .i64 (k : Int) ∧ o = .slice Ao (no0 + k) co ∧ p = .int .i64 (r : Int) ∧ r < 10000000 ∧ Hid (r < 10 ^ (7 - k)) ∧ Hid (De.Lim ds ∧ ds.length = no0 + k ∧ De.val ds + 10 ^ (no0 + k) * (r + 10 ^ (7 - k) * y) = x) ∧ Apart (.slice A n c) (.slice Ao (no0 + k) co) ∧
    wr.ownsRow B 3 1 (.slice A n c) n (nats Q) ∧ wr.ownsRow B 5 1 (.slice Ao (no0 + k) co) (no0 + k) (bys (ds.map De.asc)) ∧ Below B w wr ∧ B ≤ wr.heap.size
theorem infoB' : (Tryd.prog.info? 5).map (fun i => (i.zero, i.size, i.bytes)) = some (some (.int .u8 0), 1, 1) := by kernel_rfl
end Go.Proofs.YtpcmbmabmfghkaaDoor
