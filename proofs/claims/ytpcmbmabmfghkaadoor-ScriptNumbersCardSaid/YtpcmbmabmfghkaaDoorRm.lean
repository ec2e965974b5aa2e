/- XRa XRb XRc XRd joined. -/
import Derived.Test.YtpcmbmabmfghkaaDoorOx
import Derived.Test.YtpcmbmabmfghkaaDoorNRm
import Derived.Deep.Cut
/- The document's Cmp, Sub of numbers. -/
namespace Go.Proofs.YtpcmbmabmfghkaaDoor
open Go.RowKit
set_option linter.unusedVariables false
set_option maxRecDepth 100000
end Go.Proofs.YtpcmbmabmfghkaaDoor

/- The document's times, less of numbers. -/
namespace Go.Proofs.YtpcmbmabmfghkaaDoor
open Go.RowKit Go.Sort
set_option linter.unusedVariables false
set_option maxRecDepth 100000
/-- what a call leaves that hands back a number of its own -/
def FreshS (w : World) (l : List Nat) (en : Ending) (w' : World) : Prop :=
  ∃ (A : Option Addr) (n c : Nat), en = .returned (.agg #[.slice A n c]) ∧ l.length = n ∧ n ≤ c ∧ w'.ownsRow w.heap.size 3 1 (.slice A n c) n (nats l) ∧ Below w.heap.size w w'
theorem freshS_of {w w' : World} {g : Option Nat} {M : List (Nat × Value)} {L : List Ob} {O : List Rw} (h : Ow w w' g M L O) (i : Nat) {A : Option Addr} {n c : Nat} {l : List Nat} (hi : O[i]? = some ⟨A, n, c, 3, nats l⟩) : FreshS w l (.returned (.agg #[.slice A n c])) w' := by
  have ho := h.row i hi
  exact ⟨A, n, c, rfl, by have := own_len ho; rwa [nats_length] at this, (own_cap ho).1, ho, h.below⟩
theorem Ow.trimmed {w0 w : World} {g : Option Nat} {M : List (Nat × Value)} {L : List Ob} {O : List Rw} (h : Ow w0 w g M L O) (i : Nat) {A : Option Addr} {n c : Nat} {l : List Nat} (hi : O[i]? = some ⟨A, n, c, 3, nats l⟩) (hl : Na.Lim l) {k x : Nat} (hk : Na.tl l l.length = k) (hx : Na.val l = x) : Ow w0 w g M L (O.set i ⟨A, k, c, 3, nats (Na.dig x)⟩) := by
  have hn := own_len (h.row i hi)
  rw [nats_length] at hn
  have h1 := h.cut i hi (k := k) (by rw [← hk, ← hn]; exact Na.tl_le _ _)
  rw [nats_take] at h1
  have e := Na.trim_dig hl
  unfold Na.trim at e
  rw [hk, hx] at e
  rwa [e] at h1
/-- the state of a loop that cuts zeros off: the count and what stands -/
structure Cut (w0 wr : World) (g : Option Nat) (M : List (Nat × Value)) (L : List Ob) (O : List Rw) (l : List Nat) (k : Nat) : Prop where
  le : k ≤ l.length
  tl : Na.tl l k = Na.tl l l.length
def RTim (w : World) (M : List (Nat × Value)) (L : List Ob) (Y : List Nat) (n m : Nat) (i s cr : Value) (wr : World) : Prop :=
  ∃ (k c : Nat) (A : Option Addr) (ca : Nat) (o : List Nat), k ≤ n ∧ i = .int .i64 (k : Int) ∧ s = .slice A k ca ∧ cr = .int .i64 (c : Int) ∧ c < 16777216 ∧ Hid (o.length = k ∧ Na.Lim o ∧ Na.val o + 16777216 ^ k * c = Na.val (Y.take k) * m + 0) ∧ Hid (Ow w wr none M L [⟨A, k, ca, 3, nats o⟩])
end Go.Proofs.YtpcmbmabmfghkaaDoor

/- The document's less of numbers. -/
namespace Go.Proofs.YtpcmbmabmfghkaaDoor
open Go.RowKit Go.Sort
set_option linter.unusedVariables false
set_option maxRecDepth 100000
namespace Na
/-- the limbs while one is taken away: those done, one that is lent from, the rest -/
def lent (o : List Nat) (b : Nat) : List Nat → List Int
  | [] => up o
  | a :: r => up o ++ ((a : Int) - b) :: up r
theorem up_append (o r : List Nat) : up (o ++ r) = up o ++ up r := by simp [up]
theorem up_cons (a : Nat) (r : List Nat) : up (a :: r) = (a : Int) :: up r := rfl
theorem lent_len (o : List Nat) (b : Nat) (R : List Nat) : (lent o b R).length = o.length + R.length := by
  cases R with
  | nil => exact up_length o
  | cons a r => simp [lent, up_length]
theorem lent_get (o : List Nat) (b a : Nat) (r : List Nat) : (lent o b (a :: r))[o.length]? = some ((a : Int) - b) := by
  rw [lent, List.getElem?_append_right (by rw [up_length]; exact Nat.le_refl _), up_length, Nat.sub_self]; rfl
theorem lent_set (o : List Nat) (b a : Nat) (r : List Nat) (v : Int) : (lent o b (a :: r)).set o.length v = up o ++ v :: up r := by
  rw [lent, List.set_append_right _ _ (by rw [up_length]; exact Nat.le_refl _), up_length, Nat.sub_self]; rfl
theorem mid_set (o r : List Nat) (u v : Int) : (up o ++ u :: up r).set o.length v = up o ++ v :: up r := by
  rw [List.set_append_right _ _ (by rw [up_length]; exact Nat.le_refl _), up_length, Nat.sub_self]; rfl
theorem mid_get (o r : List Nat) (u : Int) : (up o ++ u :: up r)[o.length]? = some u := by
  rw [List.getElem?_append_right (by rw [up_length]; exact Nat.le_refl _), up_length, Nat.sub_self]; rfl
theorem mid_get1 (o r : List Nat) (u : Int) (a : Nat) : (up o ++ u :: up (a :: r))[o.length + 1]? = some (a : Int) := by
  rw [List.getElem?_append_right (by rw [up_length]; exact Nat.le_succ _), up_length, Nat.add_sub_cancel_left]; rfl
theorem lent_zero (o r : List Nat) (d : Nat) : up o ++ (d : Int) :: up r = lent (o ++ [d]) 0 r := by
  cases r with
  | nil => rw [lent, up_append]; rfl
  | cons a r => rw [lent, up_append, List.append_assoc]; simp [up]
theorem lent_one (o r : List Nat) (d a : Nat) : (up o ++ (d : Int) :: up (a :: r)).set (o.length + 1) ((a : Int) - 1) = lent (o ++ [d]) 1 (a :: r) := by
  rw [List.set_append_right _ _ (by rw [up_length]; exact Nat.le_succ _), up_length, Nat.add_sub_cancel_left, lent, up_append, List.append_assoc]; rfl
theorem lent_nil (o : List Nat) (b : Nat) : ints (lent o b []) = nats o := nats_up o
theorem lent_start (X : List Nat) : ints (lent [] 0 X) = nats X := by
  cases X with
  | nil => rfl
  | cons a r =>
    rw [← nats_up]
    have : lent [] 0 (a :: r) = up (a :: r) := by rw [lent, up_cons]; simp [up]
    rw [this]
end Na
theorem ints_set (l : List Int) (k : Nat) (b : Int) : (ints l).set k (.int .i64 b) = ints (l.set k b) := by unfold ints; rw [List.map_set]; rfl
theorem own_int {w : World} {base n c g : Nat} {e : TypeId} {l : List Int} (h : w.ownsRow base e 1 (.slice (some ⟨g, 0, none⟩) n c) n (ints l)) {k : Nat} {b : Int} (hk : l[k]? = some b) : w.cell? ⟨g, k, none⟩ = some (.int .i64 b) := by
  have hl := own_len h
  rw [ints_length] at hl
  rw [h.cellAt k (by have := get_lt hk; omega)]
  unfold ints
  rw [List.getElem?_map, hk]
  rfl
/-- a contract of a call that only lays blocks, met behind some draws and blocks -/
theorem regrown_call {P : Program} {f : FuncId} {args : Array Value} {w : World} {v : Value} (h : ∀ W, Below w.heap.size w W → Calls P f args W fun e w' => e = .returned v ∧ Below W.heap.size W w') (d : Nat) (os : Array Obj) : Calls P f args (grow (redrawn w d) os) fun e w'' => e = .returned v ∧ ∃ p : Regrown, w'' = grow (redrawn w p.d) p.os :=
  Calls.regrown_of (h _ (below_regrown w d os))
theorem regrown_below {w W : World} (h : ∃ p : Regrown, W = grow (redrawn w p.d) p.os) : Below w.heap.size w W := by
  obtain ⟨p, rfl⟩ := h
  exact below_regrown _ _ _
def RLess (w : World) (M : List (Nat × Value)) (L : List Ob) (X Y : List Nat) (n : Nat) (A : Option Addr) (ca : Nat) (i : Value) (wr : World) : Prop :=
  ∃ (k b : Nat) (o : List Nat), k ≤ n ∧ i = .int .i64 (k : Int) ∧ b ≤ 1 ∧ Hid (o.length = k ∧ Na.Lim o ∧ Na.val o + Na.val (Y.take k) = Na.val (X.take k) + 16777216 ^ k * b) ∧ Hid (Ow w wr none M L [⟨A, n, ca, 3, ints (Na.lent o b (X.drop k))⟩])
theorem own_blk0 {w0 w : World} {g : Option Nat} {M : List (Nat × Value)} {L : List Ob} {gb n c : Nat} {e : TypeId} {vs : List Value} {O : List Rw} (h : Ow w0 w g M L (⟨some ⟨gb, 0, none⟩, n, c, e, vs⟩ :: O)) : gb < w.heap.size := (h.lt (i := 0) rfl (b := gb) rfl).1
end Go.Proofs.YtpcmbmabmfghkaaDoor

/- Contracts over owned lists; the document's Sub of numbers. -/
namespace Go.Proofs.YtpcmbmabmfghkaaDoor
open Go.RowKit Go.Sort
set_option linter.unusedVariables false
set_option maxRecDepth 100000
section
variable {w0 w w' : World} {g : Option Nat} {M : List (Nat × Value)} {L : List Ob} {O : List Rw} {A A2 : Option Addr} {n c m c2 x y : Nat}
theorem Ow.addN (h : Ow w0 w g M L O) {l : List Nat} {e : Int} {en : Ending} (hr : ResN w l e en w') : ∃ (A : Option Addr) (n c : Nat), en = .returned (.tuple #[.agg #[.slice A n c], .int .i64 e]) ∧ l.length = n ∧ Ow w0 w' g M L (O ++ [⟨A, n, c, 3, nats l⟩]) := by
  obtain ⟨A, n, c, rfl, hn, ho, hb⟩ := hr
  exact ⟨A, n, c, rfl, hn, h.add ho hb⟩
theorem Ow.pushN (h : Ow w0 w g M L O) {l : List Nat} {e : Int} {en : Ending} (hr : ResN w l e en w') (hl : l.length ≤ 1000) : ∃ (A : Option Addr) (n c : Nat), en = .returned (.tuple #[.agg #[.slice A n c], .int .i64 e]) ∧ l.length = n ∧ Ow w0 w' g M (L ++ [⟨A, n, c, nats l⟩]) O := by
  obtain ⟨A, n, c, rfl, hn, ho, hb⟩ := hr
  exact ⟨A, n, c, rfl, hn, h.push ho (by omega) hb⟩
theorem Ow.pushS (h : Ow w0 w g M L O) {l : List Nat} {en : Ending} (hr : FreshS w l en w') (hl : l.length ≤ 1000) : ∃ (A : Option Addr) (n c : Nat), en = .returned (.agg #[.slice A n c]) ∧ l.length = n ∧ Ow w0 w' g M (L ++ [⟨A, n, c, nats l⟩]) O := by
  obtain ⟨A, n, c, rfl, hn, _, ho, hb⟩ := hr
  exact ⟨A, n, c, rfl, hn, h.push ho (by omega) hb⟩
theorem resN_of (h : Ow w w' g M L O) (i : Nat) {l : List Nat} (hi : O[i]? = some ⟨A, n, c, 3, nats l⟩) (e : Int) : ResN w l e (.returned (.tuple #[.agg #[.slice A n c], .int .i64 e])) w' := by
  have ho := h.row i hi
  exact ⟨A, n, c, rfl, by have := own_len ho; rwa [nats_length] at this, ho, h.below⟩
theorem nats_eq {zs : List Int} (hs : Sl w w.heap.size A (ints zs)) (e : zs = Na.up (Na.dig x)) : Sl w w.heap.size A (nats (Na.dig x)) := by rw [e, nats_up] at hs; exact hs
end
def RSub (w : World) (M : List (Nat × Value)) (L : List Ob) (X Y : List Nat) (n : Nat) (i s bw : Value) (wr : World) : Prop :=
  ∃ (k b : Nat) (A : Option Addr) (ca : Nat) (o : List Nat), k ≤ n ∧ i = .int .i64 (k : Int) ∧ s = .slice A k ca ∧ bw = .int .i64 (b : Int) ∧ b ≤ 1 ∧ Hid (o.length = k ∧ Na.Lim o ∧ Na.val o + Na.val (Y.take k) = Na.val (X.take k) + 16777216 ^ k * b) ∧ Hid (Ow w wr none M L [⟨A, k, ca, 3, nats o⟩])
end Go.Proofs.YtpcmbmabmfghkaaDoor
