/- Memory words: a slice that reads as a list; a row that the call owns; appends and makes in one form. For any program. -/
import Derived.Test.YtpcmbmabmfghkaaDoorKit
import Derived.Below
import Derived.OwnWalk
import Derived.Laws.OwnMore
import Derived.Laws.Rows
import Derived.Deep.AppendLies
import Derived.Maps.AppendAt
namespace Go.Proofs.YtpcmbmabmfghkaaDoor
open Go.RowKit

/-- The slice at A holds the values xs, in blocks below B. -/
def Sl (w : World) (B : Nat) (A : Option Addr) (xs : List Value) : Prop :=
  0 < xs.length → ∃ ad, A = some ad ∧ ad.block < B ∧ ∀ j u, xs[j]? = some u → w.cell? (ad.add j) = some u

theorem add_block (a : Addr) (n : Nat) : (a.add n).block = a.block := by unfold Addr.add; split <;> rfl
theorem add_add (a : Addr) (i j : Nat) : (a.add i).add j = a.add (i + j) := by
  unfold Addr.add
  rcases Nat.eq_zero_or_pos i with rfl | hi
  · simp
  · rcases Nat.eq_zero_or_pos j with rfl | hj
    · simp
    · rw [if_neg (by omega), if_neg (by omega), if_neg (by omega)]
      simp [Nat.add_assoc]

section
variable {w w' : World} {B B' : Nat} {A : Option Addr} {xs : List Value}
theorem Sl.nil (w : World) (B : Nat) (A : Option Addr) : Sl w B A [] := fun h => absurd h (by simp)
theorem Sl.at_ (h : Sl w B A xs) {k : Nat} (hk : k < xs.length) : ∃ ad, A = some ad ∧ ad.block < B ∧ w.cell? (ad.add k) = some xs[k] := by
  obtain ⟨ad, e, hb, hc⟩ := h (by omega)
  exact ⟨ad, e, hb, hc k _ (List.getElem?_eq_getElem hk)⟩
theorem Sl.keep (h : Sl w B A xs) (hk : ∀ p : Addr, p.block < B → w'.cell? p = w.cell? p) : Sl w' B A xs := fun hn => by
  obtain ⟨ad, e, hb, hc⟩ := h hn
  exact ⟨ad, e, hb, fun j u hu => (hk _ (by rw [add_block]; exact hb)).trans (hc j u hu)⟩
theorem Sl.more (h : Sl w B A xs) (hB : B ≤ B') : Sl w B' A xs := fun hn => by
  obtain ⟨ad, e, hb, hc⟩ := h hn
  exact ⟨ad, e, by omega, hc⟩
theorem Sl.below (h : Sl w B A xs) (hb : Below B w w') : Sl w' B A xs := h.keep fun _ hp => hb.cell hp
theorem Sl.drewN (h : Sl w B A xs) (k : Nat) : Sl (w.drewN k) B A xs := h
theorem Sl.alloc (h : Sl w B A xs) (hB : B ≤ w.heap.size) (o : Obj) : Sl (w.alloc o) B A xs := h.below ((Below.refl B w).alloc hB o)
theorem Sl.grown (h : Sl w B A xs) {row : Option Nat} (hg : w.grownBy w' row) (hB : B ≤ w.heap.size) (hr : ∀ g, row = some g → B ≤ g) : Sl w' B A xs :=
  h.keep fun p hp => World.cell?_of_block (hg.block p.block (by omega) (fun e => by have := hr _ e.symm; omega))
theorem Sl.take (h : Sl w B A xs) (k : Nat) : Sl w B A (xs.take k) := fun hn => by
  obtain ⟨ad, e, hb, hc⟩ := h (by rw [List.length_take] at hn; omega)
  refine ⟨ad, e, hb, fun j u hu => hc j u ?_⟩
  rw [List.getElem?_take] at hu
  split at hu
  · exact hu
  · cases hu
theorem Sl.drop (h : Sl w B A xs) (k : Nat) : Sl w B (A.map (·.add k)) (xs.drop k) := fun hn => by
  obtain ⟨ad, e, hb, hc⟩ := h (by rw [List.length_drop] at hn; omega)
  subst e
  refine ⟨ad.add k, rfl, by rw [add_block]; exact hb, fun j u hu => ?_⟩
  rw [add_add]
  exact hc _ u (by rw [← hu, List.getElem?_drop])
theorem Sl.of_own {base : Nat} {e : TypeId} {n c : Nat} (h : w.ownsRow base e 1 (.slice A n c) n xs) : Sl w w.heap.size A xs := fun hn => by
  have hl : 0 < n := by have := h.1; omega
  obtain ⟨g, cap, hv, _, hlt⟩ := h.form hl
  have hA : A = some ⟨g, 0, none⟩ := by injection hv
  subst hA
  exact ⟨_, rfl, hlt, h.cells (g := g) rfl⟩
end

/-! Owned rows, their elements of one cell each. -/
section
variable {w w' : World} {base n c : Nat} {e : TypeId} {A : Option Addr} {xs : List Value}
theorem own_len (h : w.ownsRow base e 1 (.slice A n c) n xs) : xs.length = n := by have := h.1; omega
theorem own_form (h : w.ownsRow base e 1 (.slice A n c) n xs) (hn : 0 < n) : ∃ g, A = some ⟨g, 0, none⟩ ∧ base ≤ g ∧ g < w.heap.size := by
  obtain ⟨g, cap, hv, hb, hlt⟩ := h.form hn
  injection hv with h1 h2 h3
  exact ⟨g, h1, hb, hlt⟩
theorem own_cap (h : w.ownsRow base e 1 (.slice A n c) n xs) : n ≤ c ∧ c ≤ maxLen := by
  rcases h.2 with ⟨h', h0⟩ | ⟨g', cap', cur, h', hb, hg, hnc, hcm, hcs, htake⟩
  · injection h' with h1 h2 h3
    subst h0 h3
    exact ⟨Nat.le_refl _, by unfold maxLen; omega⟩
  · injection h' with h1 h2 h3
    subst h3
    exact ⟨hnc, hcm⟩
theorem own_block (h : w.ownsRow base e 1 (.slice A n c) n xs) : ∀ g, (Value.slice A n c).ownBlock = some g → base ≤ g := fun g hg => (h.lt g hg).1
/-- a shorter piece from the head on -/
theorem own_take (h : w.ownsRow base e 1 (.slice A n c) n xs) {k : Nat} (hk : k ≤ n) : w.ownsRow base e 1 (.slice A k c) k (xs.take k) := by
  have hl := own_len h
  refine ⟨by rw [List.length_take, hl]; omega, ?_⟩
  rcases h.2 with ⟨h', h0⟩ | ⟨g', cap', cur, h', hb, hg, hnc, hcm, hcs, htake⟩
  · injection h' with h1 h2 h3
    subst h0 h1 h3
    left
    have : k = 0 := by omega
    subst this
    exact ⟨rfl, rfl⟩
  · injection h' with h1 h2 h3
    subst h1 h3
    right
    refine ⟨g', c, cur, rfl, hb, hg, by omega, hcm, hcs, ?_⟩
    rw [← htake, List.take_take]
    congr 1
    omega
theorem own_more {base' : Nat} (h : w.ownsRow base e 1 (.slice A n c) n xs) (hb : base' ≤ base) : w.ownsRow base' e 1 (.slice A n c) n xs := by
  refine ⟨h.1, ?_⟩
  rcases h.2 with h' | ⟨g', cap', cur, h', hb', r⟩
  · exact .inl h'
  · exact .inr ⟨g', cap', cur, h', by omega, r⟩
/-- a nil or fresh row is not touched by what turns another block -/
theorem own_keep (h : w.ownsRow base e 1 (.slice A n c) n xs) {row : Option Nat} (hg : w.grownBy w' row) (hne : (Value.slice A n c).ownBlock = none ∨ (Value.slice A n c).ownBlock ≠ row) : w'.ownsRow base e 1 (.slice A n c) n xs := h.kept hg hne
theorem own_below (h : w.ownsRow base e 1 (.slice A n c) n xs) (hb : Below w.heap.size w w') : w'.ownsRow base e 1 (.slice A n c) n xs :=
  h.kept (row := none) ⟨hb.os, hb.tape, hb.output, hb.size, fun k hk _ => hb.block k hk⟩ (by
    by_cases he : (Value.slice A n c).ownBlock = none
    · exact .inl he
    · exact .inr he)
theorem own_drewN (h : w.ownsRow base e 1 (.slice A n c) n xs) (k : Nat) : (w.drewN k).ownsRow base e 1 (.slice A n c) n xs := h
end

/-! 'append' and 'make', at the list of a plain region's operations. -/
section
variable {P : Program} (w : World)
theorem run_append_sl (base : Nat) (t ty e : TypeId) (i : TypeInfo) (z : Value) (bytes : Nat) (ht : P.underlying t = some (.slice e)) (hi : P.info? e = some i) (hz : i.zero = some z)
    (hsize : i.size = 1) (hby : i.bytes = bytes) (hzs : z.cells.size = 1)
    (A : Option Addr) (n c : Nat) (xs : List Value) (hown : w.ownsRow base e 1 (.slice A n c) n xs)
    (B : Nat) (A2 : Option Addr) (m c2 : Nat) (news : List Value) (hm : news.length = m) (hr : Sl w B A2 news) (h1 : ∀ u ∈ news, u.oneCell' = true)
    (h63 : n + m ≤ maxLen) (hbytes : (n + m) * bytes ≤ 140737488355328) (hbase : base ≤ w.heap.size) :
    ∃ A' c' w', (Builtin.append_ #[t, t] ty #[.slice A n c, .slice A2 m c2]).run P w = .ok (.slice A' (n + m) c') w' ∧ w'.ownsRow base e 1 (.slice A' (n + m) c') (n + m) (xs ++ news) ∧ w.grownBy w' (Value.slice A n c).ownBlock ∧
      ((Value.slice A' (n + m) c').ownBlock = (Value.slice A n c).ownBlock ∨ (Value.slice A' (n + m) c').ownBlock = some w.heap.size) := by
  rcases A2 with _ | ad
  · have h0 : m = 0 := by
      rcases Nat.eq_zero_or_pos m with h0 | h0
      · exact h0
      · obtain ⟨ad, h, _⟩ := hr (by omega)
        cases h
    subst h0
    have hn : news = [] := List.eq_nil_of_length_eq_zero hm
    subst hn
    refine ⟨A, c, w, ?_, by simpa using hown, World.grownBy.refl w _, .inl rfl⟩
    rcases hown.2 with ⟨h', h0⟩ | ⟨g, cap, cur, h', _, _, hnc, _⟩
    · injection h' with a1 a2 a3
      subst a1 a2 a3
      simp [Builtin.append_, run_underlying ht, sizeOf, typeInfo, hi, Builtin.lenOf, Builtin.firstCells]
    · injection h' with a1 a2 a3
      subst a1 a3
      simp [Builtin.append_, run_underlying ht, sizeOf, typeInfo, hi, Builtin.lenOf, Builtin.firstCells, hnc, storeCells]
  · have hc : ∀ j u, news[j]? = some u → w.cell? (ad.add j) = some u := by
      rcases Nat.eq_zero_or_pos m with h0 | h0
      · have hn : news = [] := List.eq_nil_of_length_eq_zero (hm.trans h0)
        subst hn
        intro j u hu
        simp at hu
      · obtain ⟨ad', h, _, hc⟩ := hr (by omega)
        injection h with h
        subst h
        exact hc
    obtain ⟨v', w', hrun, h2, h3, _, h5⟩ := run_append_own_at (P := P) w base t ty e i z 1 bytes ht hi hz hsize hby hzs (by omega) _ n xs hown ad m c2 news (by omega) hc h1 h63 hbytes hbase
    have hf : ∃ A' c', v' = .slice A' (n + m) c' := by
      rcases h2.2 with ⟨h', h0⟩ | ⟨g, cap, cur, h', _⟩
      · exact ⟨none, 0, by rw [h', h0]⟩
      · exact ⟨_, _, h'⟩
    obtain ⟨A', c', rfl⟩ := hf
    exact ⟨_, _, w', hrun, h2, h3, h5⟩

theorem wp_append_sl {o : Oper} {a : Act} {K : Act → World → Prop} {Q : Exit → Act → World → Prop} (s x : Operand) (t : TypeId)
    (ho : o.op = .call { callee := .builtin .append, args := #[s, x], argTypes := #[t, t] })
    (base : Nat) (e : TypeId) (i : TypeInfo) (z : Value) (bytes : Nat) (ht : P.underlying t = some (.slice e)) (hi : P.info? e = some i) (hz : i.zero = some z)
    (hsize : i.size = 1) (hby : i.bytes = bytes) (hzs : z.cells.size = 1)
    (A : Option Addr) (n c : Nat) (xs : List Value) (hs : a.eval s = .slice A n c) (hown : w.ownsRow base e 1 (.slice A n c) n xs)
    (B : Nat) (A2 : Option Addr) (m c2 : Nat) (news : List Value) (hx : a.eval x = .slice A2 m c2) (hm : news.length = m) (hr : Sl w B A2 news) (h1 : ∀ u ∈ news, u.oneCell' = true)
    (h63 : n + m ≤ maxLen) (hbytes : (n + m) * bytes ≤ 140737488355328) (hbase : base ≤ w.heap.size)
    (h : ∀ A' c' w', w'.ownsRow base e 1 (.slice A' (n + m) c') (n + m) (xs ++ news) → w.grownBy w' (Value.slice A n c).ownBlock → ((Value.slice A' (n + m) c').ownBlock = (Value.slice A n c).ownBlock ∨ (Value.slice A' (n + m) c').ownBlock = some w.heap.size) → K (a.put o.dst (.slice A' (n + m) c')) w') : o.wp P a w K Q := by
  obtain ⟨A', c', w', hrun, h2, h3, h4⟩ := run_append_sl (P := P) w base t o.type e i z bytes ht hi hz hsize hby hzs A n c xs hown B A2 m c2 news hm hr h1 h63 hbytes hbase
  unfold Oper.wp execOp
  simp only [ho, resolve, invoke, builtin, Sem.run_bind, Sem.run_pure, Result.andThen_ok, List.map_toArray, List.map_cons, List.map_nil, hs, hx, hrun]
  exact h A' c' w' h2 h3 h4

theorem wpList_append_sl {ops : Array Oper} {rest : List Oper} {o : Oper} {a : Act} {Q : Exit → Act → World → Prop} (hgd : o.guard = none) (s x : Operand) (t : TypeId)
    (ho : o.op = .call { callee := .builtin .append, args := #[s, x], argTypes := #[t, t] })
    (base : Nat) (e : TypeId) (i : TypeInfo) (z : Value) (bytes : Nat) (ht : P.underlying t = some (.slice e)) (hi : P.info? e = some i) (hz : i.zero = some z)
    (hsize : i.size = 1) (hby : i.bytes = bytes) (hzs : z.cells.size = 1)
    (A : Option Addr) (n c : Nat) (xs : List Value) (hs : a.eval s = .slice A n c) (hown : w.ownsRow base e 1 (.slice A n c) n xs)
    (B : Nat) (A2 : Option Addr) (m c2 : Nat) (news : List Value) (hx : a.eval x = .slice A2 m c2) (hm : news.length = m) (hr : Sl w B A2 news) (h1 : ∀ u ∈ news, u.oneCell' = true)
    (h63 : n + m ≤ maxLen) (hbytes : (n + m) * bytes ≤ 140737488355328) (hbase : base ≤ w.heap.size)
    (h : ∀ A' c' w', w'.ownsRow base e 1 (.slice A' (n + m) c') (n + m) (xs ++ news) → w.grownBy w' (Value.slice A n c).ownBlock → ((Value.slice A' (n + m) c').ownBlock = (Value.slice A n c).ownBlock ∨ (Value.slice A' (n + m) c').ownBlock = some w.heap.size) → wpList P ops Q rest (a.put o.dst (.slice A' (n + m) c')) w') :
    wpList P ops Q (o :: rest) a w :=
  wpList_plain hgd fun _ hK => wp_append_sl w s x t ho base e i z bytes ht hi hz hsize hby hzs A n c xs hs hown B A2 m c2 news hx hm hr h1 h63 hbytes hbase fun A' c' w' h2 h3 h4 => hK _ _ (h A' c' w' h2 h3 h4)
end

/-- bytes as values -/
def encB (b : UInt8) : Value := .int .u8 (b.toNat : Int)
def bys (l : List UInt8) : List Value := l.map encB
theorem bys_length (l : List UInt8) : (bys l).length = l.length := List.length_map _
theorem bys_one (l : List UInt8) : ∀ u ∈ bys l, u.oneCell' = true := by
  intro u hu
  obtain ⟨b, _, rfl⟩ := List.mem_map.1 hu
  rfl
theorem bys_get (l : List UInt8) (k : Nat) (h : k < l.length) : (bys l)[k]'(by rw [bys_length]; exact h) = .int .u8 (l[k].toNat : Int) := by
  simp [bys, encB]
theorem Sl.byte {w : World} {B : Nat} {A : Option Addr} {l : List UInt8} (h : Sl w B A (bys l)) {k : Nat} {b : UInt8} (hk : l[k]? = some b) : ∃ ad, A = some ad ∧ ad.block < B ∧ w.cell? (ad.add k) = some (.int .u8 (b.toNat : Int)) := by
  have hlt : k < l.length := by
    rcases Nat.lt_or_ge k l.length with h | h
    · exact h
    · rw [List.getElem?_eq_none h] at hk; cases hk
  obtain ⟨ad, e, hb, hc⟩ := h (by rw [bys_length]; omega)
  exact ⟨ad, e, hb, hc k _ (by unfold bys; rw [List.getElem?_map, hk]; rfl)⟩
theorem own_byte {w : World} {base n c g : Nat} {e : TypeId} {l : List UInt8} (h : w.ownsRow base e 1 (.slice (some ⟨g, 0, none⟩) n c) n (bys l)) {k : Nat} {b : UInt8} (hk : l[k]? = some b) : w.cell? ⟨g, k, none⟩ = some (.int .u8 (b.toNat : Int)) := by
  have hl := own_len h
  rw [bys_length] at hl
  have hlt : k < l.length := by
    rcases Nat.lt_or_ge k l.length with h | h
    · exact h
    · rw [List.getElem?_eq_none h] at hk; cases hk
  rw [h.cellAt k (by omega)]
  unfold bys
  rw [List.getElem?_map, hk]
  rfl
theorem byte_at (l : List UInt8) (k : Nat) (h : k < l.length) : ∃ b : UInt8, l[k]? = some b := ⟨_, List.getElem?_eq_getElem h⟩
theorem int_eqv {k : IntKind} {a b : Int} (h : a = b) : (Value.int k a) = .int k b := by rw [h]
theorem u8_lt' (a : UInt8) : ((a.toNat : Nat) : Int) < 256 := by have := UInt8.toNat_lt a; omega
theorem ret_bool {a b : Bool} (h : a = b) : Ending.returned (.bool a) = .returned (.bool b) := by rw [h]
theorem u8_bne0 (b : UInt8) : ((b.toNat : Int) != 0) = (b != 0) := by
  rw [Bool.eq_iff_iff, bne_iff_ne, bne_iff_ne]
  constructor
  · intro h e
    subst e
    exact h rfl
  · intro h e
    exact h (UInt8.toNat_inj.1 (by simpa using e))
/-- the length of a slice value -/
def slen : Value → Nat
  | .slice _ n _ => n
  | _ => 0
theorem slen_slice (A : Option Addr) (n c : Nat) : slen (.slice A n c) = n := rfl
theorem nat_ne0 {n : Nat} (h : 0 < n) : ((n : Int) == 0) = false := by rw [beq_eq_false_iff_ne]; omega

/-- what a call leaves that hands back a slice of its own -/
def Fresh (e : TypeId) (w : World) (n : Nat) (xs : List Value) (en : Ending) (w' : World) : Prop := ∃ A c, en = .returned (.slice A n c) ∧ w'.ownsRow w.heap.size e 1 (.slice A n c) n xs ∧ Below w.heap.size w w'
theorem ret_fresh {e : TypeId} {w w' : World} {n m : Nat} {xs : List Value} {A : Option Addr} {c : Nat} (h : w'.ownsRow w.heap.size e 1 (.slice A m c) m xs) (hb : Below w.heap.size w w') (hm : m = n) : Fresh e w n xs (.returned (.slice A m c)) w' := by
  subst hm
  exact ⟨A, c, rfl, h, hb⟩
/-- an empty slice literal -/
theorem own_empty (w : World) (e : TypeId) : (w.alloc (.cells #[] e)).ownsRow w.heap.size e 1 (.slice (some ⟨w.heap.size, 0, none⟩) 0 0) 0 [] :=
  World.ownsRow_made w #[] 0 (Nat.le_refl _) (Nat.zero_le _) (by simp)
theorem below_only {w w' : World} {g : Nat} {B : Nat} (h : w.grownBy w' (some g)) (hB : B ≤ w.heap.size) (hg : B ≤ g) : Below B w w' := (Below.refl B w).grown h hB (fun k e => by cases e; exact hg)
theorem grown_trans {a b c : World} {row : Option Nat} (h : a.grownBy b row) (k : b.grownBy c row) : a.grownBy c row :=
  ⟨k.os.trans h.os, k.tape.trans h.tape, k.output.trans h.output, Nat.le_trans h.size k.size, fun i hi hn => (k.block i (Nat.lt_of_lt_of_le hi h.size) hn).trans (h.block i hi hn)⟩
theorem grown_drewN {a b : World} {row : Option Nat} (h : a.grownBy b row) (n : Nat) : a.grownBy (b.drewN n) row := ⟨h.os, h.tape, h.output, h.size, h.block⟩
theorem grown_drew {a b : World} {row : Option Nat} (h : a.grownBy b row) : a.grownBy b.drew row := ⟨h.os, h.tape, h.output, h.size, h.block⟩
theorem grown_far {a b c : World} {g : Option Nat} {row : Option Nat} (h : a.grownBy b g) (k : b.grownBy c row) (hr : ∀ x, row = some x → a.heap.size ≤ x) : a.grownBy c g :=
  ⟨k.os.trans h.os, k.tape.trans h.tape, k.output.trans h.output, Nat.le_trans h.size k.size, fun i hi hn => (k.block i (Nat.lt_of_lt_of_le hi h.size) (fun e => by have := hr i e.symm; omega)).trans (h.block i hi hn)⟩
theorem grown_alloc {a b : World} {g : Option Nat} (h : a.grownBy b g) (o : Obj) : a.grownBy (b.alloc o) g := grown_far h (World.grownBy_alloc b o none) (fun x e => by cases e)
theorem own_alloc {w : World} {base n c : Nat} {e : TypeId} {A : Option Addr} {xs : List Value} (h : w.ownsRow base e 1 (.slice A n c) n xs) (o : Obj) : (w.alloc o).ownsRow base e 1 (.slice A n c) n xs := h.alloc o
theorem own_grown {w w' : World} {base n c g : Nat} {e : TypeId} {A : Option Addr} {xs : List Value} (h : w.ownsRow base e 1 (.slice A n c) n xs) (hg : w.grownBy w' (some g)) (hb : g < base) : w'.ownsRow base e 1 (.slice A n c) n xs :=
  own_keep h hg (.inr (fun e => by have := own_block h _ e; omega))
theorem sl_new1 (w : World) (e : TypeId) (u : Value) : Sl (w.alloc (.cells #[u] e)) (w.heap.size + 1) (some ⟨w.heap.size, 0, none⟩) [u] := fun _ =>
  ⟨_, rfl, Nat.lt_succ_self _, cell_one_new _ _ _⟩
theorem below_of_grown {w w' : World} (h : w.grownBy w' none) : Below w.heap.size w w' := ⟨h.os, h.tape, h.output, h.size, fun k hk => h.block k hk (by simp)⟩
theorem bys_take (l : List UInt8) (k : Nat) : (bys l).take k = bys (l.take k) := by simp [bys, List.map_take]
theorem bys_snoc (l : List UInt8) (b : UInt8) : bys l ++ [.int .u8 (b.toNat : Int)] = bys (l ++ [b]) := by simp [bys, encB]
/-- 'make' of one-cell elements, for every world: an equation for a region that draws -/
theorem run_make_one {P : Program} (t e : TypeId) (i : TypeInfo) (z : Value) (ht : P.underlying t = some (.slice e)) (hi : P.info? e = some i) (hz : i.zero = some z) (hsz : i.size = 1)
    (kl kc : IntKind) (L C : Int) (n c : Nat) (hL : L = (n : Int)) (hC : C = (c : Int)) (hnc : n ≤ c) (hbytes : i.bytes * c ≤ 281474976710656) (h63 : c ≤ 9223372036854775807) (w : World) :
    (Instr.makeSlice t (.int kl L) (.int kc C)).run P w = .ok (.slice (some ⟨w.heap.size, 0, none⟩) n c) (w.alloc (.cells (madeCells z.cells c) e)) := by
  subst hL hC
  have hb : (i.bytes : Int) * (c : Int) ≤ 281474976710656 := by
    have h : ((i.bytes * c : Nat) : Int) ≤ 281474976710656 := by omega
    rwa [Int.natCast_mul] at h
  have hr := run_make (P := P) w t e i z ht hi hz kl kc n c (by omega) (by omega) hb (by omega)
  simp only [Int.toNat_natCast, hsz, Nat.mul_one] at hr
  exact hr
theorem own_made (w : World) (e : TypeId) (z : Value) (n c : Nat) (hz : z.cells = #[z]) (hnc : n ≤ c) (hc : c ≤ maxLen) :
    (w.alloc (.cells (madeCells z.cells c) e)).ownsRow w.heap.size e 1 (.slice (some ⟨w.heap.size, 0, none⟩) n c) n (List.replicate n z) := by
  have h := World.ownsRow_lit (base := w.heap.size) (e := e) (size := 1) w (madeCells z.cells c) c (Nat.le_refl _) hc (by rw [size_madeCells, Nat.mul_one])
  have h2 := own_take h hnc
  rw [hz, toList_madeCells_one, List.take_replicate, Nat.min_eq_left hnc] at h2
  rw [hz]
  exact h2
end Go.Proofs.YtpcmbmabmfghkaaDoor
