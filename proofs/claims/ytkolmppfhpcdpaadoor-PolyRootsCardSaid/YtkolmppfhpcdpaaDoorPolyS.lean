/- What the rounds of PolyRoots keep. -/
import Derived.Test.YtkolmppfhpcdpaaDoorPolyP
import Derived.Test.YtkolmppfhpcdpaaDoorPolyR
namespace Go.Proofs.YtkolmppfhpcdpaaDoor
open Go.RowKit
set_option linter.unusedVariables false
set_option maxRecDepth 100000
def bls (l : List Bool) : List Value := l.map Value.bool
theorem infoL : (Tryd.prog.info? 4).map (fun i => (i.zero, i.size, i.bytes)) = some (some (.bool false), 1, 1) := by kernel_rfl
theorem made_bls (n : Nat) : (madeCells (Value.bool false).cells (n * 1)).toList = bls (List.replicate n false) := by
  show (madeCells #[.bool false] (n * 1)).toList = _
  rw [toList_madeCells_one, Nat.mul_one]
  simp [bls]
theorem own_bool {w : World} {base n c g : Nat} {e : TypeId} {l : List Bool} (h : w.ownsRow base e 1 (.slice (some ⟨g, 0, none⟩) n c) n (bls l)) {k : Nat} {b : Bool} (hk : l[k]? = some b) : w.cell? ⟨g, k, none⟩ = some (.bool b) := by
  have hl := own_len h
  have hl2 : l.length = n := by rw [← hl]; simp [bls]
  have hlt : k < l.length := by
    rcases Nat.lt_or_ge k l.length with h | h
    · exact h
    · rw [List.getElem?_eq_none h] at hk; cases hk
  rw [h.cellAt k (by omega)]
  unfold bls
  rw [List.getElem?_map, hk]
  rfl
theorem sl_other {w w' : World} {B : Nat} {A : Option Addr} {xs : List Value} {g : Nat} (h : Sl w B A xs) (hB : B ≤ w.heap.size) (hg : w.grownBy w' (some g)) (hne : ∀ ad, A = some ad → ad.block ≠ g) : Sl w' B A xs := fun hn => by
  obtain ⟨ad, hA, hbk, hcell⟩ := h hn
  refine ⟨ad, hA, hbk, fun k u hu => ?_⟩
  rw [World.cell?_of_block (hg.block _ (by rw [add_block]; omega) (by rw [add_block]; intro e; exact hne ad hA (Option.some.inj e)))]
  exact hcell k u hu
/-- what the rounds keep: the dice, the polynomial, the two tables -/
structure RK (w : World) (gT gW : Nat) (wr : World) (A : Option Addr) (n c : Nat) (l : List UInt8) (th tw : List Bool) : Prop where
  below : Below w.heap.size w wr
  dice : Dice wr w.heap.size w.heap.size
  sl : Sl wr wr.heap.size A (bys l)
  ne : ∀ ad, A = some ad → ad.block ≠ w.heap.size ∧ ad.block ≠ gT ∧ ad.block ≠ gW
  hT : wr.ownsRow (w.heap.size + 1) 4 1 (.slice (some ⟨gT, 0, none⟩) 256 256) 256 (bls th)
  hW : wr.ownsRow (w.heap.size + 1) 4 1 (.slice (some ⟨gW, 0, none⟩) 256 256) 256 (bls tw)
  ord : w.heap.size < gT ∧ gT < gW
  len : l.length = n ∧ n ≤ c
section
variable {w wr w' : World} {gT gW : Nat} {A : Option Addr} {n c : Nat} {l : List UInt8} {th tw : List Bool}
theorem RK.lT (h : RK w gT gW wr A n c l th tw) : gT < wr.heap.size := by
  obtain ⟨g, e, _, h2⟩ := own_form h.hT (by omega)
  cases e
  exact h2
theorem RK.lW (h : RK w gT gW wr A n c l th tw) : gW < wr.heap.size := by
  obtain ⟨g, e, _, h2⟩ := own_form h.hW (by omega)
  cases e
  exact h2
theorem RK.go (h : RK w gT gW wr A n c l th tw) (hb : Below wr.heap.size wr w') : RK w gT gW w' A n c l th tw :=
  ⟨below_trans h.below hb (Nat.le_refl _), h.dice.below hb, (h.sl.below hb).more hb.size, h.ne, own_below h.hT hb, own_below h.hW hb, h.ord, h.len⟩
theorem RK.next (h : RK w gT gW wr A n c l th tw) (hg : wr.grownBy w' (some w.heap.size)) (hd : Dice w' w.heap.size w.heap.size) : RK w gT gW w' A n c l th tw :=
  ⟨h.below.trans (below_only hg h.below.size (Nat.le_refl _)), hd, (sl_other h.sl (Nat.le_refl _) hg fun ad e => (h.ne ad e).1).more hg.size, h.ne, own_grown h.hT hg (by omega), own_grown h.hW hg (by omega), h.ord, h.len⟩
theorem RK.storeW (h : RK w gT gW wr A n c l th tw) (i : Nat) (b : Bool) : RK w gT gW (wr.setCell ⟨gW, i, none⟩ (.bool b)) A n c l th (tw.set i b) := by
  have hs := h.hW.stored i (.bool b)
  have hg : wr.grownBy (wr.setCell ⟨gW, i, none⟩ (.bool b)) (some gW) := hs.2
  have h0 := h.ord
  refine ⟨h.below.trans (below_only hg h.below.size (by omega)), h.dice.grown hg (fun x e => by cases e; omega), (sl_other h.sl (Nat.le_refl _) hg fun ad e => (h.ne ad e).2.2).more hg.size, h.ne, own_keep h.hT hg (.inr ?_), ?_, h.ord, h.len⟩
  · show some gT ≠ some gW
    intro e
    have := Option.some.inj e
    omega
  · have h1 := hs.1
    unfold bls at h1 ⊢
    rw [List.map_set]
    exact h1
theorem RK.storeT (h : RK w gT gW wr A n c l th tw) (i : Nat) (b : Bool) : RK w gT gW (wr.setCell ⟨gT, i, none⟩ (.bool b)) A n c l (th.set i b) tw := by
  have hs := h.hT.stored i (.bool b)
  have hg : wr.grownBy (wr.setCell ⟨gT, i, none⟩ (.bool b)) (some gT) := hs.2
  have h0 := h.ord
  refine ⟨h.below.trans (below_only hg h.below.size (by omega)), h.dice.grown hg (fun x e => by cases e; omega), (sl_other h.sl (Nat.le_refl _) hg fun ad e => (h.ne ad e).2.1).more hg.size, h.ne, ?_, own_keep h.hW hg (.inr ?_), h.ord, h.len⟩
  · have h1 := hs.1
    unfold bls at h1 ⊢
    rw [List.map_set]
    exact h1
  · show some gW ≠ some gT
    intro e
    have := Option.some.inj e
    omega
/-- another polynomial in its place -/
theorem RK.put (h : RK w gT gW wr A n c l th tw) {A' : Option Addr} {n' c' : Nat} {l' : List UInt8} (ho : w'.ownsRow wr.heap.size 5 1 (.slice A' n' c') n' (bys l')) (hl : l'.length = n') (hb : Below wr.heap.size wr w') : RK w gT gW w' A' n' c' l' th tw := by
  have h1 := h.go hb
  have hT := h.lT
  have hW := h.lW
  have h0 := h.below.size
  have h2 := h.dice.lt
  refine ⟨h1.below, h1.dice, Sl.of_own ho, fun ad e => ?_, h1.hT, h1.hW, h1.ord, hl, (own_cap ho).1⟩
  rcases Nat.eq_zero_or_pos n' with hn | hn
  · subst hn
    rcases ho.2 with ⟨h', _⟩ | ⟨g', cap', cur, h', hb', _⟩
    · injection h' with e1
      rw [e] at e1
      cases e1
    · injection h' with e1
      rw [e] at e1
      obtain rfl := Option.some.inj e1
      simp only
      omega
  · obtain ⟨g', hg', hb1, _⟩ := own_form ho hn
    rw [e] at hg'
    obtain rfl := Option.some.inj hg'
    simp only
    omega
end
/-- what the tables say of the polynomial -/
def Cov (l : List UInt8) (th tw : List Bool) : Prop := ∀ x : UInt8, (th[x.toNat]? = some true ↔ Po.eval l x = 0) ∧ (tw[x.toNat]? = some true → Po.eval l x = 0 ∧ Po.eval (Po.derR l) x = 0)
theorem cov_one : Cov [1] (List.replicate 256 false) (List.replicate 256 false) := fun x => by
  have hx := UInt8.toNat_lt x
  rw [Po.eval_one, List.getElem?_replicate, if_pos (by omega)]
  exact ⟨⟨fun h => (by cases h), fun h => absurd h (by decide)⟩, fun h => (by cases h)⟩
theorem get_set_if {α : Type} (l : List α) (i j : Nat) (v : α) (h : i < l.length) : (l.set i v)[j]? = if j = i then some v else l[j]? := by
  rw [List.getElem?_set]
  by_cases e : i = j
  · rw [if_pos e, if_pos e.symm, if_pos h]
  · rw [if_neg e, if_neg (fun x => e x.symm)]
theorem cov_times {l : List UInt8} {th tw : List Bool} (h : Cov l th tw) (r : UInt8) (b : Bool) (hb : th[r.toNat]? = some b) (h1 : th.length = 256) (h2 : tw.length = 256) (hl : l.length ≤ 12) : Cov (Po.mulV l [r, 1]) (th.set r.toNat true) (tw.set r.toNat b) := fun x => by
  have hr := UInt8.toNat_lt r
  obtain ⟨ha, hd⟩ := h x
  rw [Po.eval_times, get_set_if _ _ _ _ (by omega), get_set_if _ _ _ _ (by omega)]
  by_cases e : x = r
  · subst e
    rw [if_pos rfl, if_pos rfl]
    refine ⟨⟨fun _ => .inr rfl, fun _ => rfl⟩, fun e2 => ?_⟩
    rw [hb] at ha
    have h0 := ha.1 e2
    exact ⟨.inl h0, Po.eval_der_times l x x hl h0 (.inl rfl)⟩
  · have hne : x.toNat ≠ r.toNat := fun e2 => e (UInt8.toNat_inj.1 e2)
    rw [if_neg hne, if_neg hne]
    refine ⟨⟨fun h0 => .inl (ha.1 h0), fun h0 => ?_⟩, fun h0 => ?_⟩
    · rcases h0 with h0 | h0
      · exact ha.2 h0
      · exact absurd h0 e
    · exact ⟨.inl (hd h0).1, Po.eval_der_times l r x hl (hd h0).1 (.inr (hd h0).2)⟩
end Go.Proofs.YtkolmppfhpcdpaaDoor
