/- Lists that are held while other calls go on; the sanity check of layer 4. -/
import Derived.Test.YtkolmppfhpcdpaaDoorPolyN
import Derived.Test.YtkolmppfhpcdpaaDoorPolyO
import Derived.Test.YtkolmppfhpcdpaaDoorPolyL
import Derived.Test.YtkolmppfhpcdpaaDoorPolyC
import Derived.Test.YtkolmppfhpcdpaaDoorPolyD
import Derived.Test.YtkolmppfhpcdpaaDoorPolyF
import Derived.Test.YtkolmppfhpcdpaaDoorPolyG
import Derived.Test.YtkolmppfhpcdpaaDoorPolyJ
import Derived.Test.YtkolmppfhpcdpaaDoorDiceB
namespace Go.Proofs.YtkolmppfhpcdpaaDoor
open Go.RowKit
set_option linter.unusedVariables false
set_option maxRecDepth 100000
structure Ob where
  A : Option Addr
  n : Nat
  c : Nat
  l : List UInt8
/-- what is held: lists that can be read, none in the block g -/
structure St (w0 w : World) (g : Option Nat) (L : List Ob) : Prop where
  below : Below w0.heap.size w0 w
  lt : ∀ x, g = some x → x < w.heap.size ∧ w0.heap.size ≤ x
  held : ∀ o ∈ L, o.l.length = o.n ∧ o.n ≤ o.c ∧ o.n ≤ 300 ∧ ∃ B, B ≤ w.heap.size ∧ Sl w B o.A (bys o.l) ∧ (∀ x, g = some x → 0 < o.n → ∀ ad, o.A = some ad → ad.block ≠ x)
theorem St.refl (w : World) : St w w none [] := ⟨Below.refl _ _, fun x e => (by cases e), fun o h => (by cases h)⟩
theorem below_trans {B : Nat} {a b c : World} (h : Below B a b) (k : Below b.heap.size b c) (hB : B ≤ a.heap.size) : Below B a c :=
  h.trans (k.mono (Nat.le_trans hB h.size))
theorem St.go {w0 w w' : World} {g : Option Nat} {L : List Ob} (h : St w0 w g L) (hb : Below w.heap.size w w') : St w0 w' g L :=
  ⟨below_trans h.below hb (Nat.le_refl _), fun x e => ⟨Nat.lt_of_lt_of_le (h.lt x e).1 hb.size, (h.lt x e).2⟩, fun o ho => by
    obtain ⟨h1, h2, h3, B, hB, hs, hne⟩ := h.held o ho
    exact ⟨h1, h2, h3, B, Nat.le_trans hB hb.size, hs.below (hb.mono hB), hne⟩⟩
theorem St.add {w0 w : World} {g : Option Nat} {L : List Ob} (h : St w0 w g L) {A : Option Addr} {n c B : Nat} {l : List UInt8} (hs : Sl w B A (bys l)) (hB : B ≤ w.heap.size) (hn : l.length = n) (hc : n ≤ c) (hl : n ≤ 300)
    (hne : ∀ x, g = some x → 0 < n → ∀ ad, A = some ad → ad.block ≠ x) : St w0 w g (L ++ [⟨A, n, c, l⟩]) :=
  ⟨h.below, h.lt, fun o ho => by
    rcases List.mem_append.1 ho with h1 | h1
    · exact h.held o h1
    · rw [List.mem_singleton] at h1
      subst h1
      exact ⟨hn, hc, hl, B, hB, hs, hne⟩⟩
theorem St.push {w0 w w' : World} {g : Option Nat} {L : List Ob} (h : St w0 w g L) {A : Option Addr} {n c : Nat} {l : List UInt8} (ho : w'.ownsRow w.heap.size 5 1 (.slice A n c) n (bys l)) (hn : l.length = n) (hl : n ≤ 300) (hb : Below w.heap.size w w') :
    St w0 w' g (L ++ [⟨A, n, c, l⟩]) :=
  (h.go hb).add (Sl.of_own ho) (Nat.le_refl _) hn (own_cap ho).1 hl (fun x e h0 ad hA hx => by
    obtain ⟨g', hg', h1, _⟩ := own_form ho h0
    rw [hA] at hg'
    obtain rfl := Option.some.inj hg'
    have := (h.lt x e).1
    simp only at hx
    omega)
theorem St.roll {w0 w w' : World} {x : Nat} {L : List Ob} (h : St w0 w (some x) L) (hg : w.grownBy w' (some x)) : St w0 w' (some x) L :=
  ⟨h.below.trans (below_only hg (Nat.le_trans (h.lt x rfl).2 (Nat.le_of_lt (h.lt x rfl).1)) (h.lt x rfl).2), fun y e => ⟨Nat.lt_of_lt_of_le (h.lt y e).1 hg.size, (h.lt y e).2⟩, fun o ho => by
    obtain ⟨h1, h2, h3, B, hB, hs, hne⟩ := h.held o ho
    refine ⟨h1, h2, h3, B, Nat.le_trans hB hg.size, fun hn => ?_, hne⟩
    obtain ⟨ad, hA, hbk, hcell⟩ := hs hn
    rw [bys_length, h1] at hn
    refine ⟨ad, hA, hbk, fun k u hu => ?_⟩
    rw [World.cell?_of_block (hg.block _ (by rw [add_block]; omega) (by rw [add_block]; intro e; exact hne x rfl hn ad hA (Option.some.inj e)))]
    exact hcell k u hu⟩
theorem St.sl {w0 w : World} {g : Option Nat} {L : List Ob} (h : St w0 w g L) {i : Nat} {A : Option Addr} {n c : Nat} {l : List UInt8} (hi : L[i]? = some ⟨A, n, c, l⟩) : l.length = n ∧ n ≤ c ∧ n ≤ 300 ∧ Sl w w.heap.size A (bys l) := by
  obtain ⟨h1, h2, h3, B, hB, hs, _⟩ := h.held _ (List.mem_of_getElem? hi)
  exact ⟨h1, h2, h3, hs.more hB⟩

/-- what a call leaves: one list more, and an error number -/
def GotE (w0 : World) (g : Option Nat) (L : List Ob) (l : List UInt8) (err : Int) (en : Ending) (w' : World) : Prop :=
  ∃ (A : Option Addr) (n c : Nat), en = .returned (.tuple #[.slice A n c, .int .i64 err]) ∧ St w0 w' g (L ++ [⟨A, n, c, l⟩]) ∧ l.length = n
def GotF (w0 : World) (g : Option Nat) (L : List Ob) (l : List UInt8) (en : Ending) (w' : World) : Prop :=
  ∃ (A : Option Addr) (n c : Nat), en = .returned (.slice A n c) ∧ St w0 w' g (L ++ [⟨A, n, c, l⟩]) ∧ l.length = n
theorem got_res {w0 w : World} {g : Option Nat} {L : List Ob} (h : St w0 w g L) {l l' : List UInt8} {e e' : Int} (hl : l = l') (he : e = e') (h3 : l'.length ≤ 300) {en : Ending} {w' : World} (hr : ResB w l e en w') : GotE w0 g L l' e' en w' := by
  subst hl he
  obtain ⟨A, n, c, rfl, hn, ho, hb⟩ := hr
  exact ⟨A, n, c, rfl, h.push ho hn (by omega) hb, hn⟩
theorem got_fresh {w0 w : World} {g : Option Nat} {L : List Ob} (h : St w0 w g L) {l l' : List UInt8} (hl : l = l') (h3 : l'.length ≤ 300) {en : Ending} {w' : World} (hr : FreshB w l en w') : GotF w0 g L l' en w' := by
  subst hl
  obtain ⟨A, n, c, rfl, hn, ho, hb⟩ := hr
  exact ⟨A, n, c, rfl, h.push ho hn (by omega) hb, hn⟩
section
variable {w0 w : World} {g : Option Nat} {L : List Ob} {A A2 : Option Addr} {n c m c2 : Nat} {p q : List UInt8}
theorem padd_st (h : St w0 w g L) (i j : Nat) (hi : L[i]? = some ⟨A, n, c, p⟩) (hj : L[j]? = some ⟨A2, m, c2, q⟩) (vp : Po.vld p = true) (vq : Po.vld q = true) :
    Calls Tryd.prog 18 #[.slice A n c, .slice A2 m c2] w (GotE w0 g L (Po.addV p q) 0) := by
  obtain ⟨h1, h2, h3, h4⟩ := h.sl hi
  obtain ⟨k1, k2, k3, k4⟩ := h.sl hj
  exact (padd_any A A2 n c m c2 p q w h1 k1 h4 k4 (by omega) (by omega)).mono fun en w' hr => got_res h (Po.addR_ok vp vq) (Po.errs_ok vp vq) (by have := Po.addV_len p q; omega) hr
theorem pmul_st (h : St w0 w g L) (i j : Nat) (hi : L[i]? = some ⟨A, n, c, p⟩) (hj : L[j]? = some ⟨A2, m, c2, q⟩) (vp : Po.vld p = true) (vq : Po.vld q = true) (hl : p.length + q.length - 1 ≤ 255) :
    Calls Tryd.prog 13 #[.slice A n c, .slice A2 m c2] w (GotE w0 g L (Po.mulV p q) 0) := by
  obtain ⟨h1, h2, h3, h4⟩ := h.sl hi
  obtain ⟨k1, k2, k3, k4⟩ := h.sl hj
  obtain ⟨e1, e2⟩ := Po.mulR_ok vp vq hl
  exact (pmul_any A A2 n c m c2 p q w h1 k1 h4 k4 (by omega) (by omega)).mono fun en w' hr => got_res h e1 e2 (by have := Po.mulV_len p q; omega) hr
theorem derive_st (h : St w0 w g L) (i : Nat) (hi : L[i]? = some ⟨A, n, c, p⟩) :
    Calls Tryd.prog 16 #[.slice A n c] w (GotF w0 g L (Po.derR p)) := by
  obtain ⟨h1, h2, h3, h4⟩ := h.sl hi
  exact (derive_any A n c p w h1 h4 h2 (by omega)).mono fun en w' hr => got_fresh h rfl (by have := Po.derR_len p; omega) hr
theorem eval_st (h : St w0 w g L) (i : Nat) (hi : L[i]? = some ⟨A, n, c, p⟩) (x : UInt8) (xv : Int) (hx : xv = (x.toNat : Int)) (y : UInt8) (hy : Po.eval p x = y) :
    Calls Tryd.prog 15 #[.slice A n c, .int .u8 xv] w fun e w' => e = .returned (.int .u8 (y.toNat : Int)) ∧ St w0 w' g L := by
  subst hy
  obtain ⟨h1, h2, h3, h4⟩ := h.sl hi
  exact (eval_at A n c _ p x xv hx h1 (by omega) w h4 (Nat.le_refl _)).mono fun en w' ⟨he, hb⟩ => ⟨he, h.go hb⟩
theorem same_st (h : St w0 w g L) (i j : Nat) (hi : L[i]? = some ⟨A, n, c, p⟩) (hj : L[j]? = some ⟨A2, m, c2, q⟩) (e : p = q) :
    Calls Tryd.prog 19 #[.slice A n c, .slice A2 m c2] w fun e w' => e = .returned (.bool true) ∧ St w0 w' g L := by
  obtain ⟨h1, h2, h3, h4⟩ := h.sl hi
  obtain ⟨k1, k2, k3, k4⟩ := h.sl hj
  exact (same_any A A2 n c m c2 _ p q w h1 k1 h4 k4 (by omega) (by omega)).mono fun en w' ⟨he, hb⟩ => ⟨by rw [he, decide_eq_true e], h.go hb⟩
end
theorem add_zero (b j : Nat) : (⟨b, 0, none⟩ : Addr).add j = ⟨b, j, none⟩ := by
  unfold Addr.add
  split
  · rename_i h
    rw [h]
  · simp
theorem sl_new (w : World) (e : TypeId) (l : List UInt8) (b : Nat) (hb : b = w.heap.size) : Sl (w.alloc (.cells (bys l).toArray e)) (b + 1) (some ⟨b, 0, none⟩) (bys l) := fun hn =>
  ⟨_, rfl, Nat.lt_succ_self _, fun j u hu => by
    subst hb
    have h1 : (w.alloc (.cells (bys l).toArray e)).heap[w.heap.size]? = some (.cells (bys l).toArray e (0, 0)) := heap_alloc_new w _
    have h2 := cell_of_row (w.alloc (.cells (bys l).toArray e)) w.heap.size j (bys l).toArray e _ h1
    rw [List.getElem?_toArray, hu] at h2
    rw [add_zero]
    exact h2⟩
/-- dice give a polynomial -/
theorem poly_st {w0 w : World} {g B : Nat} {L : List Ob} (h : St w0 w (some g) L) (hd : Dice w g B) (most : Nat) (mv : Int) (hm : mv = (most : Int)) (h12 : most ≤ 255) :
    Calls Tryd.prog 17 #[.pointer (some ⟨g, 0, none⟩), .int .i64 mv] w fun en w' => ∃ (A : Option Addr) (n c : Nat) (l : List UInt8), en = .returned (.slice A n c) ∧ l.length = n ∧ n ≤ most ∧ Po.vld l = true ∧ Dice w' g B ∧ St w0 w' (some g) (L ++ [⟨A, n, c, l⟩]) := by
  subst hm
  refine (poly_any g B most w h12 hd).mono ?_
  rintro en w' ⟨A, n, c, l, he, hn, hm, hv, ho, hd', hg⟩
  refine ⟨A, n, c, l, he, hn, hm, hv, hd', (h.roll hg).add (Sl.of_own ho) (Nat.le_refl _) hn (own_cap ho).1 (by omega) fun x e h0 ad hA hx => ?_⟩
  obtain ⟨g', hg', h1, _⟩ := own_form ho h0
  rw [hA] at hg'
  obtain rfl := Option.some.inj hg'
  have := (h.lt x e).1
  simp only at hx
  omega
theorem roll_st (A : Option Addr) (n c : Nat) (ts : List Int) (w : World) (hn : ts.length = n) (hl : n ≤ 140737488355328) (hs : Sl w w.heap.size A (ints ts)) :
    Calls Tryd.prog 11 #[.slice A n c] w fun e w' => e = .returned (.pointer (some ⟨w.heap.size, 0, none⟩)) ∧ Dice w' w.heap.size w.heap.size ∧ St w w' (some w.heap.size) [] := by
  refine (roll_any A n c ts w hn hl hs).mono ?_
  rintro e w' ⟨he, hd, hz, hb⟩
  exact ⟨he, hd, hb, fun x e => by cases e; omega, fun o h => (by cases h)⟩
theorem light_yes (A : Option Addr) (n c : Nat) (w : World) (h : n ≤ 400) : Calls Tryd.prog 9 #[.slice A n c] w fun e w' => e = .returned (.bool true) ∧ w = w' := by
  have := light_any A n c w (by omega)
  rwa [decide_eq_true (show (n : Int) ≤ 400 by omega)] at this
theorem light_no (A : Option Addr) (n c : Nat) (w : World) (h : 400 < n) (hl : n ≤ 9223372036854775807) : Calls Tryd.prog 9 #[.slice A n c] w fun e w' => e = .returned (.bool false) ∧ w = w' := by
  have := light_any A n c w hl
  rwa [decide_eq_false (show ¬ (n : Int) ≤ 400 by omega)] at this
theorem awakeP_any (w : World) : Calls Tryd.prog 10 #[] w fun e w' => e = .returned (.bool true) ∧ Below w.heap.size w w' := by
  have HM : Hid (Po.mulR [1, 1] [1, 1] = [1, 0, 1]) := by unfold Hid; decide +kernel
  have HME : Hid (Po.mulE [1, 1] [1, 1] = 0) := by unfold Hid; decide +kernel
  have HR : Hid (Po.rootsR [1, 0, 1] = [1]) := by unfold Hid; decide +kernel
  have HS1 : Hid (Sl ((w.alloc (.cells #[.int .u8 1, .int .u8 1] 5)).alloc (.cells #[.int .u8 1, .int .u8 1] 5)) ((w.alloc (.cells #[.int .u8 1, .int .u8 1] 5)).alloc (.cells #[.int .u8 1, .int .u8 1] 5)).heap.size (some ⟨w.heap.size, 0, none⟩) (bys [1, 1])) := ((sl_new w 5 [1, 1] _ rfl).alloc (by simp) _).more (by simp)
  have HS2 : Hid (Sl ((w.alloc (.cells #[.int .u8 1, .int .u8 1] 5)).alloc (.cells #[.int .u8 1, .int .u8 1] 5)) ((w.alloc (.cells #[.int .u8 1, .int .u8 1] 5)).alloc (.cells #[.int .u8 1, .int .u8 1] 5)).heap.size (some ⟨w.heap.size + 1, 0, none⟩) (bys [1, 1])) := by
    have := (sl_new (w.alloc (.cells #[.int .u8 1, .int .u8 1] 5)) 5 [1, 1] (w.heap.size + 1) (by simp)).more (B' := ((w.alloc (.cells #[.int .u8 1, .int .u8 1] 5)).alloc (.cells #[.int .u8 1, .int .u8 1] 5)).heap.size) (by simp)
    exact this
  have HB : Hid (Below w.heap.size w ((w.alloc (.cells #[.int .u8 1, .int .u8 1] 5)).alloc (.cells #[.int .u8 1, .int .u8 1] 5))) := ((Below.refl _ _).alloc (Nat.le_refl _) _).alloc (by simp) _
  go_enter Tryd.func10, Tryd.ntmps10
  go_wp2_with fail
  refine (pmul_any _ _ 2 2 2 2 [1, 1] [1, 1] _ rfl rfl HS1.out HS2.out (by omega) (by omega)).mono ?_
  rw [HM.out, HME.out]
  rintro e w1 ⟨A, n, c, rfl, hn, ho, hb⟩
  obtain rfl : 3 = n := hn
  obtain ⟨g1, rfl, hg1, _⟩ := own_form ho (by omega)
  have HC1 := Lib.hid (own_byte ho (k := 1) (b := 0) rfl)
  have HC2 := Lib.hid (own_byte ho (k := 2) (b := 1) rfl)
  have HSl := Lib.hid (Sl.of_own ho)
  have hlt : g1 < w1.heap.size := by have := own_form ho (by omega); obtain ⟨g', he, _, h2⟩ := this; cases he; exact h2
  have HB1 : Hid (Below w.heap.size w w1) := below_trans HB.out hb (by simp)
  clear ho hb hg1
  go_wp2_with fail
  refine (roots_any _ 3 c [1, 0, 1] w1 rfl HSl.out (by omega)).mono ?_
  rw [HR.out]
  rintro e w2 ⟨A, n, c', rfl, hn, ho, hb⟩
  obtain rfl : 1 = n := hn
  obtain ⟨g2, rfl, hg2, _⟩ := own_form ho (by omega)
  have hc1 : w2.cell? ⟨g1, 1, none⟩ = some (.int .u8 0) := (hb.cell hlt).trans HC1.out
  have hc2 : w2.cell? ⟨g1, 2, none⟩ = some (.int .u8 1) := (hb.cell hlt).trans HC2.out
  have hc3 : w2.cell? ⟨g2, 0, none⟩ = some (.int .u8 1) := own_byte ho (k := 0) (b := 1) rfl
  have HB2 : Hid (Below w.heap.size w w2) := below_trans HB1.out hb (Nat.le_refl _)
  clear ho hb hg2 hlt
  go_wp2_with fail
  go_ret
  exact ⟨rfl, HB2.out⟩
end Go.Proofs.YtkolmppfhpcdpaaDoor
