/- Tk Tl -/
import Derived.Test.YtjhaogbopmhkoaaDoorY21
import Derived.Laws.Rows
import Derived.Laws.Tables
namespace Go.Proofs.YtjhaogbopmhkoaaDoor
open Go.RowKit Go.Sort
set_option linter.unusedVariables false
set_option maxRecDepth 100000
/-- so many terms of the sum that joins two numbers of ways -/
def cvS (f q : Nat → Nat) (i : Nat) : Nat → Nat
  | 0 => 0
  | c + 1 => cvS f q i c + Na.bin i c * (f c * q (i - c))
def conv (f q : Nat → Nat) (i : Nat) : Nat := cvS f q i (i + 1)
/-- an array of numbers, as far as it matters -/
def Ways (L : List Ob) (vs : List Value) (n : Nat) (f : Nat → Nat) : Prop := vs.length = 41 ∧ ∀ i, i ≤ n → ∃ u, vs[i]? = some u ∧ NumIn L u (f i)
theorem Ways.more {L l : List Ob} {vs : List Value} {n : Nat} {f : Nat → Nat} (h : Ways L vs n f) : Ways (L ++ l) vs n f := ⟨h.1, fun i hi => by
  obtain ⟨u, a, b⟩ := h.2 i hi
  exact ⟨u, a, b.more⟩⟩
theorem cvS_two {f q : Nat → Nat} {i n e : Nat} (hf : ∀ k, k ≤ n → f k ≤ 2 ^ e) (hq : ∀ k, k ≤ n → q k ≤ 2 ^ e) (hi : i ≤ n) (hn : n ≤ 40) : ∀ c, c ≤ i + 1 → cvS f q i c ≤ c * 2 ^ (40 + (e + e))
  | 0, _ => Nat.zero_le _
  | c + 1, h => by
    have h1 := cvS_two (f := f) (q := q) hf hq hi hn c (by omega)
    have h2 : Na.bin i c * (f c * q (i - c)) ≤ 2 ^ (40 + (e + e)) := mul_two (up_two (bin_two i c) (by omega)) (mul_two (hf c (by omega)) (hq (i - c) (by omega)))
    show cvS f q i c + Na.bin i c * (f c * q (i - c)) ≤ _
    rw [Nat.succ_mul]
    omega
structure CvK (f q : Nat → Nat) (i k s : Nat) : Prop where
  st : s < Na.top
  b1 : Na.bin i k < Na.top
  b2 : f k < Na.top
  b3 : q (i - k) < Na.top
  b4 : Na.bin i k * f k < Na.top
  b5 : Na.bin i k * (f k * q (i - k)) < Na.top
  bs : s + Na.bin i k * (f k * q (i - k)) < Na.top
theorem cvK_of {f q : Nat → Nat} {i k n e : Nat} (he : e ≤ 1000) (hf : ∀ k, k ≤ n → f k ≤ 2 ^ e) (hq : ∀ k, k ≤ n → q k ≤ 2 ^ e) (hi : i ≤ n) (hn : n ≤ 40) (hk : k ≤ i) : CvK f q i k (cvS f q i k) := by
  have h1 := cvS_two (f := f) (q := q) hf hq hi hn (k + 1) (by omega)
  have h0 : cvS f q i (k + 1) = cvS f q i k + Na.bin i k * (f k * q (i - k)) := rfl
  have h2 : cvS f q i (k + 1) ≤ 2 ^ (6 + (40 + (e + e))) := by
    rw [Nat.pow_add]
    exact Nat.le_trans h1 (Nat.mul_le_mul_right _ (by show k + 1 ≤ 64; omega))
  have h3 : cvS f q i (k + 1) < Na.top := le_top h2 (by omega)
  have hb : Na.bin i k ≤ 2 ^ 40 := up_two (bin_two i k) (by omega)
  exact ⟨by omega, le_top hb (by omega), le_top (hf k (by omega)) (by omega), le_top (hq _ (by omega)) (by omega), le_top (mul_two hb (hf k (by omega))) (by omega), le_top (mul_two hb (mul_two (hf k (by omega)) (hq _ (by omega)))) (by omega), by rw [h0] at h3; exact h3⟩
/-- values of one cell each -/
def AllOne (va : Array Value) : Prop := va.all (·.oneCell') = true
/-- the array that is made: the numbers of ways up to i, and zeros -/
def Made (L : List Ob) (xs : List Value) (f q : Nat → Nat) (i : Nat) : Prop := xs.length = 41 ∧ (∀ z, z < i → ∃ u, xs[z]? = some u ∧ NumIn L u (conv f q z)) ∧ ∀ z, i ≤ z → z < 41 → xs[z]? = some (.slice none 0 0)
theorem Made.more {L l : List Ob} {xs : List Value} {f q : Nat → Nat} {i : Nat} (h : Made L xs f q i) : Made (L ++ l) xs f q i := ⟨h.1, fun z hz => by
  obtain ⟨u, a, b⟩ := h.2.1 z hz
  exact ⟨u, a, b.more⟩, h.2.2⟩
theorem Made.one {L : List Ob} {xs : List Value} {f q : Nat → Nat} {i : Nat} (h : Made L xs f q i) (hi : i ≤ 41) : xs.toArray.all (·.oneCell') = true := by
  rw [Array.all_eq_true_iff_forall_mem]
  intro v hv
  obtain ⟨z, hz, rfl⟩ := List.getElem_of_mem (by simpa using hv)
  rcases Nat.lt_or_ge z i with h1 | h1
  · obtain ⟨u, a, A, n, c, t, e, _⟩ := h.2.1 z h1
    rw [List.getElem?_eq_getElem hz] at a
    rw [Option.some.inj a, e]; rfl
  · have a := h.2.2 z h1 (by rw [← h.1]; exact hz)
    rw [List.getElem?_eq_getElem hz] at a
    rw [Option.some.inj a]; rfl
theorem Made.set {L : List Ob} {xs : List Value} {f q : Nat → Nat} {i : Nat} {v : Value} (h : Made L xs f q i) (hi : i < 41) (hv : NumIn L v (conv f q i)) : Made L (xs.set i v) f q (i + 1) := by
  refine ⟨by rw [List.length_set]; exact h.1, fun z hz => ?_, fun z h1 h2 => by rw [List.getElem?_set_ne (by omega)]; exact h.2.2 z (by omega) h2⟩
  rcases Nat.lt_or_ge z i with h1 | h1
  · obtain ⟨u, a, b⟩ := h.2.1 z h1
    exact ⟨u, by rw [List.getElem?_set_ne (by omega)]; exact a, b⟩
  · obtain rfl : z = i := by omega
    exact ⟨v, List.getElem?_set_self (by rw [h.1]; exact hi), hv⟩
def RJo (w0 : World) (g : Option Nat) (M : List (Nat × Value)) (L : List Ob) (O : List Rw) (ab bb rb ob : Nat) (la lb lr : List Value) (f q : Nat → Nat) (nn : Nat) (v : Value) (wr : World) : Prop :=
  ∃ (i : Nat) (xs : List Value) (Ls : List Ob), i ≤ nn + 1 ∧ v = .int .i64 (i : Int) ∧ Hid (Made (L ++ Ls) xs f q i) ∧ Hid (Ow w0 wr g M (L ++ Ls) (O ++ [⟨some ⟨ab, 0, none⟩, 41, 41, 71, la⟩, ⟨some ⟨bb, 0, none⟩, 41, 41, 71, lb⟩, ⟨some ⟨rb, 0, none⟩, 41, 41, 71, lr⟩, ⟨some ⟨ob, 0, none⟩, 41, 41, 71, xs⟩]))
def RJi (w0 : World) (g : Option Nat) (M : List (Nat × Value)) (L : List Ob) (O : List Rw) (ab bb rb ob : Nat) (la lb lr xs : List Value) (f q : Nat → Nat) (i : Nat) (v : Value) (wr : World) : Prop :=
  ∃ (k : Nat) (va : Value) (Ls : List Ob), k ≤ i + 1 ∧ v = .int .i64 (k : Int) ∧ Hid (NumIn (L ++ Ls) va (cvS f q i k) ∧ Made (L ++ Ls) xs f q i) ∧ Hid (Ow w0 wr g M (L ++ Ls) (O ++ [⟨some ⟨ab, 0, none⟩, 41, 41, 71, la⟩, ⟨some ⟨bb, 0, none⟩, 41, 41, 71, lb⟩, ⟨some ⟨rb, 0, none⟩, 41, 41, 71, lr⟩, ⟨some ⟨ob, 0, none⟩, 41, 41, 71, xs.set i va⟩]))
structure JK (w0 : World) (g : Option Nat) (M : List (Nat × Value)) (L : List Ob) (O : List Rw) (ab bb rb ob : Nat) (la lb lr xs : List Value) (sad ad : Addr) (As : Option Addr) (nn i k ik : Nat) (X1 : Option Addr) (a1 b1 : Nat) (X2 : Option Addr) (a2 b2 : Nat) (X3 : Option Addr) (a3 b3 : Nat) (AS : Option Addr) (nS cS : Nat) (x1 x2 x3 s : Nat) (Ld : Nat → Bool) (u0 u1 u2 u3 u4 u5 u6 u7 u8 u9 u10 u11 u12 u13 u14 u15 u16 u17 u18 u19 u20 u21 u22 : Value) (va : Value) (Ls : List Ob) (W : World) : Prop where
  ow : Ow w0 W g (M) (L ++ Ls) (O ++ [⟨some ⟨ab, 0, none⟩, 41, 41, 71, la⟩, ⟨some ⟨bb, 0, none⟩, 41, 41, 71, lb⟩, ⟨some ⟨rb, 0, none⟩, 41, 41, 71, lr⟩, ⟨some ⟨ob, 0, none⟩, 41, 41, 71, xs.set i va⟩])
  h0 : Ld 0 = true → u0 = .int .i64 (i : Int)
  h1 : Ld 1 = true → u1 = .int .i64 (i : Int)
  h2 : Ld 2 = true → u2 = .pointer (some ⟨ob, i, none⟩)
  h3 : Ld 3 = true → u3 = .agg #[.slice AS nS cS]
  h4 : Ld 4 = true → u4 = .slice (some sad) (nn + 1) (nn + 1)
  h5 : Ld 5 = true → u5 = .int .i64 (i : Int)
  h6 : Ld 6 = true → u6 = .pointer (some (sad.add i))
  h7 : Ld 7 = true → u7 = .slice (some ad) (i + 1) (i + 1)
  h8 : Ld 8 = true → u8 = .int .i64 (k : Int)
  h9 : Ld 9 = true → u9 = .pointer (some (ad.add k))
  h10 : Ld 10 = true → u10 = .agg #[.slice X1 a1 b1]
  h11 : Ld 11 = true → u11 = .int .i64 (k : Int)
  h12 : Ld 12 = true → u12 = .pointer (some ⟨ab, k, none⟩)
  h13 : Ld 13 = true → u13 = .agg #[.slice X2 a2 b2]
  h14 : Ld 14 = true → u14 = .int .i64 (i : Int)
  h15 : Ld 15 = true → u15 = .int .i64 (k : Int)
  h16 : Ld 16 = true → u16 = .int .i64 ((i : Int) - (k : Int))
  h17 : Ld 17 = true → u17 = .pointer (some ⟨bb, ik, none⟩)
  h18 : Ld 18 = true → u18 = .agg #[.slice X3 a3 b3]
  h19 : GL Ld 19 u19 [x1, x2, x3] 3 (L) Ls
  h20 : GN Ld 20 u20 (x1 * (x2 * x3)) Ls
  h21 : GN Ld 21 u21 (s + x1 * (x2 * x3)) Ls
  h22 : Ld 22 = true → u22 = .pointer (some ⟨ob, i, none⟩)
  v0 : Ld 23 = false → va = .slice AS nS cS
  v1 : GV Ld 23 va (s + x1 * (x2 * x3)) Ls
def JI (w0 : World) (g : Option Nat) (M : List (Nat × Value)) (L : List Ob) (O : List Rw) (ab bb rb ob : Nat) (la lb lr xs : List Value) (sad ad : Addr) (As : Option Addr) (nn i k ik : Nat) (X1 : Option Addr) (a1 b1 : Nat) (X2 : Option Addr) (a2 b2 : Nat) (X3 : Option Addr) (a3 b3 : Nat) (AS : Option Addr) (nS cS : Nat) (x1 x2 x3 s : Nat) (A0 : Act) (Ld : Nat → Bool) (a : Act) (W : World) : Prop :=
  ∃ (u0 u1 u2 u3 u4 u5 u6 u7 u8 u9 u10 u11 u12 u13 u14 u15 u16 u17 u18 u19 u20 u21 u22 : Value) (va : Value) (Ls : List Ob), a = (((((((((((((((((((((((A0.put (some 22) u0).put (some 23) u1).put (some 24) u2).put (some 25) u3).put (some 26) u4).put (some 27) u5).put (some 28) u6).put (some 29) u7).put (some 30) u8).put (some 31) u9).put (some 32) u10).put (some 33) u11).put (some 34) u12).put (some 35) u13).put (some 36) u14).put (some 37) u15).put (some 38) u16).put (some 39) u17).put (some 40) u18).put (some 41) u19).put (some 42) u20).put (some 43) u21).put (some 44) u22) ∧ JK w0 g M L O ab bb rb ob la lb lr xs sad ad As nn i k ik X1 a1 b1 X2 a2 b2 X3 a3 b3 AS nS cS x1 x2 x3 s Ld u0 u1 u2 u3 u4 u5 u6 u7 u8 u9 u10 u11 u12 u13 u14 u15 u16 u17 u18 u19 u20 u21 u22 va Ls W
section
variable {w0 w w' : World} {g : Option Nat} {M M2 : List (Nat × Value)} {L : List Ob} {O : List Rw} {A A2 A3 A4 : Option Addr} {b n c m c2 n3 c3 n4 c4 x y : Nat} {p q r s : List Int}
theorem Ow.arr (h : Ow w0 w g M L O) (xs : Array Value) (k : Nat) (hx : xs.size = k) (hk : k ≤ 1000) (T : TypeId) : Ow w0 (w.alloc (.cells xs T)) g M L (O ++ [⟨some ⟨w.heap.size, 0, none⟩, k, k, T, xs.toList⟩]) :=
  h.add (World.ownsRow_lit (base := w.heap.size) (e := T) (size := 1) w xs k (Nat.le_refl _) (by unfold maxLen; omega) (by omega)) (own_box1 _ _)
theorem Ow.rowHeap (h : Ow w0 w g M L O) (i : Nat) {b k : Nat} {T : TypeId} {xs : List Value} (hi : O[i]? = some ⟨some ⟨b, 0, none⟩, k, k, T, xs⟩) : w.heap[b]? = some (.cells xs.toArray T (0, 0)) ∧ xs.length = k := by
  obtain ⟨hl, ⟨h1, _⟩ | ⟨g', cap, cur, e, _, hg, _, _, hs, ht⟩⟩ := h.own i _ hi
  · cases h1
  · have e1 : (⟨b, 0, none⟩ : Addr) = ⟨g', 0, none⟩ ∧ k = cap := by
      injection e with e1 e2 e3
      exact ⟨Option.some.inj e1, e3⟩
    obtain ⟨e2, e3⟩ := e1
    injection e2 with e4
    rw [List.take_of_length_le (by rw [Array.length_toList, hs, ← e3]; exact Nat.le_refl _)] at ht
    have hl' : xs.length = k * 1 := hl
    refine ⟨?_, by omega⟩
    rw [e4, hg]
    show some (Obj.cells cur T (0, 0)) = some (Obj.cells xs.toArray T (0, 0))
    have ht' : cur.toList = xs := ht
    rw [← ht']
theorem Ow.putRow (h : Ow w0 w g M L O) (i : Nat) {b k : Nat} {T : TypeId} {xs : List Value} (hi : O[i]? = some ⟨some ⟨b, 0, none⟩, k, k, T, xs⟩) (ys : Array Value) (hy : ys.size = k) (hk : k ≤ 1000) : Ow w0 (w.setRow b ys) g M L (O.set i ⟨some ⟨b, 0, none⟩, k, k, T, ys.toList⟩) := by
  obtain ⟨h1, h2⟩ := h.rowHeap i hi
  refine h.turn i hi (r' := ⟨some ⟨b, 0, none⟩, k, k, T, ys.toList⟩) ⟨rfl, rfl, rfl, by simp [World.setRow], fun q hq hne => setRow_other _ _ _ _ (fun e => hne (by rw [e]; rfl))⟩ ⟨by show ys.toList.length = k * 1; simp [hy], .inr ⟨b, k, ys, rfl, (h.lt hi rfl).2, setRow_heap w b xs.toArray ys T (0, 0) h1, Nat.le_refl _, by unfold maxLen; omega, by omega, ?_⟩⟩ (.inl rfl)
  exact List.take_of_length_le (by simp [hy])
theorem infoWays : (Tryd.prog.info? 71).map (·.size) = some 41 := by kernel_rfl
theorem set_same {xs : List Value} {i : Nat} {v : Value} (h : xs[i]? = some v) : xs.set i v = xs := by
  obtain ⟨h1, h2⟩ := List.getElem?_eq_some_iff.1 h
  rw [← h2]
  exact List.set_getElem_self h1
set_option maxHeartbeats 16000000 in
theorem t_join (h : Ow w0 w g M L O) (nn : Nat) (hn : nn ≤ 40) (va vb : Array Value) (As : Option Addr) (f q : Nat → Nat) (e : Nat) (he : e ≤ 1000) (hs : TSets L As nn) (ha : Ways L va.toList nn f) (hb : Ways L vb.toList nn q) (hf : ∀ k, k ≤ nn → f k ≤ 2 ^ e) (hq : ∀ k, k ≤ nn → q k ≤ 2 ^ e) :
    Calls Tryd.prog 43 #[.agg va, .agg vb, .int .i64 (nn : Int), .slice As (nn + 1) (nn + 1)] w fun e w' => ∃ (vc : Array Value) (Ls : List Ob), e = .returned (.agg vc) ∧ Ow w0 w' g M (L ++ Ls) O ∧ Ways (L ++ Ls) vc.toList nn (conv f q) ∧ AllOne vc := by
  obtain ⟨sad, tS, vsS, rfl, hS1, hS2⟩ := hs
  have H := ((((h.arr va 41 (by have := ha.1; simpa using this) (by omega) 71).arr vb 41 (by have := hb.1; simpa using this) (by omega) 71).arr #[.slice none 0 0, .slice none 0 0, .slice none 0 0, .slice none 0 0, .slice none 0 0, .slice none 0 0, .slice none 0 0, .slice none 0 0, .slice none 0 0, .slice none 0 0, .slice none 0 0, .slice none 0 0, .slice none 0 0, .slice none 0 0, .slice none 0 0, .slice none 0 0, .slice none 0 0, .slice none 0 0, .slice none 0 0, .slice none 0 0, .slice none 0 0, .slice none 0 0, .slice none 0 0, .slice none 0 0, .slice none 0 0, .slice none 0 0, .slice none 0 0, .slice none 0 0, .slice none 0 0, .slice none 0 0, .slice none 0 0, .slice none 0 0, .slice none 0 0, .slice none 0 0, .slice none 0 0, .slice none 0 0, .slice none 0 0, .slice none 0 0, .slice none 0 0, .slice none 0 0, .slice none 0 0] 41 rfl (by omega) 71).arr #[.slice none 0 0, .slice none 0 0, .slice none 0 0, .slice none 0 0, .slice none 0 0, .slice none 0 0, .slice none 0 0, .slice none 0 0, .slice none 0 0, .slice none 0 0, .slice none 0 0, .slice none 0 0, .slice none 0 0, .slice none 0 0, .slice none 0 0, .slice none 0 0, .slice none 0 0, .slice none 0 0, .slice none 0 0, .slice none 0 0, .slice none 0 0, .slice none 0 0, .slice none 0 0, .slice none 0 0, .slice none 0 0, .slice none 0 0, .slice none 0 0, .slice none 0 0, .slice none 0 0, .slice none 0 0, .slice none 0 0, .slice none 0 0, .slice none 0 0, .slice none 0 0, .slice none 0 0, .slice none 0 0, .slice none 0 0, .slice none 0 0, .slice none 0 0, .slice none 0 0, .slice none 0 0] 41 rfl (by omega) 71)
  simp only [World.size_alloc, List.append_assoc, List.cons_append, List.nil_append] at H
  obtain ⟨lr, hlr⟩ : ∃ l : List Value, ([.slice none 0 0, .slice none 0 0, .slice none 0 0, .slice none 0 0, .slice none 0 0, .slice none 0 0, .slice none 0 0, .slice none 0 0, .slice none 0 0, .slice none 0 0, .slice none 0 0, .slice none 0 0, .slice none 0 0, .slice none 0 0, .slice none 0 0, .slice none 0 0, .slice none 0 0, .slice none 0 0, .slice none 0 0, .slice none 0 0, .slice none 0 0, .slice none 0 0, .slice none 0 0, .slice none 0 0, .slice none 0 0, .slice none 0 0, .slice none 0 0, .slice none 0 0, .slice none 0 0, .slice none 0 0, .slice none 0 0, .slice none 0 0, .slice none 0 0, .slice none 0 0, .slice none 0 0, .slice none 0 0, .slice none 0 0, .slice none 0 0, .slice none 0 0, .slice none 0 0, .slice none 0 0] : List Value) = l := ⟨_, rfl⟩
  have hlr0 : ∀ z, z < 41 → lr[z]? = some (.slice none 0 0) := by
    intro z hz
    rw [← hlr, show ([.slice none 0 0, .slice none 0 0, .slice none 0 0, .slice none 0 0, .slice none 0 0, .slice none 0 0, .slice none 0 0, .slice none 0 0, .slice none 0 0, .slice none 0 0, .slice none 0 0, .slice none 0 0, .slice none 0 0, .slice none 0 0, .slice none 0 0, .slice none 0 0, .slice none 0 0, .slice none 0 0, .slice none 0 0, .slice none 0 0, .slice none 0 0, .slice none 0 0, .slice none 0 0, .slice none 0 0, .slice none 0 0, .slice none 0 0, .slice none 0 0, .slice none 0 0, .slice none 0 0, .slice none 0 0, .slice none 0 0, .slice none 0 0, .slice none 0 0, .slice none 0 0, .slice none 0 0, .slice none 0 0, .slice none 0 0, .slice none 0 0, .slice none 0 0, .slice none 0 0, .slice none 0 0] : List Value) = List.replicate 41 (.slice none 0 0) from rfl, List.getElem?_replicate, if_pos hz]
  have hlr1 : lr.length = 41 := by rw [← hlr]; rfl
  rw [hlr] at H
  have HO := Lib.hid H
  have HL9 := Lib.hid hlr
  have HLr := Lib.hid (And.intro hlr1 hlr0)
  have HSs := Lib.hid (And.intro hS1 hS2)
  have HF := Lib.hid (And.intro he (And.intro ha (And.intro hb (And.intro hf hq))))
  clear h H hS1 hS2 ha hb hf hq he hlr hlr0 hlr1
  go_enter Tryd.func43, Tryd.ntmps43
  go_wp2_with fail
  go_loopw [10] (fun v wr => RJo w0 g M L O w.heap.size (w.heap.size + 1) (w.heap.size + 1 + 1) (w.heap.size + 1 + 1 + 1) va.toList vb.toList lr f q nn v wr) (fun v _ => nn + 2 - (intOf v).toNat)
  case atStart =>
    obtain rfl := HL9.out
    exact ⟨0, _, [], by omega, rfl, ⟨HLr.out.1, fun z hz => absurd hz (by omega), fun z _ hz => HLr.out.2 z hz⟩, by rw [List.append_nil]; exact HO⟩
  case round =>
    clear HO
    obtain ⟨i, xs, Ls, hi, rfl, HV, HO⟩ := hrel
    rcases Nat.eq_or_lt_of_le hi with he | hlt
    · subst he
      have hd : decide (((nn + 1 : Nat) : Int) ≤ (nn : Int)) = false := decide_eq_false (by omega)
      have hd1 : decide ((nn : Int) + 1 ≤ (nn : Int)) = false := decide_eq_false (by omega)
      have hd2 : decide (nn + 1 ≤ nn) = false := decide_eq_false (by omega)
      obtain ⟨hx1, hx2⟩ := HO.out.rowHeap (O.length + 3) (by rw [get_r]; rfl)
      obtain ⟨hr1, hr2⟩ := HO.out.rowHeap (O.length + 2) (by rw [get_r]; rfl)
      have hone : xs.toArray.all (·.oneCell') = true := HV.out.one (by omega)
      have hinf : (Tryd.prog.info? 71).map (·.size) = some xs.toArray.size := by rw [infoWays]; simp [hx2]
      have Z := HO.out.putRow (O.length + 2) (by rw [get_r]; rfl) xs.toArray (by simp [hx2]) (by omega)
      rw [set_r, List.set_cons_succ, List.set_cons_succ, List.set_cons_zero] at Z
      obtain ⟨hz1, -⟩ := Z.rowHeap (O.length + 2) (by rw [get_r]; rfl)
      have HF9 := Lib.hid Z.fewO
      have hsz : lr.toArray.size = xs.toArray.size := by simp [hr2, hx2]
      clear HO Z
      go_wp2_with (first | (refine wpList_load_row rfl 71 (.tmp 9) rfl (w.heap.size + 1 + 1 + 1) rfl 71 xs.toArray (0, 0) _ hx1 Tryd.underlying71 rfl hinf ?_) | (refine wpList_store_row rfl 71 (.tmp 8) (.tmp 45) rfl (w.heap.size + 1 + 1) xs.toArray rfl rfl 71 lr.toArray hr1 hinf hsz hone ?_))
      refine bodyPost_ret (v := .agg xs.toArray) (results_cell_row Tryd.results43 _ _ (w.heap.size + 1 + 1) 71 xs.toArray (0, 0) _ rfl hz1 Tryd.underlying71 rfl hinf) rfl ?_
      refine ⟨xs.toArray, rfl, Ls, HF9.out, ⟨?_, fun z hz => ?_⟩, hone⟩
      · exact HV.out.1
      · exact HV.out.2.1 z (by omega)
    · have hd : decide ((i : Int) ≤ (nn : Int)) = true := decide_eq_true (by omega)
      have hd2 : decide (i ≤ nn) = true := decide_eq_true (by omega)
      have hi40 : i ≤ 40 := by omega
      go_wp2_with fail
      have H0 := HO.out.old (A := none) (n := 0) (c := 0) (vs := nats (Na.dig 0)) (by rw [Na.dig_zero]; exact Sl.nil _ _ _) (by rw [Na.dig_zero]; rfl) (Nat.le_refl _) (by decide)
      rw [List.append_assoc] at H0
      have HS0 := Lib.hid H0
      clear HO H0
      go_loopw [11] (fun v wr => RJi w0 g M L O w.heap.size (w.heap.size + 1) (w.heap.size + 1 + 1) (w.heap.size + 1 + 1 + 1) va.toList vb.toList lr xs f q i v wr) (fun v _ => i + 2 - (intOf v).toNat)
      case atStart =>
        refine ⟨0, .slice none 0 0, _, Nat.zero_le _, rfl, ⟨(show NumIn (L ++ (Ls ++ [(⟨none, 0, 0, nats (Na.dig 0)⟩ : Ob)])) (.slice none 0 0) 0 from ⟨none, 0, 0, (L ++ Ls).length + 0, rfl, by rw [← List.append_assoc, get_r]; rfl⟩), by rw [← List.append_assoc]; exact HV.out.more⟩, ?_⟩
        have h1 := HV.out.2.2 i (Nat.le_refl _) (by omega)
        rw [set_same h1]
        exact HS0
      case round =>
        clear HS0
        obtain ⟨k, v1, Lt, hk, rfl, HN, HO⟩ := hrel
        rcases Nat.eq_or_lt_of_le hk with he | hlt2
        · subst he
          have hd3 : decide (((i + 1 : Nat) : Int) ≤ (i : Int)) = false := decide_eq_false (by omega)
          have hd4 : decide ((i : Int) + 1 ≤ (i : Int)) = false := decide_eq_false (by omega)
          have hd5 : decide (i + 1 ≤ i) = false := decide_eq_false (by omega)
          go_wp2_with fail
          go_roundw
          case rel => exact ⟨i + 1, xs.set i v1, Lt, by omega, int_eqv (by omega), Made.set HN.out.2 (by omega) HN.out.1, HO⟩
          case measure => simp [intOf]; omega
        · have hd3 : decide ((k : Int) ≤ (i : Int)) = true := decide_eq_true (by omega)
          have hd4 : decide (k ≤ i) = true := decide_eq_true (by omega)
          have hk40 : k ≤ 40 := by omega
          obtain ⟨AS, nS, cS, ts, rfl, hts⟩ := HN.out.1
          have HMd := Lib.hid HN.out.2
          obtain ⟨ik, hik⟩ : ∃ z, i - k = z := ⟨_, rfl⟩
          obtain ⟨u0, hu0, ad, tr, ws, rfl, htr, hnum⟩ := HSs.out.2 i (by omega)
          obtain ⟨u1, hu1, X1, a1, b1, p1, rfl, hp1⟩ := hnum k (by omega)
          obtain ⟨u2, hu2, X2, a2, b2, p2, rfl, hp2⟩ := HF.out.2.1.2 k (by omega)
          obtain ⟨u3, hu3, X3, a3, b3, p3, rfl, hp3⟩ := HF.out.2.2.1.2 ik (by omega)
          have hcv := cvK_of (i := i) (k := k) HF.out.1 HF.out.2.2.2.1 HF.out.2.2.2.2 (by omega) hn (by omega)
          obtain ⟨s, hs⟩ : ∃ z, cvS f q i k = z := ⟨_, rfl⟩
          obtain ⟨x1, hx1⟩ : ∃ z, Na.bin i k = z := ⟨_, rfl⟩
          obtain ⟨x2, hx2⟩ : ∃ z, f k = z := ⟨_, rfl⟩
          obtain ⟨x3, hx3⟩ : ∃ z, q ik = z := ⟨_, rfl⟩
          have HB : Hid (x1 < Na.top ∧ x2 < Na.top ∧ x3 < Na.top ∧ x1 * x2 < Na.top ∧ x1 * (x2 * x3) < Na.top ∧ s < Na.top ∧ s + x1 * (x2 * x3) < Na.top) := by
            rw [← hx1, ← hx2, ← hx3, ← hs, ← hik]
            exact ⟨hcv.b1, hcv.b2, hcv.b3, hcv.b4, hcv.b5, hcv.st, hcv.bs⟩
          have HE9 : Hid (s + x1 * (x2 * x3) = cvS f q i (k + 1)) := by rw [← hx1, ← hx2, ← hx3, ← hs, ← hik]; rfl
          rw [hx1] at hp1
          rw [hx2] at hp2
          rw [hx3] at hp3
          rw [hs] at hts
          have HP := Lib.hid (And.intro (show (L ++ Lt)[p1]? = _ from (get_l _ _ (get_lt hp1)).trans hp1) (And.intro (show (L ++ Lt)[p2]? = _ from (get_l _ _ (get_lt hp2)).trans hp2) (And.intro (show (L ++ Lt)[p3]? = _ from (get_l _ _ (get_lt hp3)).trans hp3) hts)))
          have HX := Lib.hid (And.intro (show i < xs.length by have := HV.out.1; omega) (And.intro hu2 (And.intro hu3 (And.intro (show (L ++ Lt)[tS]? = _ from (get_l _ _ (get_lt HSs.out.1)).trans HSs.out.1) (And.intro hu0 (And.intro (show (L ++ Lt)[tr]? = _ from (get_l _ _ (get_lt htr)).trans htr) hu1))))))
          have s1 : IntKind.i64.wrap ((i : Int) - (k : Int)) = (i : Int) - (k : Int) := IntWalk.i64_in _ (by omega)
          have s2 : (0 : Int) ≤ (i : Int) - (k : Int) := by omega
          have s3 : (i : Int) - (k : Int) < 41 := by omega
          have s4 : ((i : Int) - (k : Int)).toNat = ik := by omega
          have s5 : (k : Int) ≤ (i : Int) := by omega
          have s6 : (i : Int) < 41 := by omega
          have s7 : (k : Int) < 41 := by omega
          have s8 : (i : Int) < (nn : Int) + 1 := by omega
          have s9 : (k : Int) < (i : Int) + 1 := by omega
          have s10 : (i : Int) < 41 + (k : Int) := by omega
          have s11 : (0 : Int) ≤ (i : Int) := by omega
          have s12 : (0 : Int) ≤ (k : Int) := by omega
          have hik9 : ik < 41 := by omega
          clear hu0 hu1 hu2 hu3 hp1 hp2 hp3 hts htr hnum hcv hs hx1 hx2 hx3 hik HN
          go_upto_region 8 with (fail)
          refine reg_inv34 (JI w0 g M (L ++ Lt) O w.heap.size (w.heap.size + 1) (w.heap.size + 1 + 1) (w.heap.size + 1 + 1 + 1) va.toList vb.toList lr xs sad ad (some sad) nn i k ik X1 a1 b1 X2 a2 b2 X3 a3 b3 AS nS cS x1 x2 x3 s) (by kernel_rfl) (by kernel_rfl) ?_ ?_ ?_
          · refine ⟨u22, u23, u24, u25, u26, u27, u28, u29, u30, u31, u32, u33, u34, u35, u36, u37, u38, u39, u40, u41, u42, u43, u44, .slice AS nS cS, [], ?_, ⟨by rw [List.append_nil]; exact HO.out.drew, ?_, ?_, ?_, ?_, ?_, ?_, ?_, ?_, ?_, ?_, ?_, ?_, ?_, ?_, ?_, ?_, ?_, ?_, ?_, ?_, ?_, ?_, ?_, fun _ => rfl, ?_⟩⟩
            · simp only [Act.put, List.setIfInBounds_toArray, List.set_cons_zero, List.set_cons_succ]
            all_goals (intro h; cases h)
          · rintro jj Ld b W hj hf hcl hd ⟨u0, u1, u2, u3, u4, u5, u6, u7, u8, u9, u10, u11, u12, u13, u14, u15, u16, u17, u18, u19, u20, u21, u22, vv, Ls, rfl, hC⟩
            have hj' : jj < 24 := hj
            have hcase : jj = 0 ∨ jj = 1 ∨ jj = 2 ∨ jj = 3 ∨ jj = 4 ∨ jj = 5 ∨ jj = 6 ∨ jj = 7 ∨ jj = 8 ∨ jj = 9 ∨ jj = 10 ∨ jj = 11 ∨ jj = 12 ∨ jj = 13 ∨ jj = 14 ∨ jj = 15 ∨ jj = 16 ∨ jj = 17 ∨ jj = 18 ∨ jj = 19 ∨ jj = 20 ∨ jj = 21 ∨ jj = 22 ∨ jj = 23 := by omega
            have co := cell_row hC.ow (i := O.length + 3) (by rw [get_r]; rfl) (List.getElem?_set_self HX.out.1) (by omega)
            have zo := (hC.ow.own (O.length + 3) _ (by rw [get_r]; rfl)).frozenAt i
            have ca := cell_row hC.ow (i := O.length + 0) (by rw [get_r]; rfl) HX.out.2.1 (by omega)
            have cb := cell_row hC.ow (i := O.length + 1) (by rw [get_r]; rfl) HX.out.2.2.1 (by omega)
            have cs := (hC.ow.sl ((get_l _ _ (get_lt HX.out.2.2.2.1)).trans HX.out.2.2.2.1)).2.2.2.c HX.out.2.2.2.2.1
            have cr := (hC.ow.sl ((get_l _ _ (get_lt HX.out.2.2.2.2.2.1)).trans HX.out.2.2.2.2.2.1)).2.2.2.c HX.out.2.2.2.2.2.2
            clear hj hj'
            simp only [Act.put, List.setIfInBounds_toArray, List.set_cons_zero, List.set_cons_succ]
            rcases hcase with rfl | rfl | rfl | rfl | rfl | rfl | rfl | rfl | rfl | rfl | rfl | rfl | rfl | rfl | rfl | rfl | rfl | rfl | rfl | rfl | rfl | rfl | rfl | rfl
            · clear hd hcl
              refine wpOp_step rfl (fun K hK => ?_)
              go_simp
              refine hK _ _ ⟨_, u1, u2, u3, u4, u5, u6, u7, u8, u9, u10, u11, u12, u13, u14, u15, u16, u17, u18, u19, u20, u21, u22, vv, Ls, ?_, ⟨hC.ow, fun _ => rfl, hC.h1, hC.h2, hC.h3, hC.h4, hC.h5, hC.h6, hC.h7, hC.h8, hC.h9, hC.h10, hC.h11, hC.h12, hC.h13, hC.h14, hC.h15, hC.h16, hC.h17, hC.h18, hC.h19, hC.h20, hC.h21, hC.h22, hC.v0, hC.v1⟩⟩
              simp only [Act.put, List.setIfInBounds_toArray, List.set_cons_zero, List.set_cons_succ]
            · clear hd hcl
              refine wpOp_step rfl (fun K hK => ?_)
              go_simp
              refine hK _ _ ⟨u0, _, u2, u3, u4, u5, u6, u7, u8, u9, u10, u11, u12, u13, u14, u15, u16, u17, u18, u19, u20, u21, u22, vv, Ls, ?_, ⟨hC.ow, hC.h0, fun _ => rfl, hC.h2, hC.h3, hC.h4, hC.h5, hC.h6, hC.h7, hC.h8, hC.h9, hC.h10, hC.h11, hC.h12, hC.h13, hC.h14, hC.h15, hC.h16, hC.h17, hC.h18, hC.h19, hC.h20, hC.h21, hC.h22, hC.v0, hC.v1⟩⟩
              simp only [Act.put, List.setIfInBounds_toArray, List.set_cons_zero, List.set_cons_succ]
            · obtain rfl := hC.h1 (hd 1 (by kernel_rfl))
              clear hd hcl
              refine wpOp_step rfl (fun K hK => ?_)
              go_simp
              refine hK _ _ ⟨u0, _, _, u3, u4, u5, u6, u7, u8, u9, u10, u11, u12, u13, u14, u15, u16, u17, u18, u19, u20, u21, u22, vv, Ls, ?_, ⟨hC.ow, hC.h0, hC.h1, fun _ => rfl, hC.h3, hC.h4, hC.h5, hC.h6, hC.h7, hC.h8, hC.h9, hC.h10, hC.h11, hC.h12, hC.h13, hC.h14, hC.h15, hC.h16, hC.h17, hC.h18, hC.h19, hC.h20, hC.h21, hC.h22, hC.v0, hC.v1⟩⟩
              simp only [Act.put, List.setIfInBounds_toArray, List.set_cons_zero, List.set_cons_succ]
            · obtain rfl := hC.h2 (hd 2 (by kernel_rfl))
              have g21 : Ld 21 = false := by cases e : Ld 21 with | false => rfl | true => (rw [hcl 21 3 e (by kernel_rfl)] at hf; cases hf)
              have g23 : Ld 23 = false := by cases e : Ld 23 with | false => rfl | true => (rw [hcl 23 21 e (by kernel_rfl)] at g21; cases g21)
              obtain rfl := hC.v0 g23
              clear hd hcl
              refine wpOp_step rfl (fun K hK => ?_)
              go_simp
              refine hK _ _ ⟨u0, u1, _, _, u4, u5, u6, u7, u8, u9, u10, u11, u12, u13, u14, u15, u16, u17, u18, u19, u20, u21, u22, _, Ls, ?_, ⟨hC.ow, hC.h0, hC.h1, hC.h2, fun _ => rfl, hC.h4, hC.h5, hC.h6, hC.h7, hC.h8, hC.h9, hC.h10, hC.h11, hC.h12, hC.h13, hC.h14, hC.h15, hC.h16, hC.h17, hC.h18, hC.h19, hC.h20, hC.h21, hC.h22, hC.v0, hC.v1⟩⟩
              simp only [Act.put, List.setIfInBounds_toArray, List.set_cons_zero, List.set_cons_succ]
            · clear hd hcl
              refine wpOp_step rfl (fun K hK => ?_)
              go_simp
              refine hK _ _ ⟨u0, u1, u2, u3, _, u5, u6, u7, u8, u9, u10, u11, u12, u13, u14, u15, u16, u17, u18, u19, u20, u21, u22, vv, Ls, ?_, ⟨hC.ow, hC.h0, hC.h1, hC.h2, hC.h3, fun _ => rfl, hC.h5, hC.h6, hC.h7, hC.h8, hC.h9, hC.h10, hC.h11, hC.h12, hC.h13, hC.h14, hC.h15, hC.h16, hC.h17, hC.h18, hC.h19, hC.h20, hC.h21, hC.h22, hC.v0, hC.v1⟩⟩
              simp only [Act.put, List.setIfInBounds_toArray, List.set_cons_zero, List.set_cons_succ]
            · clear hd hcl
              refine wpOp_step rfl (fun K hK => ?_)
              go_simp
              refine hK _ _ ⟨u0, u1, u2, u3, u4, _, u6, u7, u8, u9, u10, u11, u12, u13, u14, u15, u16, u17, u18, u19, u20, u21, u22, vv, Ls, ?_, ⟨hC.ow, hC.h0, hC.h1, hC.h2, hC.h3, hC.h4, fun _ => rfl, hC.h6, hC.h7, hC.h8, hC.h9, hC.h10, hC.h11, hC.h12, hC.h13, hC.h14, hC.h15, hC.h16, hC.h17, hC.h18, hC.h19, hC.h20, hC.h21, hC.h22, hC.v0, hC.v1⟩⟩
              simp only [Act.put, List.setIfInBounds_toArray, List.set_cons_zero, List.set_cons_succ]
            · obtain rfl := hC.h4 (hd 4 (by kernel_rfl))
              obtain rfl := hC.h5 (hd 5 (by kernel_rfl))
              clear hd hcl
              refine wpOp_step rfl (fun K hK => ?_)
              go_simp
              refine hK _ _ ⟨u0, u1, u2, u3, _, _, _, u7, u8, u9, u10, u11, u12, u13, u14, u15, u16, u17, u18, u19, u20, u21, u22, vv, Ls, ?_, ⟨hC.ow, hC.h0, hC.h1, hC.h2, hC.h3, hC.h4, hC.h5, fun _ => rfl, hC.h7, hC.h8, hC.h9, hC.h10, hC.h11, hC.h12, hC.h13, hC.h14, hC.h15, hC.h16, hC.h17, hC.h18, hC.h19, hC.h20, hC.h21, hC.h22, hC.v0, hC.v1⟩⟩
              simp only [Act.put, List.setIfInBounds_toArray, List.set_cons_zero, List.set_cons_succ]
            · obtain rfl := hC.h6 (hd 6 (by kernel_rfl))
              clear hd hcl
              refine wpOp_step rfl (fun K hK => ?_)
              go_simp
              refine hK _ _ ⟨u0, u1, u2, u3, u4, u5, _, _, u8, u9, u10, u11, u12, u13, u14, u15, u16, u17, u18, u19, u20, u21, u22, vv, Ls, ?_, ⟨hC.ow, hC.h0, hC.h1, hC.h2, hC.h3, hC.h4, hC.h5, hC.h6, fun _ => rfl, hC.h8, hC.h9, hC.h10, hC.h11, hC.h12, hC.h13, hC.h14, hC.h15, hC.h16, hC.h17, hC.h18, hC.h19, hC.h20, hC.h21, hC.h22, hC.v0, hC.v1⟩⟩
              simp only [Act.put, List.setIfInBounds_toArray, List.set_cons_zero, List.set_cons_succ]
            · clear hd hcl
              refine wpOp_step rfl (fun K hK => ?_)
              go_simp
              refine hK _ _ ⟨u0, u1, u2, u3, u4, u5, u6, u7, _, u9, u10, u11, u12, u13, u14, u15, u16, u17, u18, u19, u20, u21, u22, vv, Ls, ?_, ⟨hC.ow, hC.h0, hC.h1, hC.h2, hC.h3, hC.h4, hC.h5, hC.h6, hC.h7, fun _ => rfl, hC.h9, hC.h10, hC.h11, hC.h12, hC.h13, hC.h14, hC.h15, hC.h16, hC.h17, hC.h18, hC.h19, hC.h20, hC.h21, hC.h22, hC.v0, hC.v1⟩⟩
              simp only [Act.put, List.setIfInBounds_toArray, List.set_cons_zero, List.set_cons_succ]
            · obtain rfl := hC.h7 (hd 7 (by kernel_rfl))
              obtain rfl := hC.h8 (hd 8 (by kernel_rfl))
              clear hd hcl
              refine wpOp_step rfl (fun K hK => ?_)
              go_simp
              refine hK _ _ ⟨u0, u1, u2, u3, u4, u5, u6, _, _, _, u10, u11, u12, u13, u14, u15, u16, u17, u18, u19, u20, u21, u22, vv, Ls, ?_, ⟨hC.ow, hC.h0, hC.h1, hC.h2, hC.h3, hC.h4, hC.h5, hC.h6, hC.h7, hC.h8, fun _ => rfl, hC.h10, hC.h11, hC.h12, hC.h13, hC.h14, hC.h15, hC.h16, hC.h17, hC.h18, hC.h19, hC.h20, hC.h21, hC.h22, hC.v0, hC.v1⟩⟩
              simp only [Act.put, List.setIfInBounds_toArray, List.set_cons_zero, List.set_cons_succ]
            · obtain rfl := hC.h9 (hd 9 (by kernel_rfl))
              clear hd hcl
              refine wpOp_step rfl (fun K hK => ?_)
              go_simp
              refine hK _ _ ⟨u0, u1, u2, u3, u4, u5, u6, u7, u8, _, _, u11, u12, u13, u14, u15, u16, u17, u18, u19, u20, u21, u22, vv, Ls, ?_, ⟨hC.ow, hC.h0, hC.h1, hC.h2, hC.h3, hC.h4, hC.h5, hC.h6, hC.h7, hC.h8, hC.h9, fun _ => rfl, hC.h11, hC.h12, hC.h13, hC.h14, hC.h15, hC.h16, hC.h17, hC.h18, hC.h19, hC.h20, hC.h21, hC.h22, hC.v0, hC.v1⟩⟩
              simp only [Act.put, List.setIfInBounds_toArray, List.set_cons_zero, List.set_cons_succ]
            · clear hd hcl
              refine wpOp_step rfl (fun K hK => ?_)
              go_simp
              refine hK _ _ ⟨u0, u1, u2, u3, u4, u5, u6, u7, u8, u9, u10, _, u12, u13, u14, u15, u16, u17, u18, u19, u20, u21, u22, vv, Ls, ?_, ⟨hC.ow, hC.h0, hC.h1, hC.h2, hC.h3, hC.h4, hC.h5, hC.h6, hC.h7, hC.h8, hC.h9, hC.h10, fun _ => rfl, hC.h12, hC.h13, hC.h14, hC.h15, hC.h16, hC.h17, hC.h18, hC.h19, hC.h20, hC.h21, hC.h22, hC.v0, hC.v1⟩⟩
              simp only [Act.put, List.setIfInBounds_toArray, List.set_cons_zero, List.set_cons_succ]
            · obtain rfl := hC.h11 (hd 11 (by kernel_rfl))
              clear hd hcl
              refine wpOp_step rfl (fun K hK => ?_)
              go_simp
              refine hK _ _ ⟨u0, u1, u2, u3, u4, u5, u6, u7, u8, u9, u10, _, _, u13, u14, u15, u16, u17, u18, u19, u20, u21, u22, vv, Ls, ?_, ⟨hC.ow, hC.h0, hC.h1, hC.h2, hC.h3, hC.h4, hC.h5, hC.h6, hC.h7, hC.h8, hC.h9, hC.h10, hC.h11, fun _ => rfl, hC.h13, hC.h14, hC.h15, hC.h16, hC.h17, hC.h18, hC.h19, hC.h20, hC.h21, hC.h22, hC.v0, hC.v1⟩⟩
              simp only [Act.put, List.setIfInBounds_toArray, List.set_cons_zero, List.set_cons_succ]
            · obtain rfl := hC.h12 (hd 12 (by kernel_rfl))
              clear hd hcl
              refine wpOp_step rfl (fun K hK => ?_)
              go_simp
              refine hK _ _ ⟨u0, u1, u2, u3, u4, u5, u6, u7, u8, u9, u10, u11, _, _, u14, u15, u16, u17, u18, u19, u20, u21, u22, vv, Ls, ?_, ⟨hC.ow, hC.h0, hC.h1, hC.h2, hC.h3, hC.h4, hC.h5, hC.h6, hC.h7, hC.h8, hC.h9, hC.h10, hC.h11, hC.h12, fun _ => rfl, hC.h14, hC.h15, hC.h16, hC.h17, hC.h18, hC.h19, hC.h20, hC.h21, hC.h22, hC.v0, hC.v1⟩⟩
              simp only [Act.put, List.setIfInBounds_toArray, List.set_cons_zero, List.set_cons_succ]
            · clear hd hcl
              refine wpOp_step rfl (fun K hK => ?_)
              go_simp
              refine hK _ _ ⟨u0, u1, u2, u3, u4, u5, u6, u7, u8, u9, u10, u11, u12, u13, _, u15, u16, u17, u18, u19, u20, u21, u22, vv, Ls, ?_, ⟨hC.ow, hC.h0, hC.h1, hC.h2, hC.h3, hC.h4, hC.h5, hC.h6, hC.h7, hC.h8, hC.h9, hC.h10, hC.h11, hC.h12, hC.h13, fun _ => rfl, hC.h15, hC.h16, hC.h17, hC.h18, hC.h19, hC.h20, hC.h21, hC.h22, hC.v0, hC.v1⟩⟩
              simp only [Act.put, List.setIfInBounds_toArray, List.set_cons_zero, List.set_cons_succ]
            · clear hd hcl
              refine wpOp_step rfl (fun K hK => ?_)
              go_simp
              refine hK _ _ ⟨u0, u1, u2, u3, u4, u5, u6, u7, u8, u9, u10, u11, u12, u13, u14, _, u16, u17, u18, u19, u20, u21, u22, vv, Ls, ?_, ⟨hC.ow, hC.h0, hC.h1, hC.h2, hC.h3, hC.h4, hC.h5, hC.h6, hC.h7, hC.h8, hC.h9, hC.h10, hC.h11, hC.h12, hC.h13, hC.h14, fun _ => rfl, hC.h16, hC.h17, hC.h18, hC.h19, hC.h20, hC.h21, hC.h22, hC.v0, hC.v1⟩⟩
              simp only [Act.put, List.setIfInBounds_toArray, List.set_cons_zero, List.set_cons_succ]
            · obtain rfl := hC.h14 (hd 14 (by kernel_rfl))
              obtain rfl := hC.h15 (hd 15 (by kernel_rfl))
              clear hd hcl
              refine wpOp_step rfl (fun K hK => ?_)
              go_simp
              refine hK _ _ ⟨u0, u1, u2, u3, u4, u5, u6, u7, u8, u9, u10, u11, u12, u13, _, _, _, u17, u18, u19, u20, u21, u22, vv, Ls, ?_, ⟨hC.ow, hC.h0, hC.h1, hC.h2, hC.h3, hC.h4, hC.h5, hC.h6, hC.h7, hC.h8, hC.h9, hC.h10, hC.h11, hC.h12, hC.h13, hC.h14, hC.h15, fun _ => rfl, hC.h17, hC.h18, hC.h19, hC.h20, hC.h21, hC.h22, hC.v0, hC.v1⟩⟩
              simp only [Act.put, List.setIfInBounds_toArray, List.set_cons_zero, List.set_cons_succ]
            · obtain rfl := hC.h16 (hd 16 (by kernel_rfl))
              clear hd hcl
              refine wpOp_step rfl (fun K hK => ?_)
              go_simp
              refine hK _ _ ⟨u0, u1, u2, u3, u4, u5, u6, u7, u8, u9, u10, u11, u12, u13, u14, u15, _, _, u18, u19, u20, u21, u22, vv, Ls, ?_, ⟨hC.ow, hC.h0, hC.h1, hC.h2, hC.h3, hC.h4, hC.h5, hC.h6, hC.h7, hC.h8, hC.h9, hC.h10, hC.h11, hC.h12, hC.h13, hC.h14, hC.h15, hC.h16, fun _ => rfl, hC.h18, hC.h19, hC.h20, hC.h21, hC.h22, hC.v0, hC.v1⟩⟩
              simp only [Act.put, List.setIfInBounds_toArray, List.set_cons_zero, List.set_cons_succ]
            · obtain rfl := hC.h17 (hd 17 (by kernel_rfl))
              clear hd hcl
              refine wpOp_step rfl (fun K hK => ?_)
              go_simp
              refine hK _ _ ⟨u0, u1, u2, u3, u4, u5, u6, u7, u8, u9, u10, u11, u12, u13, u14, u15, u16, _, _, u19, u20, u21, u22, vv, Ls, ?_, ⟨hC.ow, hC.h0, hC.h1, hC.h2, hC.h3, hC.h4, hC.h5, hC.h6, hC.h7, hC.h8, hC.h9, hC.h10, hC.h11, hC.h12, hC.h13, hC.h14, hC.h15, hC.h16, hC.h17, fun _ => rfl, hC.h19, hC.h20, hC.h21, hC.h22, hC.v0, hC.v1⟩⟩
              simp only [Act.put, List.setIfInBounds_toArray, List.set_cons_zero, List.set_cons_succ]
            · obtain rfl := hC.h10 (hd 10 (by kernel_rfl))
              obtain rfl := hC.h13 (hd 13 (by kernel_rfl))
              obtain rfl := hC.h18 (hd 18 (by kernel_rfl))
              clear hd hcl
              refine wpOp_step rfl (fun K hK => ?_)
              go_simp
              have ho := hC.ow.push (World.ownsRow_lit (base := W.heap.size) (e := 24) (size := 1) W #[.slice X1 a1 b1, .slice X2 a2 b2, .slice X3 a3 b3] 3 (Nat.le_refl _) (by decide) rfl) (by omega) (own_box1 _ _)
              rw [List.append_assoc (L ++ Lt) Ls] at ho
              refine hK _ _ ⟨u0, u1, u2, u3, u4, u5, u6, u7, u8, u9, _, u11, u12, _, u14, u15, u16, u17, _, _, u20, u21, u22, vv, _, ?_, ⟨ho, hC.h0, hC.h1, hC.h2, hC.h3, hC.h4, hC.h5, hC.h6, hC.h7, hC.h8, hC.h9, hC.h10, hC.h11, hC.h12, hC.h13, hC.h14, hC.h15, hC.h16, hC.h17, hC.h18, GL.new _ _ _ _ _ _ _ (Nums.three ((get_l _ _ (get_lt HP.out.1)).trans HP.out.1) ((get_l _ _ (get_lt HP.out.2.1)).trans HP.out.2.1) ((get_l _ _ (get_lt HP.out.2.2.1)).trans HP.out.2.2.1)), hC.h20.more, hC.h21.more, hC.h22, hC.v0, hC.v1.more⟩⟩
              simp only [Act.put, List.setIfInBounds_toArray, List.set_cons_zero, List.set_cons_succ]
            · obtain ⟨t19, A19, vs19, rfl, r19, m19⟩ := hC.h19 (hd 19 (by kernel_rfl))
              have R19 : (L ++ Lt ++ Ls)[(L ++ Lt).length + t19]? = some ⟨A19, 3, 3, vs19⟩ := (get_r _ _ _).trans r19
              clear hd hcl
              refine wpOp_step rfl (fun K hK => ?_)
              go_simp
              refine (t_times3 hC.ow _ R19 m19 HB.out.1 HB.out.2.1 HB.out.2.2.1 HB.out.2.2.2.1 HB.out.2.2.2.2.1).mono ?_
              rintro e W' ⟨Az, nz, cz, rfl, ho⟩
              rw [List.append_assoc (L ++ Lt) Ls] at ho
              refine hK _ _ ⟨u0, u1, u2, u3, u4, u5, u6, u7, u8, u9, u10, u11, u12, u13, u14, u15, u16, u17, u18, _, _, u21, u22, vv, _, ?_, ⟨ho, hC.h0, hC.h1, hC.h2, hC.h3, hC.h4, hC.h5, hC.h6, hC.h7, hC.h8, hC.h9, hC.h10, hC.h11, hC.h12, hC.h13, hC.h14, hC.h15, hC.h16, hC.h17, hC.h18, hC.h19.more, GN.new _ _ _ _ _ _ _, hC.h21.more, hC.h22, hC.v0, hC.v1.more⟩⟩
              simp only [Act.put, List.setIfInBounds_toArray, List.set_cons_zero, List.set_cons_succ]
            · obtain rfl := hC.h3 (hd 3 (by kernel_rfl))
              obtain ⟨t20, A20, n20, c20, rfl, r20⟩ := hC.h20 (hd 20 (by kernel_rfl))
              have R20 : (L ++ Lt ++ Ls)[(L ++ Lt).length + t20]? = some ⟨A20, n20, c20, nats (Na.dig (x1 * (x2 * x3)))⟩ := (get_r _ _ _).trans r20
              clear hd hcl
              refine wpOp_step rfl (fun K hK => ?_)
              go_simp
              refine (t_sum hC.ow ts _ ((get_l _ _ (get_lt HP.out.2.2.2)).trans HP.out.2.2.2) R20 HB.out.2.2.2.2.2.1 HB.out.2.2.2.2.1 HB.out.2.2.2.2.2.2).mono ?_
              rintro e W' ⟨Az, nz, cz, rfl, ho⟩
              rw [List.append_assoc (L ++ Lt) Ls] at ho
              refine hK _ _ ⟨u0, u1, u2, _, u4, u5, u6, u7, u8, u9, u10, u11, u12, u13, u14, u15, u16, u17, u18, u19, _, _, u22, vv, _, ?_, ⟨ho, hC.h0, hC.h1, hC.h2, hC.h3, hC.h4, hC.h5, hC.h6, hC.h7, hC.h8, hC.h9, hC.h10, hC.h11, hC.h12, hC.h13, hC.h14, hC.h15, hC.h16, hC.h17, hC.h18, hC.h19.more, hC.h20.more, GN.new _ _ _ _ _ _ _, hC.h22, hC.v0, hC.v1.more⟩⟩
              simp only [Act.put, List.setIfInBounds_toArray, List.set_cons_zero, List.set_cons_succ]
            · obtain rfl := hC.h0 (hd 0 (by kernel_rfl))
              clear hd hcl
              refine wpOp_step rfl (fun K hK => ?_)
              go_simp
              refine hK _ _ ⟨_, u1, u2, u3, u4, u5, u6, u7, u8, u9, u10, u11, u12, u13, u14, u15, u16, u17, u18, u19, u20, u21, _, vv, Ls, ?_, ⟨hC.ow, hC.h0, hC.h1, hC.h2, hC.h3, hC.h4, hC.h5, hC.h6, hC.h7, hC.h8, hC.h9, hC.h10, hC.h11, hC.h12, hC.h13, hC.h14, hC.h15, hC.h16, hC.h17, hC.h18, hC.h19, hC.h20, hC.h21, fun _ => rfl, hC.v0, hC.v1⟩⟩
              simp only [Act.put, List.setIfInBounds_toArray, List.set_cons_zero, List.set_cons_succ]
            · obtain ⟨t21, A21, n21, c21, rfl, r21⟩ := hC.h21 (hd 21 (by kernel_rfl))
              have R21 : (L ++ Lt ++ Ls)[(L ++ Lt).length + t21]? = some ⟨A21, n21, c21, nats (Na.dig (s + x1 * (x2 * x3)))⟩ := (get_r _ _ _).trans r21
              obtain rfl := hC.h22 (hd 22 (by kernel_rfl))
              clear hd hcl
              refine wpOp_step rfl (fun K hK => ?_)
              go_simp
              have ho := hC.ow.put (O.length + 3) (by rw [get_r]; rfl) i (.slice A21 n21 c21)
              rw [set_r, List.set_cons_succ, List.set_cons_succ, List.set_cons_succ, List.set_cons_zero, List.set_set] at ho
              refine hK _ _ ⟨u0, u1, u2, u3, u4, u5, u6, u7, u8, u9, u10, u11, u12, u13, u14, u15, u16, u17, u18, u19, u20, _, _, _, Ls, ?_, ⟨ho, hC.h0, hC.h1, hC.h2, hC.h3, hC.h4, hC.h5, hC.h6, hC.h7, hC.h8, hC.h9, hC.h10, hC.h11, hC.h12, hC.h13, hC.h14, hC.h15, hC.h16, hC.h17, hC.h18, hC.h19, hC.h20, hC.h21, hC.h22, fun e => absurd (show true = false from e) (by decide), fun _ => ⟨t21, A21, n21, c21, rfl, r21⟩⟩⟩
              simp only [Act.put, List.setIfInBounds_toArray, List.set_cons_zero, List.set_cons_succ]
          · rintro Ld b W hL ⟨u0, u1, u2, u3, u4, u5, u6, u7, u8, u9, u10, u11, u12, u13, u14, u15, u16, u17, u18, u19, u20, u21, u22, vv, Ls, rfl, hC⟩
            obtain ⟨tz, Az, nz, cz, rfl, rz⟩ := hC.v1 (hL 23 (by show 23 < 24; decide))
            have ho := hC.ow
            rw [List.append_assoc] at ho
            have HG := Lib.hid ho
            have HW : Hid (NumIn (L ++ (Lt ++ Ls)) (.slice Az nz cz) (cvS f q i (k + 1)) ∧ Made (L ++ (Lt ++ Ls)) xs f q i) := ⟨⟨Az, nz, cz, (L ++ Lt).length + tz, rfl, by rw [← List.append_assoc, get_r, ← HE9.out]; exact rz⟩, by rw [← List.append_assoc]; exact HMd.out.more⟩
            clear hL hC rz HO HB HE9 HX HP ho HMd
            simp only [Act.put, List.setIfInBounds_toArray, List.set_cons_zero, List.set_cons_succ]
            go_wp2_with fail
            go_roundw
            case rel => exact ⟨k + 1, _, _, by omega, int_eqv (by omega), HW, HG⟩
            case measure => simp [intOf]; omega
end
end Go.Proofs.YtjhaogbopmhkoaaDoor

namespace Go.Proofs.YtjhaogbopmhkoaaDoor
open Go.RowKit
set_option linter.unusedVariables false
/-- a sequence moved by one -/
def sft (f : Nat → Nat) : Nat → Nat := fun i => f (i + 1)
theorem cvS_leib (f q : Nat → Nat) (i : Nat) : ∀ c, c ≤ i + 1 → cvS f q (i + 1) (c + 1) = cvS (sft f) q i c + cvS f (sft q) i (c + 1)
  | 0, _ => by
    show 0 + Na.bin (i + 1) 0 * (f 0 * q (i + 1 - 0)) = 0 + (0 + Na.bin i 0 * (f 0 * q (i - 0 + 1)))
    rw [Na.bin_zero, Na.bin_zero, Nat.sub_zero, Nat.sub_zero]
    simp only [Nat.zero_add]
  | c + 1, h => by
    have ih := cvS_leib f q i c (by omega)
    show cvS f q (i + 1) (c + 1) + Na.bin (i + 1) (c + 1) * (f (c + 1) * q (i + 1 - (c + 1))) = (cvS (sft f) q i c + Na.bin i c * (f (c + 1) * q (i - c))) + (cvS f (sft q) i (c + 1) + Na.bin i (c + 1) * (f (c + 1) * q (i - (c + 1) + 1)))
    rw [ih, Na.bin_succ, show i + 1 - (c + 1) = i - c by omega]
    rcases Nat.lt_or_ge c i with h1 | h1
    · rw [show i - (c + 1) + 1 = i - c by omega, Nat.add_mul]
      omega
    · rw [Na.bin_more (n := i) (k := c + 1) (by omega)]
      simp only [Nat.add_zero, Nat.zero_mul]
      omega
theorem conv_zero (f q : Nat → Nat) : conv f q 0 = f 0 * q 0 := by
  show 0 + Na.bin 0 0 * (f 0 * q (0 - 0)) = _
  rw [Na.bin_zero, Nat.one_mul, Nat.zero_add]
theorem conv_succ (f q : Nat → Nat) (i : Nat) : conv f q (i + 1) = conv (sft f) q i + conv f (sft q) i := by
  have h := cvS_leib f q i (i + 1) (Nat.le_refl _)
  show cvS f q (i + 1) (i + 1 + 1) = cvS (sft f) q i (i + 1) + cvS f (sft q) i (i + 1)
  rw [h]
  show _ + (cvS f (sft q) i (i + 1) + Na.bin i (i + 1) * (f (i + 1) * sft q (i - (i + 1)))) = _
  rw [Na.bin_more (n := i) (k := i + 1) (by omega)]
  simp only [Nat.zero_mul, Nat.add_zero]
theorem conv_addl (f f' q : Nat → Nat) (i : Nat) : conv (fun k => f k + f' k) q i = conv f q i + conv f' q i := by
  induction i generalizing f f' q with
  | zero => rw [conv_zero, conv_zero, conv_zero, Nat.add_mul]
  | succ i ih =>
    rw [conv_succ, conv_succ, conv_succ, ih f f' (sft q), show (sft fun k => f k + f' k) = fun k => sft f k + sft f' k from rfl, ih (sft f) (sft f') q]
    omega
theorem conv_addr (f q q' : Nat → Nat) (i : Nat) : conv f (fun k => q k + q' k) i = conv f q i + conv f q' i := by
  induction i generalizing f q q' with
  | zero => rw [conv_zero, conv_zero, conv_zero, Nat.mul_add]
  | succ i ih =>
    rw [conv_succ, conv_succ, conv_succ, ih (sft f) q q', show (sft fun k => q k + q' k) = fun k => sft q k + sft q' k from rfl, ih f (sft q) (sft q')]
    omega
theorem sft_conv (f q : Nat → Nat) : sft (conv f q) = fun k => conv (sft f) q k + conv f (sft q) k := by
  funext k
  exact conv_succ f q k
theorem conv_assoc (f q r : Nat → Nat) (i : Nat) : conv (conv f q) r i = conv f (conv q r) i := by
  induction i generalizing f q r with
  | zero => rw [conv_zero, conv_zero, conv_zero, conv_zero, Nat.mul_assoc]
  | succ i ih =>
    rw [conv_succ, conv_succ, sft_conv f q, sft_conv q r, conv_addl, conv_addr, ih (sft f) q r, ih f (sft q) r, ih f q (sft r)]
    omega
/-- the ways of no cell -/
def dlt : Nat → Nat := fun i => if i = 0 then 1 else 0
theorem conv_nil (f : Nat → Nat) (i : Nat) : conv f (fun _ => 0) i = 0 := by
  induction i generalizing f with
  | zero => rw [conv_zero, Nat.mul_zero]
  | succ i ih => rw [conv_succ, ih, show (sft fun _ => 0) = fun _ => 0 from rfl, ih]
theorem conv_dlt (f : Nat → Nat) (i : Nat) : conv f dlt i = f i := by
  induction i generalizing f with
  | zero => rw [conv_zero]; show f 0 * 1 = f 0; rw [Nat.mul_one]
  | succ i ih =>
    rw [conv_succ, ih, show sft dlt = fun _ => 0 from rfl, conv_nil]; rfl
/-- the ways of so many cells -/
def pwc (o : Nat → Nat) : Nat → Nat → Nat
  | 0 => dlt
  | c + 1 => conv (pwc o c) o
theorem pwc_add (o : Nat → Nat) (a b : Nat) : conv (pwc o a) (pwc o b) = pwc o (a + b) := by
  induction b with
  | zero => funext i; exact conv_dlt _ i
  | succ b ih =>
    show conv (pwc o a) (conv (pwc o b) o) = conv (pwc o (a + b)) o
    rw [← ih]
    funext i
    exact (conv_assoc _ _ _ i).symm
theorem pwc_one (o : Nat → Nat) : pwc o 1 = o := by
  have key : ∀ (q : Nat → Nat) (i : Nat), conv dlt q i = q i := by
    intro q i
    induction i generalizing q with
    | zero => rw [conv_zero]; show 1 * q 0 = q 0; rw [Nat.one_mul]
    | succ i ih =>
      have e0 : ∀ (q : Nat → Nat) (i : Nat), conv (fun _ => 0) q i = 0 := by
        intro q i
        induction i generalizing q with
        | zero => rw [conv_zero, Nat.zero_mul]
        | succ i ih => rw [conv_succ, ih, show (sft fun _ => 0) = fun _ => 0 from rfl, ih]
      rw [conv_succ, ih, show sft dlt = fun _ => 0 from rfl, e0, Nat.zero_add]; rfl
  funext i
  exact key o i
theorem conv_mono {f f' q q' : Nat → Nat} (i : Nat) (hf : ∀ k, k ≤ i → f k ≤ f' k) (hq : ∀ k, k ≤ i → q k ≤ q' k) : conv f q i ≤ conv f' q' i := by
  induction i generalizing f f' q q' with
  | zero => rw [conv_zero, conv_zero]; exact Nat.mul_le_mul (hf 0 (by omega)) (hq 0 (by omega))
  | succ i ih =>
    rw [conv_succ, conv_succ]
    exact Nat.add_le_add (ih (fun k hk => hf (k + 1) (by omega)) (fun k hk => hq k (by omega))) (ih (fun k hk => hf k (by omega)) (fun k hk => hq (k + 1) (by omega)))
theorem conv_mull (a : Nat) (f q : Nat → Nat) (i : Nat) : conv (fun k => a * f k) q i = a * conv f q i := by
  induction i generalizing f q with
  | zero => rw [conv_zero, conv_zero, Nat.mul_assoc]
  | succ i ih => rw [conv_succ, conv_succ, ih f (sft q), show (sft fun k => a * f k) = fun k => a * sft f k from rfl, ih (sft f) q, Nat.mul_add]
theorem conv_pow (c i : Nat) : conv (fun k => c ^ k) (fun _ => 1) i = (c + 1) ^ i := by
  induction i with
  | zero => rw [conv_zero]; rfl
  | succ i ih =>
    rw [conv_succ, show (sft fun _ => 1) = fun _ => 1 from rfl, show (sft fun k => c ^ k) = fun k => c * c ^ k by funext k; exact (Nat.pow_succ c k).trans (Nat.mul_comm _ _), conv_mull, ih, Nat.pow_succ, Nat.mul_comm ((c + 1) ^ i), Nat.add_mul, Nat.one_mul]
theorem pwc_le {o : Nat → Nat} (ho : ∀ k, o k ≤ 1) (c i : Nat) : pwc o c i ≤ c ^ i := by
  induction c generalizing i with
  | zero =>
    show dlt i ≤ 0 ^ i
    unfold dlt
    split
    · subst i; exact Nat.le_refl _
    · exact Nat.zero_le _
  | succ c ih =>
    rw [← conv_pow c i]
    exact conv_mono i (fun k _ => ih k) (fun k _ => ho k)
/-- one cell that gets less than k things -/
def oneC (k : Nat) : Nat → Nat := fun i => if i < k then 1 else 0
theorem oneC_le (k i : Nat) : oneC k i ≤ 1 := by unfold oneC; split <;> omega
theorem pwc_two {k c i m : Nat} (hc : c ≤ 4096) (hi : i ≤ m) : pwc (oneC k) c i ≤ 2 ^ (12 * m) :=
  Nat.le_trans (pwc_le (oneC_le k) c i) (Nat.le_trans (pow_two (a := 12) hc i) (Nat.pow_le_pow_right (by omega) (by omega)))
end Go.Proofs.YtjhaogbopmhkoaaDoor
