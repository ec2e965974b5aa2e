/- what more is needed -/
import Derived.Test.YtdjfbbfbdgiblaaGreatDoorK15
import Derived.WalkKit
import Derived.WalkLawsBesides
import Derived.WalkSpells
import Derived.Lib.Hide
import Derived.Laws.BitsAllLaws
import Derived.Deep.QuietTactic
import Derived.BigQuiet
import Derived.Below
import Derived.OwnWalk
import Derived.Laws.OwnMore
import Derived.Laws.Rows
import Derived.Deep.AppendLies
import Derived.Maps.AppendAt
import Derived.RangeFuncNested
import Derived.RangeFuncBound
import Derived.RangeFuncCalls
import Derived.RangeFuncLeaves
import Derived.RangeFuncBox
import Derived.RangeFuncWrites
import Derived.Shelf.Abstract
import Derived.Shelf.RegionOpen
import Derived.OwnWalkIn
import Derived.TacticsInMore
import Derived.LoopNIn
import Derived.LoopIn
import Derived.Test.YtdjfbbfbdgiblaaGreatDoorChecked
import Derived.StillTailTactics
import Derived.Outline
import Derived.Deep.Cut
import Derived.RegionIn
import Derived.Lib.IndexBytes
import Derived.Lib.BufferRead
import Derived.RegionTactic
import Derived.ChangeAlike
import Derived.Deep.RegionWith
import Derived.StillTail
import Derived.Lib.QuietBelow
import Derived.Lib.AppendZeros
import Derived.Lib.TrailingZeros
import Derived.Lib.BitFns
import Derived.BigRegion
import Derived.Shelf.Spec.BitsCarry
import Derived.Deep.LoopGhost
import Derived.Shelf.Bits.Mul64
import Derived.Deep.RegionHeld3
import Derived.Deep.CutBlock
import Derived.Test.YtdjfbbfbdgiblaaGreatDoorRows
import Derived.ProofKit
import Derived.OpenShut
import Derived.LaidMore
import Derived.Lay
import Derived.SevenTiedAt
import Derived.Stop.Joined
import Derived.Lib.SmallJoins
import Derived.Carry
namespace Go.Proofs.YtdjfbbfbdgiblaaGreatDoor
open Go.RowKit
set_option linter.unusedVariables false
set_option maxRecDepth 100000

theorem ofInt_i64 (a : Nat) (ha : a < 9223372036854775808) : (BitVec.ofInt 64 (a : Int)).toNat = a := by
  rw [BitVec.ofInt_natCast, BitVec.toNat_ofNat]; exact Nat.mod_eq_of_lt (by omega)
theorem i64_and_nat (a b : Nat) (ha : a < 9223372036854775808) (hb : b < 9223372036854775808) : bits .and .i64 (a : Int) (b : Int) = ((a &&& b : Nat) : Int) := by
  have hx : a &&& b < 2 ^ 63 := Nat.and_lt_two_pow _ (by omega)
  show IntKind.i64.wrap ((BitVec.ofInt 64 (a : Int) &&& BitVec.ofInt 64 (b : Int)).toNat : Int) = _
  rw [BitVec.toNat_and, ofInt_i64 a ha, ofInt_i64 b hb, IntKind.wrap_i64]
  omega
end Go.Proofs.YtdjfbbfbdgiblaaGreatDoor

namespace Go.Proofs.YtdjfbbfbdgiblaaGreatDoor
open Go.RowKit
set_option linter.unusedVariables false
set_option maxRecDepth 100000

theorem i64_xor_nat (a b : Nat) (ha : a < 9223372036854775808) (hb : b < 9223372036854775808) : bits .xor .i64 (a : Int) (b : Int) = ((a ^^^ b : Nat) : Int) := by
  have hx : a ^^^ b < 2 ^ 63 := Nat.xor_lt_two_pow (by omega) (by omega)
  show IntKind.i64.wrap ((BitVec.ofInt 64 (a : Int) ^^^ BitVec.ofInt 64 (b : Int)).toNat : Int) = _
  rw [BitVec.toNat_xor, ofInt_i64 a ha, ofInt_i64 b hb, IntKind.wrap_i64]
  omega
end Go.Proofs.YtdjfbbfbdgiblaaGreatDoor

namespace Go.Proofs.YtdjfbbfbdgiblaaGreatDoor
set_option linter.unusedVariables false
/-- numbers in two halves -/
def hvs (A : List Nat) : List Value := A.flatMap fun x => [.int .i64 ((x % 1000000000000000000 : Nat) : Int), .int .i64 ((x / 1000000000000000000 : Nat) : Int)]
theorem hvs_length : ∀ (A : List Nat), (hvs A).length = 2 * A.length
  | [] => rfl
  | x :: A => by
    have h := hvs_length A
    show (hvs A).length + 1 + 1 = 2 * (A.length + 1)
    omega
theorem hvs_at : ∀ {A : List Nat} {k x : Nat}, A[k]? = some x → (hvs A)[2 * k]? = some (.int .i64 ((x % 1000000000000000000 : Nat) : Int)) ∧ (hvs A)[2 * k + 1]? = some (.int .i64 ((x / 1000000000000000000 : Nat) : Int))
  | [], _, _, h => by simp at h
  | y :: A, 0, x, h => by
    obtain rfl : y = x := by simpa using h
    exact ⟨rfl, rfl⟩
  | y :: A, k + 1, x, h => by
    have h1 := hvs_at (A := A) (k := k) (x := x) (by simpa using h)
    exact h1
theorem hvs_set : ∀ (A : List Nat) (k x : Nat), ((hvs A).set (2 * k) (.int .i64 ((x % 1000000000000000000 : Nat) : Int))).set (2 * k + 1) (.int .i64 ((x / 1000000000000000000 : Nat) : Int)) = hvs (A.set k x)
  | [], _, _ => rfl
  | y :: A, 0, x => rfl
  | y :: A, k + 1, x => by
    have h := hvs_set A k x
    have e : ∀ (u v : Value) (l : List Value) (i : Nat) (a b : Value), ((u :: v :: l).set (2 * (i + 1)) a).set (2 * (i + 1) + 1) b = u :: v :: (l.set (2 * i) a).set (2 * i + 1) b := fun _ _ _ _ _ _ => rfl
    have e2 : ∀ (y : Nat) (B : List Nat), hvs (y :: B) = .int .i64 ((y % 1000000000000000000 : Nat) : Int) :: .int .i64 ((y / 1000000000000000000 : Nat) : Int) :: hvs B := fun _ _ => rfl
    rw [List.set_cons_succ, e2, e2, e, h]
theorem half_lo (a b : Nat) : (a + b) % 1000000000000000000 = (a % 1000000000000000000 + b % 1000000000000000000) % 1000000000000000000 := by omega
theorem half_hi (a b : Nat) : (a + b) / 1000000000000000000 = a / 1000000000000000000 + b / 1000000000000000000 + (a % 1000000000000000000 + b % 1000000000000000000) / 1000000000000000000 := by omega
namespace Ch
theorem cnt_long : ∀ (l : List Nat) (k s : Nat), l.length < k → cnt l k s = 0
  | [], 0, _, h => by simp at h
  | [], k + 1, _, _ => rfl
  | c :: l, 0, _, h => by simp at h
  | c :: l, k + 1, s, h => by
    have h' : l.length < k := by simpa using h
    show cnt l (k + 1) s + cnt l k (s ^^^ c) = 0
    rw [cnt_long l (k + 1) s (by omega), cnt_long l k _ h']
theorem cnt_two : ∀ (l : List Nat) (k s : Nat), cnt l k s ≤ 2 ^ l.length
  | [], 0, s => by show (if s = 0 then 1 else 0) ≤ 1; split <;> omega
  | [], k + 1, _ => Nat.zero_le _
  | c :: l, 0, s => by
    show (if s = 0 then 1 else 0) ≤ _
    have : 0 < 2 ^ (c :: l).length := Nat.two_pow_pos _
    split <;> omega
  | c :: l, k + 1, s => by
    have h1 := cnt_two l (k + 1) s
    have h2 := cnt_two l k (s ^^^ c)
    show cnt l (k + 1) s + cnt l k (s ^^^ c) ≤ 2 ^ (l.length + 1)
    rw [Nat.pow_succ]; omega
theorem cnt_perm {l m : List Nat} (h : l.Perm m) (hl : ∀ c ∈ l, c < 256) (w : Nat) {c : Nat} (hc : c < 256) : cnt l w c = cnt m w c := by
  have e1 := invert l hl w hc
  have e2 := invert m (fun d hd => hl d (h.mem_iff.2 hd)) w hc
  rw [sm_congr (g := fun y => E (m.map (chi y)) w * chi y c) 256 fun y _ => by rw [E_perm (h.map (chi y)) w]] at e1
  omega
/-- the first columns, the last one ahead -/
def rl (b : Nat) : List Nat := (cols.take b).reverse
theorem rl_len (b : Nat) (hb : b ≤ 72) : (rl b).length = b := by unfold rl; rw [List.length_reverse, List.length_take, cols_len]; omega
theorem rl_succ (b c : Nat) (hc : cols[b]? = some c) : rl (b + 1) = c :: rl b := by
  unfold rl
  rw [List.take_add_one, hc, List.reverse_append]
  rfl
theorem rl_all : rl 72 = cols.reverse := by unfold rl; rw [List.take_of_length_le (by rw [cols_len]; exact Nat.le_refl _)]
/-- the table of w + 1 rows when the rows above k, and the first t places of row k, have been done for the next bit -/
def tf (b k t j : Nat) : Nat := if k < j / 256 ∨ (j / 256 = k ∧ j % 256 < t) then cnt (rl (b + 1)) (j / 256) (j % 256) else cnt (rl b) (j / 256) (j % 256)
def tb (n b k t : Nat) : List Nat := (List.range (n * 256)).map (tf b k t)
theorem tb_len (n b k t : Nat) : (tb n b k t).length = n * 256 := by unfold tb; rw [List.length_map, List.length_range]
theorem tb_at {n b k t j : Nat} (h : j < n * 256) : (tb n b k t)[j]? = some (tf b k t j) := by
  unfold tb
  rw [List.getElem?_map, List.getElem?_range h]
  rfl
theorem tb_congr {n b k t b' k' t' : Nat} (h : ∀ j, j < n * 256 → tf b k t j = tf b' k' t' j) : tb n b k t = tb n b' k' t' := by
  unfold tb
  exact List.map_congr_left fun j hj => h j (List.mem_range.1 hj)
/-- where a bit begins -/
theorem tb_start {n b k : Nat} (hb : b < 72) (hn : n ≤ 100) (hk : k = b + 1 ∨ n ≤ k + 1) : tb n b 10000 0 = tb n b k 0 := by
  refine tb_congr fun j hj => ?_
  unfold tf
  rw [if_neg (show ¬ (10000 < j / 256 ∨ (j / 256 = 10000 ∧ j % 256 < 0)) by omega)]
  split
  · next h =>
    have h1 : k < j / 256 := by omega
    rw [cnt_long _ _ _ (by rw [rl_len _ (by omega)]; omega), cnt_long _ _ _ (by rw [rl_len _ (by omega)]; omega)]
  · rfl
theorem tb_row {n b k : Nat} : tb n b (k + 1) 256 = tb n b k 0 := by
  refine tb_congr fun j hj => ?_
  unfold tf
  have : (k + 1 < j / 256 ∨ (j / 256 = k + 1 ∧ j % 256 < 256)) ↔ (k < j / 256 ∨ (j / 256 = k ∧ j % 256 < 0)) := by omega
  simp only [this]
theorem tb_end {n b : Nat} (hb : b < 72) (hn : n ≤ 100) : tb n b 0 0 = tb n (b + 1) 10000 0 := by
  refine tb_congr fun j hj => ?_
  unfold tf
  rw [if_neg (show ¬ (10000 < j / 256 ∨ (j / 256 = 10000 ∧ j % 256 < 0)) by omega)]
  split
  · rfl
  · next h =>
    have h0 : j / 256 = 0 := by omega
    rw [h0, cnt_zero, cnt_zero]
theorem tf_old {b k t : Nat} (ht : t < 256) : tf b k t (k * 256 + t) = cnt (rl b) k t := by
  unfold tf
  have h1 : (k * 256 + t) / 256 = k := by omega
  have h2 : (k * 256 + t) % 256 = t := by omega
  rw [h1, h2, if_neg (by omega)]
theorem tf_low {b k t s : Nat} (hs : s < 256) : tf b (k + 1) t (k * 256 + s) = cnt (rl b) k s := by
  unfold tf
  have h1 : (k * 256 + s) / 256 = k := by omega
  have h2 : (k * 256 + s) % 256 = s := by omega
  rw [h1, h2, if_neg (by omega)]
/-- one place -/
theorem tb_set {n b k t c : Nat} (ht : t < 256) (hc : cols[b]? = some c) : (tb n b (k + 1) t).set ((k + 1) * 256 + t) (cnt (rl b) (k + 1) t + cnt (rl b) k (t ^^^ c)) = tb n b (k + 1) (t + 1) := by
  refine List.ext_getElem? fun j => ?_
  rw [List.getElem?_set, tb_len]
  by_cases hj : (k + 1) * 256 + t = j
  · subst hj
    rw [if_pos rfl]
    by_cases hl : (k + 1) * 256 + t < n * 256
    · rw [if_pos hl, tb_at hl]
      unfold tf
      have h1 : ((k + 1) * 256 + t) / 256 = k + 1 := by omega
      have h2 : ((k + 1) * 256 + t) % 256 = t := by omega
      rw [h1, h2, if_pos (by omega), rl_succ b c hc]
      rfl
    · rw [if_neg hl, List.getElem?_eq_none (by rw [tb_len]; omega)]
  · rw [if_neg hj]
    by_cases hl : j < n * 256
    · rw [tb_at hl, tb_at hl]
      congr 1
      unfold tf
      have : (k + 1 < j / 256 ∨ (j / 256 = k + 1 ∧ j % 256 < t)) ↔ (k + 1 < j / 256 ∨ (j / 256 = k + 1 ∧ j % 256 < t + 1)) := by omega
      simp only [this]
    · rw [List.getElem?_eq_none (by rw [tb_len]; omega), List.getElem?_eq_none (by rw [tb_len]; omega)]
/-- the last sum -/
def sf (w i : Nat) : Nat := cnt (rl 72) w 0 + nl ((cols.take i).map (cnt (rl 72) w))
theorem nl_snoc (l : List Nat) (x : Nat) : nl (l ++ [x]) = nl l + x := by
  induction l with
  | nil => show x + 0 = 0 + x; omega
  | cons y l ih => show y + nl (l ++ [x]) = y + nl l + x; omega
theorem sf_succ (w i c : Nat) (hc : cols[i]? = some c) : sf w (i + 1) = sf w i + cnt (rl 72) w c := by
  unfold sf
  rw [List.take_add_one, hc]
  show _ + nl ((cols.take i ++ [c]).map _) = _
  rw [List.map_append]
  show _ + nl (_ ++ [cnt (rl 72) w c]) = _
  rw [nl_snoc]; omega
theorem sf_le (w : Nat) : ∀ i, i ≤ 72 → sf w i ≤ (i + 1) * 2 ^ 72
  | 0, _ => by
    have := cnt_two (rl 72) w 0
    rw [rl_len 72 (Nat.le_refl _)] at this
    unfold sf
    show _ + 0 ≤ _
    omega
  | i + 1, h => by
    have ih := sf_le w i (by omega)
    have h2 : i < cols.length := by rw [cols_len]; omega
    have h3 := cnt_two (rl 72) w cols[i]
    rw [rl_len 72 (Nat.le_refl _)] at h3
    rw [sf_succ w i cols[i] (List.getElem?_eq_getElem h2)]
    omega
theorem sf_pass (w : Nat) (h : 2 ≤ w) : sf w 72 = pass w := by
  have hp : ∀ c, c < 256 → cnt (rl 72) w c = cnt cols w c := fun c hc => by
    rw [rl_all]
    exact cnt_perm (List.reverse_perm cols) (fun d hd => cols_lt d (List.mem_reverse.1 hd)) w hc
  unfold sf pass right all
  rw [if_neg (by omega), if_neg (by omega), List.take_of_length_le (by rw [cols_len]; exact Nat.le_refl _), hp 0 (by omega), List.map_congr_left fun c hc => hp c (cols_lt c hc)]
  rfl
end Ch
end Go.Proofs.YtdjfbbfbdgiblaaGreatDoor

namespace Go.Proofs.YtdjfbbfbdgiblaaGreatDoor
open Go.RowKit Go.Sort
set_option linter.unusedVariables false
set_option maxRecDepth 100000
section
variable {w0 w w' : World} {g : Option Nat} {M M2 : List (Nat × Value)} {L : List Ob} {O : List Rw} {A A2 A3 A4 : Option Addr} {b n c m c2 n3 c3 n4 c4 x y : Nat} {p q r s : List Int}
set_option maxHeartbeats 4000000 in
theorem r8_add (h : Ow w0 w g M L O) (i j : Nat) (hi : L[i]? = some ⟨A, n, c, nats (Na.dig x)⟩) (hj : L[j]? = some ⟨A2, m, c2, nats (Na.dig y)⟩) (hx : x < Na.top) (hy : y < Na.top) (hs : x + y < Na.top) :
    Calls Tryz.prog 56 #[.agg #[.slice A n c], .agg #[.slice A2 m c2]] w (GotU w0 g M L O (Na.dig (x + y))) := by
  have H0 := ((h.boxed (.slice A n c) 31).boxed (.slice A2 m c2) 31).boxed (.slice none 0 0) 31
  try simp only [World.size_alloc] at H0
  try simp only [List.append_assoc] at H0
  try simp only [List.cons_append] at H0
  try simp only [List.nil_append] at H0
  have k0 := H0.cell (M.length + 0) (by rw [get_r]; rfl)
  have k1 := H0.cell (M.length + 1) (by rw [get_r]; rfl)
  have HC := Lib.hid (nradd_fr H0 i j hi hj hx hy)
  rw [resL_ok hs, resE_ok hs] at HC
  obtain ⟨l0, hl0⟩ : ∃ z, Na.dig (x + y) = z := ⟨_, rfl⟩
  rw [hl0] at HC ⊢
  clear h H0 hl0 hi hj hx hy hs
  go_enter Tryz.func56, Tryz.ntmps56
  go_wp2_with fail
  refine HC.out.mono ?_
  rintro e w1 ⟨B1, m1, d1, rfl, G⟩
  have H := G.boxed (.slice B1 m1 d1) 31
  try simp only [List.append_assoc] at H
  try simp only [List.cons_append] at H
  try simp only [List.nil_append] at H
  clear HC G k0 k1
  have x0 := H.cell (M.length + 3) (by rw [get_r]; rfl)
  have r0 := H.cell (M.length + 2) (by rw [get_r]; rfl)
  have f0 := H.free (M.length + 2) (by rw [get_r]; rfl)
  have Z := H.setv (M.length + 2) (by rw [get_r]; rfl) (.slice B1 m1 d1)
  rw [set_r] at Z
  try simp only [List.set_cons_succ] at Z
  try simp only [List.set_cons_zero] at Z
  have s0 := Z.cell (M.length + 2) (by rw [get_r]; rfl)
  have HF := Lib.hid Z.fewM
  clear H Z
  go_wp2_with fail
  refine bodyPost_ret (v := .agg #[.slice B1 m1 d1]) (by simp [results, Tryz.results56, go_sem, s0]) rfl ?_
  exact ⟨B1, m1, d1, rfl, HF.out⟩
end
end Go.Proofs.YtdjfbbfbdgiblaaGreatDoor

namespace Go.Proofs.YtdjfbbfbdgiblaaGreatDoor
open Go.RowKit Go.Shelf
set_option linter.unusedVariables false
set_option maxRecDepth 100000
namespace Ch
end Ch
set_option maxHeartbeats 4000000 in
theorem wrongbits_no (v : Int) (h : v < 0 ∨ 72 < v) (w : World) : Calls Tryz.prog 25 #[.int .i64 v] w (ResN w [] 2) := by
  rcases Int.lt_or_le v 0 with h0 | h0
  · have t1 : decide (v < 0) = true := decide_eq_true h0
    go_enter Tryz.func25, Tryz.ntmps25
    go_wp2_with fail
    refine bodyPost_ret (v := .tuple #[.agg #[.slice none 0 0], .int .i64 2]) (by simp [results, Tryz.results25, go_sem]) rfl ?_
    exact resN_nil _ _ _ (own_box1 _ _)
  · have t1 : decide (v < 0) = false := decide_eq_false (by omega)
    have t2 : decide (72 < v) = true := decide_eq_true (by omega)
    clear h h0
    go_enter Tryz.func25, Tryz.ntmps25
    go_wp2_with fail
    refine bodyPost_ret (v := .tuple #[.agg #[.slice none 0 0], .int .i64 2]) (by simp [results, Tryz.results25, go_sem]) rfl ?_
    exact resN_nil _ _ _ (own_box1 _ _)
end Go.Proofs.YtdjfbbfbdgiblaaGreatDoor

namespace Go.Proofs.YtdjfbbfbdgiblaaGreatDoor
open Go.RowKit Go.Sort
set_option linter.unusedVariables false
set_option maxRecDepth 100000
section
variable {w0 w w' : World} {g : Option Nat} {M M2 : List (Nat × Value)} {L : List Ob} {O : List Rw} {A A2 A3 A4 : Option Addr} {b n c m c2 n3 c3 n4 c4 x y : Nat} {p q r s : List Int}
structure DmK (w0 : World) (g : Option Nat) (M : List (Nat × Value)) (L : List Ob) (O : List Rw) (r0 x0 : Nat) (A1 : Option Addr) (n1 c1 i : Nat) (ad : Addr) (n c k : Nat) (Ak : Option Addr) (nk ck P x : Nat) (Ld : Nat → Bool) (u0 u1 u2 u3 u4 u5 u6 u7 u8 : Value) (va : Value) (Ls : List Ob) (W : World) : Prop where
  ow : Ow w0 W g (M ++ [(r0, .slice none 0 0), (x0, va)]) (L ++ [(⟨A1, n1, c1, nats (Na.dig P)⟩ : Ob)] ++ Ls) O
  h0 : Ld 0 = true → u0 = .agg #[.slice A1 n1 c1]
  h1 : Ld 1 = true → u1 = .slice (some ad) n c
  h2 : Ld 2 = true → u2 = .int .i64 (k : Int)
  h3 : Ld 3 = true → u3 = .pointer (some (ad.add k))
  h4 : Ld 4 = true → u4 = .agg #[.slice Ak nk ck]
  h5 : GT Ld 5 u5 (P * x) 0 Ls
  h6 : GT Ld 6 u6 (P * x) 0 Ls
  h7 : GN Ld 7 u7 (P * x) Ls
  h8 : Ld 8 = true → u8 = .int .i64 0
  v0 : Ld 9 = false → va = .slice A1 n1 c1
  v1 : GV Ld 9 va (P * x) Ls
def DmI (w0 : World) (g : Option Nat) (M : List (Nat × Value)) (L : List Ob) (O : List Rw) (r0 x0 : Nat) (A1 : Option Addr) (n1 c1 i : Nat) (ad : Addr) (n c k : Nat) (Ak : Option Addr) (nk ck P x : Nat) (A0 : Act) (Ld : Nat → Bool) (a : Act) (W : World) : Prop :=
  ∃ (u0 u1 u2 u3 u4 u5 u6 u7 u8 : Value) (va : Value) (Ls : List Ob), a = (((((((((A0.put (some 17) u0).put (some 18) u1).put (some 19) u2).put (some 20) u3).put (some 21) u4).put (some 22) u5).put (some 16) u6).put (some 23) u7).put (some 24) u8) ∧ DmK w0 g M L O r0 x0 A1 n1 c1 i ad n c k Ak nk ck P x Ld u0 u1 u2 u3 u4 u5 u6 u7 u8 va Ls W
set_option maxHeartbeats 4000000 in
theorem r8_mul (h : Ow w0 w g M L O) (i : Nat) {vs : List Value} (hi : L[i]? = some ⟨A, n, c, vs⟩) (xs : List Nat) (hlen : xs.length = n) (hx : Nums L vs xs) (ht : ∀ x ∈ xs, x < Na.top) (hp : ∀ k, k ≤ n → pr (xs.take k) < Na.top) :
    Calls Tryz.prog 57 #[.slice A n c] w (GotU w0 g M L O (Na.dig (pr xs))) := by
  have hn : n ≤ 1000 := (h.sl hi).2.2.1
  have H0 := h.boxed (.slice none 0 0) 31
  have HC := Lib.hid (rof_z H0 1 (by omega))
  have HI := Lib.hid (And.intro hi (And.intro hlen (And.intro hx (And.intro ht hp))))
  obtain ⟨r0, hr0⟩ : ∃ b, w.heap.size = b := ⟨_, rfl⟩
  clear h H0 hi hlen hx ht hp
  go_enter Tryz.func57, Tryz.ntmps57
  go_wp2_with fail
  refine HC.out.mono ?_
  rintro e w1 ⟨B1, m1, d1, rfl, G⟩
  have H := G.boxed (.slice B1 m1 d1) 31
  simp only [List.append_assoc, List.cons_append, List.nil_append] at H
  rw [hr0] at H
  have HO := Lib.hid H
  clear HC G H
  go_wp2_with fail
  try rw [hr0]
  go_loopw [5] (fun i wr => RTm w0 g M L O r0 w1.heap.size n xs i wr) (fun i _ => n + 1 - (intOf i).toNat)
  case atStart => exact ⟨0, B1, m1, d1, Nat.zero_le _, rfl, HO⟩
  case round =>
    clear HO
    obtain ⟨k, A1, n1, c1, hk, rfl, HO⟩ := hrel
    rcases Nat.eq_or_lt_of_le hk with he | hlt
    · have hd : decide ((k : Int) < (n : Int)) = false := decide_eq_false (by omega)
      have hd2 : decide (k < n) = false := decide_eq_false (by omega)
      have x0 := HO.out.cell (M.length + 1) (by rw [get_r]; rfl)
      have rc := HO.out.cell (M.length + 0) (by rw [get_r]; rfl)
      have rf := HO.out.free (M.length + 0) (by rw [get_r]; rfl)
      have Z := HO.out.setv (M.length + 0) (by rw [get_r]; rfl) (.slice A1 n1 c1)
      rw [set_r, List.set_cons_zero] at Z
      have s0 := Z.cell (M.length + 0) (by rw [get_r]; rfl)
      have e1 : pr (xs.take k) = pr xs := by rw [List.take_of_length_le (by have := HI.out.2.1; omega)]
      have HF := Lib.hid Z.fewM
      rw [e1] at HF
      clear HO Z e1 he hk
      go_wp2_with fail
      refine bodyPost_ret (v := .agg #[.slice A1 n1 c1]) (by simp [results, Tryz.results57, go_sem, s0]) rfl ?_
      exact ⟨A1, n1, c1, rfl, HF.out⟩
    · have hd : decide ((k : Int) < (n : Int)) = true := decide_eq_true (by omega)
      have hd2 : decide (k < n) = true := decide_eq_true hlt
      obtain ⟨x, hxk⟩ : ∃ x, xs[k]? = some x := ⟨xs[k]'(by have := HI.out.2.1; omega), List.getElem?_eq_getElem _⟩
      obtain ⟨Ak, nk, ck, t, hv, hl⟩ := HI.out.2.2.1 k x hxk
      obtain ⟨hvl, hkv⟩ := List.getElem?_eq_some_iff.1 hv
      have hsl := (HO.out.sl (i := i) (by rw [get_l _ _ (get_lt HI.out.1)]; exact HI.out.1)).2.2.2
      obtain ⟨ad, rfl, had, hcell0⟩ := hsl.at_ hvl
      have hkm : k ≤ 1000 := by omega
      have hxt : x < Na.top := HI.out.2.2.2.1 x (List.mem_of_getElem? hxk)
      have hpk := HI.out.2.2.2.2 (k + 1) hlt
      have hpk0 := HI.out.2.2.2.2 k hk
      rw [pr_take hxk] at hpk
      obtain ⟨P, hP⟩ : ∃ P, pr (xs.take k) = P := ⟨_, rfl⟩
      have HE : Hid (pr (xs.take (k + 1)) = P * x) := by unfold Hid; rw [pr_take hxk, hP]
      rw [hP] at hpk hpk0 HO
      have HK : Hid (k < n ∧ k ≤ 1000) := ⟨hlt, hkm⟩
      have HL : Hid (∀ {M' : List (Nat × Value)} {Ls : List Ob} {W : World}, Ow w0 W g M' ((L ++ [(⟨A1, n1, c1, nats (Na.dig P)⟩ : Ob)]) ++ Ls) O → W.cell? (ad.add k) = some (.slice Ak nk ck)) := by
        intro M' Ls W ho
        have hsl := (ho.sl (i := i) (by rw [List.append_assoc, get_l _ _ (get_lt HI.out.1)]; exact HI.out.1)).2.2.2
        obtain ⟨ad', e', -, hc⟩ := hsl.at_ hvl
        obtain rfl := Option.some.inj e'
        rw [hkv] at hc
        exact hc
      have HMl : Hid (∀ {M' : List (Nat × Value)} {Ls : List Ob} {W : World}, Ow w0 W g M' ((L ++ [(⟨A1, n1, c1, nats (Na.dig P)⟩ : Ob)]) ++ Ls) O → Calls Tryz.prog 24 #[.agg #[.slice A1 n1 c1], .agg #[.slice Ak nk ck]] W (GotO w0 g M' ((L ++ [(⟨A1, n1, c1, nats (Na.dig P)⟩ : Ob)]) ++ Ls) O (Na.dig (P * x)) 0)) := by
        intro M' Ls W ho
        exact rmul_z ho (L.length + 0) t (by rw [List.append_assoc, get_r]; rfl) (by rw [List.append_assoc, get_l _ _ (get_lt hl)]; exact hl) hpk0 hxt hpk
      clear hsl hpk hpk0 hxt hl hv hkv hvl hxk hP hcell0 hk had
      go_wp2_with fail
      refine reg_inv34 (DmI w0 g M L O r0 w1.heap.size A1 n1 c1 i ad n c k Ak nk ck P x) (by kernel_rfl) (by kernel_rfl) ?_ ?_ ?_
      · refine ⟨u17, u18, u19, u20, u21, u22, u16, u23, u24, .slice A1 n1 c1, [], ?_, ⟨by rw [List.append_nil]; exact HO.out.drew, ?_, ?_, ?_, ?_, ?_, ?_, ?_, ?_, ?_, fun _ => rfl, ?_⟩⟩
        · simp only [Act.put, List.setIfInBounds_toArray, List.set_cons_zero, List.set_cons_succ]
        all_goals (intro h; cases h)
      · rintro jj Ld b W hj hf hcl hd ⟨u0, u1, u2, u3, u4, u5, u6, u7, u8, va, Ls, rfl, hC⟩
        have hj' : jj < 10 := hj
        have hcase : jj = 0 ∨ jj = 1 ∨ jj = 2 ∨ jj = 3 ∨ jj = 4 ∨ jj = 5 ∨ jj = 6 ∨ jj = 7 ∨ jj = 8 ∨ jj = 9 := by omega
        have qa := hC.ow.cell (M.length + 1) (by rw [get_r]; rfl)
        have qz := hC.ow.free (M.length + 1) (by rw [get_r]; rfl)
        clear hj hj'
        simp only [Act.put, List.setIfInBounds_toArray, List.set_cons_zero, List.set_cons_succ]
        rcases hcase with rfl | rfl | rfl | rfl | rfl | rfl | rfl | rfl | rfl | rfl
        · have g5 : Ld 5 = false := by cases e : Ld 5 with | false => rfl | true => (rw [hcl 5 0 e (by kernel_rfl)] at hf; cases hf)
          have g6 : Ld 6 = false := by cases e : Ld 6 with | false => rfl | true => (rw [hcl 6 5 e (by kernel_rfl)] at g5; cases g5)
          have g7 : Ld 7 = false := by cases e : Ld 7 with | false => rfl | true => (rw [hcl 7 6 e (by kernel_rfl)] at g6; cases g6)
          have g9 : Ld 9 = false := by cases e : Ld 9 with | false => rfl | true => (rw [hcl 9 7 e (by kernel_rfl)] at g7; cases g7)
          obtain rfl := hC.v0 g9
          clear hd hcl
          refine wpOp_step rfl (fun K hK => ?_)
          go_simp
          refine hK _ _ ⟨_, u1, u2, u3, u4, u5, u6, u7, u8, _, Ls, ?_, ⟨hC.ow, fun _ => rfl, hC.h1, hC.h2, hC.h3, hC.h4, hC.h5, hC.h6, hC.h7, hC.h8, hC.v0, hC.v1⟩⟩
          simp only [Act.put, List.setIfInBounds_toArray, List.set_cons_zero, List.set_cons_succ]
        · clear hd hcl
          refine wpOp_step rfl (fun K hK => ?_)
          go_simp
          refine hK _ _ ⟨u0, _, u2, u3, u4, u5, u6, u7, u8, va, Ls, ?_, ⟨hC.ow, hC.h0, fun _ => rfl, hC.h2, hC.h3, hC.h4, hC.h5, hC.h6, hC.h7, hC.h8, hC.v0, hC.v1⟩⟩
          simp only [Act.put, List.setIfInBounds_toArray, List.set_cons_zero, List.set_cons_succ]
        · clear hd hcl
          refine wpOp_step rfl (fun K hK => ?_)
          go_simp
          refine hK _ _ ⟨u0, u1, _, u3, u4, u5, u6, u7, u8, va, Ls, ?_, ⟨hC.ow, hC.h0, hC.h1, fun _ => rfl, hC.h3, hC.h4, hC.h5, hC.h6, hC.h7, hC.h8, hC.v0, hC.v1⟩⟩
          simp only [Act.put, List.setIfInBounds_toArray, List.set_cons_zero, List.set_cons_succ]
        · obtain rfl := hC.h1 (hd 1 (by kernel_rfl))
          obtain rfl := hC.h2 (hd 2 (by kernel_rfl))
          have hkI : (k : Int) < (n : Int) := by have := HK.out.1; omega
          have hk0 : k < n := HK.out.1
          have hk1 : k ≤ 1000 := HK.out.2
          clear hd hcl
          refine wpOp_step rfl (fun K hK => ?_)
          go_simp
          refine hK _ _ ⟨u0, _, _, _, u4, u5, u6, u7, u8, va, Ls, ?_, ⟨hC.ow, hC.h0, hC.h1, hC.h2, fun _ => rfl, hC.h4, hC.h5, hC.h6, hC.h7, hC.h8, hC.v0, hC.v1⟩⟩
          simp only [Act.put, List.setIfInBounds_toArray, List.set_cons_zero, List.set_cons_succ]
        · obtain rfl := hC.h3 (hd 3 (by kernel_rfl))
          have hcell := HL.out (hC.ow)
          clear hd hcl
          refine wpOp_step rfl (fun K hK => ?_)
          go_simp
          refine hK _ _ ⟨u0, u1, u2, _, _, u5, u6, u7, u8, va, Ls, ?_, ⟨hC.ow, hC.h0, hC.h1, hC.h2, hC.h3, fun _ => rfl, hC.h5, hC.h6, hC.h7, hC.h8, hC.v0, hC.v1⟩⟩
          simp only [Act.put, List.setIfInBounds_toArray, List.set_cons_zero, List.set_cons_succ]
        · obtain rfl := hC.h0 (hd 0 (by kernel_rfl))
          obtain rfl := hC.h4 (hd 4 (by kernel_rfl))
          clear hd hcl
          refine wpOp_step rfl (fun K hK => ?_)
          go_simp
          refine (HMl.out hC.ow).mono ?_
          rintro e W' ⟨Az, nz, cz, rfl, ho⟩
          rw [List.append_assoc (L ++ [(⟨A1, n1, c1, nats (Na.dig P)⟩ : Ob)]) Ls] at ho
          refine hK _ _ ⟨_, u1, u2, u3, _, _, u6, u7, u8, va, _, ?_, ⟨ho, hC.h0, hC.h1, hC.h2, hC.h3, hC.h4, GT.new _ _ _ _ _ _ _ _, hC.h6.more, hC.h7.more, hC.h8, hC.v0, hC.v1.more⟩⟩
          simp only [Act.put, List.setIfInBounds_toArray, List.set_cons_zero, List.set_cons_succ]
        · obtain ⟨t5, A5, n5, c5, rfl, r5⟩ := hC.h5 (hd 5 (by kernel_rfl))
          clear hd hcl
          refine wpOp_step rfl (fun K hK => ?_)
          go_simp
          refine hK _ _ ⟨u0, u1, u2, u3, u4, _, _, u7, u8, va, Ls, ?_, ⟨hC.ow, hC.h0, hC.h1, hC.h2, hC.h3, hC.h4, hC.h5, fun _ => ⟨t5, A5, n5, c5, rfl, r5⟩, hC.h7, hC.h8, hC.v0, hC.v1⟩⟩
          simp only [Act.put, List.setIfInBounds_toArray, List.set_cons_zero, List.set_cons_succ]
        · obtain ⟨t6, A6, n6, c6, rfl, r6⟩ := hC.h6 (hd 6 (by kernel_rfl))
          clear hd hcl
          refine wpOp_step rfl (fun K hK => ?_)
          go_simp
          refine hK _ _ ⟨u0, u1, u2, u3, u4, u5, _, _, u8, va, Ls, ?_, ⟨hC.ow, hC.h0, hC.h1, hC.h2, hC.h3, hC.h4, hC.h5, hC.h6, fun _ => ⟨t6, A6, n6, c6, rfl, r6⟩, hC.h8, hC.v0, hC.v1⟩⟩
          simp only [Act.put, List.setIfInBounds_toArray, List.set_cons_zero, List.set_cons_succ]
        · obtain ⟨t6, A6, n6, c6, rfl, r6⟩ := hC.h6 (hd 6 (by kernel_rfl))
          clear hd hcl
          refine wpOp_step rfl (fun K hK => ?_)
          go_simp
          refine hK _ _ ⟨u0, u1, u2, u3, u4, u5, _, u7, _, va, Ls, ?_, ⟨hC.ow, hC.h0, hC.h1, hC.h2, hC.h3, hC.h4, hC.h5, hC.h6, hC.h7, fun _ => rfl, hC.v0, hC.v1⟩⟩
          simp only [Act.put, List.setIfInBounds_toArray, List.set_cons_zero, List.set_cons_succ]
        · obtain ⟨t7, A7, n7, c7, rfl, r7⟩ := hC.h7 (hd 7 (by kernel_rfl))
          have R7 : (L ++ [(⟨A1, n1, c1, nats (Na.dig P)⟩ : Ob)] ++ Ls)[(L ++ [(⟨A1, n1, c1, nats (Na.dig P)⟩ : Ob)]).length + t7]? = some ⟨A7, n7, c7, nats (Na.dig (P * x))⟩ := (get_r _ _ _).trans r7
          clear hd hcl
          refine wpOp_step rfl (fun K hK => ?_)
          go_simp
          have ho := hC.ow.setv (M.length + 1) (by rw [get_r]; rfl) (.slice A7 n7 c7)
          rw [set_r, List.set_cons_succ, List.set_cons_zero] at ho
          refine hK _ _ ⟨u0, u1, u2, u3, u4, u5, u6, _, u8, _, Ls, ?_, ⟨ho, hC.h0, hC.h1, hC.h2, hC.h3, hC.h4, hC.h5, hC.h6, hC.h7, hC.h8, fun e => absurd (show true = false from e) (by decide), fun _ => ⟨t7, A7, n7, c7, rfl, r7⟩⟩⟩
          simp only [Act.put, List.setIfInBounds_toArray, List.set_cons_zero, List.set_cons_succ]
      · rintro Ld b W hL ⟨u0, u1, u2, u3, u4, u5, u6, u7, u8, va, Ls, rfl, hC⟩
        obtain ⟨tz, Az, nz, cz, rfl, rz⟩ := hC.v1 (hL 9 (by show 9 < 10; decide))
        have HG := Lib.hid (hC.ow.m2.less (L' := L ++ [⟨Az, nz, cz, nats (Na.dig (pr (xs.take (k + 1))))⟩]) (fun o ho => by
          rw [HE.out] at ho
          rcases List.mem_append.1 ho with h | h
          · exact List.mem_append_left _ (List.mem_append_left _ h)
          · rw [List.mem_singleton] at h
            subst h
            exact List.mem_append_right _ (List.mem_of_getElem? rz)))
        clear hC HO
        simp only [Act.put, List.setIfInBounds_toArray, List.set_cons_zero, List.set_cons_succ]
        go_wp2_with fail
        go_roundw
        case rel => exact ⟨k + 1, Az, nz, cz, HK.out.1, int_eqv (by omega), HG⟩
        case measure => have := HK.out.1; simp [intOf]; omega
end
end Go.Proofs.YtdjfbbfbdgiblaaGreatDoor

namespace Go.Proofs.YtdjfbbfbdgiblaaGreatDoor
open Go.RowKit Go.Sort
set_option linter.unusedVariables false
set_option maxRecDepth 100000
section
variable {w0 w w' : World} {g : Option Nat} {M M2 : List (Nat × Value)} {L : List Ob} {O : List Rw} {A A2 A3 A4 : Option Addr} {b n c m c2 n3 c3 n4 c4 x y : Nat} {p q r s : List Int}
theorem r8_mul2 {vs : List Value} {a b : Nat} (h : Ow w0 w g M L O) (i : Nat) (hi : L[i]? = some ⟨A, 2, 2, vs⟩) (hN : Nums L vs [a, b]) (ha : a < Na.top) (hb : b < Na.top) (h1 : a * b < Na.top) :
    Calls Tryz.prog 57 #[.slice A 2 2] w (GotU w0 g M L O (Na.dig (a * b))) := by
  have := r8_mul h i hi [a, b] rfl hN (fun x hx => by
    simp only [List.mem_cons, List.mem_nil_iff, or_false] at hx
    rcases hx with rfl | rfl <;> assumption) (fun k hk => by
    have hk' : k = 0 ∨ k = 1 ∨ k = 2 := by omega
    have ht : 1 < Na.top := byte_top (by omega)
    rcases hk' with rfl | rfl | rfl
    · exact ht
    · show a * 1 < Na.top
      rwa [Nat.mul_one]
    · show a * (b * 1) < Na.top
      rwa [Nat.mul_one])
  rwa [show pr [a, b] = a * b by show a * (b * 1) = _; rw [Nat.mul_one]] at this
end
end Go.Proofs.YtdjfbbfbdgiblaaGreatDoor

namespace Go.Proofs.YtdjfbbfbdgiblaaGreatDoor
open Go.RowKit Go.Shelf
set_option linter.unusedVariables false
set_option maxRecDepth 100000
theorem pcw_le : ∀ b : Fin 256, Ch.pc b.1 ≤ 8 := by decide +kernel
theorem pc_step : ∀ b : Fin 256, b.1 ≠ 0 → Ch.pc (b.1 &&& (b.1 - 1)) + 1 = Ch.pc b.1 := by decide +kernel
def RWg (x : Nat) (v0 v3 : Value) : Prop := ∃ (b n : Nat), b < 256 ∧ v0 = .int .i64 (b : Int) ∧ v3 = .int .i64 (n : Int) ∧ n ≤ 8 ∧ Hid (n + Ch.pc b = Ch.pc x)
set_option maxHeartbeats 2000000 in
theorem weight_any (x : Nat) (hx : x < 256) (w : World) :
    Calls Tryz.prog 94 #[.int .i64 (x : Int)] w fun e w' => e = .returned (.int .i64 (Ch.pc x : Int)) ∧ w = w' := by
  have hpx := pcw_le ⟨x, hx⟩
  have HP : Hid (Ch.pc x ≤ 8) := hpx
  clear hpx
  go_enter Tryz.func94, Tryz.ntmps94
  go_wp2_with fail
  go_loopw [0, 3] (fun v0 v3 wr => RWg x v0 v3 ∧ w = wr) (fun v0 _ _ => (intOf v0).toNat)
  case atStart => exact ⟨⟨x, 0, hx, rfl, rfl, by omega, Nat.zero_add _⟩, rfl⟩
  case round =>
    obtain ⟨⟨b, n, hb, rfl, rfl, hn, HN⟩, rfl⟩ := hrel
    rcases Nat.eq_zero_or_pos b with rfl | hb0
    · have HF : Hid (n = Ch.pc x) := by unfold Hid; rw [← HN.out]; rfl
      clear HN
      go_wp2_with fail
      go_ret
      exact ⟨by rw [HF.out]; rfl, rfl⟩
    · have hA : ((b : Int) == 0) = false := by rw [beq_eq_false_iff_ne]; omega
      have hps := pc_step ⟨b, hb⟩ (show b ≠ 0 by omega)
      have hn7 : n < 8 := by have := HN.out; have := HP.out; simp only at hps; omega
      have hsub : (b : Int) - 1 = ((b - 1 : Nat) : Int) := by omega
      have hand := i64_and_nat b (b - 1) (by omega) (by omega)
      have hlt : b &&& (b - 1) ≤ b - 1 := Nat.and_le_right
      have HE := Lib.hid hps
      have hw := IntWalk.i64_in ((b : Int) - 1) (by omega)
      obtain ⟨q, hq⟩ : ∃ q, b &&& (b - 1) = q := ⟨_, rfl⟩
      rw [hq] at hand hlt
      have HQ := Lib.hid hq
      rw [← hsub] at hand
      clear hps hq hsub
      go_wp2_with fail
      go_roundw
      case rel =>
        refine ⟨⟨q, n + 1, by omega, rfl, by go_num, by omega, ?_⟩, trivial⟩
        unfold Hid
        have h1 := HE.out
        have h2 := HN.out
        simp only [HQ.out] at h1
        omega
      case measure => simp [intOf]; omega
namespace Ch
theorem fl_prefix (p a : Nat) : ∀ j, fl p a <+: fl p (a + j)
  | 0 => List.prefix_rfl
  | j + 1 => by
    refine (fl_prefix p a j).trans ?_
    rw [show a + (j + 1) = a + j + 1 from rfl, fl_succ]
    split
    · exact List.prefix_append _ _
    · exact List.prefix_rfl
theorem fl_take (p a : Nat) (h : a ≤ 256) : fl p a = (fl p 256).take (fl p a).length := by
  have := fl_prefix p a (256 - a)
  rw [show a + (256 - a) = 256 by omega] at this
  exact List.prefix_iff_eq_take.1 this
end Ch
def RDa (w0 : World) (v1 v2 : Value) (wr : World) : Prop :=
  ∃ (k : Nat) (A1 : Option Addr) (n1 c1 : Nat), k ≤ 256 ∧ v2 = .int .i64 (k : Int) ∧ v1 = .slice A1 n1 c1 ∧ n1 ≤ k ∧ Hid ((Ch.fl 3 k).length = n1) ∧
    Hid (Ow w0 wr none [] [] [⟨A1, n1, c1, 5, nb (Ch.fl 3 k)⟩])
def RDb (w0 : World) (v1 v3 : Value) (wr : World) : Prop :=
  ∃ (k : Nat) (A1 : Option Addr) (n1 c1 : Nat), k ≤ 256 ∧ v3 = .int .i64 (k : Int) ∧ v1 = .slice A1 (56 + n1) c1 ∧ n1 ≤ 8 ∧ Hid ((Ch.fl 5 k).length = n1) ∧
    Hid (Ow w0 wr none [] [] [⟨A1, 56 + n1, c1, 5, nb (Ch.three ++ Ch.fl 5 k)⟩])
set_option maxHeartbeats 4000000 in
theorem rcolumns_any (w : World) :
    Calls Tryz.prog 55 #[] w fun e w' => ∃ (A : Option Addr) (c : Nat), e = .returned (.slice A 72 c) ∧ w'.ownsRow w.heap.size 5 1 (.slice A 72 c) 72 (nb Ch.cols) ∧ Below w.heap.size w w' := by
  have HO := Lib.hid ((Ow.of (St.refl w)).nil 5)
  go_enter Tryz.func55, Tryz.ntmps55
  go_wp2_with fail
  go_loopw [1, 2] (fun v1 v2 wr => RDa w v1 v2 wr) (fun _ v2 _ => 257 - (intOf v2).toNat)
  case atStart => exact ⟨0, none, 0, 0, by omega, rfl, rfl, by omega, rfl, HO.out⟩
  case round =>
    clear HO
    obtain ⟨k, A1, n1, c1, hk, rfl, rfl, hn1, HL, HO⟩ := hrel
    rcases Nat.lt_or_ge k 256 with hlt | hge
    · have hd : decide ((k : Int) < 256) = true := decide_eq_true (by omega)
      have hw2 : IntKind.u8.wrap (k : Int) = (k : Int) := IntWalk.u8_in _ (by omega)
      have HC := Lib.hid (weight_any k hlt wr)
      obtain ⟨p, hp⟩ : ∃ p, Ch.pc k = p := ⟨_, rfl⟩
      rw [hp] at HC
      rcases (show p = 3 ∨ p ≠ 3 by omega) with hp3 | hp3
      · have hA : ((p : Int) == 3) = true := by rw [beq_iff_eq]; omega
        have HS : Hid (Ch.fl 3 (k + 1) = Ch.fl 3 k ++ [k]) := by unfold Hid; rw [Ch.fl_succ, if_pos (by omega)]
        clear hp hp3
        go_wp2_with fail
        refine HC.out.mono ?_
        rintro e w1 ⟨rfl, rfl⟩
        clear HC
        go_wp2_with (at_builtin; refine ow_append1 elemB HO.out 0 (.tmp 12) (.tmp 15) _ _ rfl rfl (by unfold maxLen; omega) (by omega) rfl rfl rfl rfl ?_; intro A' c' w8 how; have HW8 := Lib.hid how; clear how)
        go_roundw
        case rel =>
          refine ⟨k + 1, A', n1 + 1, c', by omega, by go_num, rfl, by omega, by unfold Hid; rw [HS.out, List.length_append, HL.out]; rfl, ?_⟩
          unfold Hid
          rw [HS.out, nb_snoc]
          exact HW8.out
        case measure => simp [intOf]; omega
      · have hA : ((p : Int) == 3) = false := by rw [beq_eq_false_iff_ne]; omega
        have HS : Hid (Ch.fl 3 (k + 1) = Ch.fl 3 k) := by unfold Hid; rw [Ch.fl_succ, if_neg (by omega)]
        clear hp hp3
        go_wp2_with fail
        refine HC.out.mono ?_
        rintro e w1 ⟨rfl, rfl⟩
        clear HC
        go_wp2_with fail
        go_roundw
        case rel =>
          refine ⟨k + 1, A1, n1, c1, by omega, by go_num, rfl, by omega, by unfold Hid; rw [HS.out]; exact HL.out, ?_⟩
          unfold Hid
          rw [HS.out]
          exact HO.out
        case measure => simp [intOf]; omega
    · have hd : decide ((k : Int) < 256) = false := decide_eq_false (by omega)
      obtain rfl : k = 256 := by omega
      have h1 : n1 = 56 := by rw [← HL.out]; exact Ch.fl3.1
      subst h1
      have HT : Hid (Ow w wr none [] [] [⟨A1, 56 + 0, c1, 5, nb (Ch.three ++ Ch.fl 5 0)⟩]) := by
        have h5 := HO.out
        have e : nb (Ch.fl 3 256) = nb (Ch.three ++ Ch.fl 5 0) := by
          unfold Ch.three Ch.fl
          rw [List.range_zero, List.filter_nil, List.append_nil]
        rw [e] at h5
        exact h5
      clear HO HL
      go_wp2_with fail
      rw [show ((256 : Nat) : Int) = 256 from rfl]
      go_loopw [1, 3] (fun v1 v3 wr => RDb w v1 v3 wr) (fun _ v3 _ => 257 - (intOf v3).toNat)
      case atStart => exact ⟨0, A1, 0, c1, by omega, rfl, rfl, by omega, rfl, HT.out⟩
      case round =>
        clear HT
        obtain ⟨k, A1, n1, c1, hk, rfl, rfl, hn1, HL, HO⟩ := hrel
        rcases Nat.lt_or_ge n1 8 with hlt | hge
        · have hk256 : k < 256 := by
            rcases Nat.lt_or_ge k 256 with h | h
            · exact h
            · obtain rfl : k = 256 := by omega
              have := HL.out
              rw [Ch.fl3.2] at this
              omega
          have hd : decide (((56 + n1 : Nat) : Int) < 64) = true := decide_eq_true (by omega)
          have hd2 : decide (56 + n1 < 64) = true := decide_eq_true (by omega)
          have hw2 : IntKind.u8.wrap (k : Int) = (k : Int) := IntWalk.u8_in _ (by omega)
          have HC := Lib.hid (weight_any k hk256 wr)
          obtain ⟨p, hp⟩ : ∃ p, Ch.pc k = p := ⟨_, rfl⟩
          rw [hp] at HC
          rcases (show p = 5 ∨ p ≠ 5 by omega) with hp3 | hp3
          · have hA : ((p : Int) == 5) = true := by rw [beq_iff_eq]; omega
            have HS : Hid (Ch.fl 5 (k + 1) = Ch.fl 5 k ++ [k]) := by unfold Hid; rw [Ch.fl_succ, if_pos (by omega)]
            clear hp hp3
            go_wp2_with fail
            refine HC.out.mono ?_
            rintro e w1 ⟨rfl, rfl⟩
            clear HC
            go_wp2_with (at_builtin; refine ow_append1 elemB HO.out 0 (.tmp 25) (.tmp 28) _ _ rfl rfl (by unfold maxLen; omega) (by omega) rfl rfl rfl rfl ?_; intro A' c' w8 how; have HW8 := Lib.hid how; clear how)
            go_roundw
            case rel =>
              refine ⟨k + 1, A', n1 + 1, c', by omega, by go_num, rfl, by omega, by unfold Hid; rw [HS.out, List.length_append, HL.out]; rfl, ?_⟩
              unfold Hid
              rw [HS.out, ← List.append_assoc, nb_snoc]
              exact HW8.out
            case measure => simp [intOf]; omega
          · have hA : ((p : Int) == 5) = false := by rw [beq_eq_false_iff_ne]; omega
            have HS : Hid (Ch.fl 5 (k + 1) = Ch.fl 5 k) := by unfold Hid; rw [Ch.fl_succ, if_neg (by omega)]
            clear hp hp3
            go_wp2_with fail
            refine HC.out.mono ?_
            rintro e w1 ⟨rfl, rfl⟩
            clear HC
            go_wp2_with fail
            go_roundw
            case rel =>
              refine ⟨k + 1, A1, n1, c1, by omega, by go_num, rfl, by omega, by unfold Hid; rw [HS.out]; exact HL.out, ?_⟩
              unfold Hid
              rw [HS.out]
              exact HO.out
            case measure => simp [intOf]; omega
        · obtain rfl : n1 = 8 := by omega
          have hd : decide (((56 + 8 : Nat) : Int) < 64) = false := rfl
          have hd2 : decide (56 + 8 < 64) = false := rfl
          have HT : Hid (Ow w wr none [] [] [⟨A1, 64 + 0, c1, 5, nb (Ch.three ++ Ch.five.take 8 ++ Ch.pw2 0)⟩]) := by
            have h5 := HO.out
            have e : Ch.three ++ Ch.fl 5 k = Ch.three ++ Ch.five.take 8 ++ Ch.pw2 0 := by
              have e2 := Ch.fl_take 5 k hk
              rw [HL.out] at e2
              rw [e2]
              unfold Ch.pw2
              rw [List.take_zero, List.append_nil]
              rfl
            rw [e] at h5
            exact h5
          clear HO HL
          go_wp2_with fail
          rw [show (56 + 8 : Nat) = 64 from rfl]
          go_loopw [1, 4] (fun v1 v4 wr => RCp w (Ch.three ++ Ch.five.take 8) v1 v4 wr) (fun _ v4 _ => 9 - (intOf v4).toNat)
          case atStart => exact ⟨0, A1, c1, by omega, rfl, rfl, HT.out⟩
          case round =>
            clear HT
            obtain ⟨k, A3, c3, hk, rfl, rfl, HO⟩ := hrel
            rcases Nat.lt_or_ge k 8 with hlt | hge
            · have hd8 : decide ((k : Int) < 8) = true := decide_eq_true (by omega)
              obtain ⟨q, hq, hpq⟩ : ∃ q : Nat, (2 : Int) ^ k % 256 = (q : Int) ∧ Hid (Ch.pw2 (k + 1) = Ch.pw2 k ++ [q]) := by
                rcases (show k = 0 ∨ k = 1 ∨ k = 2 ∨ k = 3 ∨ k = 4 ∨ k = 5 ∨ k = 6 ∨ k = 7 by omega) with rfl | rfl | rfl | rfl | rfl | rfl | rfl | rfl
                · exact ⟨1, rfl, rfl⟩
                · exact ⟨2, rfl, rfl⟩
                · exact ⟨4, rfl, rfl⟩
                · exact ⟨8, rfl, rfl⟩
                · exact ⟨16, rfl, rfl⟩
                · exact ⟨32, rfl, rfl⟩
                · exact ⟨64, rfl, rfl⟩
                · exact ⟨128, rfl, rfl⟩
              go_wp2_with (at_builtin; refine ow_append1 elemB HO.out 0 (.tmp 34) (.tmp 38) _ _ rfl rfl (by unfold maxLen; omega) (by omega) rfl rfl rfl rfl ?_; intro A' c' w8 how; have HW8 := Lib.hid how; clear how)
              go_roundw
              case rel =>
                refine ⟨k + 1, A', c', by omega, by go_num, rfl, ?_⟩
                unfold Hid
                rw [hpq.out, ← List.append_assoc, nb_snoc]
                exact HW8.out
              case measure => simp [intOf]; omega
            · have hd8 : decide ((k : Int) < 8) = false := decide_eq_false (by omega)
              obtain rfl : k = 8 := by omega
              have HF : Hid (wr.ownsRow w.heap.size 5 1 (.slice A3 72 c3) 72 (nb Ch.cols) ∧ Below w.heap.size w wr) := ⟨HO.out.row 0 rfl, HO.out.below⟩
              clear HO
              go_wp2_with fail
              go_ret
              exact ⟨A3, c3, rfl, HF.out⟩
end Go.Proofs.YtdjfbbfbdgiblaaGreatDoor

namespace Go.Proofs.YtdjfbbfbdgiblaaGreatDoor
open Go.RowKit Go.Shelf
set_option linter.unusedVariables false
set_option maxRecDepth 100000
theorem infoT : (Tryz.prog.info? 91).map (fun i => (i.zero.map Value.cells, i.size, i.bytes)) = some (some (Array.replicate 512 (.int .i64 0)), 512, 4096) := by kernel_rfl
theorem madeT (m : Nat) : (madeCells (Array.replicate 512 (Value.int .i64 0)) m).toList = List.replicate m (.int .i64 0) := by
  unfold madeCells
  refine List.ext_getElem? fun i => ?_
  rw [Array.toList_map, Array.toList_range, List.getElem?_map, List.getElem?_replicate]
  rcases Nat.lt_or_ge i m with h | h
  · rw [List.getElem?_range h, if_pos h]
    have h2 : i % 512 < 512 := Nat.mod_lt _ (by omega)
    show some ((Array.replicate 512 (Value.int .i64 0))[i % (Array.replicate 512 (Value.int .i64 0)).size]!) = _
    rw [Array.size_replicate, getElem!_pos _ _ (by rw [Array.size_replicate]; exact h2), Array.getElem_replicate]
  · rw [List.getElem?_eq_none (by rw [List.length_range]; exact h), if_neg (by omega)]
    rfl
theorem make_tab (n : Nat) (h : n ≤ 100) : ∃ C : Array Value, C.toList = List.replicate (n * 512) (.int .i64 0) ∧ ∀ (w : World) (a : Int), a = (n : Int) → (Instr.makeSlice 89 (.int .i64 a) (.int .i64 a)).run Tryz.prog w = .ok (.slice (some ⟨w.heap.size, 0, none⟩) n n) (w.alloc (.cells C 91)) := by
  have hi := infoT
  cases hI : Tryz.prog.info? 91 with
  | none => rw [hI] at hi; cases hi
  | some i =>
    rw [hI] at hi
    have h1 := Option.some.inj hi
    have e1 : i.zero.map Value.cells = some (Array.replicate 512 (.int .i64 0)) := congrArg (·.1) h1
    have e2 : i.size = 512 := congrArg (·.2.1) h1
    have e3 : i.bytes = 4096 := congrArg (·.2.2) h1
    cases hz : i.zero with
    | none => rw [hz] at e1; cases e1
    | some z =>
      rw [hz] at e1
      have e4 : z.cells = Array.replicate 512 (.int .i64 0) := Option.some.inj e1
      refine ⟨madeCells (Array.replicate 512 (.int .i64 0)) (n * 512), madeT _, fun w a ha => ?_⟩
      subst ha
      have hr := run_make (P := Tryz.prog) w 89 91 i z Tryz.underlying89 hI hz .i64 .i64 n n (by omega) (by omega) (by rw [e3]; omega) (by omega)
      simp only [Int.toNat_natCast, e2, e4] at hr
      exact hr
/-- the table at the beginning -/
theorem tb_zero {n : Nat} (hn : 1 ≤ n) (hn2 : n ≤ 100) : (List.replicate (n * 512) (Value.int .i64 0)).set 0 (.int .i64 1) = hvs (Ch.tb n 0 10000 0) := by
  have e1 : ∀ m, List.replicate (2 * m) (Value.int .i64 0) = hvs (List.replicate m 0) := by
    intro m
    induction m with
    | zero => rfl
    | succ m ih =>
      rw [show 2 * (m + 1) = 2 * m + 1 + 1 by omega, List.replicate_succ, List.replicate_succ, List.replicate_succ, ih]
      rfl
  have e2 : Ch.tb n 0 10000 0 = (List.replicate (n * 256) 0).set 0 1 := by
    refine List.ext_getElem? fun j => ?_
    rw [List.getElem?_set, List.length_replicate]
    rcases Nat.lt_or_ge j (n * 256) with h | h
    · rw [Ch.tb_at h]
      unfold Ch.tf
      rw [if_neg (by omega)]
      show some (Ch.cnt [] (j / 256) (j % 256)) = _
      rcases Nat.eq_zero_or_pos j with h0 | h0
      · subst h0
        rw [if_pos rfl, if_pos (by omega)]
        rfl
      · rw [if_neg (by omega), List.getElem?_replicate, if_pos h]
        congr 1
        rcases Nat.eq_zero_or_pos (j / 256) with h1 | h1
        · rw [h1, Ch.cnt_zero, if_neg (by omega)]
        · obtain ⟨q, hq⟩ : ∃ q, j / 256 = q + 1 := ⟨j / 256 - 1, by omega⟩
          rw [hq]; rfl
    · rw [List.getElem?_eq_none (by rw [Ch.tb_len]; exact h)]
      rw [if_neg (by omega), List.getElem?_replicate, if_neg (by omega)]
  rw [e2, show n * 512 = 2 * (n * 256) by omega, e1]
  have h := hvs_set (List.replicate (n * 256) 0) 0 1
  rw [← h]
  obtain ⟨m, hm⟩ : ∃ m, n * 256 = m + 1 := ⟨n * 256 - 1, by omega⟩
  rw [hm]
  rfl
/-- the table's row -/
def tbR (gb n : Nat) (A : List Nat) : Rw := ⟨some ⟨gb, 0, none⟩, n * 512, n * 512, 91, hvs A⟩
theorem Ow.hvO {w0 w : World} {g : Option Nat} {M : List (Nat × Value)} {L : List Ob} {O : List Rw} (h : Ow w0 w g M L O) (i : Nat) {gb n c x k : Nat} {e : TypeId} {A : List Nat} (hi : O[i]? = some ⟨some ⟨gb, 0, none⟩, n, c, e, hvs A⟩) (hk : A[k]? = some x) :
    w.cell? ⟨gb, k * 2, none⟩ = some (.int .i64 ((x % 1000000000000000000 : Nat) : Int)) ∧ w.cell? ⟨gb, k * 2 + 1, none⟩ = some (.int .i64 ((x / 1000000000000000000 : Nat) : Int)) := by
  have ho := h.row i hi
  have hl := own_len ho
  rw [hvs_length] at hl
  have hlt := get_lt hk
  obtain ⟨h1, h2⟩ := hvs_at hk
  rw [Nat.mul_comm 2 k] at h1 h2
  constructor
  · rw [ho.cellAt (k * 2) (by omega)]
    simpa [List.getD] using h1
  · rw [ho.cellAt (k * 2 + 1) (by omega)]
    simpa [List.getD] using h2
def RBb (w0 : World) (g : Option Nat) (M : List (Nat × Value)) (L : List Ob) (O : List Rw) (rb gb n : Nat) (gA c : Nat) (x : Value) (wr : World) : Prop :=
  ∃ b : Nat, b ≤ 72 ∧ x = .int .i64 (b : Int) ∧ Hid (Ow w0 wr g (M ++ [(rb, .slice none 0 0)]) L (O ++ [⟨some ⟨gA, 0, none⟩, 72, c, 5, nb Ch.cols⟩, tbR gb n (Ch.tb n b 10000 0)]))
def RBk (w0 : World) (g : Option Nat) (M : List (Nat × Value)) (L : List Ob) (O : List Rw) (rb gb n : Nat) (gA c b k0 : Nat) (x : Value) (wr : World) : Prop :=
  ∃ k : Nat, k ≤ k0 ∧ x = .int .i64 (k : Int) ∧ Hid (Ow w0 wr g (M ++ [(rb, .slice none 0 0)]) L (O ++ [⟨some ⟨gA, 0, none⟩, 72, c, 5, nb Ch.cols⟩, tbR gb n (Ch.tb n b k 0)]))
def RBs (w0 : World) (g : Option Nat) (M : List (Nat × Value)) (L : List Ob) (O : List Rw) (rb gb n : Nat) (gA c b k : Nat) (x : Value) (wr : World) : Prop :=
  ∃ t : Nat, t ≤ 256 ∧ x = .int .i64 (t : Int) ∧ Hid (Ow w0 wr g (M ++ [(rb, .slice none 0 0)]) L (O ++ [⟨some ⟨gA, 0, none⟩, 72, c, 5, nb Ch.cols⟩, tbR gb n (Ch.tb n b k t)]))
theorem Ch.tf_end {b k s : Nat} (hk : k < 10000) (hs : s < 256) : Ch.tf b 10000 0 (k * 256 + s) = Ch.cnt (Ch.rl b) k s := by
  unfold Ch.tf
  have h1 : (k * 256 + s) / 256 = k := by omega
  have h2 : (k * 256 + s) % 256 = s := by omega
  rw [h1, h2, if_neg (by omega)]
/-- the sum's row -/
def smR (fb z : Nat) : Rw := ⟨some ⟨fb, 0, none⟩, 2, 2, 90, hvs [z]⟩
def RBf (w0 : World) (g : Option Nat) (M : List (Nat × Value)) (L : List Ob) (O : List Rw) (rb gb fb n v gA c : Nat) (x : Value) (wr : World) : Prop :=
  ∃ i : Nat, i ≤ 72 ∧ x = .int .i64 (i : Int) ∧ Hid (Ow w0 wr g (M ++ [(rb, .slice none 0 0)]) L (O ++ [⟨some ⟨gA, 0, none⟩, 72, c, 5, nb Ch.cols⟩, tbR gb n (Ch.tb n 72 10000 0), smR fb (Ch.sf v i)]))
section
variable {w0 w : World} {g : Option Nat} {M : List (Nat × Value)} {L : List Ob} {O : List Rw}
theorem Ow.o2 {p q : Rw} {l : List Rw} (h : Ow w0 w g M L (O ++ p :: q :: l)) : Ow w0 w g M L (O ++ [p, q]) := by
  have h' : Ow w0 w g M L ((O ++ [p, q]) ++ l) := by rw [List.append_assoc]; exact h
  exact h'.fewO
theorem Ow.o3 {p q r : Rw} {l : List Rw} (h : Ow w0 w g M L (O ++ p :: q :: r :: l)) : Ow w0 w g M L (O ++ [p, q, r]) := by
  have h' : Ow w0 w g M L ((O ++ [p, q, r]) ++ l) := by rw [List.append_assoc]; exact h
  exact h'.fewO
structure DbK (w0 : World) (g : Option Nat) (M : List (Nat × Value)) (L : List Ob) (O1 : List Rw) (rb b15 b17 b19 : Nat) (P1 : Option Addr) (n15 c15 : Nat) (P2 : Option Addr) (n17 c17 : Nat) (P3 : Option Addr) (n19 c19 hi lo : Nat) (Ld : Nat → Bool) (u0 u1 u2 u3 u4 u5 u7 : Value) (va : Value) (Ls : List Ob) (W : World) : Prop where
  ow : Ow w0 W g (M ++ [(rb, va), (b15, .slice P1 n15 c15), (b17, .slice P2 n17 c17), (b19, .slice P3 n19 c19)]) (L ++ [(⟨P1, n15, c15, nats (Na.dig hi)⟩ : Ob), (⟨P2, n17, c17, nats (Na.dig 1000000000000000000)⟩ : Ob), (⟨P3, n19, c19, nats (Na.dig lo)⟩ : Ob)] ++ Ls) O1
  h0 : Ld 0 = true → u0 = .agg #[.slice P1 n15 c15]
  h1 : Ld 1 = true → u1 = .agg #[.slice P2 n17 c17]
  h2 : GL Ld 2 u2 [hi, 1000000000000000000] 2 (L ++ [(⟨P1, n15, c15, nats (Na.dig hi)⟩ : Ob), (⟨P2, n17, c17, nats (Na.dig 1000000000000000000)⟩ : Ob), (⟨P3, n19, c19, nats (Na.dig lo)⟩ : Ob)]) Ls
  h3 : GN Ld 3 u3 (hi * 1000000000000000000) Ls
  h4 : Ld 4 = true → u4 = .agg #[.slice P3 n19 c19]
  h5 : GN Ld 5 u5 (hi * 1000000000000000000 + lo) Ls
  h7 : Ld 7 = true → u7 = .int .i64 0
  v0 : Ld 6 = false → va = .slice none 0 0
  v1 : GV Ld 6 va (hi * 1000000000000000000 + lo) Ls
def DbI (w0 : World) (g : Option Nat) (M : List (Nat × Value)) (L : List Ob) (O1 : List Rw) (rb b15 b17 b19 : Nat) (P1 : Option Addr) (n15 c15 : Nat) (P2 : Option Addr) (n17 c17 : Nat) (P3 : Option Addr) (n19 c19 hi lo : Nat) (A0 : Act) (Ld : Nat → Bool) (a : Act) (W : World) : Prop :=
  ∃ (u0 u1 u2 u3 u4 u5 u7 : Value) (va : Value) (Ls : List Ob), a = (((((((A0.put (some 149) u0).put (some 150) u1).put (some 151) u2).put (some 152) u3).put (some 153) u4).put (some 154) u5).put (some 3) u7) ∧ DbK w0 g M L O1 rb b15 b17 b19 P1 n15 c15 P2 n17 c17 P3 n19 c19 hi lo Ld u0 u1 u2 u3 u4 u5 u7 va Ls W
set_option maxHeartbeats 16000000 in
theorem r8_wrongbits (h : Ow w0 w g M L O) (v : Nat) (hv2 : 2 ≤ v) (hv : v ≤ 72) : Calls Tryz.prog 26 #[.int .i64 (v : Int)] w (GotO w0 g M L O (Na.dig (Ch.pass v)) 0) := by
  have t1 : decide ((v : Int) < 0) = false := decide_eq_false (by omega)
  have t2 : decide (72 < (v : Int)) = false := decide_eq_false (by omega)
  have t3 : decide ((v : Int) < 2) = false := decide_eq_false (by omega)
  have t4 : decide (72 < v) = false := decide_eq_false (by omega)
  have t5 : decide (v < 2) = false := decide_eq_false (by omega)
  have HO := Lib.hid (h.boxed (.slice none 0 0) 31)
  have HCo := Lib.hid (fun W => rcolumns_any W)
  obtain ⟨n, hn⟩ : ∃ n, v + 1 = n := ⟨_, rfl⟩
  obtain ⟨C, hC, hmk⟩ := make_tab n (by omega)
  have hni : (v : Int) + 1 = (n : Int) := by omega
  have hmk2 : ∀ W : World, (Instr.makeSlice 89 (.int .i64 ((v : Int) + 1)) (.int .i64 ((v : Int) + 1))).run Tryz.prog W = .ok (.slice (some ⟨W.heap.size, 0, none⟩) n n) (W.alloc (.cells C 91)) := fun W => hmk W _ hni
  have HC := Lib.hid hC
  have hn73 : n ≤ 73 := by omega
  have hn3 : 3 ≤ n := by omega
  have HN : Hid (v + 1 = n) := hn
  have HNI := Lib.hid hni
  clear hC hmk hni h
  go_enter Tryz.func26, Tryz.ntmps26
  go_upto_region 7 with (go_at_call 55; refine (HCo.out _).mono ?_; rintro e w1 ⟨A, c, rfl, ho, hb⟩; obtain ⟨gA, rfl, -, -⟩ := own_form ho (by omega); have HO1 := Lib.hid (HO.out.add ho hb); have HCp := Lib.hid (own_cap ho).1; clear ho hb)
  have H2 := HO1.out.add (World.ownsRow_lit (base := w1.heap.size) (e := 91) (size := 1) w1 C (n * 512) (Nat.le_refl _) (by unfold maxLen; omega) (by have := congrArg List.length HC.out; rw [Array.length_toList, List.length_replicate] at this; omega)) (own_box1 _ _)
  simp only [List.append_assoc, List.cons_append, List.nil_append] at H2
  rw [HC.out] at H2
  obtain ⟨gb, hgb⟩ : ∃ b, w1.heap.size = b := ⟨_, rfl⟩
  obtain ⟨rb, hrb⟩ : ∃ b, w.heap.size = b := ⟨_, rfl⟩
  obtain ⟨w2, hw2⟩ : ∃ z, w1.alloc (.cells C 91) = z := ⟨_, rfl⟩
  rw [hw2, hgb] at H2
  rw [hw2, hgb]
  clear hw2 hgb
  have f0 := (H2.row (O.length + 1) (by rw [get_r]; rfl)).frozenAt 0
  have c0 : w2.cell? ⟨gb, 0, none⟩ = some (.int .i64 0) := by rw [(H2.row (O.length + 1) (by rw [get_r]; rfl)).cellAt 0 (by omega), List.getElem?_replicate, if_pos (by omega)]
  have H3 := H2.put (O.length + 1) (by rw [get_r]; rfl) 0 (.int .i64 1)
  rw [set_r] at H3
  simp only [List.set_cons_zero, List.set_cons_succ] at H3
  rw [tb_zero (by omega) (by omega)] at H3
  rw [hrb] at H3
  try rw [hrb]
  have HO2 := Lib.hid H3
  have HRB := Lib.hid hrb
  clear HO HO1 HCo H2 H3 HC hmk2 hrb
  go_wp2_with fail
  clear f0 c0
  go_loopw [6] (fun x wr => RBb w0 g M L O rb gb n gA c x wr) (fun x _ => 73 - (intOf x).toNat)
  case atStart => exact ⟨0, by omega, rfl, HO2.out⟩
  case round =>
    clear HO2
    obtain ⟨b, hb, rfl, HO⟩ := hrel
    rcases Nat.lt_or_ge b 72 with hlt | hge
    · have hd : decide ((b : Int) < 72) = true := decide_eq_true (by omega)
      obtain ⟨k0, hk0⟩ : ∃ k0, (if v ≤ b + 1 then v else b + 1) = k0 := ⟨_, rfl⟩
      have hkv : k0 ≤ v := by rw [← hk0]; split <;> omega
      have hkb : k0 ≤ b + 1 := by rw [← hk0]; split <;> omega
      have hke : k0 = b + 1 ∨ n ≤ k0 + 1 := by have := HN.out; rw [← hk0]; split <;> omega
      have m1 : (if (b : Int) + 1 < (v : Int) then (b : Int) + 1 else (v : Int)) = (k0 : Int) := by rw [← hk0]; split <;> split <;> omega
      have m2 : (if b + 1 < v then b + 1 else v) = k0 := by rw [← hk0]; split <;> split <;> omega
      have m3 : (if (v : Int) < (b : Int) + 1 then (v : Int) else (b : Int) + 1) = (k0 : Int) := by rw [← hk0]; split <;> split <;> omega
      have m4 : (if v < b + 1 then v else b + 1) = k0 := by rw [← hk0]; split <;> split <;> omega
      have m5 : (if (v : Int) ≤ (b : Int) + 1 then (v : Int) else (b : Int) + 1) = (k0 : Int) := by rw [← hk0]; split <;> split <;> omega
      have HO2 : Hid (Ow w0 wr g (M ++ [(rb, .slice none 0 0)]) L (O ++ [⟨some ⟨gA, 0, none⟩, 72, c, 5, nb Ch.cols⟩, tbR gb n (Ch.tb n b k0 0)])) := by
        unfold Hid
        rw [← Ch.tb_start hlt (by omega) hke]
        exact HO.out
      clear HO hk0 hke
      go_wp2_with fail
      clear m1 m2 m3 m4 m5
      go_loopw [7] (fun x wr => RBk w0 g M L O rb gb n gA c b k0 x wr) (fun x _ => (intOf x).toNat)
      case atStart => exact ⟨k0, Nat.le_refl _, rfl, HO2.out⟩
      case round =>
        clear HO2
        obtain ⟨k1, hk1, rfl, HO⟩ := hrel
        rcases Nat.eq_zero_or_pos k1 with rfl | hkp
        · have HO3 : Hid (Ow w0 wr g (M ++ [(rb, .slice none 0 0)]) L (O ++ [⟨some ⟨gA, 0, none⟩, 72, c, 5, nb Ch.cols⟩, tbR gb n (Ch.tb n (b + 1) 10000 0)])) := by
            unfold Hid
            rw [← Ch.tb_end hlt (by omega)]
            exact HO.out
          clear HO
          go_wp2_with fail
          go_roundw
          case rel => exact ⟨b + 1, by omega, by go_num, HO3⟩
          case measure => simp [intOf]; omega
        · obtain ⟨k, rfl⟩ : ∃ k, k1 = k + 1 := ⟨k1 - 1, by omega⟩
          have hdk : decide (0 < ((k + 1 : Nat) : Int)) = true := decide_eq_true (by omega)
          go_wp2_with fail
          go_loopw [8] (fun x wr => RBs w0 g M L O rb gb n gA c b (k + 1) x wr) (fun x _ => 257 - (intOf x).toNat)
          case atStart => exact ⟨0, by omega, rfl, HO.out⟩
          case round =>
            clear HO
            obtain ⟨t, ht, rfl, HO⟩ := hrel
            rcases Nat.lt_or_ge t 256 with htl | hth
            · have hdt : decide ((t : Int) < 256) = true := decide_eq_true (by omega)
              obtain ⟨cb, hcb⟩ : ∃ cb, Ch.cols[b]? = some cb := ⟨_, List.getElem?_eq_getElem (by rw [Ch.cols_len]; exact hlt)⟩
              have hcb256 := Ch.cols_lt cb (List.mem_of_getElem? hcb)
              obtain ⟨q, hq⟩ : ∃ q, t ^^^ cb = q := ⟨_, rfl⟩
              have hq256 : q < 256 := by rw [← hq]; exact Nat.xor_lt_two_pow (n := 8) htl hcb256
              have hxr : bits .xor .i64 (t : Int) (cb : Int) = (q : Int) := by rw [i64_xor_nat t cb (by omega) (by omega), hq]
              have hw1 : IntKind.i64.wrap (((k + 1 : Nat) : Int) - 1) = (k : Int) := by rw [IntWalk.i64_in _ (by omega)]; omega
              have hw0 : ((k + 1 : Nat) : Int) - 1 = (k : Int) := by omega
              obtain ⟨x, hx⟩ : ∃ x, Ch.cnt (Ch.rl b) k q = x := ⟨_, rfl⟩
              obtain ⟨y, hy⟩ : ∃ y, Ch.cnt (Ch.rl b) (k + 1) t = y := ⟨_, rfl⟩
              have hkn : k + 1 < n := by have := HN.out; omega
              obtain ⟨x0, x1⟩ := HO.out.hvO (O.length + 1) (k := k * 256 + q) (x := x) (by rw [get_r]; rfl) (by rw [Ch.tb_at (by omega), Ch.tf_low hq256, hx])
              obtain ⟨y0, y1⟩ := HO.out.hvO (O.length + 1) (k := (k + 1) * 256 + t) (x := y) (by rw [get_r]; rfl) (by rw [Ch.tb_at (by omega), Ch.tf_old htl, hy])
              have cB : wr.cell? ⟨gA, b, none⟩ = some (.int .u8 (cb : Int)) := by rw [(HO.out.row (O.length + 0) (by rw [get_r]; rfl)).cellAt b (by omega)]; exact nb_get hcb
              have HX : Hid (x = Ch.cnt (Ch.rl b) k (t ^^^ cb) ∧ y = Ch.cnt (Ch.rl b) (k + 1) t ∧ x ≤ 4722366482869645213696 ∧ y ≤ 4722366482869645213696) := by
                refine ⟨by rw [hq, hx], hy.symm, ?_, ?_⟩
                · rw [← hx]; have := Ch.cnt_two (Ch.rl b) k q; rw [Ch.rl_len b hb] at this; exact Nat.le_trans this (Nat.le_trans (Nat.pow_le_pow_right (by omega) hb) (by decide : (2 : Nat) ^ 72 ≤ 4722366482869645213696))
                · rw [← hy]; have := Ch.cnt_two (Ch.rl b) (k + 1) t; rw [Ch.rl_len b hb] at this; exact Nat.le_trans this (Nat.le_trans (Nat.pow_le_pow_right (by omega) hb) (by decide : (2 : Nat) ^ 72 ≤ 4722366482869645213696))
              rw [show (k * 256 + q) * 2 = k * 512 + q * 2 by omega] at x0 x1
              rw [show ((k + 1) * 256 + t) * 2 = (k + 1) * 512 + t * 2 by omega] at y0 y1
              obtain ⟨xl, hxl⟩ : ∃ z, x % 1000000000000000000 = z := ⟨_, rfl⟩
              obtain ⟨xh, hxh⟩ : ∃ z, x / 1000000000000000000 = z := ⟨_, rfl⟩
              rw [hxl] at x0
              rw [hxh] at x1
              have HCB := Lib.hid hcb
              have HXL : Hid (x % 1000000000000000000 = xl ∧ x / 1000000000000000000 = xh) := ⟨hxl, hxh⟩
              have hknI : (k : Int) < (n : Int) := by omega
              have hqI : (q : Int) < 256 := by omega
              have hbI : (b : Int) < 72 := by omega
              have hw2 : IntKind.i64.wrap (k : Int) = (k : Int) := IntWalk.i64_in _ (by omega)
              have Hz := (HO.out.arr #[.int .i64 0, .int .i64 0] 2 rfl (by omega) 90).drew
              simp only [List.append_assoc, List.cons_append, List.nil_append] at Hz
              have zB : (wr.alloc (.cells #[.int .i64 0, .int .i64 0] 90)).drew.cell? ⟨gA, b, none⟩ = some (.int .u8 (cb : Int)) := by rw [(Hz.row (O.length + 0) (by rw [get_r]; rfl)).cellAt b (by omega)]; exact nb_get hcb
              obtain ⟨z0, z1⟩ := Hz.hvO (O.length + 1) (k := k * 256 + q) (x := x) (by rw [get_r]; rfl) (by rw [Ch.tb_at (by omega), Ch.tf_low hq256, hx])
              rw [show (k * 256 + q) * 2 = k * 512 + q * 2 by omega, hxl] at z0
              rw [show (k * 256 + q) * 2 = k * 512 + q * 2 by omega, hxh] at z1
              clear hxl hxh hx hy hq hcb y0 y1 Hz
              go_upto_region 17 with (fail)
              go_region
              clear x0 x1 cB z0 z1 zB
              have HOa := Lib.hid (HO.out.arr #[.int .i64 (xl : Int), .int .i64 (xh : Int)] 2 rfl (by omega) 90).drew
              obtain ⟨fb, hfb⟩ : ∃ fb, wr.heap.size = fb := ⟨_, rfl⟩
              obtain ⟨wa, hwa⟩ : ∃ z, (wr.alloc (.cells #[.int .i64 (xl : Int), .int .i64 (xh : Int)] 90)).drew = z := ⟨_, rfl⟩
              rw [hwa, hfb] at HOa
              rw [hwa, hfb]
              simp only [List.append_assoc, List.cons_append, List.nil_append] at HOa
              clear hwa hfb HO
              obtain ⟨yl, hyl⟩ : ∃ z, y % 1000000000000000000 = z := ⟨_, rfl⟩
              obtain ⟨yh, hyh⟩ : ∃ z, y / 1000000000000000000 = z := ⟨_, rfl⟩
              obtain ⟨y0, y1⟩ := HOa.out.hvO (O.length + 1) (k := (k + 1) * 256 + t) (x := y) (by rw [get_r]; rfl) (by rw [Ch.tb_at (by omega), Ch.tf_old htl, HX.out.2.1])
              rw [show ((k + 1) * 256 + t) * 2 = (k + 1) * 512 + t * 2 by omega, hyl] at y0
              rw [show ((k + 1) * 256 + t) * 2 = (k + 1) * 512 + t * 2 by omega, hyh] at y1
              have e0 := (HOa.out.row (O.length + 2) (by rw [get_r]; rfl)).cellAt 0 (by decide)
              have e1 := (HOa.out.row (O.length + 2) (by rw [get_r]; rfl)).cellAt 1 (by decide)
              have hxlb : xl < 1000000000000000000 := by rw [← HXL.out.1]; exact Nat.mod_lt _ (by omega)
              have hylb : yl < 1000000000000000000 := by rw [← hyl]; exact Nat.mod_lt _ (by omega)
              have hxhb : xh ≤ 5000 := by rw [← HXL.out.2]; have := HX.out.2.2.1; omega
              have hyhb : yh ≤ 5000 := by rw [← hyh]; have := HX.out.2.2.2; omega
              obtain ⟨l, hl⟩ : ∃ l, yl + xl = l := ⟨_, rfl⟩
              have hlb : l < 2000000000000000000 := by omega
              have hwl : IntKind.i64.wrap ((yl : Int) + (xl : Int)) = (l : Int) := by rw [IntWalk.i64_in _ (by omega)]; omega
              have hli : (yl : Int) + (xl : Int) = (l : Int) := by omega
              have hk1I : ((k + 1 : Nat) : Int) < (n : Int) := by omega
              have hk1w : IntKind.i64.wrap ((k + 1 : Nat) : Int) = ((k + 1 : Nat) : Int) := IntWalk.i64_in _ (by omega)
              have htI : (t : Int) < 256 := by omega
              have htw : IntKind.i64.wrap (t : Int) = (t : Int) := IntWalk.i64_in _ (by omega)
              have HYL : Hid (y % 1000000000000000000 = yl ∧ y / 1000000000000000000 = yh ∧ yl + xl = l) := ⟨hyl, hyh, hl⟩
              clear hyl hyh hl
              go_wp2_with fail
              go_quiet (fail)
              clear y0 y1 e0 e1
              have HOb := Lib.hid (HOa.out.go (below_drewN (Below.refl wa.heap.size wa) nq))
              obtain ⟨wb, hwb⟩ : ∃ z, wa.drewN nq = z := ⟨_, rfl⟩
              rw [hwb] at HOb
              rw [hwb]
              clear hwb HOa
              go_upto_region 19 with (fail)
              obtain ⟨y0, y1⟩ := HOb.out.hvO (O.length + 1) (k := (k + 1) * 256 + t) (x := y) (by rw [get_r]; rfl) (by rw [Ch.tb_at (by omega), Ch.tf_old htl, HX.out.2.1])
              rw [show ((k + 1) * 256 + t) * 2 + 1 = (k + 1) * 512 + t * 2 + 1 by omega, HYL.out.2.1] at y1
              obtain ⟨k2, hk2⟩ : ∃ z, k + 1 = z := ⟨_, rfl⟩
              rw [hk2] at y1 hk1I hk1w
              rw [hk2]
              have hk2n : k2 < n := by omega
              have hk2c : k2 ≤ 72 := by omega
              have r1 := cell_regrown y1
              have r2 := cell_regrown ((HOb.out.row (O.length + 2) (by rw [get_r]; rfl)).cellAt 1 (by decide))
              clear y0 y1
              obtain ⟨lr, hlr⟩ : ∃ z, l % 1000000000000000000 = z := ⟨_, rfl⟩
              obtain ⟨lq, hlq⟩ : ∃ z, l / 1000000000000000000 = z := ⟨_, rfl⟩
              have hlqb : lq ≤ 2 := by omega
              have d1 : (l : Int) % 1000000000000000000 = (lr : Int) := by omega
              have d2 : (l : Int) / 1000000000000000000 = (lq : Int) := by omega
              have d3 : (l : Int).tmod 1000000000000000000 = (lr : Int) := by rw [Int.tmod_eq_emod_of_nonneg (by omega)]; exact d1
              have d4 : (l : Int).tdiv 1000000000000000000 = (lq : Int) := by rw [Int.tdiv_eq_ediv_of_nonneg (by omega)]; exact d2
              have d5 : IntKind.i64.wrap (lq : Int) = (lq : Int) := IntWalk.i64_in _ (by omega)
              obtain ⟨s1, hs1⟩ : ∃ z, yh + xh = z := ⟨_, rfl⟩
              obtain ⟨s2, hs2⟩ : ∃ z, s1 + lq = z := ⟨_, rfl⟩
              have d6 : IntKind.i64.wrap ((yh : Int) + (xh : Int)) = (s1 : Int) := by rw [IntWalk.i64_in _ (by omega)]; omega
              have d7 : IntKind.i64.wrap ((s1 : Int) + (lq : Int)) = (s2 : Int) := by rw [IntWalk.i64_in _ (by omega)]; omega
              have HS : Hid ((y + x) % 1000000000000000000 = lr ∧ (y + x) / 1000000000000000000 = s2) := by
                refine ⟨?_, ?_⟩
                · rw [half_lo, HYL.out.1, HXL.out.1, HYL.out.2.2, hlr]
                · rw [half_hi, HYL.out.1, HXL.out.1, HYL.out.2.2, HYL.out.2.1, HXL.out.2, hlq, hs1, hs2]
              clear hlr hlq hs1 hs2
              refine region_below_tail 21 (by kernel_rfl) (by kernel_rfl) ?_
              simp only [List.take_succ_cons, List.take_zero, List.drop_succ_cons, List.drop_zero]
              repeat (quiet_step (fail))
              refine wpQuiet_nil ?_
              intro W hW
              have hbl := regrown_below hW
              subst hk2
              clear hW r1 r2
              have HO5 := HOb.out.go hbl
              obtain ⟨y0, y1⟩ := HO5.hvO (O.length + 1) (k := (k + 1) * 256 + t) (x := y) (by rw [get_r]; rfl) (by rw [Ch.tb_at (by omega), Ch.tf_old htl, HX.out.2.1])
              rw [show ((k + 1) * 256 + t) * 2 = (k + 1) * 512 + t * 2 by omega] at y0
              rw [show ((k + 1) * 256 + t) * 2 + 1 = (k + 1) * 512 + t * 2 + 1 by omega] at y1
              have fz0 := HO5.frzO (O.length + 1) (vs := _) (by rw [get_r]; rfl) ((k + 1) * 512 + t * 2)
              have fz1 := HO5.frzO (O.length + 1) (vs := _) (by rw [get_r]; rfl) ((k + 1) * 512 + t * 2 + 1)
              have HG : Hid (Ow w0 ((W.setCell ⟨gb, (k + 1) * 512 + t * 2, none⟩ (.int .i64 (lr : Int))).setCell ⟨gb, (k + 1) * 512 + t * 2 + 1, none⟩ (.int .i64 (s2 : Int))) g (M ++ [(rb, .slice none 0 0)]) L (O ++ [⟨some ⟨gA, 0, none⟩, 72, c, 5, nb Ch.cols⟩, tbR gb n (Ch.tb n b (k + 1) (t + 1))])) := by
                have G0 := HO5.put (O.length + 1) (by rw [get_r]; rfl) ((k + 1) * 512 + t * 2) (.int .i64 (lr : Int))
                rw [set_r] at G0
                simp only [List.set_cons_succ, List.set_cons_zero] at G0
                have G1 := G0.put (O.length + 1) (by rw [get_r]; rfl) ((k + 1) * 512 + t * 2 + 1) (.int .i64 (s2 : Int))
                rw [set_r] at G1
                simp only [List.set_cons_succ, List.set_cons_zero] at G1
                have G2 := G1.o2
                have e6 := hvs_set (Ch.tb n b (k + 1) t) ((k + 1) * 256 + t) (y + x)
                rw [HS.out.1, HS.out.2, show 2 * ((k + 1) * 256 + t) = (k + 1) * 512 + t * 2 by omega, HX.out.1, HX.out.2.1, Ch.tb_set htl HCB.out] at e6
                rw [e6] at G2
                exact G2
              clear HO5 HOb hbl
              go_wp2_with fail
              go_roundw
              case rel => exact ⟨t + 1, by omega, by go_num, HG⟩
              case measure => simp [intOf]; omega
            · have hdt : decide ((t : Int) < 256) = false := decide_eq_false (by omega)
              obtain rfl : t = 256 := by omega
              have HO3 : Hid (Ow w0 wr g (M ++ [(rb, .slice none 0 0)]) L (O ++ [⟨some ⟨gA, 0, none⟩, 72, c, 5, nb Ch.cols⟩, tbR gb n (Ch.tb n b k 0)])) := by
                unfold Hid
                rw [← Ch.tb_row]
                exact HO.out
              clear HO
              go_wp2_with fail
              go_roundw
              case rel => exact ⟨k, by omega, by go_num, HO3⟩
              case measure => simp [intOf]

    · have hd : decide ((b : Int) < 72) = false := decide_eq_false (by omega)
      obtain rfl : b = 72 := by omega
      have hvn : v < n := by have := HN.out; omega
      have hvnI : (v : Int) < (n : Int) := by omega
      obtain ⟨y, hy⟩ : ∃ y, Ch.sf v 0 = y := ⟨_, rfl⟩
      have hy2 : Ch.cnt (Ch.rl 72) v 0 = y := by rw [← hy]; rfl
      obtain ⟨z0, z1⟩ := HO.out.hvO (O.length + 1) (k := v * 256 + 0) (x := y) (by rw [get_r]; rfl) (by rw [Ch.tb_at (by omega), Ch.tf_end (by omega) (by omega), hy2])
      rw [show (v * 256 + 0) * 2 = v * 512 by omega] at z0 z1
      have HF0 : Hid (Ow w0 (wr.alloc (.cells #[.int .i64 ((y % 1000000000000000000 : Nat) : Int), .int .i64 ((y / 1000000000000000000 : Nat) : Int)] 90)) g (M ++ [(rb, .slice none 0 0)]) L (O ++ [⟨some ⟨gA, 0, none⟩, 72, c, 5, nb Ch.cols⟩, tbR gb n (Ch.tb n 72 10000 0), smR wr.heap.size (Ch.sf v 0)])) := by
        have h5 := HO.out.arr #[.int .i64 ((y % 1000000000000000000 : Nat) : Int), .int .i64 ((y / 1000000000000000000 : Nat) : Int)] 2 rfl (by omega) 90
        simp only [List.append_assoc, List.cons_append, List.nil_append] at h5
        unfold Hid
        rw [hy]
        exact h5
      obtain ⟨yl, hyl⟩ : ∃ z, y % 1000000000000000000 = z := ⟨_, rfl⟩
      obtain ⟨yh, hyh⟩ : ∃ z, y / 1000000000000000000 = z := ⟨_, rfl⟩
      rw [hyl] at z0 HF0
      rw [hyh] at z1 HF0
      clear hyl hyh hy hy2 HO
      go_wp2_with fail
      clear z0 z1
      obtain ⟨fb, hfb⟩ : ∃ fb, wr.heap.size = fb := ⟨_, rfl⟩
      obtain ⟨wa, hwa⟩ : ∃ z, wr.alloc (.cells #[.int .i64 (yl : Int), .int .i64 (yh : Int)] 90) = z := ⟨_, rfl⟩
      rw [hwa, hfb] at HF0
      rw [hwa, hfb]
      clear hwa hfb
      try rw [show ((72 : Nat) : Int) = 72 from rfl]
      go_loopw [12] (fun x wr => RBf w0 g M L O rb gb fb n v gA c x wr) (fun x _ => 73 - (intOf x).toNat)
      case atStart => exact ⟨0, by omega, rfl, HF0.out⟩
      case round =>
        clear HF0
        obtain ⟨i, hi, rfl, HO⟩ := hrel
        obtain ⟨y, hy⟩ : ∃ y, Ch.sf v i = y := ⟨_, rfl⟩
        rw [hy] at HO
        have hyb : y ≤ 344732753249502269829688 := by rw [← hy]; exact Nat.le_trans (Ch.sf_le v i hi) (Nat.le_trans (Nat.mul_le_mul_right _ (show i + 1 ≤ 73 by omega)) (by decide))
        have HY := Lib.hid hy
        obtain ⟨yl, hyl⟩ : ∃ z, y % 1000000000000000000 = z := ⟨_, rfl⟩
        obtain ⟨yh, hyh⟩ : ∃ z, y / 1000000000000000000 = z := ⟨_, rfl⟩
        have hylb : yl < 1000000000000000000 := by rw [← hyl]; exact Nat.mod_lt _ (by omega)
        have hyhb : yh ≤ 400000 := by rw [← hyh]; omega
        have HYL : Hid (y % 1000000000000000000 = yl ∧ y / 1000000000000000000 = yh) := ⟨hyl, hyh⟩
        clear hy hyl hyh hyb
        rcases Nat.lt_or_ge i 72 with hlt2 | hge2
        · have hd2 : decide ((i : Int) < 72) = true := decide_eq_true (by omega)
          obtain ⟨cb, hcb⟩ : ∃ cb, Ch.cols[i]? = some cb := ⟨_, List.getElem?_eq_getElem (by rw [Ch.cols_len]; exact hlt2)⟩
          have hcb256 := Ch.cols_lt cb (List.mem_of_getElem? hcb)
          obtain ⟨x, hx⟩ : ∃ x, Ch.cnt (Ch.rl 72) v cb = x := ⟨_, rfl⟩
          have hxb : x ≤ 4722366482869645213696 := by rw [← hx]; have := Ch.cnt_two (Ch.rl 72) v cb; rw [Ch.rl_len 72 (Nat.le_refl _)] at this; exact Nat.le_trans this (by decide)
          obtain ⟨x0, x1⟩ := HO.out.hvO (O.length + 1) (k := v * 256 + cb) (x := x) (by rw [get_r]; rfl) (by rw [Ch.tb_at (by omega), Ch.tf_end (by omega) hcb256, hx])
          have cB : wr.cell? ⟨gA, i, none⟩ = some (.int .u8 (cb : Int)) := by rw [(HO.out.row (O.length + 0) (by rw [get_r]; rfl)).cellAt i (by omega)]; exact nb_get hcb
          rw [show (v * 256 + cb) * 2 = v * 512 + cb * 2 by omega] at x0 x1
          obtain ⟨xl, hxl⟩ : ∃ z, x % 1000000000000000000 = z := ⟨_, rfl⟩
          obtain ⟨xh, hxh⟩ : ∃ z, x / 1000000000000000000 = z := ⟨_, rfl⟩
          rw [hxl] at x0
          rw [hxh] at x1
          have Hz := (HO.out.arr #[.int .i64 0, .int .i64 0] 2 rfl (by omega) 90).drew
          simp only [List.append_assoc, List.cons_append, List.nil_append] at Hz
          have zB : (wr.alloc (.cells #[.int .i64 0, .int .i64 0] 90)).drew.cell? ⟨gA, i, none⟩ = some (.int .u8 (cb : Int)) := by rw [(Hz.row (O.length + 0) (by rw [get_r]; rfl)).cellAt i (by omega)]; exact nb_get hcb
          obtain ⟨z0, z1⟩ := Hz.hvO (O.length + 1) (k := v * 256 + cb) (x := x) (by rw [get_r]; rfl) (by rw [Ch.tb_at (by omega), Ch.tf_end (by omega) hcb256, hx])
          rw [show (v * 256 + cb) * 2 = v * 512 + cb * 2 by omega, hxl] at z0
          rw [show (v * 256 + cb) * 2 = v * 512 + cb * 2 by omega, hxh] at z1
          have HXL : Hid (x % 1000000000000000000 = xl ∧ x / 1000000000000000000 = xh ∧ Ch.sf v (i + 1) = y + x) := ⟨hxl, hxh, by rw [Ch.sf_succ v i cb hcb, HY.out, hx]⟩
          have hxlb : xl < 1000000000000000000 := by rw [← hxl]; exact Nat.mod_lt _ (by omega)
          have hxhb : xh ≤ 5000 := by rw [← hxh]; omega
          have hiI : (i : Int) < 72 := by omega
          have hvw : IntKind.i64.wrap (v : Int) = (v : Int) := IntWalk.i64_in _ (by omega)
          have hcI : (cb : Int) < 256 := by omega
          clear hx hxl hxh hcb Hz hxb
          go_upto_region 24 with (fail)
          go_region
          clear x0 x1 cB z0 z1 zB
          have HOa := (HO.out.arr #[.int .i64 (xl : Int), .int .i64 (xh : Int)] 2 rfl (by omega) 90).drew
          obtain ⟨hb2, hhb⟩ : ∃ hb2, wr.heap.size = hb2 := ⟨_, rfl⟩
          obtain ⟨wa, hwa⟩ : ∃ z, (wr.alloc (.cells #[.int .i64 (xl : Int), .int .i64 (xh : Int)] 90)).drew = z := ⟨_, rfl⟩
          rw [hwa, hhb] at HOa
          rw [hwa, hhb]
          simp only [List.append_assoc, List.cons_append, List.nil_append] at HOa
          clear hwa hhb HO
          have e0 := (HOa.row (O.length + 2) (by rw [get_r]; rfl)).cellAt 0 (by decide)
          have e1 := (HOa.row (O.length + 2) (by rw [get_r]; rfl)).cellAt 1 (by decide)
          have e0' : wa.cell? ⟨fb, 0, none⟩ = some (.int .i64 (yl : Int)) := by rw [e0, ← HYL.out.1]; rfl
          have e1' : wa.cell? ⟨fb, 1, none⟩ = some (.int .i64 (yh : Int)) := by rw [e1, ← HYL.out.2]; rfl
          have g0 := (HOa.row (O.length + 3) (by rw [get_r]; rfl)).cellAt 0 (by decide)
          have g1 := (HOa.row (O.length + 3) (by rw [get_r]; rfl)).cellAt 1 (by decide)
          have fz0 := HOa.frzO (O.length + 2) (vs := _) (by rw [get_r]; rfl) 0
          have fz1 := HOa.frzO (O.length + 2) (vs := _) (by rw [get_r]; rfl) 1
          obtain ⟨l, hl⟩ : ∃ l, yl + xl = l := ⟨_, rfl⟩
          have hlb : l < 2000000000000000000 := by omega
          have hwl : IntKind.i64.wrap ((yl : Int) + (xl : Int)) = (l : Int) := by rw [IntWalk.i64_in _ (by omega)]; omega
          have hli : (yl : Int) + (xl : Int) = (l : Int) := by omega
          obtain ⟨lr, hlr⟩ : ∃ z, l % 1000000000000000000 = z := ⟨_, rfl⟩
          obtain ⟨lq, hlq⟩ : ∃ z, l / 1000000000000000000 = z := ⟨_, rfl⟩
          have hlqb : lq ≤ 2 := by omega
          have d1 : (l : Int) % 1000000000000000000 = (lr : Int) := by omega
          have d2 : (l : Int) / 1000000000000000000 = (lq : Int) := by omega
          have d3 : (l : Int).tmod 1000000000000000000 = (lr : Int) := by rw [Int.tmod_eq_emod_of_nonneg (by omega)]; exact d1
          have d4 : (l : Int).tdiv 1000000000000000000 = (lq : Int) := by rw [Int.tdiv_eq_ediv_of_nonneg (by omega)]; exact d2
          have d5 : IntKind.i64.wrap (lq : Int) = (lq : Int) := IntWalk.i64_in _ (by omega)
          obtain ⟨s1, hs1⟩ : ∃ z, yh + xh = z := ⟨_, rfl⟩
          obtain ⟨s2, hs2⟩ : ∃ z, s1 + lq = z := ⟨_, rfl⟩
          have d6 : IntKind.i64.wrap ((yh : Int) + (xh : Int)) = (s1 : Int) := by rw [IntWalk.i64_in _ (by omega)]; omega
          have d7 : IntKind.i64.wrap ((s1 : Int) + (lq : Int)) = (s2 : Int) := by rw [IntWalk.i64_in _ (by omega)]; omega
          have d8 : (yh : Int) + (xh : Int) = (s1 : Int) := by omega
          have d9 : (s1 : Int) + (lq : Int) = (s2 : Int) := by omega
          have HS : Hid ((y + x) % 1000000000000000000 = lr ∧ (y + x) / 1000000000000000000 = s2) := by
            refine ⟨?_, ?_⟩
            · rw [half_lo, HYL.out.1, HXL.out.1, hl, hlr]
            · rw [half_hi, HYL.out.1, HXL.out.1, hl, HYL.out.2, HXL.out.2.1, hlq, hs1, hs2]
          have HG : Hid (Ow w0 ((wa.setCell ⟨fb, 0, none⟩ (.int .i64 (lr : Int))).setCell ⟨fb, 1, none⟩ (.int .i64 (s2 : Int))) g (M ++ [(rb, .slice none 0 0)]) L (O ++ [⟨some ⟨gA, 0, none⟩, 72, c, 5, nb Ch.cols⟩, tbR gb n (Ch.tb n 72 10000 0), smR fb (Ch.sf v (i + 1))])) := by
            have G0 := HOa.put (O.length + 2) (by rw [get_r]; rfl) 0 (.int .i64 (lr : Int))
            rw [set_r] at G0
            simp only [List.set_cons_succ, List.set_cons_zero] at G0
            have G1 := G0.put (O.length + 2) (by rw [get_r]; rfl) 1 (.int .i64 (s2 : Int))
            rw [set_r] at G1
            simp only [List.set_cons_succ, List.set_cons_zero] at G1
            have G2 := G1.o3
            have e6 := hvs_set [y] 0 (y + x)
            rw [HS.out.1, HS.out.2, show [y].set 0 (y + x) = [Ch.sf v (i + 1)] by rw [HXL.out.2.2]; rfl] at e6
            have e7 : smR fb (Ch.sf v (i + 1)) = ⟨some ⟨fb, 0, none⟩, 2, 2, 90, ((hvs [y]).set 0 (.int .i64 (lr : Int))).set 1 (.int .i64 (s2 : Int))⟩ := by
              unfold smR
              rw [← e6]
            unfold Hid
            rw [e7]
            exact G2
          clear e0 e1 hlr hlq hs1 hs2 hl HOa
          go_wp2_with fail
          go_roundw
          case rel => exact ⟨i + 1, by omega, by go_num, HG⟩
          case measure => simp [intOf]; omega
        · have hd2 : decide ((i : Int) < 72) = false := decide_eq_false (by omega)
          obtain rfl : i = 72 := by omega
          obtain ⟨hi, hhi⟩ : ∃ z, yh = z := ⟨_, rfl⟩
          obtain ⟨lo, hlo⟩ : ∃ z, yl = z := ⟨_, rfl⟩
          subst hhi hlo
          have HP : Hid (yh * 1000000000000000000 + yl = Ch.pass v) := by
            unfold Hid
            rw [← Ch.sf_pass v hv2, HY.out, ← HYL.out.1, ← HYL.out.2]
            omega
          have HB : Hid (yh < Na.top ∧ 1000000000000000000 < Na.top ∧ yh * 1000000000000000000 < Na.top ∧ yl < Na.top ∧ yh * 1000000000000000000 + yl < Na.top) := by
            have ht : 1000000000000000000000000000000000 < Na.top := by decide +kernel
            refine ⟨by omega, by omega, by omega, by omega, by omega⟩
          have e0 : wr.cell? ⟨fb, 0, none⟩ = some (.int .i64 (yl : Int)) := by rw [(HO.out.row (O.length + 2) (by rw [get_r]; rfl)).cellAt 0 (by decide), ← HYL.out.1]; rfl
          have e1 : wr.cell? ⟨fb, 1, none⟩ = some (.int .i64 (yh : Int)) := by rw [(HO.out.row (O.length + 2) (by rw [get_r]; rfl)).cellAt 1 (by decide), ← HYL.out.2]; rfl
          have HC := Lib.hid (rof_z HO.out yh (by omega))
          clear HO
          go_wp2_with fail
          refine HC.out.mono ?_
          rintro e w1 ⟨P1, n15, c15, rfl, G⟩
          have H1 := G.boxed (.slice P1 n15 c15) 31
          simp only [List.append_assoc, List.cons_append, List.nil_append] at H1
          have HC2 := Lib.hid (rof_z H1 1000000000000000000 (by omega))
          clear HC G H1 e0 e1
          go_wp2_with fail
          refine HC2.out.mono ?_
          rintro e w2 ⟨P2, n17, c17, rfl, G⟩
          have H2 := G.boxed (.slice P2 n17 c17) 31
          simp only [List.append_assoc, List.cons_append, List.nil_append] at H2
          have e0 : (w2.alloc (.cells #[.slice P2 n17 c17] 31)).cell? ⟨fb, 0, none⟩ = some (.int .i64 (yl : Int)) := by rw [(H2.row (O.length + 2) (by rw [get_r]; rfl)).cellAt 0 (by decide), ← HYL.out.1]; rfl
          have HC3 := Lib.hid (rof_z H2 yl (by omega))
          clear HC2 G H2
          go_wp2_with fail
          refine HC3.out.mono ?_
          rintro e w3 ⟨P3, n19, c19, rfl, G⟩
          have H3 := G.boxed (.slice P3 n19 c19) 31
          simp only [List.append_assoc, List.cons_append, List.nil_append] at H3
          obtain ⟨O1, hO1⟩ : ∃ O1, O ++ [⟨some ⟨gA, 0, none⟩, 72, c, 5, nb Ch.cols⟩, tbR gb n (Ch.tb n 72 10000 0), smR fb y] = O1 := ⟨_, rfl⟩
          rw [hO1] at H3
          have HO := Lib.hid H3
          have HO1 := Lib.hid hO1
          clear HC3 G H3 e0 hO1
          go_wp2_with fail
          obtain ⟨hi, hhi⟩ : ∃ z, yh = z := ⟨_, rfl⟩
          obtain ⟨lo, hlo⟩ : ∃ z, yl = z := ⟨_, rfl⟩
          rw [hhi] at HB HP HO
          rw [hlo] at HB HP HO
          clear hhi hlo
          refine reg_inv34 (DbI w0 g M L O1 rb w1.heap.size w2.heap.size w3.heap.size P1 n15 c15 P2 n17 c17 P3 n19 c19 hi lo) (by kernel_rfl) (by kernel_rfl) ?_ ?_ ?_
          · refine ⟨undef, undef, undef, undef, undef, undef, (.int .i64 0), .slice none 0 0, [], ?_, ⟨by rw [List.append_nil]; exact HO.out.drew, ?_, ?_, ?_, ?_, ?_, ?_, ?_, fun _ => rfl, ?_⟩⟩
            · simp only [Act.put, List.setIfInBounds_toArray, List.set_cons_zero, List.set_cons_succ]
            all_goals (intro h; cases h)
          · rintro jj Ld b W hj hf hcl hd ⟨u0, u1, u2, u3, u4, u5, u7, va, Ls, rfl, hC⟩
            have hj' : jj < 8 := hj
            have hcase : jj = 0 ∨ jj = 1 ∨ jj = 2 ∨ jj = 3 ∨ jj = 4 ∨ jj = 5 ∨ jj = 6 ∨ jj = 7 := by omega
            have q15 := hC.ow.cell (M.length + 1) (by rw [get_r]; rfl)
            have q17 := hC.ow.cell (M.length + 2) (by rw [get_r]; rfl)
            have q19 := hC.ow.cell (M.length + 3) (by rw [get_r]; rfl)
            have qz := hC.ow.free (M.length + 0) (by rw [get_r]; rfl)
            have qr := hC.ow.cell (M.length + 0) (by rw [get_r]; rfl)
            clear hj hj'
            simp only [Act.put, List.setIfInBounds_toArray, List.set_cons_zero, List.set_cons_succ]
            rcases hcase with rfl | rfl | rfl | rfl | rfl | rfl | rfl | rfl
            · clear hd hcl
              refine wpOp_step rfl (fun K hK => ?_)
              go_simp
              refine hK _ _ ⟨_, u1, u2, u3, u4, u5, u7, va, Ls, ?_, ⟨hC.ow, fun _ => rfl, hC.h1, hC.h2, hC.h3, hC.h4, hC.h5, hC.h7, hC.v0, hC.v1⟩⟩
              simp only [Act.put, List.setIfInBounds_toArray, List.set_cons_zero, List.set_cons_succ]
            · clear hd hcl
              refine wpOp_step rfl (fun K hK => ?_)
              go_simp
              refine hK _ _ ⟨u0, _, u2, u3, u4, u5, u7, va, Ls, ?_, ⟨hC.ow, hC.h0, fun _ => rfl, hC.h2, hC.h3, hC.h4, hC.h5, hC.h7, hC.v0, hC.v1⟩⟩
              simp only [Act.put, List.setIfInBounds_toArray, List.set_cons_zero, List.set_cons_succ]
            · obtain rfl := hC.h0 (hd 0 (by kernel_rfl))
              obtain rfl := hC.h1 (hd 1 (by kernel_rfl))
              clear hd hcl
              refine wpOp_step rfl (fun K hK => ?_)
              go_simp
              have ho := hC.ow.push (World.ownsRow_lit (base := W.heap.size) (e := 31) (size := 1) W #[.slice P1 n15 c15, .slice P2 n17 c17] 2 (Nat.le_refl _) (by decide) rfl) (by omega) (own_box1 _ _)
              rw [List.append_assoc (L ++ [(⟨P1, n15, c15, nats (Na.dig hi)⟩ : Ob), (⟨P2, n17, c17, nats (Na.dig 1000000000000000000)⟩ : Ob), (⟨P3, n19, c19, nats (Na.dig lo)⟩ : Ob)]) Ls] at ho
              refine hK _ _ ⟨_, _, _, u3, u4, u5, u7, va, _, ?_, ⟨ho, hC.h0, hC.h1, GL.new _ _ _ _ _ _ _ (Nums.two (t1 := L.length + 0) (t2 := L.length + 1) ((get_l _ _ (by simp)).trans ((get_r _ _ 0).trans rfl)) ((get_l _ _ (by simp)).trans ((get_r _ _ 1).trans rfl))), hC.h3.more, hC.h4, hC.h5.more, hC.h7, hC.v0, hC.v1.more⟩⟩
              simp only [Act.put, List.setIfInBounds_toArray, List.set_cons_zero, List.set_cons_succ]
            · obtain ⟨t2, A2, vs2, rfl, r2, m2⟩ := hC.h2 (hd 2 (by kernel_rfl))
              have R2 : (L ++ [(⟨P1, n15, c15, nats (Na.dig hi)⟩ : Ob), (⟨P2, n17, c17, nats (Na.dig 1000000000000000000)⟩ : Ob), (⟨P3, n19, c19, nats (Na.dig lo)⟩ : Ob)] ++ Ls)[(L ++ [(⟨P1, n15, c15, nats (Na.dig hi)⟩ : Ob), (⟨P2, n17, c17, nats (Na.dig 1000000000000000000)⟩ : Ob), (⟨P3, n19, c19, nats (Na.dig lo)⟩ : Ob)]).length + t2]? = some ⟨A2, 2, 2, vs2⟩ := (get_r _ _ _).trans r2
              clear hd hcl
              refine wpOp_step rfl (fun K hK => ?_)
              go_simp
              refine (r8_mul2 hC.ow _ R2 m2 HB.out.1 HB.out.2.1 HB.out.2.2.1).mono ?_
              rintro e W' ⟨Az, nz, cz, rfl, ho⟩
              rw [List.append_assoc (L ++ [(⟨P1, n15, c15, nats (Na.dig hi)⟩ : Ob), (⟨P2, n17, c17, nats (Na.dig 1000000000000000000)⟩ : Ob), (⟨P3, n19, c19, nats (Na.dig lo)⟩ : Ob)]) Ls] at ho
              refine hK _ _ ⟨u0, u1, _, _, u4, u5, u7, va, _, ?_, ⟨ho, hC.h0, hC.h1, hC.h2.more, GN.new _ _ _ _ _ _ _, hC.h4, hC.h5.more, hC.h7, hC.v0, hC.v1.more⟩⟩
              simp only [Act.put, List.setIfInBounds_toArray, List.set_cons_zero, List.set_cons_succ]
            · clear hd hcl
              refine wpOp_step rfl (fun K hK => ?_)
              go_simp
              refine hK _ _ ⟨u0, u1, u2, u3, _, u5, u7, va, Ls, ?_, ⟨hC.ow, hC.h0, hC.h1, hC.h2, hC.h3, fun _ => rfl, hC.h5, hC.h7, hC.v0, hC.v1⟩⟩
              simp only [Act.put, List.setIfInBounds_toArray, List.set_cons_zero, List.set_cons_succ]
            · obtain ⟨t3, A3, n3, c3, rfl, r3⟩ := hC.h3 (hd 3 (by kernel_rfl))
              have R3 : (L ++ [(⟨P1, n15, c15, nats (Na.dig hi)⟩ : Ob), (⟨P2, n17, c17, nats (Na.dig 1000000000000000000)⟩ : Ob), (⟨P3, n19, c19, nats (Na.dig lo)⟩ : Ob)] ++ Ls)[(L ++ [(⟨P1, n15, c15, nats (Na.dig hi)⟩ : Ob), (⟨P2, n17, c17, nats (Na.dig 1000000000000000000)⟩ : Ob), (⟨P3, n19, c19, nats (Na.dig lo)⟩ : Ob)]).length + t3]? = some ⟨A3, n3, c3, nats (Na.dig (hi * 1000000000000000000))⟩ := (get_r _ _ _).trans r3
              obtain rfl := hC.h4 (hd 4 (by kernel_rfl))
              clear hd hcl
              refine wpOp_step rfl (fun K hK => ?_)
              go_simp
              refine (r8_add hC.ow _ (L.length + 2) R3 ((get_l _ _ (by simp)).trans ((get_r _ _ 2).trans rfl)) HB.out.2.2.1 HB.out.2.2.2.1 HB.out.2.2.2.2).mono ?_
              rintro e W' ⟨Az, nz, cz, rfl, ho⟩
              rw [List.append_assoc (L ++ [(⟨P1, n15, c15, nats (Na.dig hi)⟩ : Ob), (⟨P2, n17, c17, nats (Na.dig 1000000000000000000)⟩ : Ob), (⟨P3, n19, c19, nats (Na.dig lo)⟩ : Ob)]) Ls] at ho
              refine hK _ _ ⟨u0, u1, u2, _, _, _, u7, va, _, ?_, ⟨ho, hC.h0, hC.h1, hC.h2.more, hC.h3.more, hC.h4, GN.new _ _ _ _ _ _ _, hC.h7, hC.v0, hC.v1.more⟩⟩
              simp only [Act.put, List.setIfInBounds_toArray, List.set_cons_zero, List.set_cons_succ]
            · obtain ⟨t5, A5, n5, c5, rfl, r5⟩ := hC.h5 (hd 5 (by kernel_rfl))
              have R5 : (L ++ [(⟨P1, n15, c15, nats (Na.dig hi)⟩ : Ob), (⟨P2, n17, c17, nats (Na.dig 1000000000000000000)⟩ : Ob), (⟨P3, n19, c19, nats (Na.dig lo)⟩ : Ob)] ++ Ls)[(L ++ [(⟨P1, n15, c15, nats (Na.dig hi)⟩ : Ob), (⟨P2, n17, c17, nats (Na.dig 1000000000000000000)⟩ : Ob), (⟨P3, n19, c19, nats (Na.dig lo)⟩ : Ob)]).length + t5]? = some ⟨A5, n5, c5, nats (Na.dig (hi * 1000000000000000000 + lo))⟩ := (get_r _ _ _).trans r5
              clear hd hcl
              refine wpOp_step rfl (fun K hK => ?_)
              go_simp
              have ho := hC.ow.setv (M.length + 0) (by rw [get_r]; rfl) (.slice A5 n5 c5)
              rw [set_r, List.set_cons_zero] at ho
              refine hK _ _ ⟨u0, u1, u2, u3, u4, _, u7, _, Ls, ?_, ⟨ho, hC.h0, hC.h1, hC.h2, hC.h3, hC.h4, hC.h5, hC.h7, fun e => absurd (show true = false from e) (by decide), fun _ => ⟨t5, A5, n5, c5, rfl, r5⟩⟩⟩
              simp only [Act.put, List.setIfInBounds_toArray, List.set_cons_zero, List.set_cons_succ]
            · clear hd hcl
              refine wpOp_step rfl (fun K hK => ?_)
              go_simp
              refine hK _ _ ⟨u0, u1, u2, u3, u4, u5, _, va, Ls, ?_, ⟨hC.ow, hC.h0, hC.h1, hC.h2, hC.h3, hC.h4, hC.h5, fun _ => rfl, hC.v0, hC.v1⟩⟩
              simp only [Act.put, List.setIfInBounds_toArray, List.set_cons_zero, List.set_cons_succ]
          · rintro Ld b W hL ⟨u0, u1, u2, u3, u4, u5, u7, va, Ls, rfl, hC⟩
            obtain ⟨tz, Az, nz, cz, rfl, rz⟩ := hC.v1 (hL 6 (by show 6 < 8; decide))
            obtain rfl := hC.h7 (hL 7 (by show 7 < 8; decide))
            have s0 := hC.ow.cell (M.length + 0) (by rw [get_r]; rfl)
            have h7 := hC.ow.fewM
            rw [← HO1.out] at h7
            have HF := Lib.hid (h7.fewO.less (L' := L ++ [⟨Az, nz, cz, nats (Na.dig (Ch.pass v))⟩]) (fun o ho => by
              rw [← HP.out] at ho
              rcases List.mem_append.1 ho with h | h
              · exact List.mem_append_left _ (List.mem_append_left _ h)
              · rw [List.mem_singleton] at h
                subst h
                exact List.mem_append_right _ (List.mem_of_getElem? rz)))
            clear hC HO h7
            simp only [Act.put, List.setIfInBounds_toArray, List.set_cons_zero, List.set_cons_succ]
            go_wp2_with fail
            refine bodyPost_ret (v := .tuple #[.agg #[.slice Az nz cz], .int .i64 0]) (by simp [results, Tryz.results26, go_sem, s0]) rfl ?_
            exact ⟨Az, nz, cz, rfl, HF.out⟩
end
end Go.Proofs.YtdjfbbfbdgiblaaGreatDoor

namespace Go.Proofs.YtdjfbbfbdgiblaaGreatDoor
open Go.RowKit Go.Sort
set_option linter.unusedVariables false
set_option maxRecDepth 100000
/-- what WrongBits hands back for any int -/
def wbL (z : Int) : List Nat := if 0 ≤ z ∧ z ≤ 72 then Na.dig (Ch.pass z.toNat) else []
def wbE (z : Int) : Int := if 0 ≤ z ∧ z ≤ 72 then 0 else 2
section
variable {w0 w : World} {g : Option Nat} {M : List (Nat × Value)} {L : List Ob} {O : List Rw}
theorem c_wb (h : Ow w0 w g M L O) (z : Int) : Calls Tryz.prog 25 #[.int .i64 z] w (GotO w0 g M L O (wbL z) (wbE z)) := by
  unfold wbL wbE
  by_cases hz : 0 ≤ z ∧ z ≤ 72
  · obtain ⟨v, rfl⟩ : ∃ v : Nat, z = (v : Int) := ⟨z.toNat, by omega⟩
    rw [if_pos hz, if_pos hz, Int.toNat_natCast]
    exact wrongbits_ow h v (by omega)
  · rw [if_neg hz, if_neg hz]
    exact (wrongbits_no z (by omega) w).mono fun e w' hr => got_o h (by simp) hr
set_option maxHeartbeats 2000000 in
theorem r_wb_neg (h : Ow w0 w g M L O) (z : Int) (hz : z < 0) : Calls Tryz.prog 26 #[.int .i64 z] w (GotO w0 g M L O [] 2) := by
  have t1 : decide (z < 0) = true := decide_eq_true hz
  have H := Lib.hid h
  clear h hz
  go_enter Tryz.func26, Tryz.ntmps26
  go_wp2_with fail
  refine bodyPost_ret (v := .tuple #[.agg #[.slice none 0 0], .int .i64 2]) (by simp [results, Tryz.results26, go_sem]) rfl ?_
  exact got_o H.out (by simp) (resN_nil _ _ _ (own_box1 _ _))
set_option maxHeartbeats 2000000 in
theorem r_wb_big (h : Ow w0 w g M L O) (z : Int) (hz : 72 < z) : Calls Tryz.prog 26 #[.int .i64 z] w (GotO w0 g M L O [] 2) := by
  have t1 : decide (z < 0) = false := decide_eq_false (by omega)
  have t2 : decide (72 < z) = true := decide_eq_true hz
  have H := Lib.hid h
  clear h hz
  go_enter Tryz.func26, Tryz.ntmps26
  go_wp2_with fail
  refine bodyPost_ret (v := .tuple #[.agg #[.slice none 0 0], .int .i64 2]) (by simp [results, Tryz.results26, go_sem]) rfl ?_
  exact got_o H.out (by simp) (resN_nil _ _ _ (own_box1 _ _))
set_option maxHeartbeats 2000000 in
theorem r_wb_two (h : Ow w0 w g M L O) (z : Int) (hz : 0 ≤ z ∧ z < 2) : Calls Tryz.prog 26 #[.int .i64 z] w (GotO w0 g M L O [] 0) := by
  have t1 : decide (z < 0) = false := decide_eq_false (by omega)
  have t2 : decide (72 < z) = false := decide_eq_false (by omega)
  have t3 : decide (z < 2) = true := decide_eq_true hz.2
  have H := Lib.hid h
  clear h hz
  go_enter Tryz.func26, Tryz.ntmps26
  go_wp2_with fail
  refine bodyPost_ret (v := .tuple #[.agg #[.slice none 0 0], .int .i64 0]) (by simp [results, Tryz.results26, go_sem]) rfl ?_
  exact got_o H.out (by simp) (resN_nil _ _ _ (own_box1 _ _))
theorem r_wb (h : Ow w0 w g M L O) (z : Int) : Calls Tryz.prog 26 #[.int .i64 z] w (GotO w0 g M L O (wbL z) (wbE z)) := by
  unfold wbL wbE
  by_cases hz : 0 ≤ z ∧ z ≤ 72
  · rw [if_pos hz, if_pos hz]
    rcases Int.lt_or_le z 2 with h2 | h2
    · rw [Ch.pass_few z.toNat (by omega), Na.dig_zero]
      exact r_wb_two h z ⟨hz.1, h2⟩
    · obtain ⟨v, rfl⟩ : ∃ v : Nat, z = (v : Int) := ⟨z.toNat, by omega⟩
      rw [Int.toNat_natCast]
      exact r8_wrongbits h v (by omega) (by omega)
  · rw [if_neg hz, if_neg hz]
    rcases Int.lt_or_le z 0 with h0 | h0
    · exact r_wb_neg h z h0
    · exact r_wb_big h z (by omega)
end
set_option maxHeartbeats 8000000 in
theorem chanceBits_any (z : Int) (w : World) (ht : Tab w) : Calls Tryz.prog 5 #[.int .i64 z] w fun e w' => e = .returned (.bool true) ∧ Below w.heap.size w w' := by
  have HT := Lib.hid ht
  obtain ⟨b, hb⟩ : ∃ b : Int, z % 75 = b := ⟨_, rfl⟩
  have HMd : Hid (∀ w : World, Calls Tryz.prog 27 #[.int .i64 z, .int .i64 75] w fun e w' => e = .returned (.int .i64 b) ∧ w = w') := fun w => by rw [← hb]; exact mod_any z 75 w (by omega) (by omega)
  obtain ⟨y, hy⟩ : ∃ y : Int, b - 1 = y := ⟨_, rfl⟩
  have hyw : IntKind.i64.wrap (b - 1) = y := by rw [IntWalk.i64_in _ (by omega)]; exact hy
  obtain ⟨l1, hl1⟩ : ∃ l, wbL z = l := ⟨_, rfl⟩
  obtain ⟨e1, he1⟩ : ∃ l, wbE z = l := ⟨_, rfl⟩
  obtain ⟨l2, hl2⟩ : ∃ l, wbL y = l := ⟨_, rfl⟩
  obtain ⟨e2, he2⟩ : ∃ l, wbE y = l := ⟨_, rfl⟩
  have HE1 : Hid (wbL z = l1 ∧ wbE z = e1) := ⟨hl1, he1⟩
  have HE2 : Hid (wbL y = l2 ∧ wbE y = e2) := ⟨hl2, he2⟩
  have h0 := Ow.of (St.refl w)
  have HC := Lib.hid (c_wb h0 z)
  rw [HE1.out.1, HE1.out.2] at HC
  have hq1 : (e1 == e1) = true := beq_self_eq_true _
  have hq2 : (e2 == e2) = true := beq_self_eq_true _
  clear ht hb h0 hl1 he1 hl2 he2 hy
  go_enter Tryz.func5, Tryz.ntmps5
  go_wp2_with fail
  refine HC.out.mono ?_
  rintro e w1 ⟨B1, m1, d1, rfl, G⟩
  have H1 := G.boxed (.slice B1 m1 d1) 31
  try simp only [List.nil_append] at H1
  clear HC G
  have HC := Lib.hid (r_wb H1 z)
  rw [HE1.out.1, HE1.out.2] at HC
  clear H1
  go_wp2_with fail
  refine HC.out.mono ?_
  rintro e w2 ⟨B2, m2, d2, rfl, G⟩
  clear HC
  have H2 := G.boxed (.slice B2 m2 d2) 31
  try simp only [List.cons_append] at H2
  try simp only [List.nil_append] at H2
  clear G
  have HC := Lib.hid (c_wb H2 y)
  rw [HE2.out.1, HE2.out.2] at HC
  clear H2
  go_wp2_with (go_at_call 27; refine (HMd.out _).mono ?_; rintro e w' ⟨rfl, rfl⟩)
  refine HC.out.mono ?_
  rintro e w3 ⟨B3, m3, d3, rfl, G⟩
  clear HC HMd
  have H3 := G.boxed (.slice B3 m3 d3) 31
  try simp only [List.cons_append] at H3
  try simp only [List.nil_append] at H3
  clear G
  have HC := Lib.hid (r_wb H3 y)
  rw [HE2.out.1, HE2.out.2] at HC
  clear H3
  go_wp2_with fail
  refine HC.out.mono ?_
  rintro e w4 ⟨B4, m4, d4, rfl, G⟩
  clear HC
  have H4 := G.boxed (.slice B4 m4 d4) 31
  try simp only [List.cons_append] at H4
  try simp only [List.nil_append] at H4
  clear G
  have HC := Lib.hid (awake08_ow H4 HT.out)
  clear H4
  go_wp2_with fail
  refine HC.out.mono ?_
  rintro e w5 ⟨rfl, H5⟩
  clear HC
  have c0 := H5.cell 0 rfl
  have c1 := H5.cell 1 rfl
  have HC := Lib.hid (ag_same (l := l1) H5 0 1 rfl rfl)
  clear H5
  go_wp2_with fail
  refine HC.out.mono ?_
  rintro e w6 ⟨rfl, H6⟩
  clear c0 c1 HC
  have c2 := H6.cell 2 rfl
  have c3 := H6.cell 3 rfl
  have HC := Lib.hid (ag_same (l := l2) H6 2 3 rfl rfl)
  clear H6
  go_wp2_with fail
  refine HC.out.mono ?_
  rintro e w7 ⟨rfl, H7⟩
  clear c2 c3 HC
  have HB := Lib.hid H7.below
  clear H7
  go_wp2_with fail
  go_ret
  exact ⟨rfl, HB.out⟩
end Go.Proofs.YtdjfbbfbdgiblaaGreatDoor

