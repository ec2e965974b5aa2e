/- Sg FieldC Sh PolyD Si Sk RegB -/
import Derived.Test.YtnplaejlmbncfaaDoorZ02
import Derived.Test.YtnplaejlmbncfaaDoorZ03
import Derived.Test.YtnplaejlmbncfaaDoorZ04
import Derived.Lib.AppendZeros
namespace Go.Proofs.YtnplaejlmbncfaaDoor
open Go.RowKit
set_option linter.unusedVariables false
set_option maxRecDepth 100000
theorem zeroCells_one (z : Value) (m : Nat) : Builtin.zeroCells #[z] m = (List.replicate m z).toArray := by
  apply Array.ext
  · simp [Builtin.zeroCells]
  · intro i h1 h2
    simp [Builtin.zeroCells, Nat.mod_one]
section
variable {P : Program} {w w' : World}
theorem own_fresh_more {w1 : World} {e : TypeId} {xs ys : List Value} {n c : Nat} {cs : Array Value} (hc : cs.size = c) (hn : n ≤ c) (hm : c ≤ maxLen) (ht : cs.toList.take n = xs) :
    (w1.alloc (.cells cs e)).ownsRow w1.heap.size e 1 (.slice (some ⟨w1.heap.size, 0, none⟩) n c) n xs := by
  have h1 := World.ownsRow_lit (base := w1.heap.size) (e := e) (size := 1) w1 cs c (Nat.le_refl _) hm (by omega)
  have h2 := own_take h1 hn
  rw [ht] at h2
  exact h2
theorem grownCap_le (w : World) (need old : Nat) (e : TypeId) (h : need ≤ maxLen) : grownCap w need old e ≤ maxLen := grownCap_le_maxLen w need old e h
theorem run_append_zeros (w : World) (base : Nat) (t tn ty e : TypeId) (i : TypeInfo) (z : Value) (bytes : Nat) (ht : P.underlying t = some (.slice e)) (htn : P.underlying tn = some (.int .i64)) (hi : P.info? e = some i) (hz : i.zero = some z)
    (hsize : i.size = 1) (hby : i.bytes = bytes) (hzc : z.cells = #[z]) (hz1 : z.oneCell' = true) (A : Option Addr) (n c : Nat) (xs : List Value) (hown : w.ownsRow base e 1 (.slice A n c) n xs) (m : Nat)
    (h63 : n + m ≤ maxLen) (hbytes : (n + m) * bytes ≤ 140737488355328) (hbase : base ≤ w.heap.size) :
    ∃ A' c' w', (Builtin.append_ #[t, tn] ty #[.slice A n c, .int .i64 (m : Int)]).run P w = .ok (.slice A' (n + m) c') w' ∧ w'.ownsRow base e 1 (.slice A' (n + m) c') (n + m) (xs ++ List.replicate m z) ∧ w.grownBy w' (Value.slice A n c).ownBlock ∧
      ((Value.slice A' (n + m) c').ownBlock = (Value.slice A n c).ownBlock ∨ (Value.slice A' (n + m) c').ownBlock = some w.heap.size) := by
  have hcap := own_cap hown
  have hlen := own_len hown
  subst hby
  have hmax : (maxLen : Nat) = 9223372036854775807 := rfl
  have hw : IntKind.i64.wrap (m : Int) = m := by rw [IntKind.wrap_i64]; omega
  have hneg : ¬ ((m : Int) < 0) := by omega
  have hmb : m * i.bytes ≤ 140737488355328 := Nat.le_trans (Nat.mul_le_mul_right _ (Nat.le_add_left m n)) hbytes
  have h48i : ¬ (281474976710656 < (m : Int) * (i.bytes : Int)) := by
    rw [← Int.natCast_mul]
    omega
  rcases Nat.eq_zero_or_pos m with h0 | h0
  · subst h0
    refine ⟨A, c, w, ?_, by simpa using hown, World.grownBy.refl w _, .inl rfl⟩
    have hw0 : IntKind.i64.wrap 0 = 0 := by rw [IntKind.wrap_i64]; rfl
    rcases A with _ | ad <;> simp [Builtin.append_, run_underlying ht, run_underlying htn, sizeOf, typeInfo, hi, hw0, asInt, asIntOf, hcap.1, storeCells]
  · rcases A with _ | ad
    · have hn0 : n = 0 ∧ c = 0 := by
        rcases hown.2 with ⟨h', h0'⟩ | ⟨g, cap, cur, h', _⟩
        · injection h' with a1 a2 a3
          exact ⟨a2, a3⟩
        · injection h' with a1
          cases a1
      obtain ⟨rfl, rfl⟩ := hn0
      have hx : xs = [] := List.eq_nil_of_length_eq_zero hlen
      subst hx
      have hr := Lib.run_append_nil_zeros (P := P) w t tn ty e i z .i64 .i64 ht htn hi hz m h0 (by omega) (by omega) (by omega)
      have hge := grownCap_ge w m 0 e
      have hle := grownCap_le w m 0 e (by omega)
      rw [Nat.zero_add]
      refine ⟨_, _, _, hr, ?_, ?_, .inr rfl⟩
      · rw [hzc, zeroCells_one, zeroCells_one]
        exact own_more (own_fresh_more (w1 := w.drew) (ys := []) (by simp; omega) hge hle (by simp)) hbase
      · exact ⟨rfl, rfl, rfl, by simp, fun k hk _ => heap_alloc_old w.drew _ (h := hk)⟩
    · obtain ⟨hl, ⟨h', _⟩ | ⟨g, cap, cur, h', hbg, hg, hnc, hcm, hcs, htake⟩⟩ := hown
      · cases h'
      · injection h' with a1 a2 a3
        obtain rfl := Option.some.inj a1
        subst a3
        have hn : ¬ (m = 0) := by omega
        by_cases hroom : n + m ≤ c
        · have hst := run_storeCells_at P g (n * 1) e (List.replicate m z) 0 cur w hg (by rw [List.length_replicate, hcs]; omega) (fun u hu => by rw [List.eq_of_mem_replicate hu]; exact hz1)
          simp only [Nat.add_zero] at hst
          refine ⟨some ⟨g, 0, none⟩, c, w.setRow g (cur.toList.take (n * 1) ++ List.replicate m z ++ cur.toList.drop (n * 1 + (List.replicate m z).length)).toArray, ?_, ⟨?_, .inr ⟨g, c, _, rfl, hbg, setRow_heap w g cur _ e _ hg, hroom, hcm, ?_, ?_⟩⟩, ⟨rfl, rfl, rfl, by simp [World.setRow], fun q hq hne => setRow_other _ _ _ _ (fun e' => hne (by rw [e']; rfl))⟩, .inl rfl⟩
          · simp only [Nat.mul_one] at hst
            simp [Builtin.append_, run_underlying ht, run_underlying htn, sizeOf, typeInfo, zeroValue, hi, hz, hsize, hw, hneg, h48i, hn, asInt, asIntOf, hroom, hzc, zeroCells_one, Addr.add_lit, hst]
          · rw [List.length_append, List.length_replicate, hlen]; omega
          · simp only [List.size_toArray, List.length_append, List.length_take, List.length_drop, Array.length_toList, List.length_replicate]
            omega
          · rw [htake]
            have e1 : (n + m) * 1 = (xs ++ List.replicate m z).length := by rw [List.length_append, List.length_replicate, hlen]; omega
            rw [e1]
            exact List.take_left
        · have holds : ∀ j v, xs[j]? = some v → w.cell? ((⟨g, 0, none⟩ : Addr).add j) = some v := by
            have ho : w.ownsRow base e 1 (.slice (some ⟨g, 0, none⟩) n c) n xs := ⟨hl, .inr ⟨g, c, cur, rfl, hbg, hg, hnc, hcm, hcs, htake⟩⟩
            exact ho.cells (g := g) rfl
          have hfo := run_firstCells_some (P := P) w.drew 1 n ⟨g, 0, none⟩ n c xs (by omega) (by simpa using holds)
          have h48' : ¬ (281474976710656 < Builtin.nextslicecap (n + m) c * i.bytes) := by
            have := growslice_fits (need := n + m) (old := c) (by omega) hbytes
            omega
          have h63' : ¬ (9223372036854775807 < ((n : Int) + (m : Int))) := by omega
          have hge := grownCap_ge w (n + m) c e
          have hle := grownCap_le w (n + m) c e (by omega)
          refine ⟨some ⟨w.heap.size, 0, none⟩, grownCap w (n + m) c e, w.drew.alloc (.cells (xs ++ List.replicate m z ++ List.replicate (grownCap w (n + m) c e - (n + m)) z).toArray e), ?_, ?_, ⟨rfl, rfl, rfl, by simp, fun k hk _ => heap_alloc_old w.drew _ (h := hk)⟩, .inr rfl⟩
          · simp [Builtin.append_, run_underlying ht, run_underlying htn, sizeOf, typeInfo, zeroValue, hi, hz, hsize, hw, hneg, h48i, hn, asInt, asIntOf, hroom, h63', h48', hzc, zeroCells_one, Question.forced, hfo, newRow, grownCap]
            congr 2
            apply Array.ext'
            simp
          · refine own_more (own_fresh_more (w1 := w.drew) (ys := []) ?_ hge hle ?_) hbase
            · simp; omega
            · rw [List.toList_toArray, List.take_append_of_le_length (by simp; omega)]
              refine List.take_of_length_le ?_
              simp; omega
end
section
variable {P : Program} {w0 w : World} {g : Option Nat} {M : List (Nat × Value)} {L : List Ob} {O : List Rw} {t tn e : TypeId} {z : Value} {bytes : Nat}
theorem owp_append_zeros {o : Oper} {a : Act} {K : Act → World → Prop} {Q : Exit → Act → World → Prop} (hE : Elem P t e z bytes) (htn : P.underlying tn = some (.int .i64)) (hz1 : z.oneCell' = true) (h : Ow w0 w g M L O) (i : Nat) (s x : Operand) {A : Option Addr} {n c : Nat} {xs : List Value} (hi : O[i]? = some ⟨A, n, c, e, xs⟩)
    (m : Nat) (h63 : n + m ≤ maxLen) (hbytes : (n + m) * bytes ≤ 140737488355328) {mv : Int} (hm : mv = (m : Int))
    (ho : o.op = .call { callee := .builtin .append, args := #[s, x], argTypes := #[t, tn] }) (hs : a.eval s = .slice A n c) (hx : a.eval x = .int .i64 mv)
    (hk : ∀ A' c' w', Ow w0 w' g M L (O.set i ⟨A', n + m, c', e, xs ++ List.replicate m z⟩) → K (a.put o.dst (.slice A' (n + m) c')) w') : o.wp P a w K Q := by
  subst hm
  obtain ⟨ht, hzc, inf, hi0, hz, hsz, hby⟩ := hE
  obtain ⟨A', c', w', hrun, h2, h3, h4⟩ := run_append_zeros (P := P) w w0.heap.size t tn o.type e inf z bytes ht htn hi0 hz hsz hby hzc hz1 A n c xs (h.own i _ hi) m h63 hbytes h.size
  exact Lib.wp_append_run w s x t tn ho _ _ hs hx _ w' hrun (hk A' c' w' (h.turn i hi (r' := ⟨A', n + m, c', e, xs ++ List.replicate m z⟩) h3 h2 h4))
theorem ow_append_zeros {ops : Array Oper} {rest : List Oper} {o : Oper} {a : Act} {Q : Exit → Act → World → Prop} (hE : Elem P t e z bytes) (htn : P.underlying tn = some (.int .i64)) (hz1 : z.oneCell' = true) (h : Ow w0 w g M L O) (i : Nat) (s x : Operand) {A : Option Addr} {n c : Nat} {xs : List Value} (hi : O[i]? = some ⟨A, n, c, e, xs⟩)
    (m : Nat) (h63 : n + m ≤ maxLen) (hbytes : (n + m) * bytes ≤ 140737488355328) {mv : Int} (hm : mv = (m : Int)) (hgd : o.guard = none)
    (ho : o.op = .call { callee := .builtin .append, args := #[s, x], argTypes := #[t, tn] }) (hs : a.eval s = .slice A n c) (hx : a.eval x = .int .i64 mv)
    (hk : ∀ A' c' w', Ow w0 w' g M L (O.set i ⟨A', n + m, c', e, xs ++ List.replicate m z⟩) → wpList P ops Q rest (a.put o.dst (.slice A' (n + m) c')) w') : wpList P ops Q (o :: rest) a w :=
  wpList_plain hgd fun _ hK => owp_append_zeros hE htn hz1 h i s x hi m h63 hbytes hm ho hs hx fun A' c' w' how => hK _ _ (hk A' c' w' how)
end
theorem elemB : Elem Tryd.prog 30 5 (.int .u8 0) 1 := by
  obtain ⟨i0, hi, hz0, hz1, hz2⟩ := info_parts infoB
  exact ⟨Tryd.underlying30, rfl, i0, hi, hz0, hz1, hz2⟩
theorem bys_zeros (m : Nat) : List.replicate m (Value.int .u8 0) = bys (List.replicate m 0) := by simp [bys, encB]
theorem bys_app (a b : List UInt8) : bys a ++ bys b = bys (a ++ b) := by simp [bys]
end Go.Proofs.YtnplaejlmbncfaaDoor

namespace Go.Proofs.YtnplaejlmbncfaaDoor
open Go.RowKit
set_option linter.unusedVariables false
set_option maxRecDepth 100000

namespace Gf
/-- the error of a division by a: ErrZero, or none -/
def ez (a : UInt8) : Int := if a = 0 then 4 else 0
theorem ez_ne (a : UInt8) (h : a ≠ 0) : ez a = 0 := if_neg h
/-- a power as the packages give it -/
def pw (a : UInt8) (n : Int) : UInt8 := if a = 0 then (if n = 0 then 1 else 0) else zpow a n
def epw (a : UInt8) (n : Int) : Int := if a = 0 ∧ n < 0 then 4 else 0
end Gf

theorem ret2_eq {k l : IntKind} {a b c d : Int} (h : a = b) (h' : c = d) : Ending.returned (.tuple #[.int k a, .int l c]) = .returned (.tuple #[.int k b, .int l d]) := by rw [h, h']
theorem zero_or (a : UInt8) : a = 0 ∨ (a ≠ 0 ∧ ((a.toNat : Int) == 0) = false) := by
  by_cases h : a = 0
  · exact .inl h
  · exact .inr ⟨h, by have := u8_pos h; rw [beq_eq_false_iff_ne]; omega⟩

theorem inverse_any (a : UInt8) (w : World) : Calls Tryd.prog 48 #[.int .u8 (a.toNat : Int)] w fun e w' => e = .returned (.tuple #[.int .u8 ((Gf.ginv a).toNat : Int), .int .i64 (Gf.ez a)]) ∧ w = w' := by
  rcases zero_or a with rfl | ⟨h, h1⟩
  · go_enter Tryd.func48, Tryd.ntmps48
    go_wp2_with fail
    go_ret2
    exact ⟨ret2_eq (by rw [Gf.ginv_zero]; rfl) rfl, rfl⟩
  · have H := Lib.hid (Gf.ez_ne a h)
    clear h
    have hl := u8_lt a
    go_enter Tryd.func48, Tryd.ntmps48
    go_wp2_with (go_at_call 63; refine (raise_any _ _ (by omega) (by omega) _).mono ?_; rintro e w' ⟨rfl, rfl⟩)
    go_ret2
    exact ⟨ret2_eq rfl H.out.symm, rfl⟩

theorem divide_any (a c : UInt8) (w : World) : Calls Tryd.prog 67 #[.int .u8 (a.toNat : Int), .int .u8 (c.toNat : Int)] w fun e w' => e = .returned (.tuple #[.int .u8 ((Gf.gmul a (Gf.ginv c)).toNat : Int), .int .i64 (Gf.ez c)]) ∧ w = w' := by
  have hl := u8_lt a
  go_enter Tryd.func67, Tryd.ntmps67
  go_wp2_with (first | (go_at_call 48; refine (inverse_any _ _).mono ?_; rintro e w' ⟨rfl, rfl⟩) | (go_at_call 42; refine (mul_any _ _ _).mono ?_; rintro e w' ⟨rfl, rfl⟩))
  go_ret2
  exact ⟨rfl, rfl⟩

theorem exp_any (n : Int) (w : World) : Calls Tryd.prog 41 #[.int .i64 n] w fun e w' => e = .returned (.int .u8 ((Gf.zpow 2 n).toNat : Int)) ∧ w = w' := by
  have hl := Gf.emod_lt n
  have H : Hid (Gf.gpow 2 (Gf.emod n) = Gf.zpow 2 n) := rfl
  go_enter Tryd.func41, Tryd.ntmps41
  go_wp2_with (go_at_call 64; refine (turn_any _ _).mono ?_; rintro e w' ⟨rfl, rfl⟩)
  refine (raise_any 2 _ (by omega) (by omega) _).mono ?_; rintro e w' ⟨rfl, rfl⟩
  go_wp2_with fail
  go_ret
  exact ⟨ret_u8 H.out, rfl⟩

theorem power_any (a : UInt8) (n : Int) (w : World) : Calls Tryd.prog 52 #[.int .u8 (a.toNat : Int), .int .i64 n] w fun e w' => e = .returned (.tuple #[.int .u8 ((Gf.pw a n).toNat : Int), .int .i64 (Gf.epw a n)]) ∧ w = w' := by
  rcases Int.lt_trichotomy n 0 with hn | hn | hn
  · rcases zero_or a with rfl | ⟨h, h1⟩
    · have H1 : Hid (Gf.pw 0 n = 0) := by unfold Hid Gf.pw; rw [if_pos rfl, if_neg (by omega)]
      have H2 : Hid (Gf.epw 0 n = 4) := by unfold Hid Gf.epw; rw [if_pos ⟨rfl, hn⟩]
      go_enter Tryd.func52, Tryd.ntmps52
      go_wp2_with fail
      go_ret2
      exact ⟨ret2_eq (by rw [H1.out]; rfl) H2.out.symm, rfl⟩
    · have hl := Gf.emod_lt n
      have H1 : Hid (Gf.pw a n = Gf.gpow a (Gf.emod n)) := by unfold Hid Gf.pw; rw [if_neg h]; rfl
      have H2 : Hid (Gf.epw a n = 0) := by unfold Hid Gf.epw; rw [if_neg (fun x => h x.1)]
      clear h
      go_enter Tryd.func52, Tryd.ntmps52
      go_wp2_with (first | (go_at_call 64; refine (turn_any _ _).mono ?_; rintro e w' ⟨rfl, rfl⟩) | (go_at_call 63; refine (raise_any _ _ (by omega) (by omega) _).mono ?_; rintro e w' ⟨rfl, rfl⟩))
      go_ret2
      exact ⟨ret2_eq (by rw [H1.out]) H2.out.symm, rfl⟩
  · subst hn
    have H1 : Hid (Gf.pw a 0 = 1) := by
      unfold Hid Gf.pw
      split <;> rfl
    have H2 : Hid (Gf.epw a 0 = 0) := by unfold Hid Gf.epw; rw [if_neg (fun x => by omega)]
    go_enter Tryd.func52, Tryd.ntmps52
    go_wp2_with fail
    go_ret2
    exact ⟨ret2_eq (by rw [H1.out]; rfl) H2.out.symm, rfl⟩
  · rcases zero_or a with rfl | ⟨h, h1⟩
    · have H1 : Hid (Gf.pw 0 n = 0) := by unfold Hid Gf.pw; rw [if_pos rfl, if_neg (by omega)]
      have H2 : Hid (Gf.epw 0 n = 0) := by unfold Hid Gf.epw; rw [if_neg (fun x => by omega)]
      have hn' : 0 ≤ n := by omega
      go_enter Tryd.func52, Tryd.ntmps52
      go_wp2_with fail
      go_ret2
      exact ⟨ret2_eq (by rw [H1.out]; rfl) H2.out.symm, rfl⟩
    · have hl := Gf.emod_lt n
      have H1 : Hid (Gf.pw a n = Gf.gpow a (Gf.emod n)) := by unfold Hid Gf.pw; rw [if_neg h]; rfl
      have H2 : Hid (Gf.epw a n = 0) := by unfold Hid Gf.epw; rw [if_neg (fun x => h x.1)]
      clear h
      go_enter Tryd.func52, Tryd.ntmps52
      go_wp2_with (first | (go_at_call 64; refine (turn_any _ _).mono ?_; rintro e w' ⟨rfl, rfl⟩) | (go_at_call 63; refine (raise_any _ _ (by omega) (by omega) _).mono ?_; rintro e w' ⟨rfl, rfl⟩))
      go_ret2
      exact ⟨ret2_eq (by rw [H1.out]) H2.out.symm, rfl⟩

end Go.Proofs.YtnplaejlmbncfaaDoor

namespace Go.Proofs.YtnplaejlmbncfaaDoor
open Go.RowKit
set_option linter.unusedVariables false
set_option maxRecDepth 100000
section
variable {w0 w w' : World} {g : Option Nat} {M : List (Nat × Value)} {L : List Ob} {O : List Rw} {A : Option Addr} {n c gb k : Nat} {e : TypeId} {l : List UInt8} {b : UInt8}
theorem Ow.byteO (h : Ow w0 w g M L O) (i : Nat) (hi : O[i]? = some ⟨some ⟨gb, 0, none⟩, n, c, e, bys l⟩) (hk : l[k]? = some b) : w.cell? ⟨gb, k, none⟩ = some (.int .u8 (b.toNat : Int)) := own_byte (h.row i hi) hk
theorem Ow.frzO (h : Ow w0 w g M L O) (i : Nat) {vs : List Value} (hi : O[i]? = some ⟨some ⟨gb, 0, none⟩, n, c, e, vs⟩) (k : Nat) : w.frozen? ⟨gb, k, none⟩ = false := (h.row i hi).frozenAt k
theorem Ow.byteL (h : Ow w0 w g M L O) (i : Nat) (hi : L[i]? = some ⟨A, n, c, bys l⟩) (hk : l[k]? = some b) : ∃ ad, A = some ad ∧ w.cell? (ad.add k) = some (.int .u8 (b.toNat : Int)) := by
  obtain ⟨ad, e, _, h⟩ := (h.sl hi).2.2.2.byte hk
  exact ⟨ad, e, h⟩
theorem Ow.putB (h : Ow w0 w g M L O) (i : Nat) (hi : O[i]? = some ⟨some ⟨gb, 0, none⟩, n, c, e, bys l⟩) (k : Nat) (b : UInt8) : Ow w0 (w.setCell ⟨gb, k, none⟩ (.int .u8 (b.toNat : Int))) g M L (O.set i ⟨some ⟨gb, 0, none⟩, n, c, e, bys (l.set k b)⟩) := by
  have := h.put i hi k (.int .u8 (b.toNat : Int))
  unfold bys at this ⊢
  rw [List.map_set]
  exact this
theorem freshB_of (h : Ow w w' g M L O) (i : Nat) (hi : O[i]? = some ⟨A, n, c, 5, bys l⟩) : FreshB w l (.returned (.slice A n c)) w' := by
  have ho := h.row i hi
  have := own_len ho
  rw [bys_length] at this
  exact ⟨A, n, c, rfl, this, ho, h.below⟩
end
namespace Sy
theorem zpow_nat {k : Nat} (h : k < 255) : Gf.zpow 2 (k : Int) = Gf.gpow 2 k := by
  unfold Gf.zpow Gf.emod
  congr 1
  omega
/-- so many values are known -/
def synP (l : List UInt8) (m k : Nat) : List UInt8 := (List.range m).map fun j => if j < k then syn l j else 0
theorem synP_length (l : List UInt8) (m k : Nat) : (synP l m k).length = m := by unfold synP; simp
theorem synP_get (l : List UInt8) {m k j : Nat} (h : j < m) : (synP l m k)[j]? = some (if j < k then syn l j else 0) := by
  unfold synP
  rw [List.getElem?_map, List.getElem?_range h]
  rfl
theorem synP_zero (l : List UInt8) (m : Nat) : synP l m 0 = List.replicate m 0 := by
  refine List.ext_getElem? fun j => ?_
  rcases Nat.lt_or_ge j m with h | h
  · rw [synP_get l h, if_neg (by omega), List.getElem?_replicate, if_pos h]
  · rw [List.getElem?_eq_none (by rw [synP_length]; exact h), List.getElem?_eq_none (by simpa using h)]
theorem synP_succ (l : List UInt8) {m k : Nat} (h : k < m) : (synP l m k).set k (syn l k) = synP l m (k + 1) := by
  refine List.ext_getElem? fun j => ?_
  rw [List.getElem?_set]
  rcases Nat.lt_or_ge j m with h1 | h1
  · rw [synP_get l h1, synP_get l h1]
    by_cases e : k = j
    · subst e; rw [if_pos rfl, if_pos (by rw [synP_length]; exact h), if_pos (by omega)]
    · rw [if_neg e]
      by_cases e2 : j < k
      · rw [if_pos e2, if_pos (by omega)]
      · rw [if_neg e2, if_neg (by omega)]
  · rw [List.getElem?_eq_none (by rw [synP_length]; exact h1), List.getElem?_eq_none (by rw [synP_length]; exact h1)]
    split
    · rename_i e
      rw [if_neg (by rw [synP_length]; omega)]
    · rfl
theorem synP_all (l : List UInt8) (m : Nat) : synP l m m = synL l m := by
  refine List.ext_getElem? fun j => ?_
  rcases Nat.lt_or_ge j m with h | h
  · rw [synP_get l h, if_pos h, wd_lt (by rw [synL_length]; exact h), wd_synL l h]
  · rw [List.getElem?_eq_none (by rw [synP_length]; exact h), List.getElem?_eq_none (by rw [synL_length]; exact h)]
theorem hor_step (x : UInt8) (l : List UInt8) {i : Nat} {b : UInt8} (h : l[i]? = some b) : hor x (l.take (i + 1)) = Gf.gmul (hor x (l.take i)) x ^^^ b := by
  rw [List.take_add_one, h]
  exact hor_snoc x _ b
end Sy
def RSyn (w : World) (L : List Ob) (word : List UInt8) (m : Nat) (v : Value) (wr : World) : Prop := ∃ k : Nat, k ≤ m ∧ v = .int .i64 (k : Int) ∧ Hid (Ow w wr none [] L [⟨some ⟨w.heap.size, 0, none⟩, m, m, 5, bys (Sy.synP word m k)⟩])
def RSyn2 (w : World) (L : List Ob) (word : List UInt8) (m k n : Nat) (v : Value) (wr : World) : Prop := ∃ i : Nat, i ≤ n ∧ v = .int .i64 (i : Int) ∧ Hid (Ow w wr none [] L [⟨some ⟨w.heap.size, 0, none⟩, m, m, 5, bys ((Sy.synP word m k).set k (Sy.hor (Gf.gpow 2 k) (word.take i)))⟩])
set_option maxHeartbeats 2000000 in
theorem syndromes_any (A : Option Addr) (n c m : Nat) (word : List UInt8) (w : World) (hn : word.length = n) (hs : Sl w w.heap.size A (bys word)) (hnc : n ≤ c) (hl : n ≤ 1000) (hm : m ≤ 200) :
    Calls Tryd.prog 27 #[.slice A n c, .int .i64 (m : Int)] w (FreshB w (Sy.synL word m)) := by
  have H1 := ((Ow.of (St.refl w)).old hs (by rw [bys_length]; exact hn) hnc hl).made 5 (.int .u8 0) m m rfl (Nat.le_refl _) (by unfold maxLen; omega)
  rw [bys_zeros, ← Sy.synP_zero word m] at H1
  have HH := Lib.hid H1
  have HN := Lib.hid hn
  have hmk := elemB.make .i64 .i64 (m : Int) (m : Int) m m rfl rfl (Nat.le_refl _) (by omega) (by omega) w
  clear H1 hs hn
  go_enter Tryd.func27, Tryd.ntmps27
  go_wp2_with fail
  go_loopw [14] (fun v wr => RSyn w [⟨A, n, c, bys word⟩] word m v wr) (fun v _ => m - (intOf v).toNat)
  case atStart => exact ⟨0, Nat.zero_le _, rfl, HH.out⟩
  case round =>
    obtain ⟨k, hk, rfl, HO⟩ := hrel
    clear hmk
    rcases Nat.lt_or_ge k m with h | h
    · have hd : decide ((k : Int) < (m : Int)) = true := decide_eq_true (by omega)
      have HZ := Lib.hid (Sy.zpow_nat (show k < 255 by omega))
      go_wp2_with (go_at_call 41; ((with_reducible refine (exp_any _ _).mono ?_); rw [HZ.out]; rintro e w' ⟨rfl, rfl⟩))
      go_loopw [21] (fun v wr2 => RSyn2 w [⟨A, n, c, bys word⟩] word m k n v wr2) (fun v _ => n - (intOf v).toNat)
      case atStart =>
        refine ⟨0, Nat.zero_le _, rfl, ?_⟩
        have e : (Sy.synP word m k).set k (Sy.hor (Gf.gpow 2 k) (word.take 0)) = Sy.synP word m k := by
          have h1 := Sy.synP_get word (m := m) (k := k) h
          rw [if_neg (by omega)] at h1
          obtain ⟨h2, h3⟩ := List.getElem?_eq_some_iff.1 h1
          show (Sy.synP word m k).set k 0 = _
          conv => lhs; rw [← h3]
          exact List.set_getElem_self h2
        rw [e]
        exact HO.out
      case round =>
        obtain ⟨i, hi, rfl, HI⟩ := hrel
        rcases Nat.lt_or_ge i n with h2 | h2
        · have hd2 : decide ((i : Int) < (n : Int)) = true := decide_eq_true (by omega)
          obtain ⟨b, hb⟩ := byte_at word i (by rw [HN.out]; exact h2)
          obtain ⟨ad, rfl, hcx⟩ := HI.out.byteL 0 rfl hb
          obtain ⟨v, hv⟩ : ∃ v, v = Sy.hor (Gf.gpow 2 k) (word.take i) := ⟨_, rfl⟩
          rw [← hv] at HI
          have hck := HI.out.byteO 0 rfl (k := k) (b := v) (by rw [List.getElem?_set_self (by rw [Sy.synP_length]; exact h)])
          have hfk := HI.out.frzO 0 rfl k
          obtain ⟨z, hz, HZ2⟩ := xor_ex (Gf.gmul v (Gf.gpow 2 k)) b
          have HS := Lib.hid (Sy.hor_step (Gf.gpow 2 k) word hb)
          have HV := Lib.hid hv
          clear hb hv
          go_wp2_with (go_at_call 42; ((with_reducible refine (mul_any _ _ _).mono ?_); rintro e w' ⟨rfl, rfl⟩))
          go_roundw
          case rel =>
            refine ⟨i + 1, by omega, by go_num, ?_⟩
            have h5 := HI.out.putB 0 rfl k z
            rw [HS.out, ← HV.out, ← HZ2.out]
            rw [List.set_set] at h5
            exact h5
          case measure => simp [intOf]; omega
        · have hd2 : decide ((i : Int) < (n : Int)) = false := decide_eq_false (by omega)
          have hin : i = n := by omega
          go_wp2_with fail
          go_roundw
          case rel =>
            refine ⟨k + 1, by omega, by go_num, ?_⟩
            have h5 := HI.out
            rw [hin, List.take_of_length_le (by rw [HN.out]; exact Nat.le_refl _)] at h5
            rw [← Sy.synP_succ word h]
            exact h5
          case measure => simp [intOf]; omega
    · have hd : decide ((k : Int) < (m : Int)) = false := decide_eq_false (by omega)
      have hkm : k = m := by omega
      go_wp2_with fail
      go_ret
      have h5 := HO.out
      rw [hkm, Sy.synP_all] at h5
      exact freshB_of h5 0 rfl
end Go.Proofs.YtnplaejlmbncfaaDoor

namespace Go.Proofs.YtnplaejlmbncfaaDoor
open Go.RowKit
set_option linter.unusedVariables false
set_option maxRecDepth 100000

def MulLoop (w : World) (p q : List UInt8) (g n m : Nat) (v : Value) (wr : World) : Prop :=
  ∃ k : Nat, k ≤ n ∧ v = .int .i64 (k : Int) ∧ wr.ownsRow w.heap.size 5 1 (.slice (some ⟨g, 0, none⟩) (n + m - 1) (n + m - 1)) (n + m - 1) (bys (Po.mulTo p q k)) ∧ w.grownBy wr none
set_option maxHeartbeats 1000000 in
theorem pmul_any (A A2 : Option Addr) (n c m c2 : Nat) (p q : List UInt8) (w : World) (hn : p.length = n) (hm : q.length = m) (hp : Sl w w.heap.size A (bys p)) (hq : Sl w w.heap.size A2 (bys q))
    (hl : n ≤ 140737488355328) (hl2 : m ≤ 140737488355328) :
    Calls Tryd.prog 40 #[.slice A n c, .slice A2 m c2] w (ResB w (Po.mulR p q) (Po.mulE p q)) := by
  obtain ⟨i0, hi, hz0, hz1, hz2⟩ := info_parts infoB
  have HV1 := Lib.hid (valid_any A n c _ p w hn hp (by omega))
  have HV2 := Lib.hid (valid_any A2 m c2 _ q w hm hq (by omega))
  cases hv : (Po.vld p && Po.vld q)
  · obtain ⟨hr, he⟩ := Po.mul_no hv
    have HR := Lib.hid hr
    have HE := Lib.hid he
    clear hr he
    cases hv1 : Po.vld p
    · rw [hv1] at HV1
      clear hp hq hn hm hv hv1
      go_enter Tryd.func40, Tryd.ntmps40
      go_wp2_with fail
      refine HV1.out.mono ?_
      rintro e w1 ⟨rfl, rfl⟩
      go_wp2_with fail
      go_ret2
      rw [HR.out, HE.out]
      exact resB_nil _ _ _ (Below.refl _ _)
    · have hv2 : Po.vld q = false := by rw [hv1] at hv; simpa using hv
      rw [hv1] at HV1
      rw [hv2] at HV2
      clear hp hq hn hm hv hv1 hv2
      go_enter Tryd.func40, Tryd.ntmps40
      go_wp2_with fail
      refine HV1.out.mono ?_
      rintro e w1 ⟨rfl, rfl⟩
      go_wp2_with fail
      refine HV2.out.mono ?_
      rintro e w1 ⟨rfl, rfl⟩
      go_wp2_with fail
      go_ret2
      rw [HR.out, HE.out]
      exact resB_nil _ _ _ (Below.refl _ _)
  · have hvv : Po.vld p = true ∧ Po.vld q = true := by simpa using hv
    rw [hvv.1] at HV1
    rw [hvv.2] at HV2
    have h255 : n ≤ 255 ∧ m ≤ 255 := ⟨by rw [← hn]; exact Po.vld_len hvv.1, by rw [← hm]; exact Po.vld_len hvv.2⟩
    obtain ⟨h1, h2⟩ := h255
    clear hvv
    rcases Nat.eq_zero_or_pos n with hn0 | hn0
    · obtain ⟨hr, he⟩ := Po.mul_empty hv (.inl (hn.trans hn0))
      have HR := Lib.hid hr
      have HE := Lib.hid he
      clear hr he hp hq hn hm hv
      subst hn0
      go_enter Tryd.func40, Tryd.ntmps40
      go_wp2_with fail
      refine HV1.out.mono ?_
      rintro e w1 ⟨rfl, rfl⟩
      go_wp2_with fail
      refine HV2.out.mono ?_
      rintro e w1 ⟨rfl, rfl⟩
      go_wp2_with fail
      go_ret2
      rw [HR.out, HE.out]
      exact resB_nil _ _ _ (Below.refl _ _)
    rcases Nat.eq_zero_or_pos m with hm0 | hm0
    · obtain ⟨hr, he⟩ := Po.mul_empty hv (.inr (hm.trans hm0))
      have HR := Lib.hid hr
      have HE := Lib.hid he
      have hz := nat_ne0 hn0
      clear hr he hp hq hn hm hv
      subst hm0
      go_enter Tryd.func40, Tryd.ntmps40
      go_wp2_with fail
      refine HV1.out.mono ?_
      rintro e w1 ⟨rfl, rfl⟩
      go_wp2_with fail
      refine HV2.out.mono ?_
      rintro e w1 ⟨rfl, rfl⟩
      go_wp2_with fail
      go_ret2
      rw [HR.out, HE.out]
      exact resB_nil _ _ _ (Below.refl _ _)
    have hz := nat_ne0 hn0
    have hz2' := nat_ne0 hm0
    rcases Nat.lt_or_ge 255 (n + m - 1) with hnm | hnm
    · obtain ⟨hr, he⟩ := Po.mul_long hv (by omega) (by omega) (by omega)
      have HR := Lib.hid hr
      have HE := Lib.hid he
      have hlo : 255 < (n : Int) + m - 1 := by omega
      clear hr he hp hq hn hm hv
      go_enter Tryd.func40, Tryd.ntmps40
      go_wp2_with fail
      refine HV1.out.mono ?_
      rintro e w1 ⟨rfl, rfl⟩
      go_wp2_with fail
      refine HV2.out.mono ?_
      rintro e w1 ⟨rfl, rfl⟩
      go_wp2_with fail
      go_ret2
      rw [HR.out, HE.out]
      exact resB_nil _ _ _ (Below.refl _ _)
    · obtain ⟨hr, he⟩ := Po.mul_some hv (by omega) (by omega) (by omega)
      have HR := Lib.hid hr
      have HE := Lib.hid he
      have hlo : (n : Int) + m - 1 ≤ 255 := by omega
      have HN := Lib.hid hn
      have HM := Lib.hid hm
      have HQ := Lib.hid hq
      have HL : Hid (∀ k, (Po.mulTo p q k).length = n + m - 1) := fun k => by rw [Po.mulTo_length, hn, hm]
      have H0 : Hid (List.replicate (n + m - 1) 0 = Po.mulTo p q 0) := by unfold Hid; rw [Po.mulTo, hn, hm]
      clear hr he hq hn hm hv
      go_enter Tryd.func40, Tryd.ntmps40
      go_wp2_with fail
      refine HV1.out.mono ?_
      rintro e w1 ⟨rfl, rfl⟩
      go_wp2_with fail
      refine HV2.out.mono ?_
      rintro e w1 ⟨rfl, rfl⟩
      go_wp2_with (at_make; refine wpList_make_full _ rfl (.tmp 40) (.tmp 40) 30 rfl w.heap.size 5 i0 (.int .u8 0) 1 Tryd.underlying30 hi hz0 hz1 _ _ _ _ (n + m - 1) rfl rfl (by omega) (by omega) (by rw [hz2]; omega) (by unfold maxLen; omega) (Nat.le_refl _) ?_; intro w2 hown2 hg2)
      rw [made_bys, H0.out] at hown2
      have hrow := own_block hown2
      go_loopw [44] (fun v wr => MulLoop w p q w.heap.size n m v wr) (fun v _ => n - (intOf v).toNat)
      case atStart => exact ⟨0, Nat.zero_le _, rfl, hown2, hg2⟩
      case round =>
        clear hown2 hg2
        obtain ⟨k, hk, rfl, ho, hg⟩ := hrel
        have HG := Lib.hid hg
        have HO := Lib.hid ho
        clear hg ho
        rcases Nat.lt_or_ge k n with hkn | hkn
        · obtain ⟨b, hb⟩ := byte_at p k (by rw [HN.out]; exact hkn)
          have HS := Lib.hid (Po.mulTo_succ p q k b hb)
          obtain ⟨ad, rfl, hbk, hc⟩ := (hp.grown HG.out (Nat.le_refl _) (fun _ e => by cases e)).byte hb
          clear hb hp
          go_wp2_with fail
          refine (add_any _ A2 (n + m - 1) (n + m - 1) m c2 w.heap.size w.heap.size _ q b k wr (HL.out k) HM.out HO.out (HQ.out.grown HG.out (Nat.le_refl _) (fun _ e => by cases e)) (Nat.le_refl _) HG.out.size (by omega) (by omega)).mono ?_
          rintro e w3 ⟨rfl, ho3, hg3⟩
          rw [← HS.out] at ho3
          have HO3 := Lib.hid ho3
          have HG3 := Lib.hid (grown_far HG.out hg3 hrow)
          clear ho3 hg3
          go_wp2_with fail
          go_roundw
          case rel => exact ⟨k + 1, by omega, by go_num, HO3.out, HG3.out⟩
          case measure => simp [intOf]; omega
        · have hkn' : k = n := by omega
          have HO' : Hid (wr.ownsRow w.heap.size 5 1 (.slice (some ⟨w.heap.size, 0, none⟩) (n + m - 1) (n + m - 1)) (n + m - 1) (bys (Po.mulA p q))) := by
            unfold Hid Po.mulA
            rw [HN.out]
            have h' := HO.out
            rw [hkn'] at h'
            exact h'
          have hlen : Hid ((Po.mulA p q).length = n + m - 1) := HL.out _
          clear hp
          go_wp2_with fail
          go_ret2
          rw [HR.out, HE.out]
          exact ⟨_, _, _, rfl, hlen.out, HO'.out, below_of_grown HG.out⟩
end Go.Proofs.YtnplaejlmbncfaaDoor

namespace Go.Proofs.YtnplaejlmbncfaaDoor
open Go.RowKit
set_option linter.unusedVariables false
set_option maxRecDepth 100000
def RGen (w : World) (m : Nat) (s v : Value) (wr : World) : Prop := ∃ (k : Nat) (A : Option Addr) (c : Nat), k ≤ m ∧ v = .int .i64 (k : Int) ∧ s = .slice A (k + 1) c ∧ Hid (Ow w wr none [] [] [⟨A, k + 1, c, 5, bys (Sy.gen k)⟩])
set_option maxHeartbeats 2000000 in
theorem generator_any (m : Nat) (hm : m ≤ 200) (w : World) : Calls Tryd.prog 24 #[.int .i64 (m : Int)] w (FreshB w (Sy.gen m)) := by
  have H1 := (Ow.of (St.refl w)).arr #[.int .u8 1] 1 rfl (by omega) 5
  have HH := Lib.hid H1
  clear H1
  go_enter Tryd.func24, Tryd.ntmps24
  go_wp2_with fail
  go_loopw [3, 7] (fun s v wr => RGen w m s v wr) (fun _ v _ => m - (intOf v).toNat)
  case atStart => exact ⟨0, _, 1, Nat.zero_le _, rfl, rfl, HH.out⟩
  case round =>
    obtain ⟨k, A, c, hk, rfl, rfl, HO⟩ := hrel
    rcases Nat.lt_or_ge k m with h | h
    · have hd : decide ((k : Int) < (m : Int)) = true := decide_eq_true (by omega)
      have HZ := Lib.hid (Sy.zpow_nat (show k < 255 by omega))
      have hg := Sy.gen_ok k (by omega)
      have H2 := HO.out.arr #[.int .u8 ((Gf.gpow 2 k).toNat : Int), .int .u8 1] 2 rfl (by omega) 5
      have HM : Hid (Po.mulR (Sy.gen k) [Gf.gpow 2 k, 1] = Sy.gen (k + 1) ∧ Po.mulE (Sy.gen k) [Gf.gpow 2 k, 1] = 0) := Po.mulR_ok hg.1 (Po.vld_lin _) (by rw [hg.2]; simp; omega)
      have HP := Lib.hid (pmul_any A (some ⟨wr.heap.size, 0, none⟩) (k + 1) c 2 2 (Sy.gen k) [Gf.gpow 2 k, 1] _ hg.2 rfl (Sl.of_own (H2.row 0 rfl)) (Sl.of_own (H2.row 1 rfl)) (by omega) (by omega))
      have HO2 := Lib.hid H2
      clear H2 hg
      go_wp2_with (first | (go_at_call 41; ((with_reducible refine (exp_any _ _).mono ?_); rw [HZ.out]; rintro e w' ⟨rfl, rfl⟩)) | (go_at_call 40; refine HP.out.mono ?_; rw [HM.out.1, HM.out.2]; rintro e w' ⟨A', n', c', rfl, hn', ho, hb⟩; have hn2 := (Sy.gen_ok (k + 1) (by omega)).2; obtain rfl : k + 1 + 1 = n' := hn2.symm.trans hn'; have HO3 := Lib.hid ((HO2.out.add ho hb).tail.tail); clear ho hb hn' hn2))
      go_roundw
      case rel => exact ⟨k + 1, _, _, by omega, by go_num, rfl, HO3.out⟩
      case measure => simp [intOf]; omega
    · have hd : decide ((k : Int) < (m : Int)) = false := decide_eq_false (by omega)
      have hkm : k = m := by omega
      go_wp2_with fail
      go_ret
      have h5 := HO.out
      rw [hkm] at h5 ⊢
      exact freshB_of h5 0 rfl
/-- the cells of a code in a variable -/
structure Cd (d m f : Nat) : Prop where
  d1 : 1 ≤ d
  d2 : d ≤ 32
  m1 : 1 ≤ m
  m2 : m ≤ 8
  f2 : f ≤ 100
def cdv (d m f : Nat) : Array Value := #[.int .i64 2, .int .i64 (d : Int), .int .i64 (m : Int), .int .i64 (f : Int)]
set_option maxHeartbeats 2000000 in
theorem validcode_any {d m f : Nat} (h : Cd d m f) (w : World) : Calls Tryd.prog 36 #[.agg #[.int .i64 2, .int .i64 (d : Int), .int .i64 (m : Int), .int .i64 (f : Int)]] w fun e w' => e = .returned (.bool (decide (f ≤ m / 2))) ∧ Below w.heap.size w w' := by
  obtain ⟨h1, h2, h3, h4, h5⟩ := h
  have H1 := (Ow.of (St.refl w)).arr (cdv d m f) 4 rfl (by omega) 28
  have hc0 : (w.alloc (.cells #[.int .i64 2, .int .i64 (d : Int), .int .i64 (m : Int), .int .i64 (f : Int)] 28)).cell? ⟨w.heap.size, 0, none⟩ = some (.int .i64 2) := (H1.row 0 rfl).cellAt 0 (by decide)
  have hc1 : (w.alloc (.cells #[.int .i64 2, .int .i64 (d : Int), .int .i64 (m : Int), .int .i64 (f : Int)] 28)).cell? ⟨w.heap.size, 1, none⟩ = some (.int .i64 (d : Int)) := (H1.row 0 rfl).cellAt 1 (by decide)
  have hc2 : (w.alloc (.cells #[.int .i64 2, .int .i64 (d : Int), .int .i64 (m : Int), .int .i64 (f : Int)] 28)).cell? ⟨w.heap.size, 2, none⟩ = some (.int .i64 (m : Int)) := (H1.row 0 rfl).cellAt 2 (by decide)
  have hc3 : (w.alloc (.cells #[.int .i64 2, .int .i64 (d : Int), .int .i64 (m : Int), .int .i64 (f : Int)] 28)).cell? ⟨w.heap.size, 3, none⟩ = some (.int .i64 (f : Int)) := (H1.row 0 rfl).cellAt 3 (by decide)
  have HB : Hid (Below w.heap.size w (w.alloc (.cells #[.int .i64 2, .int .i64 (d : Int), .int .i64 (m : Int), .int .i64 (f : Int)] 28))) := H1.below
  have t1 : decide ((1 : Int) ≤ (d : Int)) = true := decide_eq_true (by omega)
  have t2 : decide ((d : Int) ≤ 32) = true := decide_eq_true (by omega)
  have t3 : decide ((1 : Int) ≤ (m : Int)) = true := decide_eq_true (by omega)
  have t4 : decide ((m : Int) ≤ 8) = true := decide_eq_true (by omega)
  have t5 : decide ((0 : Int) ≤ (f : Int)) = true := decide_eq_true (by omega)
  have HD : Hid (decide ((f : Int) ≤ (m : Int) / 2) = decide (f ≤ m / 2)) := by
    unfold Hid
    rw [decide_eq_decide]
    omega
  clear H1
  go_enter Tryd.func36, Tryd.ntmps36
  go_wp2_with fail
  go_ret
  exact ⟨ret_bool HD.out, HB.out⟩
section
variable {w0 w w' : World} {g : Option Nat} {M : List (Nat × Value)} {L : List Ob} {O : List Rw}
theorem Ow.code (h : Ow w0 w g M L O) (d m f : Nat) : Ow w0 (w.alloc (.cells #[.int .i64 2, .int .i64 (d : Int), .int .i64 (m : Int), .int .i64 (f : Int)] 28)) g M L (O ++ [⟨some ⟨w.heap.size, 0, none⟩, 4, 4, 28, (cdv d m f).toList⟩]) := h.arr (cdv d m f) 4 rfl (by omega) _
theorem Ow.cdc (h : Ow w0 w g M L O) (i : Nat) {b d m f : Nat} (hi : O[i]? = some ⟨some ⟨b, 0, none⟩, 4, 4, 28, (cdv d m f).toList⟩) : w.cell? ⟨b, 0, none⟩ = some (.int .i64 2) ∧ w.cell? ⟨b, 1, none⟩ = some (.int .i64 (d : Int)) ∧ w.cell? ⟨b, 2, none⟩ = some (.int .i64 (m : Int)) ∧ w.cell? ⟨b, 3, none⟩ = some (.int .i64 (f : Int)) :=
  ⟨(h.row i hi).cellAt 0 (by decide), (h.row i hi).cellAt 1 (by decide), (h.row i hi).cellAt 2 (by decide), (h.row i hi).cellAt 3 (by decide)⟩
end
set_option maxHeartbeats 2000000 in
theorem good_any {d m f : Nat} (h : Cd d m f) (w : World) : Calls Tryd.prog 19 #[.agg #[.int .i64 2, .int .i64 (d : Int), .int .i64 (m : Int), .int .i64 (f : Int)]] w fun e w' => e = .returned (.bool (decide (f ≤ m / 2))) ∧ Below w.heap.size w w' := by
  have H1 := (Ow.of (St.refl w)).code d m f
  obtain ⟨hc0, hc1, hc2, hc3⟩ := H1.cdc 0 rfl
  have HO := Lib.hid H1
  have HV := Lib.hid (fun W => validcode_any h W)
  clear H1 h
  rcases Nat.lt_or_ge (m / 2) f with hf | hf
  · have hd : decide (f ≤ m / 2) = false := decide_eq_false (by omega)
    rw [hd] at HV ⊢
    go_enter Tryd.func19, Tryd.ntmps19
    go_wp2_with (go_at_call 36; refine (HV.out _).mono ?_; rintro e w' ⟨rfl, hb⟩; have HB := Lib.hid (HO.out.go hb); obtain ⟨hd0, hd1, hd2, hd3⟩ := HB.out.cdc 0 rfl; clear hb)
    go_ret
    exact ⟨rfl, HB.out.below⟩
  · have hd : decide (f ≤ m / 2) = true := decide_eq_true (by omega)
    rw [hd] at HV ⊢
    go_enter Tryd.func19, Tryd.ntmps19
    go_wp2_with (go_at_call 36; refine (HV.out _).mono ?_; rintro e w' ⟨rfl, hb⟩; have HB := Lib.hid (HO.out.go hb); obtain ⟨hd0, hd1, hd2, hd3⟩ := HB.out.cdc 0 rfl; clear hb)
    go_ret
    exact ⟨rfl, HB.out.below⟩
end Go.Proofs.YtnplaejlmbncfaaDoor

namespace Go.Proofs.YtnplaejlmbncfaaDoor
open Go.RowKit
set_option linter.unusedVariables false
set_option maxRecDepth 100000
theorem nonzero_any (b : UInt8) (w : World) : Calls Tryd.prog 44 #[.int .u8 (b.toNat : Int)] w fun e w' => e = .returned (.bool (b != 0)) ∧ w = w' := by
  have H : Hid (((b.toNat : Int) != 0) = (b != 0)) := u8_bne0 b
  have hb := u8_lt b
  go_enter Tryd.func44, Tryd.ntmps44
  go_wp2_with fail
  go_ret
  exact ⟨ret_bool H.out, rfl⟩
set_option maxHeartbeats 2000000 in
theorem indexB_any (A : Option Addr) (n c : Nat) (l : List UInt8) (w : World) (hn : l.length = n) (hs : Sl w w.heap.size A (bys l)) (hl : n ≤ 1000) :
    Calls Tryd.prog 66 #[.slice A n c, .func (.func 44) #[] #[]] w fun e w' => ∃ z : Int, e = .returned (.int .i64 z) ∧ -1 ≤ z ∧ z ≤ 1000 ∧ decide (0 ≤ z) = l.any (fun x => x != 0) ∧ w = w' := by
  have HN := Lib.hid hn
  have HS := Lib.hid hs
  have HF := Lib.hid nonzero_any
  clear hn hs
  go_enter Tryd.func66, Tryd.ntmps66
  go_wp2_with fail
  go_loopw [8] (fun v wr => ∃ k : Nat, k ≤ n ∧ v = .int .i64 (k : Int) ∧ wr = w ∧ Hid ((l.take k).any (fun x => x != 0) = false)) (fun v _ => n - (intOf v).toNat)
  case atStart => exact ⟨0, Nat.zero_le _, rfl, rfl, rfl⟩
  case round =>
    obtain ⟨k, hk, rfl, rfl, HK⟩ := hrel
    rcases Nat.lt_or_ge k n with h | h
    · have hd : decide ((k : Int) < (n : Int)) = true := decide_eq_true (by omega)
      obtain ⟨b, hb⟩ := byte_at l k (by rw [HN.out]; exact h)
      obtain ⟨ad, rfl, -, hc⟩ := HS.out.byte hb
      have HT : Hid (l.take (k + 1) = l.take k ++ [b]) := by unfold Hid; rw [List.take_add_one, hb]; rfl
      have HB := Lib.hid hb
      clear hb
      cases hz : (b != 0) with
      | true =>
        have HZ := Lib.hid hz
        clear hz
        go_wp2_with (refine (HF.out b _).mono ?_; rw [HZ.out]; rintro e w' ⟨rfl, rfl⟩)
        go_ret
        refine ⟨(k : Int), rfl, by omega, by omega, ?_, rfl⟩
        rw [decide_eq_true (by omega)]
        symm
        rw [List.any_eq_true]
        exact ⟨b, List.mem_of_getElem? HB.out, HZ.out⟩
      | false =>
        have HZ := Lib.hid hz
        clear hz
        go_wp2_with (refine (HF.out b _).mono ?_; rw [HZ.out]; rintro e w' ⟨rfl, rfl⟩)
        go_roundw
        case rel =>
          refine ⟨k + 1, by omega, by go_num, by first | exact trivial | rfl, ?_⟩
          unfold Hid
          rw [HT.out, List.any_append, HK.out]
          simp only [List.any_cons, List.any_nil, HZ.out]
          rfl
        case measure => simp [intOf]; omega
    · have hd : decide ((k : Int) < (n : Int)) = false := decide_eq_false (by omega)
      go_wp2_with fail
      go_ret
      refine ⟨-1, rfl, by omega, by omega, ?_, rfl⟩
      have h5 := HK.out
      rw [List.take_of_length_le (by rw [HN.out]; exact h)] at h5
      rw [h5]
      rfl
theorem clean_any (A : Option Addr) (n c : Nat) (l : List UInt8) (w : World) (hn : l.length = n) (hs : Sl w w.heap.size A (bys l)) (hl : n ≤ 1000) :
    Calls Tryd.prog 28 #[.slice A n c] w fun e w' => e = .returned (.bool (Sy.isClean l)) ∧ w = w' := by
  have HI := Lib.hid (indexB_any A n c l w hn hs hl)
  have HC : Hid (Calls Tryd.prog 43 #[.slice A n c, .func (.func 44) #[] #[]] w fun e w' => e = .returned (.bool (l.any fun x => x != 0)) ∧ w = w') := by
    unfold Hid
    clear hn hs
    go_enter Tryd.func43, Tryd.ntmps43
    go_wp2_with fail
    refine HI.out.mono ?_
    rintro e w' ⟨z, rfl, h1, h2, h3, rfl⟩
    have H3 := Lib.hid h3
    clear h3
    go_wp2_with fail
    go_ret
    exact ⟨ret_bool H3.out, rfl⟩
  clear hn hs HI
  go_enter Tryd.func28, Tryd.ntmps28
  go_wp2_with fail
  refine HC.out.mono ?_
  rintro e w' ⟨rfl, rfl⟩
  go_wp2_with fail
  go_ret
  exact ⟨rfl, rfl⟩
theorem locator_any (n p : Nat) (hn : n ≤ 255) (hp : p < n) (w : World) : Calls Tryd.prog 45 #[.int .i64 (n : Int), .int .i64 (p : Int)] w fun e w' => e = .returned (.int .u8 ((Sy.loc n p).toNat : Int)) ∧ w = w' := by
  have HE : Hid (Gf.zpow 2 ((n : Int) - 1 - (p : Int)) = Sy.loc n p) := by
    unfold Hid
    rw [show (n : Int) - 1 - (p : Int) = ((n - 1 - p : Nat) : Int) by omega, Sy.zpow_nat (by omega)]
    rfl
  go_enter Tryd.func45, Tryd.ntmps45
  go_wp2_with (go_at_call 41; ((with_reducible refine (exp_any _ _).mono ?_); rw [HE.out]; rintro e w' ⟨rfl, rfl⟩))
  go_ret
  exact ⟨rfl, rfl⟩
end Go.Proofs.YtnplaejlmbncfaaDoor

namespace Go.Proofs.YtnplaejlmbncfaaDoor
set_option linter.unusedVariables false
set_option maxRecDepth 100000
section
variable {P : Program} {md : Region.Mode} {ops : Array Oper} {Q : Exit → Act → World → Prop}
/-- every edge that binds leads back -/
def backE (md : Region.Mode) (ops : Array Oper) : Bool := (List.range ops.size).all fun i => ((ops[i]?).map fun o => o.after.all fun e => !Region.binds md e || decide (e.on < i)).getD true
theorem ready_none4 {l : Array Bool} (hb : backE md ops = true) (h : Region.ready md ops l = []) : ∀ j, j < ops.size → l.getD j true = true := by
  intro j
  induction j using Nat.strongRecOn with
  | _ j ih =>
    intro hj
    cases hl : l.getD j true with
    | true => rfl
    | false =>
      exfalso
      have : j ∈ Region.ready md ops l := by
        unfold Region.ready
        rw [List.mem_filter]
        refine ⟨List.mem_range.2 hj, ?_⟩
        rw [hl]
        have ho : ops[j]? = some ops[j] := Array.getElem?_eq_getElem hj
        have hbj := List.all_eq_true.1 hb j (List.mem_range.2 hj)
        rw [ho] at hbj
        have hbj' : (ops[j].after.all fun e => !Region.binds md e || decide (e.on < j)) = true := hbj
        rw [ho]
        show (!false && (ops[j].after.all fun e => !Region.binds md e || l.getD e.on false)) = true
        rw [Bool.not_false, Bool.true_and, Array.all_eq_true_iff_forall_mem]
        intro e he
        have h50 := Array.all_eq_true_iff_forall_mem.1 hbj' e he
        cases hbi : Region.binds md e with
        | false => rfl
        | true =>
        rw [hbi] at h50
        have h5 : e.on < j := of_decide_eq_true h50
        have h6 := ih e.on h5 (by omega)
        have h7 : l.getD e.on false = true := by
          rw [Array.getD_eq_getD_getElem?] at h6 ⊢
          rcases Nat.lt_or_ge e.on l.size with h8 | h8
          · rw [Array.getElem?_eq_getElem h8] at h6 ⊢; exact h6
          · exfalso
            have h9 : l.size ≤ j := by omega
            rw [Array.getD_eq_getD_getElem?, Array.getElem?_eq_none h9] at hl
            cases hl
        rw [h7, Bool.or_true]
      rw [h] at this
      cases this
theorem reg_inv_go4 (Inv : (Nat → Bool) → Act → World → Prop) (hb : backE md ops = true)
    (hstep : ∀ j L a w, j < ops.size → L j = false → (∀ o, ops[j]? = some o → ∀ e ∈ o.after, Region.binds md e = true → L e.on = true) → Inv L a w → wpOp P ops Q j (Inv (dset L j)) a w)
    (hend : ∀ L a w, (∀ i, i < ops.size → L i = true) → Inv L a w → Q .normal a w) : ∀ (n : Nat) (l : Array Bool) (a : Act) (w : World), l.size = ops.size → (l.toList.countP (· == false)) ≤ n →
      Inv (fun i => l.getD i false) a w → wpAny P md ops Q n l a w := by
  intro n
  have fin : ∀ (l : Array Bool) (a : Act) (w : World), l.size = ops.size → Inv (fun i => l.getD i false) a w → Region.ready md ops l = [] → Q .normal a w := fun l a w hs hi hr => by
    refine hend _ a w (fun i hi => ?_) hi
    have h1 := ready_none4 hb hr i hi
    rw [Array.getD_eq_getD_getElem?] at h1 ⊢
    rw [Array.getElem?_eq_getElem (by omega)] at h1 ⊢
    exact h1
  induction n with
  | zero =>
    intro l a w hs hc hi
    have hr : Region.ready md ops l = [] := by
      cases e : Region.ready md ops l with
      | nil => rfl
      | cons j r =>
        exfalso
        obtain ⟨h1, h2, _⟩ := mem_ready (md := md) (ops := ops) (l := l) (j := j) (by rw [e]; exact List.mem_cons_self)
        have h3 : l.toList.countP (· == false) = 0 := by omega
        rw [List.countP_eq_zero] at h3
        rw [Array.getD_eq_getD_getElem?, Array.getElem?_eq_getElem (by omega)] at h2
        have h4 : j < l.size := by omega
        exact h3 _ (Array.mem_toList_iff.2 (Array.getElem_mem h4)) (by simpa using h2)
    exact ⟨hr, fin l a w hs hi hr⟩
  | succ n ih =>
    intro l a w hs hc hi
    refine ⟨fin l a w hs hi, fun j hj => ?_⟩
    obtain ⟨h1, h2, h3⟩ := mem_ready hj
    have hjl : j < l.size := by omega
    have h2' : l[j] = false := by rw [Array.getD_eq_getD_getElem?, Array.getElem?_eq_getElem hjl] at h2; exact h2
    have e1 : (fun i => (l.setIfInBounds j true).getD i false) = dset (fun i => l.getD i false) j := by
      funext i
      unfold dset
      by_cases e : i = j
      · subst e
        rw [if_pos rfl, Array.getD_eq_getD_getElem?, Array.getElem?_setIfInBounds_self_of_lt hjl]; rfl
      · rw [if_neg e, Array.getD_eq_getD_getElem?, Array.getElem?_setIfInBounds_ne (fun e' => e e'.symm)]
        exact (Array.getD_eq_getD_getElem? ..).symm
    refine wpOp_mono (fun a' w' h => ih _ a' w' (by rw [Array.size_setIfInBounds]; exact hs) ?_ (by rw [e1]; exact h)) (hstep j _ a w h1 (by show l.getD j false = false; rw [Array.getD_eq_getD_getElem?, Array.getElem?_eq_getElem hjl]; exact h2') h3 hi)
    have h5 : (l.setIfInBounds j true).toList = l.toList.set j true := by simp
    rw [h5]
    have key : ∀ (xs : List Bool) (j : Nat), xs[j]? = some false → (xs.set j true).countP (· == false) + 1 = xs.countP (· == false) := by
      intro xs
      induction xs with
      | nil => intro j h; simp at h
      | cons x xs ih2 =>
        intro j h
        cases j with
        | zero =>
          simp at h
          subst h
          simp
        | succ j =>
          simp at h
          have := ih2 j h
          simp only [List.set_cons_succ, List.countP_cons]
          omega
    have := key l.toList j (by rw [Array.getElem?_toList, Array.getElem?_eq_getElem hjl, h2'])
    omega
/-- the rule: an invariant of the region, over the set of operations that are done -/
theorem reg_inv4 {id : Nat} {a : Act} {w : World} (Inv : (Nat → Bool) → Act → World → Prop) (hm : P.follows .mixedOrders = true) (hb : backE .any ops = true)
    (h0 : Inv (fun _ => false) a w.drew)
    (hstep : ∀ j L a w, j < ops.size → L j = false → (∀ o, ops[j]? = some o → ∀ e ∈ o.after, Region.binds .any e = true → L e.on = true) → Inv L a w → wpOp P ops Q j (Inv (dset L j)) a w)
    (hend : ∀ L a w, (∀ i, i < ops.size → L i = true) → Inv L a w → Q .normal a w) : (Code.region id ops true).wp P Q a w := by
  refine wp_region_any hm (reg_inv_go4 Inv hb hstep hend _ _ _ _ (by simp) ?_ ?_)
  · refine Nat.le_trans List.countP_le_length ?_
    simp
  · have : (fun i => (Array.replicate ops.size false).getD i false) = fun _ => false := by
      funext i
      rw [Array.getD_eq_getD_getElem?]
      rcases Nat.lt_or_ge i ops.size with h | h
      · rw [Array.getElem?_eq_getElem (by simpa using h)]; simp
      · rw [Array.getElem?_eq_none (by simpa using h)]; rfl
    rw [this]
    exact h0
/-- the rule, the region's first frame named -/
theorem reg_inv24 {id : Nat} {a : Act} {w : World} (I : Act → (Nat → Bool) → Act → World → Prop) (hm : P.follows .mixedOrders = true) (hb : backE .any ops = true)
    (h0 : I a (fun _ => false) a w.drew)
    (hstep : ∀ j L b v, j < ops.size → L j = false → (∀ i, (preds .any ops j).elem i = true → L i = true) → I a L b v → wpOp P ops Q j (I a (dset L j)) b v)
    (hend : ∀ L b v, (∀ i, i < ops.size → L i = true) → I a L b v → Q .normal b v) : (Code.region id ops true).wp P Q a w :=
  reg_inv4 (I a) hm hb h0 (fun j L b v hj hf hd hi => hstep j L b v hj hf (mem_preds (Array.getElem?_eq_getElem hj) (fun e he hb => hd _ (Array.getElem?_eq_getElem hj) e he hb)) hi) hend
/-- the rule, with closedness at hand -/
theorem reg_inv34 {id : Nat} {a : Act} {w : World} (I : Act → (Nat → Bool) → Act → World → Prop) (hm : P.follows .mixedOrders = true) (hb : backE .any ops = true)
    (h0 : I a (fun _ => false) a w.drew)
    (hstep : ∀ j L b v, j < ops.size → L j = false → Closed ops L → (∀ i, (preds .any ops j).elem i = true → L i = true) → I a L b v → wpOp P ops Q j (I a (dset L j)) b v)
    (hend : ∀ L b v, (∀ i, i < ops.size → L i = true) → I a L b v → Q .normal b v) : (Code.region id ops true).wp P Q a w := by
  refine reg_inv24 (fun a L b v => Closed ops L ∧ I a L b v) hm hb ⟨(fun j i h => nomatch h), h0⟩ (fun j L b v hj hf hp hi => ?_) (fun L b v hl hi => hend L b v hl hi.2)
  refine wpOp_mono (fun a' w' h => ⟨fun j' i' h1 h2 => ?_, h⟩) (hstep j L b v hj hf hi.1 hp hi.2)
  unfold dset at h1 ⊢
  by_cases e : i' = j
  · rw [if_pos e]
  · rw [if_neg e]
    by_cases e2 : j' = j
    · subst e2
      exact hp i' h2
    · rw [if_neg e2] at h1
      exact hi.1 j' i' h1 h2
end
end Go.Proofs.YtnplaejlmbncfaaDoor
