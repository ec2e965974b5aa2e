/- The law NatRaw; a number among a statement's parameters, opened. -/
import Derived.Test.YtflgfkelbniblaaDoorAg
import Derived.Test.YtflgfkelbniblaaDoorNatU
import Derived.Test.YtflgfkelbniblaaDoorOpenSl
namespace Go.Proofs.YtflgfkelbniblaaDoor
open Go.RowKit Go.Sort
set_option linter.unusedVariables false
set_option maxRecDepth 100000
section
open Go.ChangeShapes Go.WideShapes Go.ChangeAt
variable {H : Type} {enc : TypeId × Value → H} {P : Program} {W : World}
theorem open_nat {t ts e : TypeId} {f0 : Field} {k : IntKind} (ht : P.underlying t = some (.struct #[f0])) (hts : f0.type = ts) (hoff : f0.offset = 0) (hct : P.cellsOf t = 1) (hcs1 : P.cellsOf ts = 1) (hs : P.underlying ts = some (.slice e)) (he : P.underlying e = some (.int k)) (hc : P.cellsOf e = 1) {r : Reach} {b0 : Nat} {v : Value} {d : DataW H} {ps : List MemPlace}
    (hval : Value.okWide P W r b0 t v) (h : DataW.Trod enc P W 0 (fun _ => true) true t v d ps) :
    ∃ (A : Option Addr) (n c : Nat) (zs : List Int), v = .agg #[.slice A n c] ∧ zs.length = n ∧ n ≤ c ∧ c ≤ maxLen ∧ Sl W W.heap.size A (zs.map (Value.int k)) ∧ ∀ z ∈ zs, (Lit.int k z).wf = true := by
  obtain ⟨cs, rfl, hsz⟩ := okWide_struct ht hval
  rw [hct] at hsz
  obtain ⟨fuel, hf⟩ := h
  obtain ⟨y0, m, _, hl, hy⟩ := trod_struct1 ht hf
  rw [hoff, hts, hcs1, List.drop_zero] at hy
  obtain ⟨u, rfl⟩ : ∃ u, cs = #[u] := by
    obtain ⟨l⟩ := cs
    match l, hsz with
    | [u], _ => exact ⟨u, rfl⟩
  have hy' : DataW.trod enc P W 0 (fun _ => true) true m ts [u] = some y0 := hy
  rcases Go.ChangeShapes.open_ints hs he hc hy' with ⟨hcs, _⟩ | ⟨a, len, cap, zs, hcs, _, hle, hmx, hall, _, hcell, hwf⟩
  · obtain rfl : u = .slice none 0 0 := (List.cons.inj hcs).1
    exact ⟨none, 0, 0, [], rfl, rfl, Nat.le_refl _, Nat.zero_le _, Sl.nil _ _ _, fun z hz => by cases hz⟩
  · obtain rfl : u = .slice (some a) len cap := (List.cons.inj hcs).1
    have hz : zs.length = cap := by simpa using hall
    refine ⟨some a, len, cap, zs.take len, rfl, by rw [List.length_take]; omega, hle, hmx, fun hn => ?_, fun z hz => hwf z (List.mem_of_mem_take hz)⟩
    rw [List.length_map, List.length_take] at hn
    refine ⟨a, rfl, ?_, fun j u hu => ?_⟩
    · have h0 := hcell 0 (by omega)
      have := block_lt h0
      rwa [add_block] at this
    · rw [List.getElem?_map, List.getElem?_take] at hu
      by_cases hj : j < len
      · rw [if_pos hj, List.getElem?_eq_getElem (by omega)] at hu
        rw [hcell j (by omega), List.getD_eq_getElem?_getD, List.getElem?_eq_getElem (by omega)]
        exact hu
      · rw [if_neg hj] at hu
        cases hu
end
set_option maxHeartbeats 2000000 in
theorem natRaw_any (A : Option Addr) (n c : Nat) (zs : List Int) (A2 : Option Addr) (m c2 : Nat) (ys : List Int) (w : World) (hn : zs.length = n) (hnc : n ≤ c) (hl : n ≤ 9223372036854775807) (hs : Sl w w.heap.size A (ints zs)) (hm : ys.length = m) (hmc : m ≤ c2) (hl2 : m ≤ 9223372036854775807) (hs2 : Sl w w.heap.size A2 (ints ys)) (ht : Tab w) :
    Calls Tryd.prog 10 #[.agg #[.slice A n c], .agg #[.slice A2 m c2]] w fun e w' => e = .returned (.bool true) ∧ Below w.heap.size w w' := by
  have H0 := ((Ow.of (St.refl w)).boxed (.slice A n c) 29).boxed (.slice A2 m c2) 29
  simp only [World.size_alloc, List.nil_append, List.cons_append] at H0
  have HX := Lib.hid H0
  have HT := Lib.hid ht
  have HS := Lib.hid hs
  have HS2 := Lib.hid hs2
  have HN := Lib.hid hn
  have HM := Lib.hid hm
  clear H0 ht hs hs2 hn hm
  rcases Nat.lt_or_ge 40 n with h40 | h40
  · have hd : decide (40 < (n : Int)) = true := decide_eq_true (by omega)
    go_enter Tryd.func10, Tryd.ntmps10
    go_wp2_with fail
    refine (awakeN_any _).mono ?_
    rintro e w1 ⟨rfl, hb⟩
    have H1 := HX.out.go hb
    have hc0 := H1.cell 0 rfl
    go_wp2_with fail
    go_ret
    exact ⟨rfl, H1.below⟩
  · rcases Nat.lt_or_ge 40 m with h41 | h41
    · go_enter Tryd.func10, Tryd.ntmps10
      go_wp2_with fail
      refine (awakeN_any _).mono ?_
      rintro e w1 ⟨rfl, hb⟩
      have H1 := HX.out.go hb
      have hc0 := H1.cell 0 rfl
      have hc1 := H1.cell 1 rfl
      go_wp2_with fail
      go_ret
      exact ⟨rfl, H1.below⟩
    · go_enter Tryd.func10, Tryd.ntmps10
      go_wp2_with fail
      refine (awakeN_any _).mono ?_
      rintro e w1 ⟨rfl, hb⟩
      have H1 := HX.out.go hb
      have hc0 := H1.cell 0 rfl
      have hc1 := H1.cell 1 rfl
      have HA := Lib.hid (agree_any A A2 n c m c2 zs ys w1 HN.out HM.out hnc hmc ((HS.out.below H1.below).more H1.size) ((HS2.out.below H1.below).more H1.size) (by omega) (by omega) (HT.out.below H1.below))
      clear hb
      go_wp2_with fail
      refine HA.out.mono ?_
      rintro e w2 ⟨rfl, hb⟩
      have H2 := H1.go hb
      have HB := Lib.hid (agree_any A2 A m c2 n c ys zs w2 HM.out HN.out hmc hnc ((HS2.out.below H2.below).more H2.size) ((HS.out.below H2.below).more H2.size) (by omega) (by omega) (HT.out.below H2.below))
      clear hb H1 hc0 hc1
      have hc0 := H2.cell 0 rfl
      have hc1 := H2.cell 1 rfl
      go_wp2_with fail
      refine HB.out.mono ?_
      rintro e w3 ⟨rfl, hb⟩
      have H3 := H2.go hb
      clear hb H2 hc0 hc1
      go_wp2_with fail
      go_ret
      exact ⟨rfl, H3.below⟩
end Go.Proofs.YtflgfkelbniblaaDoor
