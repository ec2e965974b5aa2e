/- Tj -/
import Derived.Test.YtjhaogbopmhkoaaDoorY20
namespace Go.Proofs.YtjhaogbopmhkoaaDoor
open Go.RowKit Go.Sort
set_option linter.unusedVariables false
set_option maxRecDepth 100000
theorem infoR : (Tryd.prog.info? 78).map (fun i => (i.zero, i.size, i.bytes)) = some (some (.slice none 0 0), 1, 24) := by kernel_rfl
theorem infoN : (Tryd.prog.info? 24).map (fun i => (i.zero, i.size, i.bytes)) = some (some (.agg #[.slice none 0 0]), 1, 24) := by kernel_rfl
theorem make_rows (a b : Int) (n : Nat) (ha : a = (n : Int)) (hb : b = (n : Int)) (h : n ≤ 1000) (w : World) :
    (Instr.makeSlice 68 (.int .i64 a) (.int .i64 b)).run Tryd.prog w = .ok (.slice (some ⟨w.heap.size, 0, none⟩) n n) (w.alloc (.cells (madeCells #[.slice none 0 0] n) 78)) := by
  obtain ⟨i0, hi, hz0, hz1, hz2⟩ := info_parts infoR
  exact run_make_one _ _ i0 (.slice none 0 0) Tryd.underlying68 hi hz0 hz1 .i64 .i64 a b n n ha hb (Nat.le_refl _) (by rw [hz2]; omega) (by omega) w
theorem make_nums (a b : Int) (n : Nat) (ha : a = (n : Int)) (hb : b = (n : Int)) (h : n ≤ 1000) (w : World) :
    (Instr.makeSlice 78 (.int .i64 a) (.int .i64 b)).run Tryd.prog w = .ok (.slice (some ⟨w.heap.size, 0, none⟩) n n) (w.alloc (.cells (madeCells #[.slice none 0 0] n) 24)) := by
  obtain ⟨i0, hi, hz0, hz1, hz2⟩ := info_parts infoN
  exact run_make_one _ _ i0 (.agg #[.slice none 0 0]) Tryd.underlying78 hi hz0 hz1 .i64 .i64 a b n n ha hb (Nat.le_refl _) (by rw [hz2]; omega) (by omega) w
/-- a value is a number held in the list -/
def NumIn (L : List Ob) (v : Value) (x : Nat) : Prop := ∃ (A : Option Addr) (n c t : Nat), v = .slice A n c ∧ L[t]? = some ⟨A, n, c, nats (Na.dig x)⟩
theorem NumIn.more {L l : List Ob} {v : Value} {x : Nat} (h : NumIn L v x) : NumIn (L ++ l) v x := by
  obtain ⟨A, n, c, t, h1, h2⟩ := h
  exact ⟨A, n, c, t, h1, by rw [List.getElem?_append_left (get_lt h2)]; exact h2⟩
/-- a row of the triangle, whole -/
def TRow (L : List Ob) (v : Value) (i : Nat) : Prop := ∃ (ad : Addr) (t : Nat) (vs : List Value), v = .slice (some ad) (i + 1) (i + 1) ∧ L[t]? = some ⟨some ad, i + 1, i + 1, vs⟩ ∧ ∀ k, k ≤ i → ∃ u, vs[k]? = some u ∧ NumIn L u (Na.bin i k)
theorem TRow.more {L l : List Ob} {v : Value} {i : Nat} (h : TRow L v i) : TRow (L ++ l) v i := by
  obtain ⟨ad, t, vs, h1, h2, h3⟩ := h
  exact ⟨ad, t, vs, h1, by rw [List.getElem?_append_left (get_lt h2)]; exact h2, fun k hk => by
    obtain ⟨u, a, b⟩ := h3 k hk
    exact ⟨u, a, b.more⟩⟩
def TRows (L : List Ob) (vs : List Value) (m : Nat) : Prop := ∀ i, i < m → ∃ u, vs[i]? = some u ∧ TRow L u i
theorem TRows.more {L l : List Ob} {vs : List Value} {m : Nat} (h : TRows L vs m) : TRows (L ++ l) vs m := fun i hi => by
  obtain ⟨u, a, b⟩ := h i hi
  exact ⟨u, a, b.more⟩
def TSets (L : List Ob) (A : Option Addr) (m : Nat) : Prop := ∃ (ad : Addr) (t : Nat) (vs : List Value), A = some ad ∧ L[t]? = some ⟨some ad, m + 1, m + 1, vs⟩ ∧ TRows L vs (m + 1)
/-- the first numbers of a row -/
def TFst (L : List Ob) (vs : List Value) (i k : Nat) : Prop := ∀ q, q < k → ∃ u, vs[q]? = some u ∧ NumIn L u (Na.bin i q)
theorem TFst.more {L l : List Ob} {vs : List Value} {i k : Nat} (h : TFst L vs i k) : TFst (L ++ l) vs i k := fun q hq => by
  obtain ⟨u, a, b⟩ := h q hq
  exact ⟨u, a, b.more⟩
theorem TFst.set {L l : List Ob} {xs : List Value} {i k : Nat} {v : Value} (h : TFst L xs i k) (hk : k < xs.length) (hv : NumIn (L ++ l) v (Na.bin i k)) : TFst (L ++ l) (xs.set k v) i (k + 1) := fun q hq => by
  rcases Nat.lt_or_ge q k with h1 | h1
  · obtain ⟨u, a, b⟩ := h q h1
    exact ⟨u, by rw [List.getElem?_set_ne (by omega)]; exact a, b.more⟩
  · obtain rfl : q = k := by omega
    exact ⟨v, List.getElem?_set_self hk, hv⟩
theorem Sl.c {w : World} {B : Nat} {ad : Addr} {vs : List Value} (h : Sl w B (some ad) vs) {k : Nat} {v : Value} (hv : vs[k]? = some v) : w.cell? (ad.add k) = some v := by
  obtain ⟨h1, h2⟩ := List.getElem?_eq_some_iff.1 hv
  obtain ⟨ad', e, _, hc⟩ := h.at_ h1
  obtain rfl := Option.some.inj e
  rw [hc, h2]
/-- the state of the outer loop -/
def RPas (w0 : World) (g : Option Nat) (M : List (Nat × Value)) (L : List Ob) (O : List Rw) (ob m : Nat) (v : Value) (wr : World) : Prop :=
  ∃ (i : Nat) (vs : List Value) (Ls : List Ob), i ≤ m + 1 ∧ v = .int .i64 (i : Int) ∧ Hid (vs.length = m + 1 ∧ TRows (L ++ Ls) vs i) ∧ Hid (Ow w0 wr g M (L ++ Ls) (O ++ [⟨some ⟨ob, 0, none⟩, m + 1, m + 1, 78, vs⟩]))
/-- the state of the inner loop -/
def RPin (w0 : World) (g : Option Nat) (M : List (Nat × Value)) (L : List Ob) (O : List Rw) (ob rb m i : Nat) (v : Value) (wr : World) : Prop :=
  ∃ (k : Nat) (vs xs : List Value) (Ls : List Ob), k ≤ i + 1 ∧ v = .int .i64 (k : Int) ∧ Hid (vs.length = m + 1 ∧ TRows (L ++ Ls) vs i ∧ xs.length = i + 1 ∧ TFst (L ++ Ls) xs i k ∧ vs[i]? = some (.slice (some ⟨rb, 0, none⟩) (i + 1) (i + 1))) ∧ Hid (Ow w0 wr g M (L ++ Ls) (O ++ [⟨some ⟨ob, 0, none⟩, m + 1, m + 1, 78, vs⟩, ⟨some ⟨rb, 0, none⟩, i + 1, i + 1, 24, xs⟩]))
section
variable {w0 w w' : World} {g : Option Nat} {M M2 : List (Nat × Value)} {L : List Ob} {O : List Rw} {A A2 A3 A4 : Option Addr} {b n c m c2 n3 c3 n4 c4 x y : Nat} {p q r s : List Int}
theorem cell_row (h : Ow w0 w g M L O) {i : Nat} {b n c : Nat} {e : TypeId} {vs : List Value} (hi : O[i]? = some ⟨some ⟨b, 0, none⟩, n, c, e, vs⟩) {k : Nat} {v : Value} (hv : vs[k]? = some v) (hk : k < n * 1) : w.cell? ⟨b, k, none⟩ = some v := by
  exact ((h.own i _ hi).cellAt k hk).trans hv
theorem pas_cells {ob rb m i i1 k k1 t : Nat} {ad : Addr} {ys xs ws : List Value} {v u x1 x2 : Value} {e1 e2 : TypeId} (h : Ow w0 w g M L (O ++ [⟨some ⟨ob, 0, none⟩, m + 1, m + 1, e1, ys⟩, ⟨some ⟨rb, 0, none⟩, i + 1, i + 1, e2, xs⟩])) (h1 : ys[i]? = some v) (h2 : ys[i1]? = some u) (ht : L[t]? = some ⟨some ad, i1 + 1, i1 + 1, ws⟩) (h3 : ws[k1]? = some x1) (h4 : ws[k]? = some x2) (hi : i < m + 1) (hi1 : i1 < m + 1) :
    w.cell? ⟨ob, i, none⟩ = some v ∧ w.cell? ⟨ob, i1, none⟩ = some u ∧ w.cell? (ad.add k1) = some x1 ∧ w.cell? (ad.add k) = some x2 :=
  ⟨cell_row h (i := O.length + 0) (by rw [get_r]; rfl) h1 (by omega), cell_row h (i := O.length + 0) (by rw [get_r]; rfl) h2 (by omega), (h.sl ht).2.2.2.c h3, (h.sl ht).2.2.2.c h4⟩
theorem t_of1 (h : Ow w0 w g M L O) : Calls Tryd.prog 42 #[.int .i64 1] w (GotU w0 g M L O (Na.dig 1)) := t_of h 1 (by omega)
set_option maxHeartbeats 16000000 in
theorem t_pascal (h : Ow w0 w g M L O) (m : Nat) (hm : m ≤ 40) :
    Calls Tryd.prog 41 #[.int .i64 (m : Int)] w fun e w' => ∃ (A : Option Addr) (Ls : List Ob), e = .returned (.slice A (m + 1) (m + 1)) ∧ Ow w0 w' g M (L ++ Ls) O ∧ TSets (L ++ Ls) A m := by
  have hmk := make_rows ((m : Int) + 1) ((m : Int) + 1) (m + 1) (by omega) (by omega) (by omega) w
  have H := h.made 78 (.slice none 0 0) (m + 1) (m + 1) rfl (Nat.le_refl _) (by unfold maxLen; omega)
  have HO := Lib.hid H
  clear h H
  go_enter Tryd.func41, Tryd.ntmps41
  go_wp2_with fail
  obtain ⟨ob, hob⟩ : ∃ r, w.heap.size = r := ⟨_, rfl⟩
  rw [hob] at HO
  try rw [hob]
  clear hmk
  go_loopw [11] (fun v wr => RPas w0 g M L O ob m v wr) (fun v _ => m + 2 - (intOf v).toNat)
  case atStart => exact ⟨0, _, [], by omega, rfl, ⟨List.length_replicate .., fun i hi => absurd hi (by omega)⟩, by rw [List.append_nil]; exact HO⟩
  case round =>
    clear HO
    obtain ⟨i, vs, Ls, hi, rfl, HV, HO⟩ := hrel
    rcases Nat.eq_or_lt_of_le hi with he | hlt
    · subst he
      have hd : decide (((m + 1 : Nat) : Int) < ((m + 1 : Nat) : Int)) = false := decide_eq_false (by omega)
      have hd9 : decide (((m + 1 : Nat) : Int) < (m : Int) + 1) = false := decide_eq_false (by omega)
      have hd2 : decide (m + 1 < m + 1) = false := decide_eq_false (by omega)
      go_wp2_with fail
      have hk := HO.out.keep (O.length + 0) (by rw [get_r]; rfl) (by omega)
      rw [set_r, List.set_cons_zero] at hk
      have hr := hk.fewO
      rw [List.append_assoc] at hr
      refine bodyPost_ret (v := .slice (some ⟨ob, 0, none⟩) (m + 1) (m + 1)) (by simp [results, Tryd.results41, go_sem]) rfl ?_
      refine ⟨some ⟨ob, 0, none⟩, Ls ++ [⟨some ⟨ob, 0, none⟩, m + 1, m + 1, vs⟩], rfl, hr, ⟨ob, 0, none⟩, L.length + Ls.length, vs, rfl, ?_, ?_⟩
      · rw [← List.append_assoc, ← List.length_append, List.getElem?_append_right (Nat.le_refl _), Nat.sub_self]; rfl
      · rw [← List.append_assoc]; exact TRows.more HV.out.2
    · have hd : decide ((i : Int) < (m : Int) + 1) = true := decide_eq_true (by omega)
      have hd2 : decide (i < m + 1) = true := decide_eq_true (by omega)
      have hi40 : i ≤ 40 := by omega
      have hmk := fun W => make_nums ((i : Int) + 1) ((i : Int) + 1) (i + 1) (by omega) (by omega) (by omega) W
      have H := HO.out.made 24 (.slice none 0 0) (i + 1) (i + 1) rfl (Nat.le_refl _) (by unfold maxLen; omega)
      rw [List.append_assoc, List.cons_append, List.nil_append] at H
      have hvi : vs[i]? = some (vs[i]'(by have := HV.out.1; omega)) := List.getElem?_eq_getElem _
      have co := cell_row H (i := O.length + 0) (by rw [get_r]; rfl) hvi (by omega)
      have fo := (H.own (O.length + 0) _ (by rw [get_r]; rfl)).frozenAt i
      go_wp2_with fail
      have H2 := H.put (O.length + 0) (by rw [get_r]; rfl) i (.slice (some ⟨wr.heap.size, 0, none⟩) (i + 1) (i + 1))
      rw [set_r, List.set_cons_zero] at H2
      obtain ⟨rb, hrb⟩ : ∃ r, wr.heap.size = r := ⟨_, rfl⟩
      rw [hrb] at H2
      try rw [hrb]
      have HI2 := Lib.hid H2
      have hm40 : m ≤ 40 := hm
      clear H H2 hmk hvi co fo HO
      go_loopw [25] (fun v wr => RPin w0 g M L O ob rb m i v wr) (fun v _ => i + 2 - (intOf v).toNat)
      case atStart =>
        refine ⟨0, _, _, Ls, Nat.zero_le _, rfl, ⟨?_, ?_, List.length_replicate .., fun q hq => absurd hq (by omega), ?_⟩, HI2⟩
        · rw [List.length_set]; exact HV.out.1
        · intro q hq
          obtain ⟨u, a, b⟩ := HV.out.2 q hq
          exact ⟨u, by rw [List.getElem?_set_ne (by omega)]; exact a, b⟩
        · exact List.getElem?_set_self (by have := HV.out.1; omega)
      case round =>
        clear HI2 HV
        obtain ⟨k, ys, xs, Lt, hk, rfl, HV, HO⟩ := hrel
        rcases Nat.eq_or_lt_of_le hk with he | hlt2
        · subst he
          have hd3 : decide (((i + 1 : Nat) : Int) < (i : Int) + 1) = false := decide_eq_false (by omega)
          have hd4 : decide (((i + 1 : Nat) : Int) < ((i + 1 : Nat) : Int)) = false := decide_eq_false (by omega)
          have hd5 : decide (i + 1 < i + 1) = false := decide_eq_false (by omega)
          go_wp2_with fail
          have hk2 := HO.out.keep (O.length + 1) (by rw [get_r]; rfl) (by omega)
          rw [set_r, List.set_cons_succ, List.set_cons_zero] at hk2
          have hk3 := hk2.few (O.length + 1)
          rw [List.take_append, List.take_of_length_le (by omega), Nat.add_sub_cancel_left, List.take_succ_cons, List.take_zero, List.append_assoc L] at hk3
          have HG := Lib.hid hk3
          have HW : Hid (ys.length = m + 1 ∧ TRows (L ++ (Lt ++ [(⟨some ⟨rb, 0, none⟩, i + 1, i + 1, xs⟩ : Ob)])) ys (i + 1)) := by
            refine ⟨HV.out.1, fun q hq => ?_⟩
            rw [← List.append_assoc]
            rcases Nat.lt_or_ge q i with h | h
            · obtain ⟨u, a, b⟩ := HV.out.2.1 q h
              exact ⟨u, a, b.more⟩
            · obtain rfl : q = i := by omega
              exact ⟨_, HV.out.2.2.2.2, ⟨rb, 0, none⟩, (L ++ Lt).length + 0, xs, rfl, by rw [get_r]; rfl, fun z hz => by
                obtain ⟨u, a, b⟩ := HV.out.2.2.2.1 z (by omega)
                exact ⟨u, a, b.more⟩⟩
          clear hk2 hk3 HO HV
          go_roundw
          case rel => exact ⟨i + 1, ys, _, by omega, int_eqv (by omega), HW, HG⟩
          case measure => simp [intOf]; omega
        · have hd3 : decide ((k : Int) < (i : Int) + 1) = true := decide_eq_true (by omega)
          have hd4 : decide (k < i + 1) = true := decide_eq_true hlt2
          have hk40 : k ≤ 40 := by omega
          have HD := Lib.hid HO.out.drew
          have HA1 := Lib.hid (t_of1 HD.out)
          have hyi : (ys)[i]? = some (.slice (some ⟨rb, 0, none⟩) (i + 1) (i + 1)) := HV.out.2.2.2.2
          have HYI := Lib.hid hyi
          obtain ⟨xv, hxv⟩ : ∃ v, xs[k]? = some v := ⟨xs[k]'(by have := HV.out.2.2.1; omega), List.getElem?_eq_getElem _⟩
          have HXV := Lib.hid hxv
          clear HO hyi hxv
          have hb1 : (0 : Int) ≤ (i : Int) := by omega
          have hb2 : (i : Int) ≤ (m : Int) := by omega
          have hb3 : (0 : Int) ≤ (k : Int) := by omega
          have hb4 : (k : Int) ≤ (i : Int) := by omega
          have hb5 : (i : Int) < (m : Int) + 1 := by omega
          have hb6 : (k : Int) < (i : Int) + 1 := by omega
          have hb7 : i < m + 1 := by omega
          have hb8 : k < i + 1 := by omega
          go_upto_region 9 with (fail)
          have c0 := cell_row HD.out (i := O.length + 0) (by rw [get_r]; rfl) HYI.out (by omega)
          go_region_held3 (fun W => W.cell? ⟨ob, i, none⟩ = some (.slice (some ⟨rb, 0, none⟩) (i + 1) (i + 1))) (first | exact c0 | exact cell_row how (i := O.length + 0) (by rw [get_r]; rfl) HYI.out (by omega) | exact cell_row how2 (i := O.length + 0) (by rw [get_r]; rfl) HYI.out (by omega)) ((go_at_call 42; (with_reducible refine HA1.out.mono ?_); rintro e v2 ⟨B1, m1, d1, rfl, how⟩; have z0 := cell_row how (i := O.length + 1) (by rw [get_r]; rfl) HXV.out (by omega); have zf := (how.own (O.length + 1) _ (by rw [get_r]; rfl)).frozenAt k; have how2 := how.put (O.length + 1) (by rw [get_r]; rfl) k (.slice B1 m1 d1); rw [set_r, List.set_cons_succ, List.set_cons_zero] at how2))
          have HN := Lib.hid how2
          clear how how2 z0 zf c0 HA1 HD HXV
          have HX1 : Hid (xs.length = i + 1 ∧ k < xs.length) := ⟨HV.out.2.2.1, by have := HV.out.2.2.1; omega⟩
          have hcs : (0 < k ∧ k < i) ∨ (k = 0 ∨ k = i) := by omega
          rcases hcs with ⟨hk0, hki⟩ | hkk
          · have q1 : decide ((0 : Int) < (k : Int)) = true := decide_eq_true (by omega)
            have q2 : decide (0 < k) = true := decide_eq_true hk0
            have q3 : decide ((k : Int) < (i : Int)) = true := decide_eq_true (by omega)
            have q4 : decide (k < i) = true := decide_eq_true hki
            obtain ⟨i1, hi1⟩ : ∃ z, i = z + 1 := ⟨i - 1, by omega⟩
            obtain ⟨k1, hk1⟩ : ∃ z, k = z + 1 := ⟨k - 1, by omega⟩
            obtain ⟨u, hu, ad, t, ws, rfl, ht, hnum⟩ := HV.out.2.1 i1 (by omega)
            obtain ⟨x1, hx1, X1, a1, b1, p1, rfl, hp1⟩ := hnum k1 (by omega)
            obtain ⟨x2, hx2, X2, a2, b2, p2, rfl, hp2⟩ := hnum k (by omega)
            have hsum : Na.bin i1 k1 + Na.bin i1 k = Na.bin i k := by rw [hi1, hk1, Na.bin_succ]
            have htop : ∀ a b, a ≤ 40 → Na.bin a b < Na.top := fun a b h => le_top (bin_two a b) (by omega)
            have HC := Lib.hid (t_sum HN.out.drew p1 p2 ((get_l _ _ (get_lt hp1)).trans hp1) ((get_l _ _ (get_lt hp2)).trans hp2) (htop _ _ (by omega)) (htop _ _ (by omega)) (by rw [hsum]; exact htop _ _ (by omega)))
            rw [hsum] at HC
            have HP := Lib.hid (And.intro HYI.out (And.intro hu (And.intro ht (And.intro hx1 hx2))))
            have HD2 := Lib.hid HN.out.drew
            have e1 : ((i : Int) - 1).toNat = i1 := by omega
            have e2 : ((k : Int) - 1).toNat = k1 := by omega
            have w1 : IntKind.i64.wrap ((i : Int) - 1) = (i : Int) - 1 := IntWalk.i64_in _ (by omega)
            have w2 : IntKind.i64.wrap ((k : Int) - 1) = (k : Int) - 1 := IntWalk.i64_in _ (by omega)
            have w3 : (0 : Int) ≤ (i : Int) - 1 := by omega
            have w4 : (i : Int) - 1 < (m : Int) + 1 := by omega
            have w5 : (0 : Int) ≤ (k : Int) - 1 := by omega
            have w6 : (k : Int) - 1 < (i1 : Int) + 1 := by omega
            have x1 : (1 : Int) ≤ (i : Int) := by omega
            have x2 : (i : Int) ≤ (m : Int) + 1 := by omega
            have x3 : (i : Int) < (m : Int) + 1 + 1 := by omega
            have x4 : (1 : Int) ≤ (k : Int) := by omega
            have x5 : (k : Int) ≤ (i1 : Int) + 1 := by omega
            have x6 : (k : Int) < (i1 : Int) + 1 + 1 := by omega
            have x7 : (0 : Int) < (i : Int) := by omega
            have x8 : 1 ≤ i := by omega
            have x9 : 1 ≤ k := by omega
            have hc1 : (0 : Int) ≤ (i1 : Int) := by omega
            have hc2 : (i1 : Int) < (m : Int) + 1 := by omega
            have hc3 : (0 : Int) ≤ (k1 : Int) := by omega
            have hc4 : (k1 : Int) < (i1 : Int) + 1 := by omega
            have hc5 : (k : Int) < (i1 : Int) + 1 := by omega
            have hc6 : i1 < m + 1 := by omega
            have hc7 : k1 < i1 + 1 := by omega
            have hc8 : k < i1 + 1 := by omega
            have HI1 := Lib.hid (And.intro hi1 hk1)
            clear hu ht hnum hx1 hx2 hp1 hp2 hsum htop hi1 hk1
            go_upto_region 11 with (fail)
            have c4 := pas_cells HD2.out HP.out.1 HP.out.2.1 ((get_l _ _ (get_lt HP.out.2.2.1)).trans HP.out.2.2.1) HP.out.2.2.2.1 HP.out.2.2.2.2 (by omega) (by omega)
            go_region_held3 (fun W => W.cell? ⟨ob, i, none⟩ = some (.slice (some ⟨rb, 0, none⟩) (i + 1) (i + 1)) ∧ W.cell? ⟨ob, i1, none⟩ = some (.slice (some ad) (i1 + 1) (i1 + 1)) ∧ W.cell? (ad.add k1) = some (.slice X1 a1 b1) ∧ W.cell? (ad.add k) = some (.slice X2 a2 b2)) (first | exact c4 | exact pas_cells how HP.out.1 HP.out.2.1 ((get_l _ _ (by have := get_lt HP.out.2.2.1; rw [List.length_append]; omega)).trans ((get_l _ _ (get_lt HP.out.2.2.1)).trans HP.out.2.2.1)) HP.out.2.2.2.1 HP.out.2.2.2.2 (by omega) (by omega) | exact pas_cells how2 HP.out.1 HP.out.2.1 (by rw [← List.append_assoc]; exact (get_l _ _ (get_lt HP.out.2.2.1)).trans HP.out.2.2.1) HP.out.2.2.2.1 HP.out.2.2.2.2 (by omega) (by omega)) ((go_at_call 59; (with_reducible refine HC.out.mono ?_); rintro e v3 ⟨B2, m2, d2, rfl, how⟩; have hz := cell_row how (i := O.length + 1) (by rw [get_r]; rfl) (List.getElem?_set_self HX1.out.2) (by omega); have zf := (how.own (O.length + 1) _ (by rw [get_r]; rfl)).frozenAt k; have how2 := how.put (O.length + 1) (by rw [get_r]; rfl) k (.slice B2 m2 d2); rw [set_r, List.set_cons_succ, List.set_cons_zero, List.set_set, List.append_assoc, List.append_assoc] at how2))
            have HG := Lib.hid how2
            have HW : Hid (ys.length = m + 1 ∧ TRows (L ++ (Lt ++ ([(⟨B1, m1, d1, nats (Na.dig 1)⟩ : Ob)] ++ [(⟨B2, m2, d2, nats (Na.dig (Na.bin i k))⟩ : Ob)]))) ys i ∧ (xs.set k (.slice B2 m2 d2)).length = i + 1 ∧ TFst (L ++ (Lt ++ ([(⟨B1, m1, d1, nats (Na.dig 1)⟩ : Ob)] ++ [(⟨B2, m2, d2, nats (Na.dig (Na.bin i k))⟩ : Ob)]))) (xs.set k (.slice B2 m2 d2)) i (k + 1) ∧ ys[i]? = some (.slice (some ⟨rb, 0, none⟩) (i + 1) (i + 1))) := by
              refine ⟨HV.out.1, by rw [← List.append_assoc]; exact TRows.more HV.out.2.1, by rw [List.length_set]; exact HX1.out.1, ?_, HYI.out⟩
              rw [← List.append_assoc]
              exact TFst.set HV.out.2.2.2.1 HX1.out.2 ⟨B2, m2, d2, (L ++ Lt).length + 1, rfl, by rw [get_r]; rfl⟩
            clear how how2 hz zf c4 HC HD2 HN HP HV HYI e1 e2 w1 w2 w3 w4 w5 w6 x1 x2 x3 x4 x5 x6 x7 x8 x9
            go_wp2_with fail
            go_roundw
            case rel => exact ⟨k + 1, ys, _, _, by omega, int_eqv (by omega), HW, HG⟩
            case measure => simp [intOf]; omega
          · have hb1k : Na.bin i k = 1 := by
              rcases hkk with rfl | rfl
              · exact Na.bin_zero _
              · exact Na.bin_self _
            have HW : Hid (ys.length = m + 1 ∧ TRows (L ++ (Lt ++ [(⟨B1, m1, d1, nats (Na.dig 1)⟩ : Ob)])) ys i ∧ (xs.set k (.slice B1 m1 d1)).length = i + 1 ∧ TFst (L ++ (Lt ++ [(⟨B1, m1, d1, nats (Na.dig 1)⟩ : Ob)])) (xs.set k (.slice B1 m1 d1)) i (k + 1) ∧ ys[i]? = some (.slice (some ⟨rb, 0, none⟩) (i + 1) (i + 1))) := by
              refine ⟨HV.out.1, by rw [← List.append_assoc]; exact TRows.more HV.out.2.1, by rw [List.length_set]; exact HX1.out.1, ?_, HYI.out⟩
              rw [← List.append_assoc]
              exact TFst.set HV.out.2.2.2.1 HX1.out.2 (by rw [hb1k]; exact ⟨B1, m1, d1, (L ++ Lt).length + 0, rfl, by rw [get_r]; rfl⟩)
            have HG2 := HN.out
            rw [List.append_assoc L] at HG2
            have HG := Lib.hid HG2
            have hq : (decide ((0 : Int) < (k : Int)) = false ∧ decide (0 < k) = false) ∨ (decide ((0 : Int) < (k : Int)) = true ∧ decide (0 < k) = true ∧ decide ((k : Int) < (i : Int)) = false ∧ decide (k < i) = false) := by
              rcases Nat.eq_zero_or_pos k with h | h
              · exact .inl ⟨decide_eq_false (by omega), decide_eq_false (by omega)⟩
              · exact .inr ⟨decide_eq_true (by omega), decide_eq_true h, decide_eq_false (by omega), decide_eq_false (by omega)⟩
            clear HG2 HN HV HYI hkk hb1k
            rcases hq with ⟨q1, q2⟩ | ⟨q1, q2, q3, q4⟩
            · go_wp2_with fail
              go_roundw
              case rel => exact ⟨k + 1, ys, _, _, by omega, int_eqv (by omega), HW, HG⟩
              case measure => simp [intOf]; omega
            · go_wp2_with fail
              go_roundw
              case rel => exact ⟨k + 1, ys, _, _, by omega, int_eqv (by omega), HW, HG⟩
              case measure => simp [intOf]; omega
end
end Go.Proofs.YtjhaogbopmhkoaaDoor
