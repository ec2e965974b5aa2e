/- Dice.Nat: a valid number of at most so many limbs. -/
import Derived.Test.YtnfjnlnphdmdmaaGreatDoorNatV
namespace Go.Proofs.YtnfjnlnphdmdmaaGreatDoor
open Go.RowKit
set_option linter.unusedVariables false
set_option maxRecDepth 100000
theorem keepLc {W W' : World} {b o g : Nat} {u : Value} (h0 : W.cell? ⟨b, o, none⟩ = some u) (hne : b ≠ g) (hg : W.grownBy W' (some g)) : W'.cell? ⟨b, o, none⟩ = some u := by
  have h2 := hg.block b (cell_lt h0) (fun e => hne (Option.some.inj e))
  exact (World.cell?_of_block (a := ⟨b, o, none⟩) h2).trans h0
structure NK (w : World) (g B rb vb base : Nat) (v : Value) (W : World) : Prop where
  dice : Dice W g B
  cr : W.cell? ⟨rb, 0, none⟩ = some (.slice none 0 0)
  fr : W.frozen? ⟨rb, 0, none⟩ = false
  cv : W.cell? ⟨vb, 0, none⟩ = some v
  fv : W.frozen? ⟨vb, 0, none⟩ = false
  gr : w.grownBy W (some g)
  sz : base ≤ W.heap.size
  gw : g < w.heap.size
  hr : rb = w.heap.size
  hv : vb = w.heap.size + 1
  hb : base = w.heap.size + 2
def OwnV (W : World) (base : Nat) (v : Value) (o : List Nat) : Prop := ∃ (A : Option Addr) (c : Nat), v = .slice A o.length c ∧ W.ownsRow base 3 1 (.slice A o.length c) o.length (nats o)
def L24 (u : Value) : Prop := ∃ x : Nat, u = .int .i64 (x : Int) ∧ x < 16777216
def Cel (W : World) (g b k x : Nat) : Prop := b ≠ g ∧ W.cell? ⟨b, k, none⟩ = some (.int .i64 (x : Int)) ∧ x < 16777216
section
variable {w W W' : World} {g B rb vb base : Nat} {v : Value} {o : List Nat}
theorem Cel.grown {b k x : Nat} (h : Cel W g b k x) (hg : W.grownBy W' (some g)) : Cel W' g b k x := ⟨h.1, keepLc h.2.1 h.1 hg, h.2.2⟩
theorem Cel.alloc {b k x : Nat} (h : Cel W g b k x) (ob : Obj) : Cel (W.alloc ob) g b k x := h.grown (World.grownBy_alloc W ob _)
theorem NK.call (h : NK w g B rb vb base v W) (hd : Dice W' g B) (hg : W.grownBy W' (some g)) : NK w g B rb vb base v W' := by
  have h1 := h.sz; have h2 := h.gw; have h3 := h.hr; have h4 := h.hv; have h5 := h.hb
  have k1 := hg.block rb (by omega) (fun e => by cases e; omega)
  have k2 := hg.block vb (by omega) (fun e => by cases e; omega)
  exact ⟨hd, (World.cell?_of_block (a := ⟨rb, 0, none⟩) k1).trans h.cr, (World.frozen?_of_block (a := ⟨rb, 0, none⟩) k1).trans h.fr, (World.cell?_of_block (a := ⟨vb, 0, none⟩) k2).trans h.cv, (World.frozen?_of_block (a := ⟨vb, 0, none⟩) k2).trans h.fv, grown_trans h.gr hg, Nat.le_trans h1 hg.size, h2, h3, h4, h5⟩
theorem NK.high (h : NK w g B rb vb base v W) {row : Option Nat} (hg : W.grownBy W' row) (hrow : ∀ r, row = some r → base ≤ r) : NK w g B rb vb base v W' := by
  have h1 := h.sz; have h2 := h.gw; have h3 := h.hr; have h4 := h.hv; have h5 := h.hb
  have k1 := hg.block rb (by omega) (fun e => by have := hrow _ e.symm; omega)
  have k2 := hg.block vb (by omega) (fun e => by have := hrow _ e.symm; omega)
  exact ⟨h.dice.grown hg (fun r e => by have := hrow r e; omega), (World.cell?_of_block (a := ⟨rb, 0, none⟩) k1).trans h.cr, (World.frozen?_of_block (a := ⟨rb, 0, none⟩) k1).trans h.fr, (World.cell?_of_block (a := ⟨vb, 0, none⟩) k2).trans h.cv, (World.frozen?_of_block (a := ⟨vb, 0, none⟩) k2).trans h.fv, grown_far h.gr hg (fun r e => by have := hrow r e; omega), Nat.le_trans h1 hg.size, h2, h3, h4, h5⟩
theorem NK.alloc (h : NK w g B rb vb base v W) (ob : Obj) : NK w g B rb vb base v (W.alloc ob) := h.high (row := none) (World.grownBy_alloc W ob none) (fun _ e => by cases e)
theorem NK.drew (h : NK w g B rb vb base v W) : NK w g B rb vb base v W.drew := ⟨h.dice, h.cr, h.fr, h.cv, h.fv, grown_drew h.gr, h.sz, h.gw, h.hr, h.hv, h.hb⟩
theorem NK.put (h : NK w g B rb vb base v W) (u : Value) : NK w g B rb vb base u (W.setCell ⟨vb, 0, none⟩ u) := by
  have h1 := h.sz; have h2 := h.gw; have h3 := h.hr; have h4 := h.hv; have h5 := h.hb
  have hg := grown_set W ⟨vb, 0, none⟩ u
  have k1 := hg.block rb (by omega) (fun e => by have := Option.some.inj e; simp only at this; omega)
  exact ⟨h.dice.grown hg (fun r e => by cases e; simp only; omega), (World.cell?_of_block (a := ⟨rb, 0, none⟩) k1).trans h.cr, (World.frozen?_of_block (a := ⟨rb, 0, none⟩) k1).trans h.fr, cell_of_set _ h.cv, by rw [World.frozen?_setCell]; exact h.fv, grown_far h.gr hg (fun r e => by cases e; simp only; omega), Nat.le_trans h1 hg.size, h2, h3, h4, h5⟩
theorem OwnV.call (h : OwnV W base v o) (hg : W.grownBy W' (some g)) (hb : g < base) : OwnV W' base v o := by
  obtain ⟨A, c, rfl, ho⟩ := h
  exact ⟨A, c, rfl, own_grown ho hg hb⟩
theorem OwnV.alloc (h : OwnV W base v o) (ob : Obj) : OwnV (W.alloc ob) base v o := by
  obtain ⟨A, c, rfl, ho⟩ := h
  exact ⟨A, c, rfl, own_alloc ho ob⟩
theorem OwnV.drew (h : OwnV W base v o) : OwnV W.drew base v o := h
theorem OwnV.put (h : OwnV W base v o) (a : Addr) (u : Value) (ha : a.block < base) : OwnV (W.setCell a u) base v o := by
  obtain ⟨A, c, rfl, ho⟩ := h
  exact ⟨A, c, rfl, own_setLow ho a u ha⟩
end
def NatM (w : World) (g B rb vb base : Nat) (v : Value) (o : List Nat) (L : Nat → Bool) (u16 u17 u18 u19 u20 u21 u22 u23 u24 u25 u26 u27 u28 u29 : Value) (W : World) : Prop :=
  (L 13 = true → u29 = .pointer (some ⟨vb, 0, none⟩)) ∧
  ((L 12 = false ∧ L 14 = false ∧ NK w g B rb vb base v W ∧ OwnV W base v o ∧ (L 0 = true → u16 = .pointer (some ⟨vb, 0, none⟩)) ∧ (L 1 = true → u17 = v) ∧ (L 2 = true → u18 = .pointer (some ⟨g, 0, none⟩)) ∧ (L 3 = true → L24 u19) ∧ (L 4 = true → u20 = .pointer (some ⟨g, 0, none⟩)) ∧ (L 5 = true → L24 u21) ∧
      (L 6 = true → ∃ b y0 y1 y2 y3, u22 = .slice (some ⟨b, 0, none⟩) 4 4 ∧ Cel W g b 0 y0 ∧ Cel W g b 1 y1 ∧ Cel W g b 2 y2 ∧ Cel W g b 3 y3) ∧ (L 7 = true → u23 = .pointer (some ⟨g, 0, none⟩)) ∧ (L 8 = true → ∃ r : Nat, u24 = .int .i64 (r : Int) ∧ r < 4) ∧
      (L 9 = true → ∃ b r x, u25 = .pointer (some ⟨b, r, none⟩) ∧ Cel W g b r x) ∧ (L 10 = true → L24 u26) ∧ (L 11 = true → ∃ b x, u27 = .slice (some ⟨b, 0, none⟩) 1 1 ∧ Cel W g b 0 x))
   ∨ (L 12 = true ∧ ∃ x, x < 16777216 ∧ OwnV W base u28 (o ++ [x]) ∧ ((L 14 = false ∧ NK w g B rb vb base v W) ∨ (L 14 = true ∧ NK w g B rb vb base u28 W))))
def NatR (w : World) (g B rb vb base : Nat) (v : Value) (o : List Nat) (A0 : Act) (L : Nat → Bool) (a : Act) (W : World) : Prop :=
  ∃ (u16 u17 u18 u19 u20 u21 u22 u23 u24 u25 u26 u27 u28 u29 : Value), a = ((((((((((((((A0.put (some 16) u16).put (some 17) u17).put (some 18) u18).put (some 19) u19).put (some 20) u20).put (some 21) u21).put (some 22) u22).put (some 23) u23).put (some 24) u24).put (some 25) u25).put (some 26) u26).put (some 27) u27).put (some 28) u28).put (some 29) u29) ∧ NatM w g B rb vb base v o L u16 u17 u18 u19 u20 u21 u22 u23 u24 u25 u26 u27 u28 u29 W

set_option maxHeartbeats 4000000 in
theorem dnat_any (g B most : Nat) (w : World) (hm : most ≤ 400) (hd : Dice w g B) :
    Calls Tryz.prog 11 #[.pointer (some ⟨g, 0, none⟩), .int .i64 (most : Int)] w fun e w' => ∃ (A : Option Addr) (n c x : Nat), e = .returned (.agg #[.slice A n c]) ∧ (Na.dig x).length = n ∧ n ≤ most ∧ w'.ownsRow w.heap.size 3 1 (.slice A n c) n (nats (Na.dig x)) ∧ Dice w' g B ∧ w.grownBy w' (some g) := by
  obtain ⟨i0, hi, hz0, hz1, hz2⟩ := info_parts infoI
  have hgw := hd.lt
  have HNx : Hid (∀ (m : Int) (W : World), 1 ≤ m → m ≤ 9223372036854775807 → Dice W g B → Calls Tryz.prog 10 #[.pointer (some ⟨g, 0, none⟩), .int .i64 m] W (Gave W g B m)) := fun m W h1 h2 h3 => next_any g B m W h1 h2 h3
  obtain ⟨w0, hw0⟩ : ∃ w0, (w.alloc (.cells #[.slice none 0 0] 24)).alloc (.cells #[.slice none 0 0] 24) = w0 := ⟨_, rfl⟩
  obtain ⟨rb, hrb⟩ : ∃ rb, rb = w.heap.size := ⟨_, rfl⟩
  obtain ⟨vb, hvb⟩ : ∃ vb, vb = w.heap.size + 1 := ⟨_, rfl⟩
  obtain ⟨base, hbase⟩ : ∃ base, base = w.heap.size + 2 := ⟨_, rfl⟩
  have HK0 : Hid (NK w g B rb vb base (.slice none 0 0) w0) := by
    subst hrb hvb hbase hw0
    refine ⟨(hd.grown (row := none) (World.grownBy_alloc w _ none) (fun _ e => by cases e)).grown (row := none) (World.grownBy_alloc _ _ none) (fun _ e => by cases e), by simp [go_sem], by simp [go_sem], by simp [go_sem], by simp [go_sem], grown_alloc (grown_alloc (World.grownBy.refl w _) _) _, by simp, hgw, rfl, rfl, rfl⟩
  have HV0 : Hid (OwnV w0 base (.slice none 0 0) []) := ⟨none, 0, rfl, World.ownsRow_nil _ _ _ _⟩
  have HW : Hid ((w.alloc (.cells #[.slice none 0 0] 24)).alloc (.cells #[.slice none 0 0] 24) = w0) := hw0
  have HRb : Hid (rb = w.heap.size ∧ vb = w.heap.size + 1 ∧ base = w.heap.size + 2 ∧ g < w.heap.size) := ⟨hrb, hvb, hbase, hgw⟩
  have hs1 : IntKind.i64.wrap ((most : Int) + 1) = (most : Int) + 1 := IntWalk.i64_in _ (by omega)
  clear hd hw0 hbase hrb hvb
  go_enter Tryz.func11, Tryz.ntmps11
  go_wp2_with fail
  rw [HW.out, ← HRb.out.2.1, ← HRb.out.1]
  refine (HNx.out _ _ (by omega) (by omega) HK0.out.dice).mono ?_
  rintro e w1 ⟨r, rfl, hr0, hr1, hd1, hg1⟩
  obtain ⟨k, rfl⟩ := Int.eq_ofNat_of_zero_le hr0
  have HK1 := Lib.hid (HK0.out.call hd1 hg1)
  have HV1 := Lib.hid (HV0.out.call hg1 (by have := HRb.out; omega))
  clear hd1 hg1 HK0 HV0 HW hs1
  go_wp2_with fail
  go_loopw [6] (fun v wr => ∃ (k : Nat) (o : List Nat) (u : Value), v = .int .i64 (k : Int) ∧ k + o.length ≤ most ∧ Hid (Na.Lim o) ∧ NK w g B rb vb base u wr ∧ OwnV wr base u o) (fun v _ => (intOf v).toNat)
  case atStart => exact ⟨k, [], _, rfl, by simp; omega, Na.Lim.nil, HK1.out, HV1.out⟩
  case round =>
    clear HK1 HV1
    obtain ⟨k, o, u, rfl, hko, HLim, hK, hV⟩ := hrel
    have HK := Lib.hid hK
    have HV := Lib.hid hV
    rcases Nat.eq_zero_or_pos k with rfl | hk0
    · obtain ⟨A, c, rfl, ho⟩ := hV
      have hcv := hK.cv
      have HO := Lib.hid ho
      have hol : o.length ≤ most := by omega
      clear hK ho HV hko
      obtain ⟨ol, hl⟩ : ∃ ol, o.length = ol := ⟨_, rfl⟩
      rw [hl] at HK HO hcv hol
      have HL := Lib.hid hl
      clear hl
      go_wp2_with fail
      go_loopw [7] (fun v wr => ∃ j : Nat, j ≤ ol ∧ v = .int .i64 (j : Int) ∧ Hid (Na.tl o j = Na.tl o ol) ∧ NK w g B rb vb base (.slice A j c) wr ∧ wr.ownsRow base 3 1 (.slice A j c) j (nats (o.take j))) (fun v _ => (intOf v).toNat)
      case atStart => exact ⟨ol, Nat.le_refl _, rfl, rfl, HK.out, by rw [List.take_of_length_le (by have := HL.out; omega)]; exact HO.out⟩
      case round =>
        clear HK HO hcv
        obtain ⟨j, hj, rfl, HT, hK, ho⟩ := hrel
        have hcv := hK.cv
        have HK := Lib.hid hK
        have HO := Lib.hid ho
        have hjc := (own_cap ho).1
        by_cases hgo : ∃ (h : 0 < j), o[j - 1]? = some 0
        · obtain ⟨h0, hb⟩ := hgo
          have hd : decide (0 < (j : Int)) = true := decide_eq_true (by omega)
          obtain ⟨y, rfl, hy1, hy2⟩ := own_form ho h0
          have hcb := own_nat ho (k := j - 1) (b := 0) (by rw [List.getElem?_take, if_pos (by omega)]; exact hb)
          have hfv := hK.fv
          have ht : Hid (Na.tl o (j - 1) = Na.tl o ol) := by
            unfold Hid
            rw [← HT.out, ← Na.tl_zero o (j - 1) hb, show j - 1 + 1 = j from by omega]
          clear hb ho hK
          go_wp2_with fail
          go_roundw
          case rel =>
            refine ⟨j - 1, by omega, int_eqv (by omega), ht, HK.out.put _, ?_⟩
            have o1 := own_take HO.out (k := j - 1) (by omega)
            rw [nats_take, List.take_take, Nat.min_eq_left (by omega)] at o1
            exact own_setLow o1 _ _ (by have := HK.out.hv; have := HK.out.hb; simp only; omega)
          case measure => simp [intOf]; omega
        · have HJ : Hid (Na.tl o ol = j) := by
            unfold Hid
            rw [← HT.out]
            rcases Nat.eq_zero_or_pos j with h0 | h0
            · rw [h0]; rfl
            · have h5 := Na.tl_stop o (j - 1) (fun e => hgo ⟨h0, e⟩)
              rwa [show j - 1 + 1 = j by omega] at h5
          have HD : Hid (o.take j = Na.dig (Na.val o)) := by
            unfold Hid
            rw [← HJ.out, ← HL.out]
            exact Na.trim_dig HLim.out
          have hcr := hK.cr
          have hfr := hK.fr
          have HE : Hid (∃ (A' : Option Addr) (n c' x : Nat), Ending.returned (.agg #[.slice A j c]) = .returned (.agg #[.slice A' n c']) ∧ (Na.dig x).length = n ∧ n ≤ most ∧ (wr.setCell ⟨rb, 0, none⟩ (.slice A j c)).ownsRow w.heap.size 3 1 (.slice A' n c') n (nats (Na.dig x)) ∧ Dice (wr.setCell ⟨rb, 0, none⟩ (.slice A j c)) g B ∧ w.grownBy (wr.setCell ⟨rb, 0, none⟩ (.slice A j c)) (some g)) := by
            have g1 := grown_set wr ⟨rb, 0, none⟩ (.slice A j c)
            have e1 := hK.hr
            have e2 := hK.hb
            have e3 := hK.gw
            refine ⟨A, j, c, Na.val o, rfl, by rw [← HD.out, List.length_take]; have := HL.out; omega, by omega, ?_, hK.dice.grown g1 (fun r e => by cases e; simp only; omega), grown_far hK.gr g1 (fun r e => by cases e; simp only; omega)⟩
            rw [← HD.out]
            exact own_more (own_setLow ho _ _ (by simp only; omega)) (by omega)
          rcases Nat.eq_zero_or_pos j with h0 | h0
          · subst h0
            clear hK ho hgo
            go_wp2_with fail
            refine bodyPost_ret (v := .agg #[.slice A 0 c]) (by simp [results, Tryz.results11, go_sem, hcr]) rfl ?_
            exact HE.out
          · have hd : decide (0 < (j : Int)) = true := decide_eq_true (by omega)
            obtain ⟨y, rfl, hy1, hy2⟩ := own_form ho h0
            obtain ⟨b, hb⟩ := nat_at o (j - 1) (by have := HL.out; omega)
            have hcb := own_nat ho (k := j - 1) (b := b) (by rw [List.getElem?_take, if_pos (by omega)]; exact hb)
            have hne : ((b : Int) == 0) = false := by rw [beq_eq_false_iff_ne]; intro e; exact hgo ⟨h0, by rw [hb]; congr 1; omega⟩
            clear hK ho hgo hb
            go_wp2_with fail
            refine bodyPost_ret (v := .agg #[.slice (some ⟨y, 0, none⟩) j c]) (by simp [results, Tryz.results11, go_sem, hcr]) rfl ?_
            exact HE.out
    · have hdk : decide (0 < (k : Int)) = true := decide_eq_true (by omega)
      clear hK hV
      go_wp2_with fail
      refine reg_inv3 (NatR w g B rb vb base u o) (by kernel_rfl) (by kernel_rfl) ?_ ?_ ?_
      · refine ⟨u16, u17, u18, u19, u20, u21, u22, u23, u24, u25, u26, u27, u28, u29, ?_, (fun h => by cases h), .inl ⟨rfl, rfl, HK.out.drew, HV.out.drew, ?_, ?_, ?_, ?_, ?_, ?_, ?_, ?_, ?_, ?_, ?_, ?_⟩⟩
        · simp only [Act.put, List.setIfInBounds_toArray, List.set_cons_zero, List.set_cons_succ]
        all_goals (intro h; cases h)
      · rintro j L b W hj hf hcl hd ⟨u16, u17, u18, u19, u20, u21, u22, u23, u24, u25, u26, u27, u28, u29, rfl, h13, hM⟩
        have hj' : j < 15 := hj
        have hcase : j = 0 ∨ j = 1 ∨ j = 2 ∨ j = 3 ∨ j = 4 ∨ j = 5 ∨ j = 6 ∨ j = 7 ∨ j = 8 ∨ j = 9 ∨ j = 10 ∨ j = 11 ∨ j = 12 ∨ j = 13 ∨ j = 14 := by omega
        have HAll : Hid (L 12 = true → ∀ i, i < 12 → L i = true) := fun l12 => by
          have l11 := hcl 12 11 l12 (by kernel_rfl)
          have l1 := hcl 12 1 l12 (by kernel_rfl)
          have l0 := hcl 1 0 l1 (by kernel_rfl)
          have l10 := hcl 11 10 l11 (by kernel_rfl)
          have l9 := hcl 10 9 l10 (by kernel_rfl)
          have l8 := hcl 9 8 l9 (by kernel_rfl)
          have l6 := hcl 9 6 l9 (by kernel_rfl)
          have l7 := hcl 8 7 l8 (by kernel_rfl)
          have l5 := hcl 6 5 l6 (by kernel_rfl)
          have l3 := hcl 6 3 l6 (by kernel_rfl)
          have l4 := hcl 5 4 l5 (by kernel_rfl)
          have l2 := hcl 3 2 l3 (by kernel_rfl)
          intro i hi
          have hc : i = 0 ∨ i = 1 ∨ i = 2 ∨ i = 3 ∨ i = 4 ∨ i = 5 ∨ i = 6 ∨ i = 7 ∨ i = 8 ∨ i = 9 ∨ i = 10 ∨ i = 11 := by omega
          rcases hc with rfl | rfl | rfl | rfl | rfl | rfl | rfl | rfl | rfl | rfl | rfl | rfl <;> assumption
        clear hj hj' HK HV hcl
        simp only [Act.put, List.setIfInBounds_toArray, List.set_cons_zero, List.set_cons_succ]
        rcases hcase with rfl | rfl | rfl | rfl | rfl | rfl | rfl | rfl | rfl | rfl | rfl | rfl | rfl | rfl | rfl
        · rcases hM with ⟨l12, l14, hK, hV, h0, h1, h2, h3, h4, h5, h6, h7, h8, h9, h10, h11⟩ | ⟨l12, hM2⟩
          case inr => exact absurd hf (by rw [HAll.out l12 _ (by omega)]; simp)
          clear hd HAll
          refine wpOp_step rfl (fun K hK' => ?_)
          go_simp
          refine hK' _ _ ⟨_, u17, u18, u19, u20, u21, u22, u23, u24, u25, u26, u27, u28, u29, ?_, h13, .inl ⟨l12, l14, hK, hV, fun _ => rfl, h1, h2, h3, h4, h5, h6, h7, h8, h9, h10, h11⟩⟩
          simp only [Act.put, List.setIfInBounds_toArray, List.set_cons_zero, List.set_cons_succ]
        · rcases hM with ⟨l12, l14, hK, hV, h0, h1, h2, h3, h4, h5, h6, h7, h8, h9, h10, h11⟩ | ⟨l12, hM2⟩
          case inr => exact absurd hf (by rw [HAll.out l12 _ (by omega)]; simp)
          obtain rfl := h0 (hd 0 (by kernel_rfl))
          have hcv := hK.cv
          clear hd HAll
          refine wpOp_step rfl (fun K hK' => ?_)
          go_simp
          refine hK' _ _ ⟨_, _, u18, u19, u20, u21, u22, u23, u24, u25, u26, u27, u28, u29, ?_, h13, .inl ⟨l12, l14, hK, hV, h0, fun _ => rfl, h2, h3, h4, h5, h6, h7, h8, h9, h10, h11⟩⟩
          simp only [Act.put, List.setIfInBounds_toArray, List.set_cons_zero, List.set_cons_succ]
        · rcases hM with ⟨l12, l14, hK, hV, h0, h1, h2, h3, h4, h5, h6, h7, h8, h9, h10, h11⟩ | ⟨l12, hM2⟩
          case inr => exact absurd hf (by rw [HAll.out l12 _ (by omega)]; simp)
          clear hd HAll
          refine wpOp_step rfl (fun K hK' => ?_)
          go_simp
          refine hK' _ _ ⟨u16, u17, _, u19, u20, u21, u22, u23, u24, u25, u26, u27, u28, u29, ?_, h13, .inl ⟨l12, l14, hK, hV, h0, h1, fun _ => rfl, h3, h4, h5, h6, h7, h8, h9, h10, h11⟩⟩
          simp only [Act.put, List.setIfInBounds_toArray, List.set_cons_zero, List.set_cons_succ]
        · rcases hM with ⟨l12, l14, hK, hV, h0, h1, h2, h3, h4, h5, h6, h7, h8, h9, h10, h11⟩ | ⟨l12, hM2⟩
          case inr => exact absurd hf (by rw [HAll.out l12 _ (by omega)]; simp)
          obtain rfl := h2 (hd 2 (by kernel_rfl))
          clear hd HAll
          refine wpOp_step rfl (fun K hK' => ?_)
          go_simp
          refine (HNx.out _ _ (by omega) (by omega) hK.dice).mono ?_
          rintro e W' ⟨r, rfl, hr0, hr1, hd1, hg1⟩
          obtain ⟨x, rfl⟩ := Int.eq_ofNat_of_zero_le hr0
          have hgb : g < base := by have := HRb.out; omega
          refine hK' _ _ ⟨u16, u17, _, _, u20, u21, u22, u23, u24, u25, u26, u27, u28, u29, ?_, h13, .inl ⟨l12, l14, hK.call hd1 hg1, hV.call hg1 hgb, h0, h1, h2, fun _ => ⟨x, rfl, by omega⟩, h4, h5, fun h => by obtain ⟨b, y0, y1, y2, y3, e, q0, q1, q2, q3⟩ := h6 h; exact ⟨b, y0, y1, y2, y3, e, q0.grown hg1, q1.grown hg1, q2.grown hg1, q3.grown hg1⟩, h7, h8, fun h => by obtain ⟨b, r, x, e, q⟩ := h9 h; exact ⟨b, r, x, e, q.grown hg1⟩, h10, fun h => by obtain ⟨b, x, e, q⟩ := h11 h; exact ⟨b, x, e, q.grown hg1⟩⟩⟩
          simp only [Act.put, List.setIfInBounds_toArray, List.set_cons_zero, List.set_cons_succ]
        · rcases hM with ⟨l12, l14, hK, hV, h0, h1, h2, h3, h4, h5, h6, h7, h8, h9, h10, h11⟩ | ⟨l12, hM2⟩
          case inr => exact absurd hf (by rw [HAll.out l12 _ (by omega)]; simp)
          clear hd HAll
          refine wpOp_step rfl (fun K hK' => ?_)
          go_simp
          refine hK' _ _ ⟨u16, u17, u18, u19, _, u21, u22, u23, u24, u25, u26, u27, u28, u29, ?_, h13, .inl ⟨l12, l14, hK, hV, h0, h1, h2, h3, fun _ => rfl, h5, h6, h7, h8, h9, h10, h11⟩⟩
          simp only [Act.put, List.setIfInBounds_toArray, List.set_cons_zero, List.set_cons_succ]
        · rcases hM with ⟨l12, l14, hK, hV, h0, h1, h2, h3, h4, h5, h6, h7, h8, h9, h10, h11⟩ | ⟨l12, hM2⟩
          case inr => exact absurd hf (by rw [HAll.out l12 _ (by omega)]; simp)
          obtain rfl := h4 (hd 4 (by kernel_rfl))
          clear hd HAll
          refine wpOp_step rfl (fun K hK' => ?_)
          go_simp
          refine (HNx.out _ _ (by omega) (by omega) hK.dice).mono ?_
          rintro e W' ⟨r, rfl, hr0, hr1, hd1, hg1⟩
          obtain ⟨x, rfl⟩ := Int.eq_ofNat_of_zero_le hr0
          have hgb : g < base := by have := HRb.out; omega
          refine hK' _ _ ⟨u16, u17, u18, u19, _, _, u22, u23, u24, u25, u26, u27, u28, u29, ?_, h13, .inl ⟨l12, l14, hK.call hd1 hg1, hV.call hg1 hgb, h0, h1, h2, h3, h4, fun _ => ⟨x, rfl, by omega⟩, fun h => by obtain ⟨b, y0, y1, y2, y3, e, q0, q1, q2, q3⟩ := h6 h; exact ⟨b, y0, y1, y2, y3, e, q0.grown hg1, q1.grown hg1, q2.grown hg1, q3.grown hg1⟩, h7, h8, fun h => by obtain ⟨b, r, x, e, q⟩ := h9 h; exact ⟨b, r, x, e, q.grown hg1⟩, h10, fun h => by obtain ⟨b, x, e, q⟩ := h11 h; exact ⟨b, x, e, q.grown hg1⟩⟩⟩
          simp only [Act.put, List.setIfInBounds_toArray, List.set_cons_zero, List.set_cons_succ]
        · rcases hM with ⟨l12, l14, hK, hV, h0, h1, h2, h3, h4, h5, h6, h7, h8, h9, h10, h11⟩ | ⟨l12, hM2⟩
          case inr => exact absurd hf (by rw [HAll.out l12 _ (by omega)]; simp)
          obtain ⟨x, rfl, hx⟩ := h3 (hd 3 (by kernel_rfl))
          obtain ⟨y, rfl, hy⟩ := h5 (hd 5 (by kernel_rfl))
          have hne : W.heap.size ≠ g := by have := hK.dice.lt; omega
          clear hd HAll
          refine wpOp_step rfl (fun K hK' => ?_)
          go_simp
          refine hK' _ _ ⟨u16, u17, u18, _, u20, _, _, u23, u24, u25, u26, u27, u28, u29, ?_, h13, .inl ⟨l12, l14, hK.alloc _, hV.alloc _, h0, h1, h2, h3, h4, h5, fun _ => ⟨W.heap.size, x, 0, 16777215, y, rfl, ⟨hne, by simp [go_sem], hx⟩, ⟨hne, by simp [go_sem], by omega⟩, ⟨hne, by simp [go_sem], by omega⟩, ⟨hne, by simp [go_sem], hy⟩⟩, h7, h8, fun h => by obtain ⟨b, r, x, e, q⟩ := h9 h; exact ⟨b, r, x, e, q.alloc _⟩, h10, fun h => by obtain ⟨b, x, e, q⟩ := h11 h; exact ⟨b, x, e, q.alloc _⟩⟩⟩
          simp only [Act.put, List.setIfInBounds_toArray, List.set_cons_zero, List.set_cons_succ]
        · rcases hM with ⟨l12, l14, hK, hV, h0, h1, h2, h3, h4, h5, h6, h7, h8, h9, h10, h11⟩ | ⟨l12, hM2⟩
          case inr => exact absurd hf (by rw [HAll.out l12 _ (by omega)]; simp)
          clear hd HAll
          refine wpOp_step rfl (fun K hK' => ?_)
          go_simp
          refine hK' _ _ ⟨u16, u17, u18, u19, u20, u21, u22, _, u24, u25, u26, u27, u28, u29, ?_, h13, .inl ⟨l12, l14, hK, hV, h0, h1, h2, h3, h4, h5, h6, fun _ => rfl, h8, h9, h10, h11⟩⟩
          simp only [Act.put, List.setIfInBounds_toArray, List.set_cons_zero, List.set_cons_succ]
        · rcases hM with ⟨l12, l14, hK, hV, h0, h1, h2, h3, h4, h5, h6, h7, h8, h9, h10, h11⟩ | ⟨l12, hM2⟩
          case inr => exact absurd hf (by rw [HAll.out l12 _ (by omega)]; simp)
          obtain rfl := h7 (hd 7 (by kernel_rfl))
          clear hd HAll
          refine wpOp_step rfl (fun K hK' => ?_)
          go_simp
          refine (HNx.out _ _ (by omega) (by omega) hK.dice).mono ?_
          rintro e W' ⟨r, rfl, hr0, hr1, hd1, hg1⟩
          obtain ⟨x, rfl⟩ := Int.eq_ofNat_of_zero_le hr0
          have hgb : g < base := by have := HRb.out; omega
          refine hK' _ _ ⟨u16, u17, u18, u19, u20, u21, u22, _, _, u25, u26, u27, u28, u29, ?_, h13, .inl ⟨l12, l14, hK.call hd1 hg1, hV.call hg1 hgb, h0, h1, h2, h3, h4, h5, fun h => by obtain ⟨b, y0, y1, y2, y3, e, q0, q1, q2, q3⟩ := h6 h; exact ⟨b, y0, y1, y2, y3, e, q0.grown hg1, q1.grown hg1, q2.grown hg1, q3.grown hg1⟩, h7, fun _ => ⟨x, rfl, by omega⟩, fun h => by obtain ⟨b, r, x, e, q⟩ := h9 h; exact ⟨b, r, x, e, q.grown hg1⟩, h10, fun h => by obtain ⟨b, x, e, q⟩ := h11 h; exact ⟨b, x, e, q.grown hg1⟩⟩⟩
          simp only [Act.put, List.setIfInBounds_toArray, List.set_cons_zero, List.set_cons_succ]
        · rcases hM with ⟨l12, l14, hK, hV, h0, h1, h2, h3, h4, h5, h6, h7, h8, h9, h10, h11⟩ | ⟨l12, hM2⟩
          case inr => exact absurd hf (by rw [HAll.out l12 _ (by omega)]; simp)
          obtain ⟨b, y0, y1, y2, y3, rfl, q0, q1, q2, q3⟩ := h6 (hd 6 (by kernel_rfl))
          obtain ⟨r, rfl, hr⟩ := h8 (hd 8 (by kernel_rfl))
          have hri : (r : Int) < 4 := by omega
          have HX : Hid (∃ x, Cel W g b r x) := by
            rcases (by omega : r = 0 ∨ r = 1 ∨ r = 2 ∨ r = 3) with rfl | rfl | rfl | rfl
            · exact ⟨_, q0⟩
            · exact ⟨_, q1⟩
            · exact ⟨_, q2⟩
            · exact ⟨_, q3⟩
          clear hd HAll
          refine wpOp_step rfl (fun K hK' => ?_)
          go_simp
          obtain ⟨x, hx⟩ := HX.out
          refine hK' _ _ ⟨u16, u17, u18, u19, u20, u21, _, u23, _, _, u26, u27, u28, u29, ?_, h13, .inl ⟨l12, l14, hK, hV, h0, h1, h2, h3, h4, h5, h6, h7, h8, fun _ => ⟨b, r, x, rfl, hx⟩, h10, h11⟩⟩
          simp only [Act.put, List.setIfInBounds_toArray, List.set_cons_zero, List.set_cons_succ]
        · rcases hM with ⟨l12, l14, hK, hV, h0, h1, h2, h3, h4, h5, h6, h7, h8, h9, h10, h11⟩ | ⟨l12, hM2⟩
          case inr => exact absurd hf (by rw [HAll.out l12 _ (by omega)]; simp)
          obtain ⟨b, r, x, rfl, qc⟩ := h9 (hd 9 (by kernel_rfl))
          have hcx := qc.2.1
          have HX := Lib.hid qc.2.2
          clear hd HAll
          refine wpOp_step rfl (fun K hK' => ?_)
          go_simp
          refine hK' _ _ ⟨u16, u17, u18, u19, u20, u21, u22, u23, u24, _, _, u27, u28, u29, ?_, h13, .inl ⟨l12, l14, hK, hV, h0, h1, h2, h3, h4, h5, h6, h7, h8, h9, fun _ => ⟨x, rfl, HX.out⟩, h11⟩⟩
          simp only [Act.put, List.setIfInBounds_toArray, List.set_cons_zero, List.set_cons_succ]
        · rcases hM with ⟨l12, l14, hK, hV, h0, h1, h2, h3, h4, h5, h6, h7, h8, h9, h10, h11⟩ | ⟨l12, hM2⟩
          case inr => exact absurd hf (by rw [HAll.out l12 _ (by omega)]; simp)
          obtain ⟨x, rfl, hx⟩ := h10 (hd 10 (by kernel_rfl))
          have hne : W.heap.size ≠ g := by have := hK.dice.lt; omega
          clear hd HAll
          refine wpOp_step rfl (fun K hK' => ?_)
          go_simp
          refine hK' _ _ ⟨u16, u17, u18, u19, u20, u21, u22, u23, u24, u25, _, _, u28, u29, ?_, h13, .inl ⟨l12, l14, hK.alloc _, hV.alloc _, h0, h1, h2, h3, h4, h5, fun h => by obtain ⟨b, y0, y1, y2, y3, e, q0, q1, q2, q3⟩ := h6 h; exact ⟨b, y0, y1, y2, y3, e, q0.alloc _, q1.alloc _, q2.alloc _, q3.alloc _⟩, h7, h8, fun h => by obtain ⟨b, r, x, e, q⟩ := h9 h; exact ⟨b, r, x, e, q.alloc _⟩, h10, fun _ => ⟨W.heap.size, x, rfl, hne, by simp [go_sem], hx⟩⟩⟩
          simp only [Act.put, List.setIfInBounds_toArray, List.set_cons_zero, List.set_cons_succ]
        · rcases hM with ⟨l12, l14, hK, hV, h0, h1, h2, h3, h4, h5, h6, h7, h8, h9, h10, h11⟩ | ⟨l12, hM2⟩
          case inr => exact absurd hf (by rw [l12]; simp)
          obtain rfl := h1 (hd 1 (by kernel_rfl))
          obtain ⟨b, x, rfl, q1, q2, q3⟩ := h11 (hd 11 (by kernel_rfl))
          obtain ⟨A, c, rfl, ho⟩ := hV
          have hblk : b < W.heap.size := cell_lt q2
          have hsl : Sl W W.heap.size (some ⟨b, 0, none⟩) [.int .i64 (x : Int)] := fun _ => ⟨_, rfl, hblk, fun k u hu => by
            cases k with
            | zero => simp at hu; subst hu; simpa [Addr.add] using q2
            | succ k => simp at hu⟩
          clear hd HAll
          refine wpOp_step rfl (fun K hK' => ?_)
          rw [if_pos (by rfl)]
          refine wp_append_sl W (.tmp 17) (.tmp 27) 22 rfl base 3 i0 (.int .i64 0) 8 Tryz.underlying22 hi hz0 hz1 hz2 rfl A o.length c _ rfl ho _ _ 1 1 _ rfl rfl hsl (fun u hu => by simp at hu; subst hu; rfl) (by unfold maxLen; omega) (by omega) hK.sz ?_
          intro A' c' w8 hown hgrow hblk2
          rw [nats_snoc] at hown
          show K (Act.put _ (some 28) _) w8
          simp only [Act.put, List.setIfInBounds_toArray, List.set_cons_zero, List.set_cons_succ]
          have hl1 : (o ++ [x]).length = o.length + 1 := by simp
          refine hK' _ _ ⟨u16, .slice A o.length c, u18, u19, u20, u21, u22, u23, u24, u25, u26, .slice (some ⟨b, 0, none⟩) 1 1, .slice A' (o.length + 1) c', u29, ?_, h13, .inr ⟨rfl, x, q3, ⟨A', c', by rw [hl1], by rw [hl1]; exact hown⟩, .inl ⟨l14, hK.high hgrow (own_block ho)⟩⟩⟩
          simp only [Act.put, List.setIfInBounds_toArray, List.set_cons_zero, List.set_cons_succ]
        · clear hd HAll
          refine wpOp_step rfl (fun K hK' => ?_)
          go_simp
          refine hK' _ _ ⟨u16, u17, u18, u19, u20, u21, u22, u23, u24, u25, u26, u27, u28, _, ?_, fun _ => rfl, ?_⟩
          · simp only [Act.put, List.setIfInBounds_toArray, List.set_cons_zero, List.set_cons_succ]
          · rcases hM with hM | ⟨l12, x, q1, q2, q3⟩
            · exact .inl hM
            · exact .inr ⟨l12, x, q1, q2, q3⟩
        · rcases hM with ⟨l12, _⟩ | ⟨l12, x, q1, q2, q3⟩
          · exact absurd (hd 12 (by kernel_rfl)) (by rw [l12]; simp)
          obtain rfl := h13 (hd 13 (by kernel_rfl))
          rcases q3 with ⟨_, hK⟩ | ⟨l14, _⟩
          case inr => exact absurd hf (by rw [l14]; simp)
          obtain ⟨A, c, rfl, ho⟩ := q2
          have hcv := hK.cv
          have hfv := hK.fv
          clear hd HAll
          obtain ⟨N, hN⟩ : ∃ N, (o ++ [x]).length = N := ⟨_, rfl⟩
          rw [hN] at ho ⊢
          have HN := Lib.hid hN
          clear hN
          refine wpOp_step rfl (fun K hK' => ?_)
          go_simp
          refine hK' _ _ ⟨u16, u17, u18, u19, u20, u21, u22, u23, u24, u25, u26, u27, .slice A N c, .pointer (some ⟨vb, 0, none⟩), ?_, fun _ => rfl, .inr ⟨l12, x, q1, ⟨A, c, by rw [HN.out], ?_⟩, .inr ⟨rfl, hK.put _⟩⟩⟩
          · simp only [Act.put, List.setIfInBounds_toArray, List.set_cons_zero, List.set_cons_succ]
          · rw [HN.out]
            exact own_setLow ho _ _ (by have := hK.hv; have := hK.hb; simp only; omega)
      · rintro L b W hL ⟨u16, u17, u18, u19, u20, u21, u22, u23, u24, u25, u26, u27, u28, u29, rfl, h13, hM⟩
        have hL' : ∀ i, i < 15 → L i = true := hL
        rcases hM with ⟨l12, _⟩ | ⟨l12, x, q1, q2, q3⟩
        · exact absurd (hL' 12 (by omega)) (by rw [l12]; simp)
        rcases q3 with ⟨l14, _⟩ | ⟨_, hK⟩
        · exact absurd (hL' 14 (by omega)) (by rw [l14]; simp)
        have HKn := Lib.hid hK
        have HVn := Lib.hid q2
        have HLn := Lib.hid (HLim.out.append (Na.Lim.one q1))
        clear hL hL' hK q2 q1 h13 HK HV HLim
        simp only [Act.put, List.setIfInBounds_toArray, List.set_cons_zero, List.set_cons_succ]
        go_wp2_with fail
        go_roundw
        case rel => exact ⟨k - 1, o ++ [x], _, int_eqv (by omega), by simp; omega, HLn.out, HKn.out, HVn.out⟩
        case measure => simp [intOf]; omega
end Go.Proofs.YtnfjnlnphdmdmaaGreatDoor
