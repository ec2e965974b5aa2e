/- Yq -/
import Derived.Test.YtnplaejlmbncfaaGreatDoorM16
namespace Go.Proofs.YtnplaejlmbncfaaGreatDoor
open Go.RowKit
set_option linter.unusedVariables false
set_option maxRecDepth 100000
namespace Sy
theorem strip_upd (x : UInt8) (U : List UInt8) : (upd (fun j => wd U (j + 1) ^^^ Gf.gmul x (wd U j)) U (U.length - 1)).take (U.length - 1) = strip x U := by
  unfold strip
  refine List.ext_getElem? fun i => ?_
  rw [List.getElem?_take, List.getElem?_map]
  rcases Nat.lt_or_ge i (U.length - 1) with h | h
  · rw [if_pos h, upd_get _ _ _ (by omega), if_pos h, List.getElem?_range h]
    rfl
  · rw [if_neg (by omega), List.getElem?_eq_none (by simpa using h)]
    rfl
theorem decH_go {n : Nat} {s u : List UInt8} {E : List Nat} {W : List UInt8} {k v : Nat} (h : tryH n s u E W v = none) : decH n s u E W (k + 1) v = decH n s u E W k (v + 1) := by
  conv => lhs; unfold decH
  rw [h]
theorem decH_got {n : Nat} {s u : List UInt8} {E : List Nat} {W V : List UInt8} {k v : Nat} (h : tryH n s u E W v = some V) : decH n s u E W (k + 1) v = some V := by
  unfold decH
  rw [h]
theorem meets_snoc (E : List Nat) {o : List Nat} {i p : Nat} (h : o[i]? = some p) : meets E (o.take (i + 1)) = (meets E (o.take i) || E.contains p) := by
  unfold meets
  rw [List.take_add_one, h, List.any_append]
  simp
theorem cont_snoc (E : List Nat) {j p x : Nat} (h : E[j]? = some p) : (E.take (j + 1)).contains x = ((E.take j).contains x || (x == p)) := by
  rw [List.take_add_one, h, Bool.eq_iff_iff, List.contains_iff_mem, Bool.or_eq_true, List.contains_iff_mem, List.mem_append, beq_iff_eq]
  refine or_congr_right ?_
  show x ∈ [p] ↔ x = p
  rw [List.mem_singleton]
theorem diff_nil {n : Nat} {V W : List UInt8} (hV : V.length = n) (hW : W.length = n) : (if V = W then (0 : Nat) else 1) = if (diff n V W).length = 0 then 0 else 1 := by
  by_cases e : V = W
  · rw [if_pos e, e, diff_self]
    rfl
  · rw [if_neg e, if_neg]
    intro h
    apply e
    refine wd_ext (by rw [hV, hW]) fun i hi => ?_
    rcases Classical.em (wd V i = wd W i) with h5 | h5
    · exact h5
    · have h6 : i ∈ diff n V W := List.mem_filter.2 ⟨List.mem_range.2 (by omega), bne_iff_ne.2 h5⟩
      rw [List.eq_nil_of_length_eq_zero h] at h6
      cases h6
end Sy
theorem int_beq (a b : Nat) : (((a : Nat) : Int) == ((b : Nat) : Int)) = (a == b) := by
  rw [Bool.eq_iff_iff, beq_iff_eq, beq_iff_eq]
  omega
def RDa (w : World) (L : List Ob) (O : List Rw) (ne m gu cu nn : Nat) (S : List UInt8) (E : List Nat) (x y : Value) (wr : World) : Prop :=
  ∃ k : Nat, k ≤ ne ∧ y = .int .i64 (k : Int) ∧ x = .slice (some ⟨gu, 0, none⟩) (m - k) cu ∧ Hid (Ow w wr none [] L (O ++ [⟨some ⟨gu, 0, none⟩, m - k, cu, 5, bys (Sy.stripAll nn S (E.take k))⟩]))
def RDb (w : World) (L : List Ob) (O : List Rw) (lu gu cu : Nat) (xx : UInt8) (U : List UInt8) (y : Value) (wr : World) : Prop :=
  ∃ i : Nat, i + 1 ≤ lu ∧ y = .int .i64 (i : Int) ∧ Hid (Ow w wr none [] L (O ++ [⟨some ⟨gu, 0, none⟩, lu, cu, 5, bys (Sy.upd (fun j => Sy.wd U (j + 1) ^^^ Gf.gmul xx (Sy.wd U j)) U i)⟩]))
def RDc (w : World) (L : List Ob) (O : List Rw) (mn nn : Nat) (S U : List UInt8) (E : List Nat) (W : List UInt8) (D : Option (List UInt8)) (y : Value) (wr : World) : Prop :=
  ∃ v : Nat, v ≤ mn + 1 ∧ y = .int .i64 (v : Int) ∧ Hid (D = Sy.decH nn S U E W (mn + 1 - v) v) ∧ Hid (Ow w wr none [] L O)
def RDd (w : World) (L : List Ob) (O : List Rw) (v : Nat) (E o : List Nat) (x y : Value) (wr : World) : Prop :=
  ∃ i : Nat, i ≤ v ∧ y = .int .i64 (i : Int) ∧ x = .bool (Sy.meets E (o.take i)) ∧ Hid (Ow w wr none [] L O)
def RDe (w : World) (L : List Ob) (O : List Rw) (ne q : Nat) (b0 : Bool) (E : List Nat) (x y : Value) (wr : World) : Prop :=
  ∃ j : Nat, j ≤ ne ∧ y = .int .i64 (j : Int) ∧ x = .bool (b0 || (E.take j).contains q) ∧ Hid (Ow w wr none [] L O)
def RDf (w : World) (L : List Ob) (O : List Rw) (np gq cq nn : Nat) (W : List UInt8) (P : List Nat) (ad : List UInt8) (y : Value) (wr : World) : Prop :=
  ∃ i : Nat, i ≤ np ∧ y = .int .i64 (i : Int) ∧ Hid (Ow w wr none [] L (O ++ [⟨some ⟨gq, 0, none⟩, nn, cq, 5, bys (Sy.fixW W (P.take i) ad)⟩]))
def RDg (w : World) (L : List Ob) (b d m f rb gq nn cq db : Nat) (V W : List UInt8) (y : Value) (wr : World) : Prop :=
  ∃ (i k o : Nat) (A : Option Addr) (c : Nat), i ≤ nn ∧ k ≤ i ∧ y = .int .i64 (i : Int) ∧ Hid (k = ((List.range i).filter fun j => Sy.wd V j != Sy.wd W j).length ∧ o = if k = 0 then 0 else 1) ∧ Hid (Ow w wr none [] L [codeR b d m f, decRw rb 0 none 0 0 none 0 0, ⟨some ⟨gq, 0, none⟩, nn, cq, 5, bys V⟩, decRw db o (some ⟨gq, 0, none⟩) nn cq A k c, ⟨A, k, c, 3, nats ((List.range i).filter fun j => Sy.wd V j != Sy.wd W j)⟩])
set_option maxHeartbeats 4000000 in
theorem rdecode_bad {d m f : Nat} (h : Cd d m f) (A0 : Option Addr) (nw c0 : Nat) (A : Option Addr) (n c : Nat) (zs : List Int) (w : World) (hn : zs.length = n) (hs : Sl w w.heap.size A (ints zs)) (hnc : n ≤ c) (hl : n ≤ 1000) (hnw : nw ≤ 1000) (hbad : chkE d m f nw zs ≠ 0) :
    Calls Tryz.prog 55 #[.agg #[.int .i64 2, .int .i64 (d : Int), .int .i64 (m : Int), .int .i64 (f : Int)], .slice A0 nw c0, .slice A n c] w (DecE w (chkE d m f nw zs)) := by
  have H0 := ((((Ow.of (St.refl w)).old hs (by unfold ints; rw [List.length_map]; exact hn) hnc hl).code d m f)).arr #[.int .i64 0, .slice none 0 0, .slice none 0 0] 3 rfl (by omega) 83
  simp only [List.nil_append, List.cons_append, World.size_alloc] at H0
  obtain ⟨hc0, hc1, hc2, hc3⟩ := H0.cdc 0 rfl
  have hsl := H0.sl (i := 0) rfl
  have HC := Lib.hid (rcheck_any h A0 nw c0 A n c zs _ hn hsl.2.2.2 hnc hl hnw)
  have HO := Lib.hid H0
  obtain ⟨er, her⟩ : ∃ er, Hid (er = chkE d m f nw zs) := ⟨_, rfl⟩
  have hern : (er == 0) = false := beq_eq_false_iff_ne.2 (by rw [her.out]; exact hbad)
  have hern2 : (er != 0) = true := by rw [bne, hern]; rfl
  rw [← her.out] at HC ⊢
  clear H0 hs hn h hbad hsl
  go_enter Tryz.func55, Tryz.ntmps55
  go_wp2_with fail
  refine HC.out.mono ?_
  rintro e w1 ⟨rfl, hb⟩
  have HO1 := Lib.hid (HO.out.go hb)
  clear hb HC HO hc0 hc1 hc2 hc3
  go_upto_region 3 with (fail)
  obtain ⟨hr0, hr1, hr2⟩ := HO1.out.dec 1 rfl
  have hrf0 := HO1.out.frzO 1 (vs := _) rfl 0
  have hrf1 := HO1.out.frzO 1 (vs := _) rfl 1
  have hrf2 := HO1.out.frzO 1 (vs := _) rfl 2
  go_wp2_with fail
  have G := ((HO1.out.put 1 rfl 0 (.int .i64 0)).put 1 rfl 1 (.slice none 0 0)).put 1 rfl 2 (.slice none 0 0)
  obtain ⟨k0, k1, k2⟩ := G.dec (o := 0) (A1 := none) (n1 := 0) (c1 := 0) (A2 := none) (n2 := 0) (c2 := 0) 1 rfl
  refine bodyPost_ret (v := .tuple #[.agg #[.int .i64 0, .slice none 0 0, .slice none 0 0], .int .i64 er]) (by simp [results, Tryz.results55, go_sem, k0, k1, k2]) rfl ?_
  exact ⟨rfl, G.below⟩
set_option maxHeartbeats 16000000 in
theorem rdecode_ok {d m f : Nat} (h : Cd d m f) (hf : f ≤ m / 2) (A : Option Addr) (c nn : Nat) (A2 : Option Addr) (ne c2 : Nat) (word : List UInt8) (E : List Nat) (w : World) (hn : word.length = nn) (hnn : nn = d + m) (hs : Sl w w.heap.size A (bys word)) (hnc : nn ≤ c) (hne : E.length = ne) (hs2 : Sl w w.heap.size A2 (nats E)) (hnc2 : ne ≤ c2) (hE : Sy.Ers E nn m) (hzs : ∃ zs : List Int, ints zs = nats E ∧ zs.length = ne ∧ chkE d m f nn zs = 0) :
    Calls Tryz.prog 55 #[.agg #[.int .i64 2, .int .i64 (d : Int), .int .i64 (m : Int), .int .i64 (f : Int)], .slice A nn c, .slice A2 ne c2] w (DecR w (Sy.refDec m f word E)) := by
  have hc := h
  obtain ⟨h1, h2, h3, h4, h5⟩ := h
  have hnnI : (d : Int) + (m : Int) = (nn : Int) := by omega
  have hn40 : 2 ≤ nn ∧ nn ≤ 40 := by omega
  obtain ⟨hn2, hn40⟩ := hn40
  have hnem : ne ≤ m := by rw [← hne]; exact hE.le
  have H0 := ((((Ow.of (St.refl w)).old hs (by rw [bys_length]; exact hn) hnc (by omega)).old hs2 (by rw [nats_length]; exact hne) hnc2 (by omega)).code d m f).arr #[.int .i64 0, .slice none 0 0, .slice none 0 0] 3 rfl (by omega) 83
  simp only [List.nil_append, List.cons_append, World.size_alloc] at H0
  obtain ⟨hc0, hc1, hc2, hc3⟩ := H0.cdc 0 rfl
  have HO := Lib.hid H0
  have HCk := Lib.hid (by
    obtain ⟨zs, e1, e2, e3⟩ := hzs
    have h6 := rcheck_any hc A nn c A2 ne c2 zs _ e2 (by rw [e1]; exact (H0.sl (i := 1) rfl).2.2.2) hnc2 (by omega) (by omega)
    rw [e3] at h6
    exact h6)
  have HN := Lib.hid hn
  have HNE := Lib.hid hne
  have HEr := Lib.hid hE
  obtain ⟨S, hS⟩ : ∃ S, Hid (S = Sy.synL word m) := ⟨_, rfl⟩
  have HSl : Hid (S.length = m) := by unfold Hid; rw [hS.out, Sy.synL_length]
  obtain ⟨q, hq⟩ : ∃ q : Nat, Hid (q = (m - ne) / 2) := ⟨_, rfl⟩
  have HRef : Hid (Sy.refDec m f word E = match Sy.decH nn S (Sy.stripAll nn S E) E word (min f q + 1) 0 with
      | none => (2, [], [])
      | some V => (if V = word then 0 else 1, V, Sy.diff nn V word)) := by
    unfold Hid Sy.refDec
    rw [HN.out, hS.out, hq.out, HNE.out]
    rfl
  have HSy := Lib.hid (fun (v : World) (hb : Sl v v.heap.size A (bys word)) => rsyn_ok hc hf A c nn word v hn hnn hb hnc)
  clear H0 hs hs2 hn hne hE hnn hzs
  go_enter Tryz.func55, Tryz.ntmps55
  go_wp2_with fail
  refine HCk.out.mono ?_
  rintro e w1 ⟨rfl, hb⟩
  have HO1 := Lib.hid (HO.out.go hb)
  clear hb HCk HO hc0 hc1 hc2 hc3
  obtain ⟨hc0, hc1, hc2, hc3⟩ := HO1.out.cdc 0 rfl
  go_wp2_with fail
  refine (HSy.out w1 (HO1.out.sl (i := 0) rfl).2.2.2).mono ?_
  rw [← hS.out]
  rintro e w2 ⟨As, ms, cs, rfl, hms, hos, hbs⟩
  obtain rfl : m = ms := HSl.out.symm.trans hms
  have HO2 := Lib.hid (HO1.out.add hos hbs)
  simp only [List.nil_append, List.cons_append] at HO2
  have HX := Lib.hid (HO2.out.nil 5)
  have HVs := Lib.hid (Sl.of_own (HO2.out.row 2 rfl))
  clear hms hos hbs HO1 HSy hc0 hc1 hc2 hc3
  go_wp2_with (at_builtin; refine ow_append elemB HX.out 3 (.const (.slice none 0 0)) (.tmp 45) rfl (m := m) (news := bys S) (by rw [bys_length, HSl.out]) HVs.out (bys_one S) (by unfold maxLen; omega) (by omega) rfl rfl rfl rfl ?_; intro Au cu w3 how; simp only [List.cons_append, List.nil_append, List.set_cons_zero, List.set_cons_succ, Nat.zero_add] at how ⊢; have HO3 := Lib.hid how; clear how)
  obtain ⟨gu, rfl, -, -⟩ := own_form (HO3.out.row 3 rfl) (by omega)
  have hcum := (own_cap (HO3.out.row 3 rfl)).1
  clear HX HVs HO2
  go_loopw [12, 13] (fun x y wr => RDa w [⟨A, nn, c, bys word⟩, ⟨A2, ne, c2, nats E⟩] [codeR w.heap.size d m f, decRw (w.heap.size + 1) 0 none 0 0 none 0 0, ⟨As, m, cs, 5, bys S⟩] ne m gu cu nn S E x y wr) (fun _ y _ => ne - (intOf y).toNat)
  case atStart => exact ⟨0, Nat.zero_le _, rfl, rfl, HO3.out⟩
  case round =>
    clear HO3
    obtain ⟨k, hk, rfl, rfl, HO⟩ := hrel
    rcases Nat.lt_or_ge k ne with hkn | hkn
    · have hd : decide ((k : Int) < (ne : Int)) = true := decide_eq_true (by omega)
      obtain ⟨p, hp⟩ : ∃ p, E[k]? = some p := ⟨_, Sy.pl_lt (by rw [HNE.out]; exact hkn)⟩
      obtain ⟨ad2, rfl, hcp⟩ := HO.out.natL 1 rfl hp
      have hpn : p < nn := HEr.out.lt p (List.mem_of_getElem? hp)
      obtain ⟨z, hz⟩ : ∃ z : Nat, Hid (z = nn - 1 - p) := ⟨_, rfl⟩
      have hzI : (nn : Int) - 1 - (p : Int) = (z : Int) := by have := hz.out; omega
      have hz255 : z ≤ 40 := by have := hz.out; omega
      obtain ⟨x, hx⟩ : ∃ x, Hid (x = Sy.loc nn p) := ⟨_, rfl⟩
      have HE : Hid (∀ W, Calls Tryz.prog 50 #[.int .i64 (z : Int)] W fun e w' => e = .returned (.int .u8 (x.toNat : Int)) ∧ W = w') := fun W => by
        have h5 := refexp_any (z : Int) W
        rw [Sy.zpow_any, hz.out] at h5
        rw [hz.out, hx.out]
        exact h5
      obtain ⟨lu, hlu⟩ : ∃ lu : Nat, Hid (lu = m - k) := ⟨_, rfl⟩
      have hlu1 : 1 ≤ lu ∧ lu ≤ 8 := by have := hlu.out; omega
      obtain ⟨hlu1, hlu8⟩ := hlu1
      rw [← hlu.out] at HO ⊢
      obtain ⟨U, hU⟩ : ∃ U, Hid (U = Sy.stripAll nn S (E.take k)) := ⟨_, rfl⟩
      rw [← hU.out] at HO
      have HUl : Hid (U.length = lu) := by
        have h6 := own_len (HO.out.row 3 rfl)
        rw [bys_length] at h6
        exact h6
      have HSn : Hid (Sy.stripAll nn S (E.take (k + 1)) = Sy.strip x U) := by
        unfold Hid
        rw [List.take_add_one, hp]
        show Sy.stripAll nn S (E.take k ++ [p]) = _
        rw [Sy.stripAll_snoc, hx.out, hU.out]
      clear hp hU
      have HO1 : Hid (Ow w wr none [] [⟨A, nn, c, bys word⟩, ⟨some ad2, ne, c2, nats E⟩] ([codeR w.heap.size d m f, decRw (w.heap.size + 1) 0 none 0 0 none 0 0, ⟨As, m, cs, 5, bys S⟩] ++ [⟨some ⟨gu, 0, none⟩, lu, cu, 5, bys (Sy.upd (fun j => Sy.wd U (j + 1) ^^^ Gf.gmul x (Sy.wd U j)) U 0)⟩])) := by
        unfold Hid
        rw [Sy.upd_zero]
        exact HO.out
      go_wp2_with (go_at_call 50; refine (HE.out _).mono ?_; rintro e w' ⟨rfl, rfl⟩)
      clear HO hcp HE
      go_loopw [15] (fun y wr => RDb w [⟨A, nn, c, bys word⟩, ⟨some ad2, ne, c2, nats E⟩] [codeR w.heap.size d m f, decRw (w.heap.size + 1) 0 none 0 0 none 0 0, ⟨As, m, cs, 5, bys S⟩] lu gu cu x U y wr) (fun y _ => lu - (intOf y).toNat)
      case atStart => exact ⟨0, by omega, rfl, HO1.out⟩
      case round =>
        clear HO1
        obtain ⟨i, hi, rfl, HO⟩ := hrel
        rcases Nat.lt_or_ge (i + 1) lu with hil | hil
        · obtain ⟨i1, hi1⟩ : ∃ i1 : Nat, Hid (i1 = i + 1) := ⟨_, rfl⟩
          have hi1I : (i : Int) + 1 = (i1 : Int) := by have := hi1.out; omega
          have hi1l : i1 < lu := by have := hi1.out; omega
          have hilt : i < lu := by omega
          have hd2 : decide ((i1 : Int) < (lu : Int)) = true := decide_eq_true (by omega)
          have hga := HO.out.byteO 3 rfl (show (Sy.upd (fun j => Sy.wd U (j + 1) ^^^ Gf.gmul x (Sy.wd U j)) U i)[i]? = some (Sy.wd U i) by rw [Sy.upd_get _ _ _ (by rw [HUl.out]; exact hilt), if_neg (by omega)])
          have hgb := HO.out.byteO 3 rfl (show (Sy.upd (fun j => Sy.wd U (j + 1) ^^^ Gf.gmul x (Sy.wd U j)) U i)[i1]? = some (Sy.wd U i1) by rw [Sy.upd_get _ _ _ (by rw [HUl.out]; exact hi1l), if_neg (by have := hi1.out; omega)])
          obtain ⟨a, ha⟩ : ∃ a, a = Sy.wd U i := ⟨_, rfl⟩
          obtain ⟨b, hb⟩ : ∃ b, b = Sy.wd U i1 := ⟨_, rfl⟩
          rw [← ha] at hga
          rw [← hb] at hgb
          have hfr := HO.out.frzO 3 (vs := _) rfl i
          obtain ⟨y, hy, HY⟩ := xor_ex b (Gf.gmul x a)
          have HUp : Hid ((Sy.upd (fun j => Sy.wd U (j + 1) ^^^ Gf.gmul x (Sy.wd U j)) U i).set i y = Sy.upd (fun j => Sy.wd U (j + 1) ^^^ Gf.gmul x (Sy.wd U j)) U (i + 1)) := by
            unfold Hid
            rw [HY.out, ha, hb, hi1.out]
            exact Sy.upd_succ _ U (by rw [HUl.out]; exact hilt)
          have HZ := Lib.hid (HO.out.go (Below.refl _ _).drew)
          have hs1 : (i1 : Int) < (lu : Int) := by omega
          have hwi : IntKind.i64.wrap (i1 : Int) = (i1 : Int) := IntWalk.i64_in _ (by omega)
          have hs2 : (i : Int) < (lu : Int) := by omega
          clear ha hb
          go_wp2_with fail
          refine wp_region_still_tail 15 (by kernel_rfl) (by kernel_rfl) ?_
          simp only [List.take_succ_cons, List.take_zero, List.drop_succ_cons, List.drop_zero]
          repeat (first | still_step | still_call (flip_sameB (refmul_any _ _ _)))
          refine wpStill_nil ?_
          change wpList _ _ _ _ _ (World.drew _)
          go_wp2_with fail
          go_roundw
          case rel =>
            have h7 := HZ.out.putB 3 rfl i y
            rw [HUp.out] at h7
            exact ⟨i + 1, by omega, by go_num, h7⟩
          case measure => simp [intOf]; omega
        · have hile : i = lu - 1 := by omega
          obtain ⟨i1, hi1⟩ : ∃ i1 : Nat, Hid (i1 = i + 1) := ⟨_, rfl⟩
          have hi1I : (i : Int) + 1 = (i1 : Int) := by have := hi1.out; omega
          have hi1l : lu ≤ i1 := by have := hi1.out; omega
          have hi18 : i1 ≤ 8 := by have := hi1.out; omega
          have hd2 : decide ((i1 : Int) < (lu : Int)) = false := decide_eq_false (by omega)
          obtain ⟨lv, hlv⟩ : ∃ lv : Nat, Hid (lv = lu - 1) := ⟨_, rfl⟩
          have hlvI : (lu : Int) - 1 = (lv : Int) := by have := hlv.out; omega
          have hlvl : lv ≤ lu := by have := hlv.out; omega
          have hlvc : lv ≤ cu := by have := hlu.out; omega
          have h7 := HO.out.cut 3 rfl (k := lv) hlvl
          have e7 : (bys (Sy.upd (fun j => Sy.wd U (j + 1) ^^^ Gf.gmul x (Sy.wd U j)) U i)).take lv = bys (Sy.stripAll nn S (E.take (k + 1))) := by
            rw [bys_take, HSn.out, ← Sy.strip_upd, HUl.out, hlv.out, hile]
          rw [e7] at h7
          have HC := Lib.hid h7
          have hmk1 : Hid (m - (k + 1) = lv) := by have := hlv.out; have := hlu.out; unfold Hid; omega
          clear h7 e7 hile
          go_wp2_with fail
          go_roundw
          case rel => exact ⟨k + 1, by omega, by go_num, by rw [hmk1.out], by rw [hmk1.out]; exact HC.out⟩
          case measure => simp [intOf]; omega
    · have hd : decide ((k : Int) < (ne : Int)) = false := decide_eq_false (by omega)
      obtain rfl : k = ne := by omega
      have hET : E.take k = E := List.take_of_length_le (by rw [HNE.out]; exact Nat.le_refl _)
      rw [hET] at HO
      obtain ⟨lu, hlu⟩ : ∃ lu : Nat, Hid (lu = m - k) := ⟨_, rfl⟩
      have hlu8 : lu ≤ 8 := by have := hlu.out; omega
      have hluc : lu ≤ cu := by have := hlu.out; omega
      rw [← hlu.out] at HO ⊢
      obtain ⟨U, hU⟩ : ∃ U, Hid (U = Sy.stripAll nn S E) := ⟨_, rfl⟩
      rw [← hU.out] at HO HRef
      have HUl : Hid (U.length = lu) := by
        have h6 := own_len (HO.out.row 3 rfl)
        rw [bys_length] at h6
        exact h6
      have hq1 : ((m : Int) - (k : Int)) / 2 = (q : Int) := by have := hq.out; omega
      have h2q : 2 * q ≤ lu := by have := hq.out; have := hlu.out; omega
      have hq4 : q ≤ 4 := by omega
      obtain ⟨hc0, hc1, hc2, hc3⟩ := HO.out.cdc 0 rfl
      obtain ⟨D, hD⟩ : ∃ D, Hid (D = Sy.decH nn S U E word (min f q + 1) 0) := ⟨_, rfl⟩
      rw [← hD.out] at HRef
      have HO5 : Hid (Ow w wr none [] [⟨A, nn, c, bys word⟩, ⟨A2, k, c2, nats E⟩] ([codeR w.heap.size d m f, decRw (w.heap.size + 1) 0 none 0 0 none 0 0, ⟨As, m, cs, 5, bys S⟩] ++ [⟨some ⟨gu, 0, none⟩, lu, cu, 5, bys U⟩])) := HO.out
      clear hET HO hkn hd
      rcases Nat.lt_or_ge f q with hfq | hfq
      · have t1 : decide ((f : Int) < (q : Int)) = true := decide_eq_true (by omega)
        have hmn : min f q = f := by omega
        rw [hmn] at hD
        have hfd : decide (f < q) = true := decide_eq_true (by omega)
        go_wp2_with fail
        try rw [hq1]
        try rw [hfd]
        clear t1 hq1 hfd hc0 hc1 hc2 hc3
        go_loopw [17] (fun y wr => RDc w [⟨A, nn, c, bys word⟩, ⟨A2, k, c2, nats E⟩] ([codeR w.heap.size d m f, decRw (w.heap.size + 1) 0 none 0 0 none 0 0, ⟨As, m, cs, 5, bys S⟩] ++ [⟨some ⟨gu, 0, none⟩, lu, cu, 5, bys U⟩]) f nn S U E word D y wr) (fun y _ => f + 1 - (intOf y).toNat)
        case atStart => exact ⟨0, Nat.zero_le _, rfl, hD.out, HO5.out⟩
        case round =>
          clear HO5 hD
          obtain ⟨v, hv, rfl, HD, HO⟩ := hrel
          rcases Nat.lt_or_ge f v with hvm | hvm
          · have t2 : decide ((v : Int) ≤ (f : Int)) = false := decide_eq_false (by omega)
            have HRn : Hid (Sy.refDec m f word E = (2, [], [])) := by
              unfold Hid
              have e : f + 1 - v = 0 := by omega
              rw [HRef.out, HD.out, e]
              rfl
            obtain ⟨hr0, hr1, hr2⟩ := HO.out.dec 1 rfl
            have hrf0 := HO.out.frzO 1 (vs := _) rfl 0
            have hrf1 := HO.out.frzO 1 (vs := _) rfl 1
            have hrf2 := HO.out.frzO 1 (vs := _) rfl 2
            go_wp2_with fail
            have G := ((HO.out.put 1 rfl 0 (.int .i64 2)).put 1 rfl 1 (.slice none 0 0)).put 1 rfl 2 (.slice none 0 0)
            obtain ⟨k0, k1, k2⟩ := G.dec (o := 2) (A1 := none) (n1 := 0) (c1 := 0) (A2 := none) (n2 := 0) (c2 := 0) 1 rfl
            refine bodyPost_ret (v := .tuple #[.agg #[.int .i64 2, .slice none 0 0, .slice none 0 0], .int .i64 0]) (by simp [results, Tryz.results55, go_sem, k0, k1, k2]) rfl ?_
            rw [HRn.out]
            exact ⟨none, 0, 0, none, 0, 0, rfl, rfl, rfl, World.ownsRow_nil _ _ _ _, World.ownsRow_nil _ _ _ _, G.below⟩
          · have t2 : decide ((v : Int) ≤ (f : Int)) = true := decide_eq_true (by omega)
            obtain ⟨r, hr⟩ : ∃ r : Nat, Hid (r = f - v) := ⟨_, rfl⟩
            have HDr : Hid (D = Sy.decH nn S U E word (r + 1) v) := by unfold Hid; rw [HD.out, show f + 1 - v = r + 1 by have := hr.out; omega]
            have HGo : Hid (Sy.tryH nn S U E word v = none → D = Sy.decH nn S U E word (f + 1 - (v + 1)) (v + 1)) := fun h => by
              rw [HDr.out, Sy.decH_go h, show f + 1 - (v + 1) = r by have := hr.out; omega]
            have HLo := Lib.hid (rlocate_any (some ⟨gu, 0, none⟩) lu cu nn v U wr HUl.out (Sl.of_own (HO.out.row 3 rfl)) hluc (by omega) (by omega) (by omega) (by have := (own_cap (HO.out.row 3 rfl)).2; unfold maxLen at this; omega))
            clear HD hr
            go_wp2_with fail
            refine HLo.out.mono ?_
            rintro en w5 ⟨Ao, ko, co, bo, rfl, hbo, ⟨rfl, o, ho, hol, hoo⟩ | ⟨rfl, ho⟩⟩
            · have hov : ko = v := by
                rw [← hol]
                unfold Sy.locH at ho
                cases e : Sy.solve (Sy.hank U v) v with
                | none => rw [e] at ho; cases ho
                | some l =>
                  rw [e] at ho
                  dsimp only at ho
                  by_cases e2 : (Sy.rootsH l nn v).length = v
                  · rw [if_pos e2] at ho
                    obtain rfl := Option.some.inj ho
                    exact e2
                  · rw [if_neg e2] at ho; cases ho
              subst hov
              have HOl := Lib.hid hol
              have holt : ∀ p ∈ o, p < nn := fun p hp => by
                unfold Sy.locH at ho
                cases e : Sy.solve (Sy.hank U ko) ko with
                | none => rw [e] at ho; cases ho
                | some l =>
                  rw [e] at ho
                  dsimp only at ho
                  by_cases e2 : (Sy.rootsH l nn ko).length = ko
                  · rw [if_pos e2] at ho
                    obtain rfl := Option.some.inj ho
                    exact List.mem_range.1 (List.mem_filter.1 hp).1
                  · rw [if_neg e2] at ho; cases ho
              have HOlt := Lib.hid holt
              have HLH := Lib.hid ho
              have HO6 := Lib.hid (HO.out.add hoo hbo)
              simp only [List.nil_append, List.cons_append] at HO6
              have HX := Lib.hid (HO6.out.nil 3)
              have HEs := Lib.hid (HO6.out.sl (i := 1) rfl).2.2.2
              have hko8 : ko ≤ 8 := by omega
              clear ho hol hoo hbo holt HLo HO
              go_wp2_with (first | (at_builtin; refine ow_append elemI HX.out 5 (.const (.slice none 0 0)) (.tmp 114) rfl (m := k) (news := nats E) (by rw [nats_length, HNE.out]) HEs.out (nats_one E) (by unfold maxLen; omega) (by omega) rfl rfl rfl rfl ?_; intro Ap cp w6 how; simp only [List.cons_append, List.nil_append, List.set_cons_zero, List.set_cons_succ, Nat.zero_add] at how ⊢; have HO7 := Lib.hid how; clear how; have HOs := Lib.hid (Sl.of_own (HO7.out.row 4 rfl))) | (at_builtin; refine ow_append elemI HO7.out 5 (.tmp 115) (.tmp 116) rfl (m := ko) (news := nats o) (by rw [nats_length, HOl.out]) HOs.out (nats_one o) (by unfold maxLen; omega) (by omega) rfl rfl rfl rfl ?_; intro Aq cq w7 how; simp only [List.set_cons_zero, List.set_cons_succ] at how; have HO8 := Lib.hid how; clear how))
              have e8 : nats E ++ nats o = nats (E ++ o) := by unfold nats; rw [List.map_append]
              rw [e8] at HO8
              clear e8 HX HEs HO6 HO7 HOs
              go_loopw [21, 22] (fun x y wr => RDd w [⟨A, nn, c, bys word⟩, ⟨A2, k, c2, nats E⟩] [codeR w.heap.size d m f, decRw (w.heap.size + 1) 0 none 0 0 none 0 0, ⟨As, m, cs, 5, bys S⟩, ⟨some ⟨gu, 0, none⟩, lu, cu, 5, bys U⟩, ⟨Ao, ko, co, 3, nats o⟩, ⟨Aq, k + ko, cq, 3, nats (E ++ o)⟩] ko E o x y wr) (fun _ y _ => ko - (intOf y).toNat)
              case atStart => exact ⟨0, Nat.zero_le _, rfl, rfl, HO8.out⟩
              case round =>
                clear HO8
                obtain ⟨i, hi, rfl, rfl, HO⟩ := hrel
                rcases Nat.lt_or_ge i ko with hiv | hiv
                · have t3 : decide ((i : Int) < (ko : Int)) = true := decide_eq_true (by omega)
                  obtain ⟨p, hp⟩ : ∃ p, o[i]? = some p := ⟨_, List.getElem?_eq_getElem (by rw [HOl.out]; exact hiv)⟩
                  have HMt := Lib.hid (Sy.meets_snoc E hp)
                  have HPo := Lib.hid hp
                  obtain ⟨b0, hb0⟩ : ∃ b0, b0 = Sy.meets E (o.take i) := ⟨_, rfl⟩
                  rw [← hb0] at HMt ⊢
                  obtain ⟨go, rfl, -, -⟩ := own_form (HO.out.row 4 rfl) (by omega)
                  clear hp hb0
                  go_wp2_with fail
                  go_loopw [21, 23] (fun x y wr => RDe w [⟨A, nn, c, bys word⟩, ⟨A2, k, c2, nats E⟩] [codeR w.heap.size d m f, decRw (w.heap.size + 1) 0 none 0 0 none 0 0, ⟨As, m, cs, 5, bys S⟩, ⟨some ⟨gu, 0, none⟩, lu, cu, 5, bys U⟩, ⟨some ⟨go, 0, none⟩, ko, co, 3, nats o⟩, ⟨Aq, k + ko, cq, 3, nats (E ++ o)⟩] k p b0 E x y wr) (fun _ y _ => k - (intOf y).toNat)
                  case atStart => exact ⟨0, Nat.zero_le _, rfl, by simp, HO.out⟩
                  case round =>
                    clear HO
                    obtain ⟨j, hj, rfl, rfl, HO⟩ := hrel
                    rcases Nat.lt_or_ge j k with hjk | hjk
                    · have t4 : decide ((j : Int) < (k : Int)) = true := decide_eq_true (by omega)
                      obtain ⟨y, hy⟩ : ∃ y, E[j]? = some y := ⟨_, List.getElem?_eq_getElem (by rw [HNE.out]; exact hjk)⟩
                      have HCt := Lib.hid (Sy.cont_snoc E (x := p) hy)
                      obtain ⟨ad2, rfl, hcy⟩ := HO.out.natL 1 rfl hy
                      have hcp := HO.out.natO 4 rfl HPo.out
                      obtain ⟨b1, hb1⟩ : ∃ b1, b1 = (b0 || (E.take j).contains p) := ⟨_, rfl⟩
                      have HB : Hid ((b0 || (E.take (j + 1)).contains p) = (b1 || (p == y))) := by unfold Hid; rw [HCt.out, hb1, Bool.or_assoc]
                      rw [← hb1]
                      clear hy hb1
                      cases b1 with
                      | true =>
                        have HB2 : Hid (true = (b0 || (E.take (j + 1)).contains p)) := by unfold Hid; rw [HB.out]; rfl
                        go_wp2_with fail
                        go_quiet (fail)
                        go_wp2_with fail
                        go_roundw
                        case rel => exact ⟨j + 1, by omega, by go_num, by rw [← HB2.out], HO.out.drewN _⟩
                        case measure => simp [intOf]; omega
                      | false =>
                        obtain ⟨bb, hbb⟩ : ∃ bb : Bool, Hid (bb = (p == y)) := ⟨_, rfl⟩
                        have HB2 : Hid (bb = (b0 || (E.take (j + 1)).contains p)) := by unfold Hid; rw [HB.out, hbb.out]; rfl
                        have hpi : ((p : Int) == (y : Int)) = bb := by rw [hbb.out]; exact int_beq p y
                        have hpi2 : (p == y) = bb := hbb.out.symm
                        go_wp2_with fail
                        go_quiet (fail)
                        go_wp2_with fail
                        go_roundw
                        case rel => exact ⟨j + 1, by omega, by go_num, by rw [← HB2.out], HO.out.drewN _⟩
                        case measure => simp [intOf]; omega
                    · have t4 : decide ((j : Int) < (k : Int)) = false := decide_eq_false (by omega)
                      have hET : E.take j = E := List.take_of_length_le (by rw [HNE.out]; exact hjk)
                      rw [hET, ← HMt.out]
                      clear hET
                      go_wp2_with fail
                      go_roundw
                      case rel => exact ⟨i + 1, by omega, by go_num, rfl, HO.out⟩
                      case measure => simp [intOf]; omega
                · have t3 : decide ((i : Int) < (ko : Int)) = false := decide_eq_false (by omega)
                  have hoT : o.take i = o := List.take_of_length_le (by rw [HOl.out]; exact hiv)
                  rw [hoT]
                  cases hme : Sy.meets E o with
                  | true =>
                    have HTr : Hid (Sy.tryH nn S U E word ko = none) := by
                      unfold Hid Sy.tryH
                      rw [HLH.out]
                      dsimp only
                      rw [hme, if_pos rfl]
                    clear hme hoT
                    go_wp2_with fail
                    go_roundw
                    case rel => exact ⟨ko + 1, by omega, by go_num, HGo.out HTr.out, HO.out.few 4⟩
                    case measure => simp [intOf]; omega
                  | false =>
                    obtain ⟨np, hnp⟩ : ∃ np : Nat, Hid (np = k + ko) := ⟨_, rfl⟩
                    rw [← hnp.out] at HO ⊢
                    have hnp16 : np ≤ 16 := by have := hnp.out; omega
                    have HPl : Hid ((E ++ o).length = np) := by unfold Hid; rw [List.length_append, HNE.out, HOl.out, hnp.out]
                    have HPlt : Hid (∀ p ∈ E ++ o, p < nn) := fun p hp => by
                      rcases List.mem_append.1 hp with hp | hp
                      · exact HEr.out.lt p hp
                      · exact HOlt.out p hp
                    have HAm := Lib.hid (amounts_any As m cs nn Aq np cq S (E ++ o) wr HSl.out (Sl.of_own (HO.out.row 2 rfl)) (own_cap (HO.out.row 2 rfl)).1 HPl.out (Sl.of_own (HO.out.row 5 rfl)) (own_cap (HO.out.row 5 rfl)).1 (by omega) (by omega) (by omega) HPlt.out (by omega))
                    have HTr : Hid (Sy.tryH nn S U E word ko = match Sy.solve (Sy.rows0 S nn (E ++ o)) np with | none => none | some ad => some (Sy.fixW word (E ++ o) ad)) := by
                      unfold Hid Sy.tryH
                      rw [HLH.out]
                      dsimp only
                      rw [hme, if_neg (by simp), HPl.out]
                      rfl
                    obtain ⟨P, hP⟩ : ∃ P, P = E ++ o := ⟨_, rfl⟩
                    rw [← hP] at HO HPl HPlt HAm HTr
                    clear hme hoT hP
                    go_wp2_with fail
                    refine HAm.out.mono ?_
                    rintro en w8 ⟨Az, kz, cz, bz, rfl, hbz, ⟨rfl, ad, had, hal, hao⟩ | ⟨rfl, had⟩⟩
                    · have HTs : Hid (Sy.tryH nn S U E word ko = some (Sy.fixW word P ad)) := by unfold Hid; rw [HTr.out, had]
                      have hkz : kz = np := by
                        rw [← hal]
                        have h6 := Sy.wid_rows0 S nn P
                        rw [HPl.out] at h6
                        exact (Sy.solve_sound h6 had).1
                      subst hkz
                      have HAl := Lib.hid hal
                      have HO9 := Lib.hid (HO.out.add hao hbz)
                      simp only [List.nil_append, List.cons_append] at HO9
                      have HX := Lib.hid (HO9.out.nil 5)
                      have HWs := Lib.hid (HO9.out.sl (i := 0) rfl).2.2.2
                      clear had hal hao hbz HO HAm HTr
                      go_wp2_with (at_builtin; refine ow_append elemB HX.out 7 (.const (.slice none 0 0)) (.tmp 152) rfl (m := nn) (news := bys word) (by rw [bys_length, HN.out]) HWs.out (bys_one word) (by unfold maxLen; omega) (by omega) rfl rfl rfl rfl ?_; intro Ar cr w9 how; simp only [List.cons_append, List.nil_append, List.set_cons_zero, List.set_cons_succ, Nat.zero_add] at how ⊢; have HOa := Lib.hid how; clear how)
                      obtain ⟨gq, rfl, -, -⟩ := own_form (HOa.out.row 7 rfl) (by omega)
                      have HOb : Hid (Ow w w9 none [] [⟨A, nn, c, bys word⟩, ⟨A2, k, c2, nats E⟩] ([codeR w.heap.size d m f, decRw (w.heap.size + 1) 0 none 0 0 none 0 0, ⟨As, m, cs, 5, bys S⟩, ⟨some ⟨gu, 0, none⟩, lu, cu, 5, bys U⟩, ⟨Ao, ko, co, 3, nats o⟩, ⟨Aq, kz, cq, 3, nats P⟩, ⟨Az, kz, cz, 5, bys ad⟩] ++ [⟨some ⟨gq, 0, none⟩, nn, cr, 5, bys (Sy.fixW word (P.take 0) ad)⟩])) := by
                        unfold Hid
                        rw [List.take_zero, Sy.fixW_zero]
                        exact HOa.out
                      clear HX HWs HO9 HOa
                      go_loopw [26] (fun y wr => RDf w [⟨A, nn, c, bys word⟩, ⟨A2, k, c2, nats E⟩] [codeR w.heap.size d m f, decRw (w.heap.size + 1) 0 none 0 0 none 0 0, ⟨As, m, cs, 5, bys S⟩, ⟨some ⟨gu, 0, none⟩, lu, cu, 5, bys U⟩, ⟨Ao, ko, co, 3, nats o⟩, ⟨Aq, kz, cq, 3, nats P⟩, ⟨Az, kz, cz, 5, bys ad⟩] kz gq cr nn word P ad y wr) (fun y _ => kz - (intOf y).toNat)
                      case atStart => exact ⟨0, Nat.zero_le _, rfl, HOb.out⟩
                      case round =>
                        clear HOb
                        obtain ⟨j, hj, rfl, HO⟩ := hrel
                        rcases Nat.lt_or_ge j kz with hjk | hjk
                        · have t5 : decide ((j : Int) < (kz : Int)) = true := decide_eq_true (by omega)
                          obtain ⟨p, hp⟩ : ∃ p, P[j]? = some p := ⟨_, List.getElem?_eq_getElem (by rw [HPl.out]; exact hjk)⟩
                          have hpn : p < nn := HPlt.out p (List.mem_of_getElem? hp)
                          obtain ⟨gP, rfl, -, -⟩ := own_form (HO.out.row 5 rfl) (by omega)
                          obtain ⟨gA, rfl, -, -⟩ := own_form (HO.out.row 6 rfl) (by omega)
                          have hcp := HO.out.natO 5 rfl hp
                          have hca := HO.out.byteO 6 rfl (Sy.wd_lt (l := ad) (i := j) (by rw [HAl.out]; exact hjk))
                          have hcw := HO.out.byteO 7 rfl (Sy.wd_lt (l := Sy.fixW word (P.take j) ad) (i := p) (by rw [Sy.fixW_length, HN.out]; exact hpn))
                          have hfr := HO.out.frzO 7 (vs := _) rfl p
                          obtain ⟨a, ha⟩ : ∃ a, a = Sy.wd ad j := ⟨_, rfl⟩
                          obtain ⟨b, hb⟩ : ∃ b, b = Sy.wd (Sy.fixW word (P.take j) ad) p := ⟨_, rfl⟩
                          rw [← ha] at hca
                          rw [← hb] at hcw
                          obtain ⟨y, hy, HY⟩ := xor_ex b a
                          have HUp : Hid ((Sy.fixW word (P.take j) ad).set p y = Sy.fixW word (P.take (j + 1)) ad) := by
                            unfold Hid
                            rw [HY.out, hb, ha]
                            exact Sy.fixW_step word hp (by rw [HN.out]; exact hpn)
                          have HZ := Lib.hid (HO.out.go (Below.refl _ _).drew)
                          have s1 : (j : Int) < (kz : Int) := by omega
                          have s2 : (p : Int) < (nn : Int) := by omega
                          clear ha hb hp
                          go_wp2_with fail
                          refine wp_region_still_tail 13 (by kernel_rfl) (by kernel_rfl) ?_
                          simp only [List.take_succ_cons, List.take_zero, List.drop_succ_cons, List.drop_zero]
                          repeat still_step
                          refine wpStill_nil ?_
                          change wpList _ _ _ _ _ (World.drew _)
                          go_wp2_with fail
                          go_roundw
                          case rel =>
                            have h7 := HZ.out.putB 7 rfl p y
                            rw [HUp.out] at h7
                            exact ⟨j + 1, by omega, by go_num, h7⟩
                          case measure => simp [intOf]; omega
                        · have t5 : decide ((j : Int) < (kz : Int)) = false := decide_eq_false (by omega)
                          have hPT : P.take j = P := List.take_of_length_le (by rw [HPl.out]; exact hjk)
                          rw [hPT] at HO
                          obtain ⟨V, hV⟩ : ∃ V, V = Sy.fixW word P ad := ⟨_, rfl⟩
                          have HVl : Hid (V.length = nn) := by unfold Hid; rw [hV, Sy.fixW_length, HN.out]
                          rw [← hV] at HO HTs
                          have HRn : Hid (Sy.refDec m f word E = (if V = word then 0 else 1, V, Sy.diff nn V word)) := by
                            unfold Hid
                            rw [HRef.out, HDr.out, Sy.decH_got HTs.out]
                          have HOc : Hid (Ow w wr none [] [⟨A, nn, c, bys word⟩, ⟨A2, k, c2, nats E⟩] [codeR w.heap.size d m f, decRw (w.heap.size + 1) 0 none 0 0 none 0 0, ⟨some ⟨gq, 0, none⟩, nn, cr, 5, bys V⟩]) := HO.out.re (fun i => if i < 2 then i else 7) (fun i j hi hj h => by simp only [List.length_cons, List.length_nil] at hi hj; split at h <;> split at h <;> omega) (fun i r hi => by rcases i with _ | _ | _ | i <;> simp at hi ⊢ <;> exact hi)
                          have hd8 := (HOc.out.arr #[.int .i64 0, .slice (some ⟨gq, 0, none⟩) nn cr, .slice none 0 0] 3 rfl (by omega) 83).nil 3
                          simp only [List.nil_append, List.cons_append] at hd8
                          have HOd := Lib.hid hd8
                          obtain ⟨db, hdb⟩ : ∃ db, db = wr.heap.size := ⟨_, rfl⟩
                          clear hPT HO HTs hV hd8 HDr HGo
                          have hdj : decide (j < kz) = false := decide_eq_false (by omega)
                          go_wp2_with fail
                          rw [← hdb] at HOd ⊢
                          try rw [hdj]
                          clear hdb hdj
                          go_loopw [28] (fun y wr => RDg w [⟨A, nn, c, bys word⟩, ⟨A2, k, c2, nats E⟩] w.heap.size d m f (w.heap.size + 1) gq nn cr db V word y wr) (fun y _ => nn - (intOf y).toNat)
                          case atStart => exact ⟨0, 0, 0, none, 0, Nat.zero_le _, Nat.le_refl _, rfl, ⟨rfl, rfl⟩, HOd.out⟩
                          case round =>
                            clear HOd HOc
                            obtain ⟨i, kc, oc, Ac, cc, hi, hkc, rfl, HK, HO⟩ := hrel
                            obtain ⟨hy0, hy1, hy2⟩ := HO.out.dec 3 rfl
                            rcases Nat.lt_or_ge i nn with hin | hin
                            · have t6 : decide ((i : Int) < (nn : Int)) = true := decide_eq_true (by omega)
                              have hxv := HO.out.byteO 2 rfl (Sy.wd_lt (l := V) (i := i) (by rw [HVl.out]; exact hin))
                              obtain ⟨adw, rfl, hxw⟩ := HO.out.byteL 0 rfl (Sy.wd_lt (l := word) (i := i) (by rw [HN.out]; exact hin))
                              by_cases hvw : Sy.wd V i = Sy.wd word i
                              · have HF : Hid ((List.range (i + 1)).filter (fun j => Sy.wd V j != Sy.wd word j) = (List.range i).filter fun j => Sy.wd V j != Sy.wd word j) := by
                                  unfold Hid
                                  rw [List.range_succ, List.filter_append, List.filter_cons, hvw]
                                  simp
                                rw [hvw] at hxv
                                generalize Sy.wd word i = wj at *
                                have hne : ((wj.toNat : Int) != (wj.toNat : Int)) = false := by simp
                                clear hvw hy0 hy1 hy2
                                go_wp2_with fail
                                go_quiet (fail)
                                go_wp2_with fail
                                go_roundw
                                case rel => exact ⟨i + 1, kc, oc, Ac, cc, by omega, by omega, by go_num, by unfold Hid; rw [HF.out]; exact HK.out, by rw [HF.out]; exact HO.out.drewN _⟩
                                case measure => simp [intOf]; omega
                              · have hbn : (Sy.wd V i != Sy.wd word i) = true := bne_iff_ne.2 hvw
                                have HF : Hid ((List.range (i + 1)).filter (fun j => Sy.wd V j != Sy.wd word j) = ((List.range i).filter fun j => Sy.wd V j != Sy.wd word j) ++ [i]) := by
                                  unfold Hid
                                  rw [List.range_succ, List.filter_append, List.filter_cons, if_pos hbn]
                                  rfl
                                have hneb : (((Sy.wd V i).toNat : Int) != ((Sy.wd word i).toNat : Int)) = true := bne_iff_ne.2 fun e => hvw (UInt8.toNat_inj.1 (by omega))
                                generalize Sy.wd word i = wj at *
                                generalize Sy.wd V i = vj at *
                                have HOq := Lib.hid HO.out
                                clear hvw hbn HO
                                go_wp2_with fail
                                go_quiet (fail)
                                have HOq2 := Lib.hid (HOq.out.drewN nq)
                                obtain ⟨wa, hwa⟩ : ∃ wa, wr.drewN nq = wa := ⟨_, rfl⟩
                                rw [hwa] at HOq2 ⊢
                                clear HOq hxv hxw hy0 hy1 hy2 hwa
                                obtain ⟨hy0, hy1, hy2⟩ := HOq2.out.dec 3 rfl
                                have hfo := HOq2.out.frzO 3 (vs := _) rfl 0
                                go_upto_region 47 with (fail)
                                generalize hw3 : World.setCell wa ⟨db, 0, none⟩ _ = wb
                                have G := HOq2.out.put 3 rfl 0 (.int .i64 ((1 : Nat) : Int))
                                rw [show wa.setCell ⟨db, 0, none⟩ (.int .i64 ((1 : Nat) : Int)) = wb from hw3] at G
                                have HG : Hid (Ow w wb none [] [⟨some adw, nn, c, bys word⟩, ⟨A2, k, c2, nats E⟩] [codeR w.heap.size d m f, decRw (w.heap.size + 1) 0 none 0 0 none 0 0, ⟨some ⟨gq, 0, none⟩, nn, cr, 5, bys V⟩, decRw db 1 (some ⟨gq, 0, none⟩) nn cr Ac kc cc, ⟨Ac, kc, cc, 3, nats ((List.range i).filter fun j => Sy.wd V j != Sy.wd word j)⟩]) := G
                                clear hw3 G HOq2 hy0 hy1 hy2 hfo
                                obtain ⟨hy0, hy1, hy2⟩ := HG.out.dec 3 rfl
                                have hkc40 : kc ≤ 40 := by omega
                                go_wp2_with (at_builtin; refine ow_append1 elemI HG.out 4 (.tmp 191) (.tmp 193) _ _ rfl rfl (by unfold maxLen; omega) (by omega) rfl rfl rfl rfl ?_; intro A' c' w8 how; rw [nats_snoc, ← HF.out] at how; have hz2 := (how.dec 3 rfl).2.2; have hzf := how.frzO 3 (vs := _) rfl 2)
                                go_roundw
                                case rel => exact ⟨i + 1, kc + 1, 1, A', c', by omega, by omega, by go_num, ⟨by rw [HF.out, List.length_append, ← HK.out.1]; rfl, by rw [if_neg (by omega)]⟩, how.put 3 rfl 2 (.slice A' (kc + 1) c')⟩
                                case measure => simp [intOf]; omega
                            · have t6 : decide ((i : Int) < (nn : Int)) = false := decide_eq_false (by omega)
                              obtain rfl : i = nn := by omega
                              have HDf : Hid (Sy.diff i V word = (List.range i).filter fun j => Sy.wd V j != Sy.wd word j) := rfl
                              have hoc : Hid ((if V = word then (0 : Nat) else 1) = oc) := by unfold Hid; rw [Sy.diff_nil HVl.out HN.out, HDf.out, ← HK.out.1, HK.out.2]
                              obtain ⟨hr0, hr1, hr2⟩ := HO.out.dec 1 rfl
                              have hrf0 := HO.out.frzO 1 (vs := _) rfl 0
                              have hrf1 := HO.out.frzO 1 (vs := _) rfl 1
                              have hrf2 := HO.out.frzO 1 (vs := _) rfl 2
                              go_wp2_with fail
                              have G := ((HO.out.put 1 rfl 0 (.int .i64 (oc : Int))).put 1 rfl 1 (.slice (some ⟨gq, 0, none⟩) i cr)).put 1 rfl 2 (.slice Ac kc cc)
                              obtain ⟨k0, k1, k2⟩ := G.dec (o := oc) (A1 := some ⟨gq, 0, none⟩) (n1 := i) (c1 := cr) (A2 := Ac) (n2 := kc) (c2 := cc) 1 rfl
                              refine bodyPost_ret (v := .tuple #[.agg #[.int .i64 (oc : Int), .slice (some ⟨gq, 0, none⟩) i cr, .slice Ac kc cc], .int .i64 0]) (by simp [results, Tryz.results55, go_sem, k0, k1, k2]) rfl ?_
                              rw [HRn.out, hoc.out]
                              have h8 := G.row 4 rfl
                              rw [← HDf.out] at h8
                              exact ⟨some ⟨gq, 0, none⟩, i, cr, Ac, kc, cc, rfl, HVl.out, by rw [HDf.out]; exact HK.out.1.symm, G.row 2 rfl, h8, G.below⟩
                    · have HTn : Hid (Sy.tryH nn S U E word ko = none) := by unfold Hid; rw [HTr.out, had]
                      have HO9 := Lib.hid (HO.out.go hbz)
                      clear had hbz HO HAm HTr
                      go_wp2_with fail
                      go_roundw
                      case rel => exact ⟨ko + 1, by omega, by go_num, HGo.out HTn.out, HO9.out.few 4⟩
                      case measure => simp [intOf]; omega
            · have HTn : Hid (Sy.tryH nn S U E word v = none) := by unfold Hid Sy.tryH; rw [ho]
              have HO9 := Lib.hid (HO.out.go hbo)
              clear ho hbo HO HLo
              go_wp2_with fail
              go_roundw
              case rel => exact ⟨v + 1, by omega, by go_num, HGo.out HTn.out, HO9.out⟩
              case measure => simp [intOf]; omega
      · have t1 : decide ((f : Int) < (q : Int)) = false := decide_eq_false (by omega)
        have hmn : min f q = q := by omega
        rw [hmn] at hD
        have hfd : decide (f < q) = false := decide_eq_false (by omega)
        go_wp2_with fail
        try rw [hq1]
        try rw [hfd]
        clear t1 hq1 hfd hc0 hc1 hc2 hc3
        go_loopw [17] (fun y wr => RDc w [⟨A, nn, c, bys word⟩, ⟨A2, k, c2, nats E⟩] ([codeR w.heap.size d m f, decRw (w.heap.size + 1) 0 none 0 0 none 0 0, ⟨As, m, cs, 5, bys S⟩] ++ [⟨some ⟨gu, 0, none⟩, lu, cu, 5, bys U⟩]) q nn S U E word D y wr) (fun y _ => q + 1 - (intOf y).toNat)
        case atStart => exact ⟨0, Nat.zero_le _, rfl, hD.out, HO5.out⟩
        case round =>
          clear HO5 hD
          obtain ⟨v, hv, rfl, HD, HO⟩ := hrel
          rcases Nat.lt_or_ge q v with hvm | hvm
          · have t2 : decide ((v : Int) ≤ (q : Int)) = false := decide_eq_false (by omega)
            have HRn : Hid (Sy.refDec m f word E = (2, [], [])) := by
              unfold Hid
              have e : q + 1 - v = 0 := by omega
              rw [HRef.out, HD.out, e]
              rfl
            obtain ⟨hr0, hr1, hr2⟩ := HO.out.dec 1 rfl
            have hrf0 := HO.out.frzO 1 (vs := _) rfl 0
            have hrf1 := HO.out.frzO 1 (vs := _) rfl 1
            have hrf2 := HO.out.frzO 1 (vs := _) rfl 2
            go_wp2_with fail
            have G := ((HO.out.put 1 rfl 0 (.int .i64 2)).put 1 rfl 1 (.slice none 0 0)).put 1 rfl 2 (.slice none 0 0)
            obtain ⟨k0, k1, k2⟩ := G.dec (o := 2) (A1 := none) (n1 := 0) (c1 := 0) (A2 := none) (n2 := 0) (c2 := 0) 1 rfl
            refine bodyPost_ret (v := .tuple #[.agg #[.int .i64 2, .slice none 0 0, .slice none 0 0], .int .i64 0]) (by simp [results, Tryz.results55, go_sem, k0, k1, k2]) rfl ?_
            rw [HRn.out]
            exact ⟨none, 0, 0, none, 0, 0, rfl, rfl, rfl, World.ownsRow_nil _ _ _ _, World.ownsRow_nil _ _ _ _, G.below⟩
          · have t2 : decide ((v : Int) ≤ (q : Int)) = true := decide_eq_true (by omega)
            obtain ⟨r, hr⟩ : ∃ r : Nat, Hid (r = q - v) := ⟨_, rfl⟩
            have HDr : Hid (D = Sy.decH nn S U E word (r + 1) v) := by unfold Hid; rw [HD.out, show q + 1 - v = r + 1 by have := hr.out; omega]
            have HGo : Hid (Sy.tryH nn S U E word v = none → D = Sy.decH nn S U E word (q + 1 - (v + 1)) (v + 1)) := fun h => by
              rw [HDr.out, Sy.decH_go h, show q + 1 - (v + 1) = r by have := hr.out; omega]
            have HLo := Lib.hid (rlocate_any (some ⟨gu, 0, none⟩) lu cu nn v U wr HUl.out (Sl.of_own (HO.out.row 3 rfl)) hluc (by omega) (by omega) (by omega) (by have := (own_cap (HO.out.row 3 rfl)).2; unfold maxLen at this; omega))
            clear HD hr
            go_wp2_with fail
            refine HLo.out.mono ?_
            rintro en w5 ⟨Ao, ko, co, bo, rfl, hbo, ⟨rfl, o, ho, hol, hoo⟩ | ⟨rfl, ho⟩⟩
            · have hov : ko = v := by
                rw [← hol]
                unfold Sy.locH at ho
                cases e : Sy.solve (Sy.hank U v) v with
                | none => rw [e] at ho; cases ho
                | some l =>
                  rw [e] at ho
                  dsimp only at ho
                  by_cases e2 : (Sy.rootsH l nn v).length = v
                  · rw [if_pos e2] at ho
                    obtain rfl := Option.some.inj ho
                    exact e2
                  · rw [if_neg e2] at ho; cases ho
              subst hov
              have HOl := Lib.hid hol
              have holt : ∀ p ∈ o, p < nn := fun p hp => by
                unfold Sy.locH at ho
                cases e : Sy.solve (Sy.hank U ko) ko with
                | none => rw [e] at ho; cases ho
                | some l =>
                  rw [e] at ho
                  dsimp only at ho
                  by_cases e2 : (Sy.rootsH l nn ko).length = ko
                  · rw [if_pos e2] at ho
                    obtain rfl := Option.some.inj ho
                    exact List.mem_range.1 (List.mem_filter.1 hp).1
                  · rw [if_neg e2] at ho; cases ho
              have HOlt := Lib.hid holt
              have HLH := Lib.hid ho
              have HO6 := Lib.hid (HO.out.add hoo hbo)
              simp only [List.nil_append, List.cons_append] at HO6
              have HX := Lib.hid (HO6.out.nil 3)
              have HEs := Lib.hid (HO6.out.sl (i := 1) rfl).2.2.2
              have hko8 : ko ≤ 8 := by omega
              clear ho hol hoo hbo holt HLo HO
              go_wp2_with (first | (at_builtin; refine ow_append elemI HX.out 5 (.const (.slice none 0 0)) (.tmp 114) rfl (m := k) (news := nats E) (by rw [nats_length, HNE.out]) HEs.out (nats_one E) (by unfold maxLen; omega) (by omega) rfl rfl rfl rfl ?_; intro Ap cp w6 how; simp only [List.cons_append, List.nil_append, List.set_cons_zero, List.set_cons_succ, Nat.zero_add] at how ⊢; have HO7 := Lib.hid how; clear how; have HOs := Lib.hid (Sl.of_own (HO7.out.row 4 rfl))) | (at_builtin; refine ow_append elemI HO7.out 5 (.tmp 115) (.tmp 116) rfl (m := ko) (news := nats o) (by rw [nats_length, HOl.out]) HOs.out (nats_one o) (by unfold maxLen; omega) (by omega) rfl rfl rfl rfl ?_; intro Aq cq w7 how; simp only [List.set_cons_zero, List.set_cons_succ] at how; have HO8 := Lib.hid how; clear how))
              have e8 : nats E ++ nats o = nats (E ++ o) := by unfold nats; rw [List.map_append]
              rw [e8] at HO8
              clear e8 HX HEs HO6 HO7 HOs
              go_loopw [21, 22] (fun x y wr => RDd w [⟨A, nn, c, bys word⟩, ⟨A2, k, c2, nats E⟩] [codeR w.heap.size d m f, decRw (w.heap.size + 1) 0 none 0 0 none 0 0, ⟨As, m, cs, 5, bys S⟩, ⟨some ⟨gu, 0, none⟩, lu, cu, 5, bys U⟩, ⟨Ao, ko, co, 3, nats o⟩, ⟨Aq, k + ko, cq, 3, nats (E ++ o)⟩] ko E o x y wr) (fun _ y _ => ko - (intOf y).toNat)
              case atStart => exact ⟨0, Nat.zero_le _, rfl, rfl, HO8.out⟩
              case round =>
                clear HO8
                obtain ⟨i, hi, rfl, rfl, HO⟩ := hrel
                rcases Nat.lt_or_ge i ko with hiv | hiv
                · have t3 : decide ((i : Int) < (ko : Int)) = true := decide_eq_true (by omega)
                  obtain ⟨p, hp⟩ : ∃ p, o[i]? = some p := ⟨_, List.getElem?_eq_getElem (by rw [HOl.out]; exact hiv)⟩
                  have HMt := Lib.hid (Sy.meets_snoc E hp)
                  have HPo := Lib.hid hp
                  obtain ⟨b0, hb0⟩ : ∃ b0, b0 = Sy.meets E (o.take i) := ⟨_, rfl⟩
                  rw [← hb0] at HMt ⊢
                  obtain ⟨go, rfl, -, -⟩ := own_form (HO.out.row 4 rfl) (by omega)
                  clear hp hb0
                  go_wp2_with fail
                  go_loopw [21, 23] (fun x y wr => RDe w [⟨A, nn, c, bys word⟩, ⟨A2, k, c2, nats E⟩] [codeR w.heap.size d m f, decRw (w.heap.size + 1) 0 none 0 0 none 0 0, ⟨As, m, cs, 5, bys S⟩, ⟨some ⟨gu, 0, none⟩, lu, cu, 5, bys U⟩, ⟨some ⟨go, 0, none⟩, ko, co, 3, nats o⟩, ⟨Aq, k + ko, cq, 3, nats (E ++ o)⟩] k p b0 E x y wr) (fun _ y _ => k - (intOf y).toNat)
                  case atStart => exact ⟨0, Nat.zero_le _, rfl, by simp, HO.out⟩
                  case round =>
                    clear HO
                    obtain ⟨j, hj, rfl, rfl, HO⟩ := hrel
                    rcases Nat.lt_or_ge j k with hjk | hjk
                    · have t4 : decide ((j : Int) < (k : Int)) = true := decide_eq_true (by omega)
                      obtain ⟨y, hy⟩ : ∃ y, E[j]? = some y := ⟨_, List.getElem?_eq_getElem (by rw [HNE.out]; exact hjk)⟩
                      have HCt := Lib.hid (Sy.cont_snoc E (x := p) hy)
                      obtain ⟨ad2, rfl, hcy⟩ := HO.out.natL 1 rfl hy
                      have hcp := HO.out.natO 4 rfl HPo.out
                      obtain ⟨b1, hb1⟩ : ∃ b1, b1 = (b0 || (E.take j).contains p) := ⟨_, rfl⟩
                      have HB : Hid ((b0 || (E.take (j + 1)).contains p) = (b1 || (p == y))) := by unfold Hid; rw [HCt.out, hb1, Bool.or_assoc]
                      rw [← hb1]
                      clear hy hb1
                      cases b1 with
                      | true =>
                        have HB2 : Hid (true = (b0 || (E.take (j + 1)).contains p)) := by unfold Hid; rw [HB.out]; rfl
                        go_wp2_with fail
                        go_quiet (fail)
                        go_wp2_with fail
                        go_roundw
                        case rel => exact ⟨j + 1, by omega, by go_num, by rw [← HB2.out], HO.out.drewN _⟩
                        case measure => simp [intOf]; omega
                      | false =>
                        obtain ⟨bb, hbb⟩ : ∃ bb : Bool, Hid (bb = (p == y)) := ⟨_, rfl⟩
                        have HB2 : Hid (bb = (b0 || (E.take (j + 1)).contains p)) := by unfold Hid; rw [HB.out, hbb.out]; rfl
                        have hpi : ((p : Int) == (y : Int)) = bb := by rw [hbb.out]; exact int_beq p y
                        have hpi2 : (p == y) = bb := hbb.out.symm
                        go_wp2_with fail
                        go_quiet (fail)
                        go_wp2_with fail
                        go_roundw
                        case rel => exact ⟨j + 1, by omega, by go_num, by rw [← HB2.out], HO.out.drewN _⟩
                        case measure => simp [intOf]; omega
                    · have t4 : decide ((j : Int) < (k : Int)) = false := decide_eq_false (by omega)
                      have hET : E.take j = E := List.take_of_length_le (by rw [HNE.out]; exact hjk)
                      rw [hET, ← HMt.out]
                      clear hET
                      go_wp2_with fail
                      go_roundw
                      case rel => exact ⟨i + 1, by omega, by go_num, rfl, HO.out⟩
                      case measure => simp [intOf]; omega
                · have t3 : decide ((i : Int) < (ko : Int)) = false := decide_eq_false (by omega)
                  have hoT : o.take i = o := List.take_of_length_le (by rw [HOl.out]; exact hiv)
                  rw [hoT]
                  cases hme : Sy.meets E o with
                  | true =>
                    have HTr : Hid (Sy.tryH nn S U E word ko = none) := by
                      unfold Hid Sy.tryH
                      rw [HLH.out]
                      dsimp only
                      rw [hme, if_pos rfl]
                    clear hme hoT
                    go_wp2_with fail
                    go_roundw
                    case rel => exact ⟨ko + 1, by omega, by go_num, HGo.out HTr.out, HO.out.few 4⟩
                    case measure => simp [intOf]; omega
                  | false =>
                    obtain ⟨np, hnp⟩ : ∃ np : Nat, Hid (np = k + ko) := ⟨_, rfl⟩
                    rw [← hnp.out] at HO ⊢
                    have hnp16 : np ≤ 16 := by have := hnp.out; omega
                    have HPl : Hid ((E ++ o).length = np) := by unfold Hid; rw [List.length_append, HNE.out, HOl.out, hnp.out]
                    have HPlt : Hid (∀ p ∈ E ++ o, p < nn) := fun p hp => by
                      rcases List.mem_append.1 hp with hp | hp
                      · exact HEr.out.lt p hp
                      · exact HOlt.out p hp
                    have HAm := Lib.hid (amounts_any As m cs nn Aq np cq S (E ++ o) wr HSl.out (Sl.of_own (HO.out.row 2 rfl)) (own_cap (HO.out.row 2 rfl)).1 HPl.out (Sl.of_own (HO.out.row 5 rfl)) (own_cap (HO.out.row 5 rfl)).1 (by omega) (by omega) (by omega) HPlt.out (by omega))
                    have HTr : Hid (Sy.tryH nn S U E word ko = match Sy.solve (Sy.rows0 S nn (E ++ o)) np with | none => none | some ad => some (Sy.fixW word (E ++ o) ad)) := by
                      unfold Hid Sy.tryH
                      rw [HLH.out]
                      dsimp only
                      rw [hme, if_neg (by simp), HPl.out]
                      rfl
                    obtain ⟨P, hP⟩ : ∃ P, P = E ++ o := ⟨_, rfl⟩
                    rw [← hP] at HO HPl HPlt HAm HTr
                    clear hme hoT hP
                    go_wp2_with fail
                    refine HAm.out.mono ?_
                    rintro en w8 ⟨Az, kz, cz, bz, rfl, hbz, ⟨rfl, ad, had, hal, hao⟩ | ⟨rfl, had⟩⟩
                    · have HTs : Hid (Sy.tryH nn S U E word ko = some (Sy.fixW word P ad)) := by unfold Hid; rw [HTr.out, had]
                      have hkz : kz = np := by
                        rw [← hal]
                        have h6 := Sy.wid_rows0 S nn P
                        rw [HPl.out] at h6
                        exact (Sy.solve_sound h6 had).1
                      subst hkz
                      have HAl := Lib.hid hal
                      have HO9 := Lib.hid (HO.out.add hao hbz)
                      simp only [List.nil_append, List.cons_append] at HO9
                      have HX := Lib.hid (HO9.out.nil 5)
                      have HWs := Lib.hid (HO9.out.sl (i := 0) rfl).2.2.2
                      clear had hal hao hbz HO HAm HTr
                      go_wp2_with (at_builtin; refine ow_append elemB HX.out 7 (.const (.slice none 0 0)) (.tmp 152) rfl (m := nn) (news := bys word) (by rw [bys_length, HN.out]) HWs.out (bys_one word) (by unfold maxLen; omega) (by omega) rfl rfl rfl rfl ?_; intro Ar cr w9 how; simp only [List.cons_append, List.nil_append, List.set_cons_zero, List.set_cons_succ, Nat.zero_add] at how ⊢; have HOa := Lib.hid how; clear how)
                      obtain ⟨gq, rfl, -, -⟩ := own_form (HOa.out.row 7 rfl) (by omega)
                      have HOb : Hid (Ow w w9 none [] [⟨A, nn, c, bys word⟩, ⟨A2, k, c2, nats E⟩] ([codeR w.heap.size d m f, decRw (w.heap.size + 1) 0 none 0 0 none 0 0, ⟨As, m, cs, 5, bys S⟩, ⟨some ⟨gu, 0, none⟩, lu, cu, 5, bys U⟩, ⟨Ao, ko, co, 3, nats o⟩, ⟨Aq, kz, cq, 3, nats P⟩, ⟨Az, kz, cz, 5, bys ad⟩] ++ [⟨some ⟨gq, 0, none⟩, nn, cr, 5, bys (Sy.fixW word (P.take 0) ad)⟩])) := by
                        unfold Hid
                        rw [List.take_zero, Sy.fixW_zero]
                        exact HOa.out
                      clear HX HWs HO9 HOa
                      go_loopw [26] (fun y wr => RDf w [⟨A, nn, c, bys word⟩, ⟨A2, k, c2, nats E⟩] [codeR w.heap.size d m f, decRw (w.heap.size + 1) 0 none 0 0 none 0 0, ⟨As, m, cs, 5, bys S⟩, ⟨some ⟨gu, 0, none⟩, lu, cu, 5, bys U⟩, ⟨Ao, ko, co, 3, nats o⟩, ⟨Aq, kz, cq, 3, nats P⟩, ⟨Az, kz, cz, 5, bys ad⟩] kz gq cr nn word P ad y wr) (fun y _ => kz - (intOf y).toNat)
                      case atStart => exact ⟨0, Nat.zero_le _, rfl, HOb.out⟩
                      case round =>
                        clear HOb
                        obtain ⟨j, hj, rfl, HO⟩ := hrel
                        rcases Nat.lt_or_ge j kz with hjk | hjk
                        · have t5 : decide ((j : Int) < (kz : Int)) = true := decide_eq_true (by omega)
                          obtain ⟨p, hp⟩ : ∃ p, P[j]? = some p := ⟨_, List.getElem?_eq_getElem (by rw [HPl.out]; exact hjk)⟩
                          have hpn : p < nn := HPlt.out p (List.mem_of_getElem? hp)
                          obtain ⟨gP, rfl, -, -⟩ := own_form (HO.out.row 5 rfl) (by omega)
                          obtain ⟨gA, rfl, -, -⟩ := own_form (HO.out.row 6 rfl) (by omega)
                          have hcp := HO.out.natO 5 rfl hp
                          have hca := HO.out.byteO 6 rfl (Sy.wd_lt (l := ad) (i := j) (by rw [HAl.out]; exact hjk))
                          have hcw := HO.out.byteO 7 rfl (Sy.wd_lt (l := Sy.fixW word (P.take j) ad) (i := p) (by rw [Sy.fixW_length, HN.out]; exact hpn))
                          have hfr := HO.out.frzO 7 (vs := _) rfl p
                          obtain ⟨a, ha⟩ : ∃ a, a = Sy.wd ad j := ⟨_, rfl⟩
                          obtain ⟨b, hb⟩ : ∃ b, b = Sy.wd (Sy.fixW word (P.take j) ad) p := ⟨_, rfl⟩
                          rw [← ha] at hca
                          rw [← hb] at hcw
                          obtain ⟨y, hy, HY⟩ := xor_ex b a
                          have HUp : Hid ((Sy.fixW word (P.take j) ad).set p y = Sy.fixW word (P.take (j + 1)) ad) := by
                            unfold Hid
                            rw [HY.out, hb, ha]
                            exact Sy.fixW_step word hp (by rw [HN.out]; exact hpn)
                          have HZ := Lib.hid (HO.out.go (Below.refl _ _).drew)
                          have s1 : (j : Int) < (kz : Int) := by omega
                          have s2 : (p : Int) < (nn : Int) := by omega
                          clear ha hb hp
                          go_wp2_with fail
                          refine wp_region_still_tail 13 (by kernel_rfl) (by kernel_rfl) ?_
                          simp only [List.take_succ_cons, List.take_zero, List.drop_succ_cons, List.drop_zero]
                          repeat still_step
                          refine wpStill_nil ?_
                          change wpList _ _ _ _ _ (World.drew _)
                          go_wp2_with fail
                          go_roundw
                          case rel =>
                            have h7 := HZ.out.putB 7 rfl p y
                            rw [HUp.out] at h7
                            exact ⟨j + 1, by omega, by go_num, h7⟩
                          case measure => simp [intOf]; omega
                        · have t5 : decide ((j : Int) < (kz : Int)) = false := decide_eq_false (by omega)
                          have hPT : P.take j = P := List.take_of_length_le (by rw [HPl.out]; exact hjk)
                          rw [hPT] at HO
                          obtain ⟨V, hV⟩ : ∃ V, V = Sy.fixW word P ad := ⟨_, rfl⟩
                          have HVl : Hid (V.length = nn) := by unfold Hid; rw [hV, Sy.fixW_length, HN.out]
                          rw [← hV] at HO HTs
                          have HRn : Hid (Sy.refDec m f word E = (if V = word then 0 else 1, V, Sy.diff nn V word)) := by
                            unfold Hid
                            rw [HRef.out, HDr.out, Sy.decH_got HTs.out]
                          have HOc : Hid (Ow w wr none [] [⟨A, nn, c, bys word⟩, ⟨A2, k, c2, nats E⟩] [codeR w.heap.size d m f, decRw (w.heap.size + 1) 0 none 0 0 none 0 0, ⟨some ⟨gq, 0, none⟩, nn, cr, 5, bys V⟩]) := HO.out.re (fun i => if i < 2 then i else 7) (fun i j hi hj h => by simp only [List.length_cons, List.length_nil] at hi hj; split at h <;> split at h <;> omega) (fun i r hi => by rcases i with _ | _ | _ | i <;> simp at hi ⊢ <;> exact hi)
                          have hd8 := (HOc.out.arr #[.int .i64 0, .slice (some ⟨gq, 0, none⟩) nn cr, .slice none 0 0] 3 rfl (by omega) 83).nil 3
                          simp only [List.nil_append, List.cons_append] at hd8
                          have HOd := Lib.hid hd8
                          obtain ⟨db, hdb⟩ : ∃ db, db = wr.heap.size := ⟨_, rfl⟩
                          clear hPT HO HTs hV hd8 HDr HGo
                          have hdj : decide (j < kz) = false := decide_eq_false (by omega)
                          go_wp2_with fail
                          rw [← hdb] at HOd ⊢
                          try rw [hdj]
                          clear hdb hdj
                          go_loopw [28] (fun y wr => RDg w [⟨A, nn, c, bys word⟩, ⟨A2, k, c2, nats E⟩] w.heap.size d m f (w.heap.size + 1) gq nn cr db V word y wr) (fun y _ => nn - (intOf y).toNat)
                          case atStart => exact ⟨0, 0, 0, none, 0, Nat.zero_le _, Nat.le_refl _, rfl, ⟨rfl, rfl⟩, HOd.out⟩
                          case round =>
                            clear HOd HOc
                            obtain ⟨i, kc, oc, Ac, cc, hi, hkc, rfl, HK, HO⟩ := hrel
                            obtain ⟨hy0, hy1, hy2⟩ := HO.out.dec 3 rfl
                            rcases Nat.lt_or_ge i nn with hin | hin
                            · have t6 : decide ((i : Int) < (nn : Int)) = true := decide_eq_true (by omega)
                              have hxv := HO.out.byteO 2 rfl (Sy.wd_lt (l := V) (i := i) (by rw [HVl.out]; exact hin))
                              obtain ⟨adw, rfl, hxw⟩ := HO.out.byteL 0 rfl (Sy.wd_lt (l := word) (i := i) (by rw [HN.out]; exact hin))
                              by_cases hvw : Sy.wd V i = Sy.wd word i
                              · have HF : Hid ((List.range (i + 1)).filter (fun j => Sy.wd V j != Sy.wd word j) = (List.range i).filter fun j => Sy.wd V j != Sy.wd word j) := by
                                  unfold Hid
                                  rw [List.range_succ, List.filter_append, List.filter_cons, hvw]
                                  simp
                                rw [hvw] at hxv
                                generalize Sy.wd word i = wj at *
                                have hne : ((wj.toNat : Int) != (wj.toNat : Int)) = false := by simp
                                clear hvw hy0 hy1 hy2
                                go_wp2_with fail
                                go_quiet (fail)
                                go_wp2_with fail
                                go_roundw
                                case rel => exact ⟨i + 1, kc, oc, Ac, cc, by omega, by omega, by go_num, by unfold Hid; rw [HF.out]; exact HK.out, by rw [HF.out]; exact HO.out.drewN _⟩
                                case measure => simp [intOf]; omega
                              · have hbn : (Sy.wd V i != Sy.wd word i) = true := bne_iff_ne.2 hvw
                                have HF : Hid ((List.range (i + 1)).filter (fun j => Sy.wd V j != Sy.wd word j) = ((List.range i).filter fun j => Sy.wd V j != Sy.wd word j) ++ [i]) := by
                                  unfold Hid
                                  rw [List.range_succ, List.filter_append, List.filter_cons, if_pos hbn]
                                  rfl
                                have hneb : (((Sy.wd V i).toNat : Int) != ((Sy.wd word i).toNat : Int)) = true := bne_iff_ne.2 fun e => hvw (UInt8.toNat_inj.1 (by omega))
                                generalize Sy.wd word i = wj at *
                                generalize Sy.wd V i = vj at *
                                have HOq := Lib.hid HO.out
                                clear hvw hbn HO
                                go_wp2_with fail
                                go_quiet (fail)
                                have HOq2 := Lib.hid (HOq.out.drewN nq)
                                obtain ⟨wa, hwa⟩ : ∃ wa, wr.drewN nq = wa := ⟨_, rfl⟩
                                rw [hwa] at HOq2 ⊢
                                clear HOq hxv hxw hy0 hy1 hy2 hwa
                                obtain ⟨hy0, hy1, hy2⟩ := HOq2.out.dec 3 rfl
                                have hfo := HOq2.out.frzO 3 (vs := _) rfl 0
                                go_upto_region 47 with (fail)
                                generalize hw3 : World.setCell wa ⟨db, 0, none⟩ _ = wb
                                have G := HOq2.out.put 3 rfl 0 (.int .i64 ((1 : Nat) : Int))
                                rw [show wa.setCell ⟨db, 0, none⟩ (.int .i64 ((1 : Nat) : Int)) = wb from hw3] at G
                                have HG : Hid (Ow w wb none [] [⟨some adw, nn, c, bys word⟩, ⟨A2, k, c2, nats E⟩] [codeR w.heap.size d m f, decRw (w.heap.size + 1) 0 none 0 0 none 0 0, ⟨some ⟨gq, 0, none⟩, nn, cr, 5, bys V⟩, decRw db 1 (some ⟨gq, 0, none⟩) nn cr Ac kc cc, ⟨Ac, kc, cc, 3, nats ((List.range i).filter fun j => Sy.wd V j != Sy.wd word j)⟩]) := G
                                clear hw3 G HOq2 hy0 hy1 hy2 hfo
                                obtain ⟨hy0, hy1, hy2⟩ := HG.out.dec 3 rfl
                                have hkc40 : kc ≤ 40 := by omega
                                go_wp2_with (at_builtin; refine ow_append1 elemI HG.out 4 (.tmp 191) (.tmp 193) _ _ rfl rfl (by unfold maxLen; omega) (by omega) rfl rfl rfl rfl ?_; intro A' c' w8 how; rw [nats_snoc, ← HF.out] at how; have hz2 := (how.dec 3 rfl).2.2; have hzf := how.frzO 3 (vs := _) rfl 2)
                                go_roundw
                                case rel => exact ⟨i + 1, kc + 1, 1, A', c', by omega, by omega, by go_num, ⟨by rw [HF.out, List.length_append, ← HK.out.1]; rfl, by rw [if_neg (by omega)]⟩, how.put 3 rfl 2 (.slice A' (kc + 1) c')⟩
                                case measure => simp [intOf]; omega
                            · have t6 : decide ((i : Int) < (nn : Int)) = false := decide_eq_false (by omega)
                              obtain rfl : i = nn := by omega
                              have HDf : Hid (Sy.diff i V word = (List.range i).filter fun j => Sy.wd V j != Sy.wd word j) := rfl
                              have hoc : Hid ((if V = word then (0 : Nat) else 1) = oc) := by unfold Hid; rw [Sy.diff_nil HVl.out HN.out, HDf.out, ← HK.out.1, HK.out.2]
                              obtain ⟨hr0, hr1, hr2⟩ := HO.out.dec 1 rfl
                              have hrf0 := HO.out.frzO 1 (vs := _) rfl 0
                              have hrf1 := HO.out.frzO 1 (vs := _) rfl 1
                              have hrf2 := HO.out.frzO 1 (vs := _) rfl 2
                              go_wp2_with fail
                              have G := ((HO.out.put 1 rfl 0 (.int .i64 (oc : Int))).put 1 rfl 1 (.slice (some ⟨gq, 0, none⟩) i cr)).put 1 rfl 2 (.slice Ac kc cc)
                              obtain ⟨k0, k1, k2⟩ := G.dec (o := oc) (A1 := some ⟨gq, 0, none⟩) (n1 := i) (c1 := cr) (A2 := Ac) (n2 := kc) (c2 := cc) 1 rfl
                              refine bodyPost_ret (v := .tuple #[.agg #[.int .i64 (oc : Int), .slice (some ⟨gq, 0, none⟩) i cr, .slice Ac kc cc], .int .i64 0]) (by simp [results, Tryz.results55, go_sem, k0, k1, k2]) rfl ?_
                              rw [HRn.out, hoc.out]
                              have h8 := G.row 4 rfl
                              rw [← HDf.out] at h8
                              exact ⟨some ⟨gq, 0, none⟩, i, cr, Ac, kc, cc, rfl, HVl.out, by rw [HDf.out]; exact HK.out.1.symm, G.row 2 rfl, h8, G.below⟩
                    · have HTn : Hid (Sy.tryH nn S U E word ko = none) := by unfold Hid; rw [HTr.out, had]
                      have HO9 := Lib.hid (HO.out.go hbz)
                      clear had hbz HO HAm HTr
                      go_wp2_with fail
                      go_roundw
                      case rel => exact ⟨ko + 1, by omega, by go_num, HGo.out HTn.out, HO9.out.few 4⟩
                      case measure => simp [intOf]; omega
            · have HTn : Hid (Sy.tryH nn S U E word v = none) := by unfold Hid Sy.tryH; rw [ho]
              have HO9 := Lib.hid (HO.out.go hbo)
              clear ho hbo HO HLo
              go_wp2_with fail
              go_roundw
              case rel => exact ⟨v + 1, by omega, by go_num, HGo.out HTn.out, HO9.out⟩
              case measure => simp [intOf]; omega
end Go.Proofs.YtnplaejlmbncfaaGreatDoor
