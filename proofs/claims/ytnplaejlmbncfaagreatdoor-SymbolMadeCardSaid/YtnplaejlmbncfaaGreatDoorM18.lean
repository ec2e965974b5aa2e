/- Yr Ys Yt LawSl -/
import Derived.Test.YtnplaejlmbncfaaGreatDoorM01
import Derived.Test.YtnplaejlmbncfaaGreatDoorM04
import Derived.Test.YtnplaejlmbncfaaGreatDoorM12
import Derived.Test.YtnplaejlmbncfaaGreatDoorM17
import Derived.Lib.QuietBelow
import Derived.BigQuiet
import Derived.WalkKit
import Derived.ProofKit
import Derived.OpenShut
import Derived.Below
import Derived.Carry
namespace Go.Proofs.YtnplaejlmbncfaaGreatDoor
open Go.RowKit Go.Sort
set_option linter.unusedVariables false
set_option maxRecDepth 100000
theorem ints_nats {zs : List Int} {E : List Nat} (h : ints zs = nats E) : zs.map Int.toNat = E := by
  have h2 := congrArg (List.map fun v => (intOf v).toNat) h
  unfold ints nats at h2
  rw [List.map_map, List.map_map] at h2
  have e1 : zs.map ((fun v => (intOf v).toNat) ∘ fun z => Value.int .i64 z) = zs.map Int.toNat := List.map_congr_left fun z _ => rfl
  have e2 : E.map ((fun v => (intOf v).toNat) ∘ encN) = E := by
    have : E.map ((fun v => (intOf v).toNat) ∘ encN) = E.map id := List.map_congr_left fun b _ => by show ((b : Nat) : Int).toNat = b; omega
    rw [this, List.map_id]
  first | (rw [e2] at h2; exact h2) | (rw [e1, e2] at h2; exact h2)
/-- what both sides' Decode gives -/
noncomputable def decA (d m f : Nat) (word : List UInt8) (zs : List Int) : Nat × List UInt8 × List Nat := by
  classical exact if chkE d m f word.length zs = 0 then Sy.decM m f word (zs.map Int.toNat) else (0, [], [])
def DecA (w : World) (r : Nat × List UInt8 × List Nat) (e : Int) (en : Ending) (w' : World) : Prop :=
  ∃ (A1 : Option Addr) (n1 c1 : Nat) (A2 : Option Addr) (n2 c2 : Nat), en = .returned (.tuple #[.agg #[.int .i64 (r.1 : Int), .slice A1 n1 c1, .slice A2 n2 c2], .int .i64 e]) ∧ r.2.1.length = n1 ∧ r.2.2.length = n2 ∧
    w'.ownsRow w.heap.size 5 1 (.slice A1 n1 c1) n1 (bys r.2.1) ∧ w'.ownsRow w.heap.size 3 1 (.slice A2 n2 c2) n2 (nats r.2.2) ∧ Below w.heap.size w w'
theorem chkE_zero {d m f nw : Nat} {zs : List Int} (h : chkE d m f nw zs = 0) : f ≤ m / 2 ∧ nw = d + m ∧ errL (d + m) m zs = 0 := by
  unfold chkE at h
  split at h
  · cases h
  · split at h
    · exact ⟨by omega, by assumption, h⟩
    · cases h
theorem decode_all {d m f : Nat} (h : Cd d m f) (A : Option Addr) (c nw : Nat) (A2 : Option Addr) (n c2 : Nat) (word : List UInt8) (zs : List Int) (w : World) (hw : word.length = nw) (hs : Sl w w.heap.size A (bys word)) (hnc : nw ≤ c) (hn : zs.length = n) (hs2 : Sl w w.heap.size A2 (ints zs)) (hnc2 : n ≤ c2) (hl : n ≤ 1000) (hnw : nw ≤ 1000) :
    Calls Tryz.prog 47 #[.agg #[.int .i64 2, .int .i64 (d : Int), .int .i64 (m : Int), .int .i64 (f : Int)], .slice A nw c, .slice A2 n c2] w (DecA w (decA d m f word zs) (chkE d m f nw zs)) := by
  by_cases hc : chkE d m f nw zs = 0
  · obtain ⟨h1, h2, h3⟩ := chkE_zero hc
    obtain ⟨E, e1, e2, e3⟩ := errL_zero h3
    have e4 := ints_nats e1
    have hD : decA d m f word zs = Sy.decM m f word E := by unfold decA; rw [if_pos (by rw [hw]; exact hc), e4]
    rw [hc, hD]
    subst h2
    refine (decode_any h h1 A c A2 n c2 word E w hw hs hnc (e2.trans hn) (by rw [← e1]; exact hs2) hnc2 e3).mono ?_
    rintro en w' ⟨B1, n1, d1, B2, n2, d2, h⟩
    exact ⟨B1, n1, d1, B2, n2, d2, h⟩
  · have hD : decA d m f word zs = (0, [], []) := by unfold decA; rw [if_neg (by rw [hw]; exact hc)]
    rw [hD]
    refine (decode_bad h A nw c A2 n c2 zs w hn hs2 hnc2 hl hnw hc).mono ?_
    rintro en w' ⟨he, hb⟩
    exact ⟨none, 0, 0, none, 0, 0, he, rfl, rfl, World.ownsRow_nil _ _ _ _, World.ownsRow_nil _ _ _ _, hb⟩
theorem rdecode_all {d m f : Nat} (h : Cd d m f) (A : Option Addr) (c nw : Nat) (A2 : Option Addr) (n c2 : Nat) (word : List UInt8) (zs : List Int) (w : World) (hw : word.length = nw) (hs : Sl w w.heap.size A (bys word)) (hnc : nw ≤ c) (hn : zs.length = n) (hs2 : Sl w w.heap.size A2 (ints zs)) (hnc2 : n ≤ c2) (hl : n ≤ 1000) (hnw : nw ≤ 1000) :
    Calls Tryz.prog 55 #[.agg #[.int .i64 2, .int .i64 (d : Int), .int .i64 (m : Int), .int .i64 (f : Int)], .slice A nw c, .slice A2 n c2] w (DecA w (decA d m f word zs) (chkE d m f nw zs)) := by
  by_cases hc : chkE d m f nw zs = 0
  · obtain ⟨h1, h2, h3⟩ := chkE_zero hc
    obtain ⟨E, e1, e2, e3⟩ := errL_zero h3
    have e4 := ints_nats e1
    have hD : decA d m f word zs = Sy.refDec m f word E := by
      unfold decA
      rw [if_pos (by rw [hw]; exact hc), e4]
      exact (Sy.ref_dec (n := nw) (by have := h.d2; have := h.m2; omega) (by have := h.m2; omega) hw (by rw [h2]; exact e3)).symm
    rw [hc, hD]
    refine (rdecode_ok h h1 A c nw A2 n c2 word E w hw h2 hs hnc (e2.trans hn) (by rw [← e1]; exact hs2) hnc2 (by rw [h2]; exact e3) ⟨zs, e1, hn, hc⟩).mono ?_
    rintro en w' ⟨B1, n1, d1, B2, n2, d2, h⟩
    exact ⟨B1, n1, d1, B2, n2, d2, h⟩
  · have hD : decA d m f word zs = (0, [], []) := by unfold decA; rw [if_neg (by rw [hw]; exact hc)]
    rw [hD]
    refine (rdecode_bad h A nw c A2 n c2 zs w hn hs2 hnc2 hl hnw hc).mono ?_
    rintro en w' ⟨he, hb⟩
    exact ⟨none, 0, 0, none, 0, 0, he, rfl, rfl, World.ownsRow_nil _ _ _ _, World.ownsRow_nil _ _ _ _, hb⟩
def RSm7 (w : World) (L : List Ob) (O : List Rw) (n : Nat) (x : Value) (wr : World) : Prop := ∃ i : Nat, i ≤ n ∧ x = .int .i64 (i : Int) ∧ Hid (Ow w wr none [] L O)
set_option maxHeartbeats 4000000 in
/-- two results of decoding that are alike -/
theorem same07_any (o : Nat) (A1 A2 A3 A4 : Option Addr) (n1 c1 n2 c2 c3 c4 : Nat) (x : List UInt8) (y : List Nat) (w : World) (hx : x.length = n1) (hy : y.length = n2) (h1 : Sl w w.heap.size A1 (bys x)) (h2 : Sl w w.heap.size A2 (nats y)) (h3 : Sl w w.heap.size A3 (bys x)) (h4 : Sl w w.heap.size A4 (nats y)) (d1 : n1 ≤ c1) (d2 : n2 ≤ c2) (d3 : n1 ≤ c3) (d4 : n2 ≤ c4) (hl : n1 ≤ 1000) (hl2 : n2 ≤ 1000) :
    Calls Tryz.prog 58 #[.agg #[.int .i64 (o : Int), .slice A1 n1 c1, .slice A2 n2 c2], .agg #[.int .i64 (o : Int), .slice A3 n1 c3, .slice A4 n2 c4]] w fun e w' => e = .returned (.bool true) ∧ Below w.heap.size w w' := by
  have H0 := ((((((Ow.of (St.refl w)).old h1 (by rw [bys_length]; exact hx) d1 hl).old h2 (by rw [nats_length]; exact hy) d2 hl2).old h3 (by rw [bys_length]; exact hx) d3 hl).old h4 (by rw [nats_length]; exact hy) d4 hl2).arr #[.int .i64 (o : Int), .slice A1 n1 c1, .slice A2 n2 c2] 3 rfl (by omega) 83).arr #[.int .i64 (o : Int), .slice A3 n1 c3, .slice A4 n2 c4] 3 rfl (by omega) 83
  simp only [List.nil_append, List.cons_append, World.size_alloc] at H0
  have HO : Hid (Ow w ((w.alloc (.cells #[.int .i64 (o : Int), .slice A1 n1 c1, .slice A2 n2 c2] 83)).alloc (.cells #[.int .i64 (o : Int), .slice A3 n1 c3, .slice A4 n2 c4] 83)) none [] [⟨A1, n1, c1, bys x⟩, ⟨A2, n2, c2, nats y⟩, ⟨A3, n1, c3, bys x⟩, ⟨A4, n2, c4, nats y⟩] [decRw w.heap.size o A1 n1 c1 A2 n2 c2, decRw (w.heap.size + 1) o A3 n1 c3 A4 n2 c4]) := H0
  obtain ⟨hy0, hy1, hy2⟩ := HO.out.dec 0 rfl
  obtain ⟨hz0, hz1, hz2⟩ := HO.out.dec 1 rfl
  have HX := Lib.hid hx
  have HY := Lib.hid hy
  have HSm := Lib.hid (same_any A1 A3 n1 c1 n1 c3 _ x x _ hx hx (HO.out.sl (i := 0) rfl).2.2.2 (HO.out.sl (i := 2) rfl).2.2.2 (by omega) (by omega))
  rw [decide_eq_true rfl] at HSm
  have hoo : ((o : Int) != (o : Int)) = false := by simp
  have hnn : ((n2 : Int) != (n2 : Int)) = false := by simp
  clear H0 h1 h2 h3 h4 hx hy
  go_enter Tryz.func58, Tryz.ntmps58
  go_wp2_with (go_at_call 32; refine HSm.out.mono ?_; rintro e w1 ⟨rfl, hb⟩; have HO1 := Lib.hid (HO.out.go hb); obtain ⟨ky0, ky1, ky2⟩ := HO1.out.dec 0 rfl; obtain ⟨kz0, kz1, kz2⟩ := HO1.out.dec 1 rfl; clear hb)
  go_loopw [5] (fun v wr => RSm7 w [⟨A1, n1, c1, bys x⟩, ⟨A2, n2, c2, nats y⟩, ⟨A3, n1, c3, bys x⟩, ⟨A4, n2, c4, nats y⟩] [decRw w.heap.size o A1 n1 c1 A2 n2 c2, decRw (w.heap.size + 1) o A3 n1 c3 A4 n2 c4] n2 v wr) (fun v _ => n2 - (intOf v).toNat)
  case atStart => exact ⟨0, Nat.zero_le _, rfl, HO1.out⟩
  case round =>
    clear HO HO1 HSm hy0 hy1 hy2 hz0 hz1 hz2 ky0 ky1 ky2 kz0 kz1 kz2
    obtain ⟨i, hi, rfl, HO⟩ := hrel
    obtain ⟨hy0, hy1, hy2⟩ := HO.out.dec 0 rfl
    obtain ⟨hz0, hz1, hz2⟩ := HO.out.dec 1 rfl
    rcases Nat.lt_or_ge i n2 with hin | hin
    · have hd : decide ((i : Int) < (n2 : Int)) = true := decide_eq_true (by omega)
      obtain ⟨b, hb⟩ : ∃ b, y[i]? = some b := ⟨_, List.getElem?_eq_getElem (by rw [HY.out]; exact hin)⟩
      obtain ⟨ad, rfl, hcb⟩ := HO.out.natL 1 rfl hb
      obtain ⟨ad', rfl, hcb'⟩ := HO.out.natL 3 rfl hb
      have hbb : ((b : Int) != (b : Int)) = false := by simp
      clear hb
      go_wp2_with fail
      go_quiet (fail)
      go_wp2_with fail
      go_roundw
      case rel => exact ⟨i + 1, by omega, by go_num, HO.out.drewN _⟩
      case measure => simp [intOf]; omega
    · have hd : decide ((i : Int) < (n2 : Int)) = false := decide_eq_false (by omega)
      go_wp2_with fail
      go_ret
      exact ⟨rfl, HO.out.below⟩
theorem enc_all {d m f : Nat} (h : Cd d m f) (A : Option Addr) (c : Nat) (data : List UInt8) (w : World) (hn : data.length = d) (hs : Sl w w.heap.size A (bys data)) (hnc : d ≤ c) :
    Calls Tryz.prog 46 #[.agg #[.int .i64 2, .int .i64 (d : Int), .int .i64 (m : Int), .int .i64 (f : Int)], .slice A d c] w (ResB w (if f ≤ m / 2 then Sy.enc m data else []) (if f ≤ m / 2 then 0 else 1)) := by
  rcases Nat.lt_or_ge (m / 2) f with hf | hf
  · have hnf : ¬ f ≤ m / 2 := by omega
    rw [if_neg hnf, if_neg hnf]
    exact encode_bad h hf A d c w
  · rw [if_pos hf, if_pos hf]
    exact encode_ok h hf A c data w hn hs hnc
theorem renc_all {d m f : Nat} (h : Cd d m f) (A : Option Addr) (c : Nat) (data : List UInt8) (w : World) (hn : data.length = d) (hs : Sl w w.heap.size A (bys data)) (hnc : d ≤ c) :
    Calls Tryz.prog 16 #[.agg #[.int .i64 2, .int .i64 (d : Int), .int .i64 (m : Int), .int .i64 (f : Int)], .slice A d c] w (ResB w (if f ≤ m / 2 then Sy.enc m data else []) (if f ≤ m / 2 then 0 else 1)) := by
  rcases Nat.lt_or_ge (m / 2) f with hf | hf
  · have hnf : ¬ f ≤ m / 2 := by omega
    rw [if_neg hnf, if_neg hnf]
    exact rencode_bad h hf A d c w
  · rw [if_pos hf, if_pos hf]
    exact rencode_ok h hf A c data w hn hs hnc
end Go.Proofs.YtnplaejlmbncfaaGreatDoor

namespace Go.Proofs.YtnplaejlmbncfaaGreatDoor
open Go.RowKit Go.Sort
set_option linter.unusedVariables false
set_option maxRecDepth 100000
theorem decA_len {d m f : Nat} {word : List UInt8} {zs : List Int} : (decA d m f word zs).2.1.length ≤ word.length ∧ (decA d m f word zs).2.2.length ≤ word.length := by
  unfold decA
  by_cases hc : chkE d m f word.length zs = 0
  · rw [if_pos hc]
    obtain ⟨h1, h2, h3⟩ := chkE_zero hc
    obtain ⟨E, e1, e2, e3⟩ := errL_zero h3
    rw [ints_nats e1]
    rcases Sy.dec_sound (fix := f) (n := word.length) rfl (by rw [h2]; exact e3) with h | ⟨V, hV, h⟩
    · rw [h]; exact ⟨Nat.zero_le _, Nat.zero_le _⟩
    · rw [h]
      refine ⟨by rw [hV.len]; exact Nat.le_refl _, ?_⟩
      have h5 := List.length_filter_le (fun i => Sy.wd V i != Sy.wd word i) (List.range word.length)
      rw [List.length_range] at h5
      exact h5
  · rw [if_neg hc]; exact ⟨Nat.zero_le _, Nat.zero_le _⟩
theorem synX_len {d m f nw : Nat} {word : List UInt8} : (synX d m f nw word).length ≤ m := by
  unfold synX
  split
  · exact Nat.zero_le _
  · split
    · rw [Sy.synL_length]; exact Nat.le_refl _
    · exact Nat.zero_le _
set_option maxHeartbeats 8000000 in
theorem agree07_any {d m f : Nat} (h : Cd d m f) (A : Option Addr) (c : Nat) (A2 : Option Addr) (nw c2 : Nat) (A3 : Option Addr) (n c3 : Nat) (data word : List UInt8) (zs : List Int) (w : World) (hd : data.length = d) (hs : Sl w w.heap.size A (bys data)) (hdc : d ≤ c) (hw : word.length = nw) (hs2 : Sl w w.heap.size A2 (bys word)) (hnc : nw ≤ c2) (hn : zs.length = n) (hs3 : Sl w w.heap.size A3 (ints zs)) (hnc3 : n ≤ c3) (hl : n ≤ 1000) (hnw : nw ≤ 1000) :
    Calls Tryz.prog 19 #[.agg #[.int .i64 2, .int .i64 (d : Int), .int .i64 (m : Int), .int .i64 (f : Int)], .slice A d c, .slice A2 nw c2, .slice A3 n c3] w fun e w' => e = .returned (.bool true) ∧ Below w.heap.size w w' := by
  have hcd := h
  obtain ⟨h1, h2, h3, h4, h5⟩ := h
  have H0 := ((((Ow.of (St.refl w)).old hs (by rw [bys_length]; exact hd) hdc (by omega)).old hs2 (by rw [bys_length]; exact hw) hnc hnw).old hs3 (by unfold ints; rw [List.length_map]; exact hn) hnc3 hl).code d m f
  simp only [List.nil_append, List.cons_append] at H0
  have HO0 := Lib.hid H0
  have HD := Lib.hid hd
  have HW := Lib.hid hw
  have HN := Lib.hid hn
  obtain ⟨x, hx⟩ : ∃ x, Hid (x = if f ≤ m / 2 then Sy.enc m data else []) := ⟨_, rfl⟩
  obtain ⟨ex, hex⟩ : ∃ ex : Int, Hid (ex = if f ≤ m / 2 then 0 else 1) := ⟨_, rfl⟩
  have hxl : Hid (x.length ≤ 1000) := by unfold Hid; rw [hx.out]; split
                                         · rw [Sy.enc_length, hd]; omega
                                         · exact Nat.zero_le _
  obtain ⟨s, hs0⟩ : ∃ s, Hid (s = synX d m f nw word) := ⟨_, rfl⟩
  obtain ⟨es, hes⟩ : ∃ es : Int, Hid (es = synE d m f nw) := ⟨_, rfl⟩
  have hsl : Hid (s.length ≤ 1000) := by unfold Hid; rw [hs0.out]; have := synX_len (d := d) (m := m) (f := f) (nw := nw) (word := word); omega
  obtain ⟨r, hr⟩ : ∃ r, Hid (r = decA d m f word zs) := ⟨_, rfl⟩
  obtain ⟨er, her⟩ : ∃ er : Int, Hid (er = chkE d m f nw zs) := ⟨_, rfl⟩
  have hrl : Hid (r.2.1.length ≤ 1000 ∧ r.2.2.length ≤ 1000) := by unfold Hid; rw [hr.out]; have := decA_len (d := d) (m := m) (f := f) (word := word) (zs := zs); rw [hw] at this; omega
  obtain ⟨hc0, hc1, hc2, hc3⟩ := H0.cdc 0 rfl
  clear H0 hs hs2 hs3 hd hw hn
  go_enter Tryz.func19, Tryz.ntmps19
  go_wp2_with fail
  refine (enc_all hcd A c data _ HD.out (HO0.out.sl (i := 0) rfl).2.2.2 (HO0.out.sl (i := 0) rfl).2.1).mono ?_
  rw [← hx.out, ← hex.out]
  rintro en w1 ⟨B1, k1, e1, rfl, hk1, ho, hb⟩
  have HO1 := Lib.hid (HO0.out.push ho (by rw [← hk1]; exact hxl.out) hb)
  simp only [List.nil_append, List.cons_append] at HO1
  clear ho hb HO0 hc0 hc1 hc2 hc3
  obtain ⟨hc0, hc1, hc2, hc3⟩ := HO1.out.cdc 0 rfl
  go_wp2_with fail
  refine (renc_all hcd A c data _ HD.out (HO1.out.sl (i := 0) rfl).2.2.2 (HO1.out.sl (i := 0) rfl).2.1).mono ?_
  rw [← hx.out, ← hex.out]
  rintro en w2 ⟨B2, k2, e2, rfl, hk2, ho, hb⟩
  obtain rfl : k1 = k2 := hk1.symm.trans hk2
  have HO2 := Lib.hid (HO1.out.push ho (by rw [← hk1]; exact hxl.out) hb)
  simp only [List.nil_append, List.cons_append] at HO2
  clear ho hb hk2 HO1 hc0 hc1 hc2 hc3
  obtain ⟨hc0, hc1, hc2, hc3⟩ := HO2.out.cdc 0 rfl
  go_wp2_with fail
  refine (syn_all hcd A2 c2 nw word _ HW.out (HO2.out.sl (i := 1) rfl).2.2.2 (HO2.out.sl (i := 1) rfl).2.1 hnw).mono ?_
  rw [← hs0.out, ← hes.out]
  rintro en w3 ⟨B3, k3, e3, rfl, hk3, ho, hb⟩
  have HO3 := Lib.hid (HO2.out.push ho (by rw [← hk3]; exact hsl.out) hb)
  simp only [List.nil_append, List.cons_append] at HO3
  clear ho hb HO2 hc0 hc1 hc2 hc3
  obtain ⟨hc0, hc1, hc2, hc3⟩ := HO3.out.cdc 0 rfl
  go_wp2_with fail
  refine (rsyn_all hcd A2 c2 nw word _ HW.out (HO3.out.sl (i := 1) rfl).2.2.2 (HO3.out.sl (i := 1) rfl).2.1 hnw).mono ?_
  rw [← hs0.out, ← hes.out]
  rintro en w4 ⟨B4, k4, e4, rfl, hk4, ho, hb⟩
  obtain rfl : k3 = k4 := hk3.symm.trans hk4
  have HO4 := Lib.hid (HO3.out.push ho (by rw [← hk3]; exact hsl.out) hb)
  simp only [List.nil_append, List.cons_append] at HO4
  clear ho hb hk4 HO3 hc0 hc1 hc2 hc3
  obtain ⟨hc0, hc1, hc2, hc3⟩ := HO4.out.cdc 0 rfl
  go_wp2_with fail
  refine (decode_all hcd A2 c2 nw A3 n c3 word zs _ HW.out (HO4.out.sl (i := 1) rfl).2.2.2 (HO4.out.sl (i := 1) rfl).2.1 HN.out (HO4.out.sl (i := 2) rfl).2.2.2 (HO4.out.sl (i := 2) rfl).2.1 hl hnw).mono ?_
  rw [← hr.out, ← her.out]
  rintro en w5 ⟨B5, k5, e5, B6, k6, e6, rfl, hk5, hk6, ho, ho2, hb⟩
  have h8 := (((HO4.out.push ho (by rw [← hk5]; exact hrl.out.1) hb).join (HO4.out.push ho2 (by rw [← hk6]; exact hrl.out.2) hb)).arr #[.int .i64 (r.1 : Int), .slice B5 k5 e5, .slice B6 k6 e6] 3 rfl (by omega) 83)
  have HO5 : Hid (Ow w (w5.alloc (.cells #[.int .i64 (r.1 : Int), .slice B5 k5 e5, .slice B6 k6 e6] 83)) none [] [⟨A, d, c, bys data⟩, ⟨A2, nw, c2, bys word⟩, ⟨A3, n, c3, ints zs⟩, ⟨B1, k1, e1, bys x⟩, ⟨B2, k1, e2, bys x⟩, ⟨B3, k3, e3, bys s⟩, ⟨B4, k3, e4, bys s⟩, ⟨B5, k5, e5, bys r.2.1⟩, ⟨B6, k6, e6, nats r.2.2⟩] [codeR w.heap.size d m f, decRw w5.heap.size r.1 B5 k5 e5 B6 k6 e6]) := h8.less (fun o ho => by simp only [List.mem_cons, List.not_mem_nil, or_false, List.nil_append, List.cons_append] at ho ⊢; (repeat' rcases ho with rfl | ho) <;> simp [*])
  obtain ⟨xb, hxb⟩ : ∃ xb, xb = w5.heap.size := ⟨_, rfl⟩
  clear ho ho2 hb h8 HO4 hc0 hc1 hc2 hc3
  obtain ⟨hc0, hc1, hc2, hc3⟩ := HO5.out.cdc 0 rfl
  go_wp2_with fail
  refine (rdecode_all hcd A2 c2 nw A3 n c3 word zs _ HW.out (HO5.out.sl (i := 1) rfl).2.2.2 (HO5.out.sl (i := 1) rfl).2.1 HN.out (HO5.out.sl (i := 2) rfl).2.2.2 (HO5.out.sl (i := 2) rfl).2.1 hl hnw).mono ?_
  rw [← hr.out, ← her.out]
  rintro en w6 ⟨B7, k7, e7, B8, k8, e8, rfl, hk7, hk8, ho, ho2, hb⟩
  obtain rfl : k5 = k7 := hk5.symm.trans hk7
  obtain rfl : k6 = k8 := hk6.symm.trans hk8
  have h8 := (((HO5.out.push ho (by rw [← hk5]; exact hrl.out.1) hb).join (HO5.out.push ho2 (by rw [← hk6]; exact hrl.out.2) hb)).arr #[.int .i64 (r.1 : Int), .slice B7 k5 e7, .slice B8 k6 e8] 3 rfl (by omega) 83)
  rw [← hxb] at h8 ⊢
  obtain ⟨wz, hwz⟩ : ∃ W, W = w6.alloc (.cells #[.int .i64 (r.1 : Int), .slice B7 k5 e7, .slice B8 k6 e8] 83) := ⟨_, rfl⟩
  obtain ⟨yb, hyb⟩ : ∃ yb, yb = w6.heap.size := ⟨_, rfl⟩
  have HO6 : Hid (Ow w (w6.alloc (.cells #[.int .i64 (r.1 : Int), .slice B7 k5 e7, .slice B8 k6 e8] 83)) none [] [⟨B1, k1, e1, bys x⟩, ⟨B2, k1, e2, bys x⟩, ⟨B3, k3, e3, bys s⟩, ⟨B4, k3, e4, bys s⟩, ⟨B5, k5, e5, bys r.2.1⟩, ⟨B6, k6, e6, nats r.2.2⟩, ⟨B7, k5, e7, bys r.2.1⟩, ⟨B8, k6, e8, nats r.2.2⟩] [codeR w.heap.size d m f, decRw xb r.1 B5 k5 e5 B6 k6 e6, decRw w6.heap.size r.1 B7 k5 e7 B8 k6 e8]) := h8.less (fun o ho => by simp only [List.mem_cons, List.not_mem_nil, or_false, List.nil_append, List.cons_append] at ho ⊢; (repeat' rcases ho with rfl | ho) <;> simp [*])
  clear ho ho2 hb h8 HO5 hc0 hc1 hc2 hc3 hk7 hk8 hxb
  go_upto_region 7 with (fail)
  rw [← hwz, ← hyb] at HO6 ⊢
  clear hwz hyb
  have HX := Lib.hid hk1
  have HSs := Lib.hid hk3
  have HK5 := Lib.hid hk5
  have HK6 := Lib.hid hk6
  clear hk1 hk3 hk5 hk6
  obtain ⟨vb, hvb⟩ : ∃ vb : Bool, Hid (vb = decide (f ≤ m / 2)) := ⟨_, rfl⟩
  obtain ⟨hc0, hc1, hc2, hc3⟩ := HO6.out.cdc 0 rfl
  obtain ⟨hy0, hy1, hy2⟩ := HO6.out.dec 1 rfl
  obtain ⟨hz0, hz1, hz2⟩ := HO6.out.dec 2 rfl
  have cV1 := rg_call (P := Tryz.prog) (w := wz) (f := 56) (args := #[.agg #[.int .i64 2, .int .i64 (d : Int), .int .i64 (m : Int), .int .i64 (f : Int)]]) (v := .bool vb) (fun W hW => by rw [hvb.out]; exact validcode_any hcd W)
  have cV2 := rg_call (P := Tryz.prog) (w := wz) (f := 57) (args := #[.agg #[.int .i64 2, .int .i64 (d : Int), .int .i64 (m : Int), .int .i64 (f : Int)]]) (v := .bool vb) (fun W hW => by rw [hvb.out]; exact rvalidcode_any hcd W)
  have cS1 := rg_call (P := Tryz.prog) (w := wz) (f := 32) (args := #[.slice B1 k1 e1, .slice B2 k1 e2]) (v := .bool true) (fun W hW => by
    have HQ := HO6.out.go hW
    have h5 := same_any B1 B2 k1 e1 k1 e2 W.heap.size x x W HX.out HX.out (HQ.sl (i := 0) rfl).2.2.2 (HQ.sl (i := 1) rfl).2.2.2 (by have := (HQ.sl (i := 0) rfl).2.2.1; omega) (by have := (HQ.sl (i := 0) rfl).2.2.1; omega)
    rwa [decide_eq_true rfl] at h5)
  have cS2 := rg_call (P := Tryz.prog) (w := wz) (f := 32) (args := #[.slice B3 k3 e3, .slice B4 k3 e4]) (v := .bool true) (fun W hW => by
    have HQ := HO6.out.go hW
    have h5 := same_any B3 B4 k3 e3 k3 e4 W.heap.size s s W HSs.out HSs.out (HQ.sl (i := 2) rfl).2.2.2 (HQ.sl (i := 3) rfl).2.2.2 (by have := (HQ.sl (i := 2) rfl).2.2.1; omega) (by have := (HQ.sl (i := 2) rfl).2.2.1; omega)
    rwa [decide_eq_true rfl] at h5)
  have cS3 := rg_call (P := Tryz.prog) (w := wz) (f := 58) (args := #[.agg #[.int .i64 (r.1 : Int), .slice B5 k5 e5, .slice B6 k6 e6], .agg #[.int .i64 (r.1 : Int), .slice B7 k5 e7, .slice B8 k6 e8]]) (v := .bool true) (fun W hW => by
    have HQ := HO6.out.go hW
    exact same07_any r.1 B5 B6 B7 B8 k5 e5 k6 e6 e7 e8 r.2.1 r.2.2 W HK5.out HK6.out (HQ.sl (i := 4) rfl).2.2.2 (HQ.sl (i := 5) rfl).2.2.2 (HQ.sl (i := 6) rfl).2.2.2 (HQ.sl (i := 7) rfl).2.2.2 (HQ.sl (i := 4) rfl).2.1 (HQ.sl (i := 5) rfl).2.1 (HQ.sl (i := 6) rfl).2.1 (HQ.sl (i := 7) rfl).2.1 (HQ.sl (i := 4) rfl).2.2.1 (HQ.sl (i := 5) rfl).2.2.1)
  have kc0 := cell_regrown hc0
  have kc1 := cell_regrown hc1
  have kc2 := cell_regrown hc2
  have kc3 := cell_regrown hc3
  have ky0 := cell_regrown hy0
  have ky1 := cell_regrown hy1
  have ky2 := cell_regrown hy2
  have kz0 := cell_regrown hz0
  have kz1 := cell_regrown hz1
  have kz2 := cell_regrown hz2
  have hvv : (vb == vb) = true := by cases vb <;> rfl
  have hee1 : (ex == ex) = true := beq_self_eq_true ex
  have hee2 : (es == es) = true := beq_self_eq_true es
  have hee3 : (er == er) = true := beq_self_eq_true er
  clear hc0 hc1 hc2 hc3 hy0 hy1 hy2 hz0 hz1 hz2
  refine wp_region_quiet_below (by kernel_rfl) (by kernel_rfl) ?_
  repeat (go_big_quiet_step ((first | with_reducible exact cV1 _ _ | with_reducible exact cV2 _ _ | with_reducible exact cS1 _ _ | with_reducible exact cS2 _ _ | with_reducible exact cS3 _ _)))
  refine wpQuiet_nil ?_
  intro W9 hW9
  have HK := Lib.hid (HO6.out.go (rg_below hW9))
  clear hW9 HO6 cV1 cV2 cS1 cS2 cS3 kc0 kc1 kc2 kc3 ky0 ky1 ky2 kz0 kz1 kz2
  go_wp2_with fail
  go_ret
  exact ⟨rfl, HK.out.below⟩
end Go.Proofs.YtnplaejlmbncfaaGreatDoor

namespace Go.Proofs.YtnplaejlmbncfaaGreatDoor
open Go.RowKit Go.Sort
set_option linter.unusedVariables false
set_option maxRecDepth 100000
/-- word[d.Next(len(word))] ^= byte(d.Next(256)) -/
def lwM (w : World) (g B gw nn cw : Nat) (O : Nat → UInt8 → List Rw) (k : Nat) (x : Value) (v : World) : Prop :=
  match k with
  | 0 => x = .slice (some ⟨gw, 0, none⟩) nn cw
  | 1 => x = .pointer (some ⟨g, 0, none⟩)
  | 2 => x = .slice (some ⟨gw, 0, none⟩) nn cw
  | 3 => x = .int .i64 (nn : Int)
  | 4 => ∃ p : Nat, p < nn ∧ x = .int .i64 (p : Int)
  | 5 => ∃ p : Nat, p < nn ∧ x = .pointer (some ⟨gw, p, none⟩)
  | 6 => ∃ b : UInt8, x = .int .u8 (b.toNat : Int)
  | 7 => x = .pointer (some ⟨g, 0, none⟩)
  | 8 => ∃ b : UInt8, x = .int .i64 (b.toNat : Int)
  | 9 => ∃ b : UInt8, x = .int .u8 (b.toNat : Int)
  | 10 => ∃ b : UInt8, x = .int .u8 (b.toNat : Int)
  | 11 => ∃ p : Nat, p < nn ∧ x = .pointer (some ⟨gw, p, none⟩)
  | 12 => ∃ (p : Nat) (b : UInt8), p < nn ∧ Ow w v (some g) [] [] (O p b) ∧ Dice v g B
  | _ => True
theorem lwM_any {w : World} {g B gw nn cw : Nat} {O : Nat → UInt8 → List Rw} {v v' : World} : ∀ (k : Nat) (x : Value), k ≠ 12 → lwM w g B gw nn cw O k x v → lwM w g B gw nn cw O k x v'
  | 0, _, _, h => h
  | 1, _, _, h => h
  | 2, _, _, h => h
  | 3, _, _, h => h
  | 4, _, _, h => h
  | 5, _, _, h => h
  | 6, _, _, h => h
  | 7, _, _, h => h
  | 8, _, _, h => h
  | 9, _, _, h => h
  | 10, _, _, h => h
  | 11, _, _, h => h
  | 12, _, h, _ => absurd rfl h
  | _ + 13, _, _, _ => trivial
def RMd1 (w : World) (g cb d m f : Nat) (rd : Rw) (gw nn cw : Nat) (x : Value) (wr : World) : Prop :=
  ∃ (k : Nat) (W : List UInt8), k ≤ 20 ∧ x = .int .i64 (k : Int) ∧ Hid (W.length = nn) ∧ Hid (Ow w wr (some g) [] [] [codeR cb d m f, rd, ⟨some ⟨gw, 0, none⟩, nn, cw, 5, bys W⟩]) ∧ Hid (Dice wr g w.heap.size)
theorem nats_ints (E : List Nat) : nats E = ints (E.map Int.ofNat) := by unfold nats ints; rw [List.map_map]; rfl

set_option maxHeartbeats 8000000 in
theorem symbolMade_any (A : Option Addr) (n c : Nat) (ts : List Int) (w : World) (hn : ts.length = n) (hl : n ≤ 9223372036854775807) (hs : Sl w w.heap.size A (ints ts)) :
    Calls Tryz.prog 3 #[.slice A n c] w fun e w' => e = .returned (.bool true) ∧ Below w.heap.size w w' := by
  rcases Nat.lt_or_ge 400 n with hbig | hsm
  · have HLi := Lib.hid (light_no A n c w hbig hl)
    have HAw := Lib.hid (awake07_any w)
    clear hs
    go_enter Tryz.func3, Tryz.ntmps3
    go_wp2_with (first | (go_at_call 11; refine HLi.out.mono ?_; rintro e w1 ⟨rfl, rfl⟩) | (go_at_call 12; refine HAw.out.mono ?_; rintro e w2 ⟨rfl, hb⟩))
    go_ret
    exact ⟨rfl, hb⟩
  have HLi := Lib.hid (light_yes A n c w hsm)
  have HR := Lib.hid (roll_at (St.refl w) A n c w.heap.size ts hn (by omega) (Nat.le_refl _) hs)
  clear hs hn hl hsm
  go_enter Tryz.func3, Tryz.ntmps3
  go_wp2_with fail
  refine HLi.out.mono ?_
  rintro e w1 ⟨rfl, rfl⟩
  go_wp2_with fail
  refine HR.out.mono ?_
  rintro e w1 ⟨g, rfl, hd1, hst1⟩
  have HN := Lib.hid (symbols_ow (Ow.of hst1) hd1 (Nat.le_refl _))
  clear HR HLi hd1 hst1
  go_wp2_with fail
  refine HN.out.mono ?_
  rintro e w2 ⟨d, m, f, rfl, hcd, hfm, hd2, h2⟩
  have h3 := h2.code d m f
  have HD := Lib.hid (hd2.alloc1 (.cells #[.int .i64 2, .int .i64 (d : Int), .int .i64 (m : Int), .int .i64 (f : Int)] 28))
  have HO : Hid (Ow w (w2.alloc (.cells #[.int .i64 2, .int .i64 (d : Int), .int .i64 (m : Int), .int .i64 (f : Int)] 28)) (some g) [] [] [codeR w2.heap.size d m f]) := h3
  have hcd0 := Lib.hid hcd
  obtain ⟨hd1', hd2', hm1', hm2', hf5'⟩ := hcd
  clear h2 hd2 h3 HN
  obtain ⟨hc0, hc1, hc2, hc3⟩ := HO.out.cdc 0 rfl
  have HN := Lib.hid (bytes_ow HO.out HD.out d (by omega))
  go_wp2_with fail
  refine HN.out.mono ?_
  rintro en w3 ⟨Ad, cd, data, rfl, hdl, h3, hd3⟩
  simp only [List.cons_append, List.nil_append] at h3
  have HO1 := Lib.hid h3
  have HD1 := Lib.hid hd3
  clear HN HO HD h3 hd3 hc0 hc1 hc2 hc3
  obtain ⟨hc0, hc1, hc2, hc3⟩ := HO1.out.cdc 0 rfl
  have HN := Lib.hid (rencode_ok hcd0.out hfm Ad cd data w3 hdl (Sl.of_own (HO1.out.row 1 rfl)) (own_cap (HO1.out.row 1 rfl)).1)
  go_wp2_with fail
  refine HN.out.mono ?_
  rintro en v ⟨Aw, nx, cw, rfl, hnx, hox, hbx⟩
  obtain rfl : d + m = nx := by rw [← hnx, Sy.enc_length, hdl]
  have HOv := Lib.hid (HO1.out.add hox hbx)
  simp only [List.cons_append, List.nil_append] at HOv
  have HDv := Lib.hid (HD1.out.below hbx)
  have HDl := Lib.hid hdl
  clear HN HO1 HD1 hnx hox hbx hc0 hc1 hc2 hc3
  obtain ⟨gw, rfl, -, -⟩ := own_form (HOv.out.row 2 rfl) (by omega)
  obtain ⟨nn, hnn⟩ : ∃ nn : Nat, Hid (nn = d + m) := ⟨_, rfl⟩
  rw [← hnn.out] at HOv ⊢
  have hn40 : 2 ≤ nn ∧ nn ≤ 40 := by have := hnn.out; omega
  obtain ⟨hn2, hn40⟩ := hn40
  have HVl : Hid ((Sy.enc m data).length = nn) := by unfold Hid; rw [Sy.enc_length, hdl, hnn.out]
  obtain ⟨V0, hV⟩ : ∃ V, V = Sy.enc m data := ⟨_, rfl⟩
  rw [← hV] at HOv HVl
  clear hV hdl
  obtain ⟨hc0, hc1, hc2, hc3⟩ := HOv.out.cdc 0 rfl
  obtain ⟨m2, hm2⟩ : ∃ m2 : Nat, Hid (m2 = m + 2) := ⟨_, rfl⟩
  have em2 : (m : Int) + 2 = (m2 : Int) := by have := hm2.out; omega
  have HN := Lib.hid (next_ow HOv.out HDv.out m2 (by have := hm2.out; omega) (by have := hm2.out; omega))
  go_wp2_with fail
  refine HN.out.mono ?_
  rintro en w8 ⟨k0, rfl, hk0, hd8, h8, -⟩
  have HO3 := Lib.hid h8
  have HD3 := Lib.hid hd8
  have hk20 : k0 ≤ 20 := by have := hm2.out; omega
  clear HN hd8 h8 HOv HDv hc0 hc1 hc2 hc3 hk0
  go_wp2_with fail
  go_loopw [8] (fun x wr => RMd1 w g w2.heap.size d m f ⟨Ad, d, cd, 5, bys data⟩ gw nn cw x wr) (fun x _ => (intOf x).toNat)
  case atStart => exact ⟨k0, V0, hk20, rfl, HVl.out, HO3.out, HD3.out⟩
  case round =>
    clear HO3 HD3 hk20 HVl
    obtain ⟨k, W, hk, rfl, HWl, HOr, HDr⟩ := hrel
    rcases Nat.eq_zero_or_pos k with hk0 | hk0
    · subst hk0
      obtain ⟨hc0, hc1, hc2, hc3⟩ := HOr.out.cdc 0 rfl
      have HN := Lib.hid (next_ow HOr.out HDr.out m2 (by have := hm2.out; omega) (by have := hm2.out; omega))
      clear HOr HDr
      go_wp2_with fail
      refine HN.out.mono ?_
      rintro en w9 ⟨mo, rfl, hmo, hd9, h9, -⟩
      have HN := Lib.hid (some_ow h9 hd9 (Nat.le_refl _) nn mo (by omega) (by have := hm2.out; omega))
      clear h9 hd9 hc0 hc1 hc2 hc3 em2
      go_wp2_with fail
      refine HN.out.mono ?_
      rintro en wa ⟨Al, kl, cl, E, rfl, hkl, hE, ha, hda⟩
      simp only [List.cons_append, List.nil_append] at ha
      have hkl9 : kl ≤ 9 := by rw [← hkl]; have := hE.le; have := hm2.out; omega
      have HKl : Hid ((E.map Int.ofNat).length = kl) := by unfold Hid; rw [List.length_map]; exact hkl
      have HN := Lib.hid (next_ow ha hda 8 (by omega) (by omega))
      clear ha hda hkl hE hmo
      go_wp2_with fail
      refine HN.out.mono ?_
      rintro en wb ⟨sw, rfl, hsw, hdb, hb, -⟩
      have HOb := Lib.hid hb
      have HDb := Lib.hid hdb
      clear HN hb hdb
      rcases (show sw = 0 ∨ sw = 1 ∨ sw = 2 ∨ 3 ≤ sw by omega) with rfl | rfl | rfl | h3
      · obtain ⟨n2, hn2'⟩ : ∃ n2 : Nat, Hid (n2 = nn + 2) := ⟨_, rfl⟩
        have en2 : (nn : Int) + 2 = (n2 : Int) := by have := hn2'.out; omega
        have HN := Lib.hid (next_ow HOb.out HDb.out n2 (by have := hn2'.out; omega) (by have := hn2'.out; omega))
        clear HOb HDb hsw
        go_wp2_with fail
        refine HN.out.mono ?_
        rintro en wc ⟨z, rfl, hz, hdc, hc, -⟩
        have hz50 : z ≤ 50 := by have := hn2'.out; omega
        have HOc := Lib.hid hc
        clear HN hc hdc en2
        have hbx := HOc.out.go (own_box1 wc (.cells #[.int .i64 ((z : Int) - 1)] 3))
        have HBx := Lib.hid hbx
        have HSn := Lib.hid (sl_new1 wc 3 (.int .i64 ((z : Int) - 1)))
        clear hbx
        go_wp2_with (at_builtin; refine ow_append elemI HBx.out 3 (.tmp 62) (.tmp 69) rfl (m := 1) (news := [.int .i64 ((z : Int) - 1)]) rfl HSn.out (fun u hu => by rw [List.mem_singleton] at hu; subst hu; rfl) (by unfold maxLen; omega) (by omega) rfl rfl rfl rfl ?_; intro Al2 cl2 wd how; simp only [List.set_cons_zero, List.set_cons_succ] at how; have HOd := Lib.hid how; clear how)
        have HOe : Hid (Ow w wd (some g) [] [] [codeR w2.heap.size d m f, ⟨Ad, d, cd, 5, bys data⟩, ⟨some ⟨gw, 0, none⟩, nn, cw, 5, bys W⟩, ⟨Al2, kl + 1, cl2, 3, ints (E.map Int.ofNat ++ [(z : Int) - 1])⟩]) := by
          have h5 := HOd.out
          rw [nats_ints] at h5
          unfold Hid
          unfold ints at h5 ⊢
          rw [List.map_append]
          exact h5
        obtain ⟨hc0, hc1, hc2, hc3⟩ := HOe.out.cdc 0 rfl
        go_wp2_with fail
        refine (awake07_any _).mono ?_
        rintro en wv ⟨rfl, hb⟩
        have HF := Lib.hid (HOe.out.go hb)
        clear hb hc0 hc1 hc2 hc3
        obtain ⟨hc0, hc1, hc2, hc3⟩ := HF.out.cdc 0 rfl
        have HAg := Lib.hid (agree07_any (d := d) (m := m) (f := f) hcd0.out Ad cd (some ⟨gw, 0, none⟩) nn cw Al2 (kl + 1) cl2 data W (E.map Int.ofNat ++ [(z : Int) - 1]) wv HDl.out (Sl.of_own (HF.out.row 1 rfl)) (own_cap (HF.out.row 1 rfl)).1 HWl.out (Sl.of_own (HF.out.row 2 rfl)) (own_cap (HF.out.row 2 rfl)).1 (by rw [List.length_append, HKl.out]; rfl) (Sl.of_own (HF.out.row 3 rfl)) (own_cap (HF.out.row 3 rfl)).1 (by omega) (by omega))
        go_wp2_with fail
        refine HAg.out.mono ?_
        rintro en wu ⟨rfl, hb⟩
        have HF2 := Lib.hid (HF.out.go hb)
        clear hb
        go_wp2_with fail
        go_ret
        exact ⟨rfl, HF2.out.below⟩
      · have hff := HOb.out.frzO 0 (vs := _) rfl 3
        obtain ⟨hc0, hc1, hc2, hc3⟩ := HOb.out.cdc 0 rfl
        obtain ⟨f1, hf1⟩ : ∃ f1 : Nat, Hid (f1 = f + 1) := ⟨_, rfl⟩
        have ef1 : (f : Int) + 1 = (f1 : Int) := by have := hf1.out; omega
        have hf8 : f ≤ 8 := by omega
        have hcd1 : Cd d m f1 := ⟨hd1', hd2', hm1', hm2', by have := hf1.out; omega⟩
        have HG : Hid (Ow w (wb.setCell ⟨w2.heap.size, 3, none⟩ (.int .i64 (f1 : Int))) (some g) [] [] [codeR w2.heap.size d m f1, ⟨Ad, d, cd, 5, bys data⟩, ⟨some ⟨gw, 0, none⟩, nn, cw, 5, bys W⟩, ⟨Al, kl, cl, 3, ints (E.map Int.ofNat)⟩]) := by
          have h5 := HOb.out.put 0 rfl 3 (.int .i64 (f1 : Int))
          rw [nats_ints] at h5
          exact h5
        go_upto_region 19 with (fail)
        generalize hw3 : World.setCell wb ⟨w2.heap.size, 3, none⟩ _ = wd
        have HG2 := HG.out
        rw [hw3] at HG2
        have HOe := Lib.hid HG2
        obtain ⟨Al2, hA2⟩ : ∃ A, A = Al := ⟨_, rfl⟩
        obtain ⟨cl2, hc2'⟩ : ∃ A, A = cl := ⟨_, rfl⟩
        rw [← hA2, ← hc2'] at HOe ⊢
        clear hw3 HG HG2 hff hc0 hc1 hc2 hc3 ef1 hA2 hc2' HOb HDb
        obtain ⟨hc0, hc1, hc2, hc3⟩ := HOe.out.cdc 0 rfl
        go_wp2_with fail
        refine (awake07_any _).mono ?_
        rintro en wv ⟨rfl, hb⟩
        have HF := Lib.hid (HOe.out.go hb)
        clear hb hc0 hc1 hc2 hc3
        obtain ⟨hc0, hc1, hc2, hc3⟩ := HF.out.cdc 0 rfl
        have HAg := Lib.hid (agree07_any (d := d) (m := m) (f := f1) hcd1 Ad cd (some ⟨gw, 0, none⟩) nn cw Al2 kl cl2 data W (E.map Int.ofNat) wv HDl.out (Sl.of_own (HF.out.row 1 rfl)) (own_cap (HF.out.row 1 rfl)).1 HWl.out (Sl.of_own (HF.out.row 2 rfl)) (own_cap (HF.out.row 2 rfl)).1 HKl.out (Sl.of_own (HF.out.row 3 rfl)) (own_cap (HF.out.row 3 rfl)).1 (by omega) (by omega))
        go_wp2_with fail
        refine HAg.out.mono ?_
        rintro en wu ⟨rfl, hb⟩
        have HF2 := Lib.hid (HF.out.go hb)
        clear hb
        go_wp2_with fail
        go_ret
        exact ⟨rfl, HF2.out.below⟩
      · obtain ⟨n1, hn1⟩ : ∃ n1 : Nat, Hid (n1 = nn - 1) := ⟨_, rfl⟩
        have en1 : (nn : Int) - 1 = (n1 : Int) := by have := hn1.out; omega
        have hn1n : n1 ≤ nn := by have := hn1.out; omega
        have hn1c : n1 ≤ cw := by have := (own_cap (HOb.out.row 2 rfl)).1; omega
        have h5 := HOb.out.cut 2 rfl (k := n1) hn1n
        rw [bys_take, nats_ints] at h5
        have HOe : Hid (Ow w wb (some g) [] [] [codeR w2.heap.size d m f, ⟨Ad, d, cd, 5, bys data⟩, ⟨some ⟨gw, 0, none⟩, n1, cw, 5, bys (W.take n1)⟩, ⟨Al, kl, cl, 3, ints (E.map Int.ofNat)⟩]) := h5
        have HW1 : Hid ((W.take n1).length = n1) := by unfold Hid; rw [List.length_take, HWl.out]; omega
        clear h5
        go_upto_region 19 with (fail)
        obtain ⟨Al2, hA2⟩ : ∃ A, A = Al := ⟨_, rfl⟩
        obtain ⟨cl2, hc2'⟩ : ∃ A, A = cl := ⟨_, rfl⟩
        rw [← hA2, ← hc2'] at HOe ⊢
        clear hA2 hc2' HOb HDb en1
        obtain ⟨hc0, hc1, hc2, hc3⟩ := HOe.out.cdc 0 rfl
        go_wp2_with fail
        refine (awake07_any _).mono ?_
        rintro en wv ⟨rfl, hb⟩
        have HF := Lib.hid (HOe.out.go hb)
        clear hb hc0 hc1 hc2 hc3
        obtain ⟨hc0, hc1, hc2, hc3⟩ := HF.out.cdc 0 rfl
        have HAg := Lib.hid (agree07_any (d := d) (m := m) (f := f) hcd0.out Ad cd (some ⟨gw, 0, none⟩) n1 cw Al2 kl cl2 data (W.take n1) (E.map Int.ofNat) wv HDl.out (Sl.of_own (HF.out.row 1 rfl)) (own_cap (HF.out.row 1 rfl)).1 HW1.out (Sl.of_own (HF.out.row 2 rfl)) (own_cap (HF.out.row 2 rfl)).1 HKl.out (Sl.of_own (HF.out.row 3 rfl)) (own_cap (HF.out.row 3 rfl)).1 (by omega) (by omega))
        go_wp2_with fail
        refine HAg.out.mono ?_
        rintro en wu ⟨rfl, hb⟩
        have HF2 := Lib.hid (HF.out.go hb)
        clear hb
        go_wp2_with fail
        go_ret
        exact ⟨rfl, HF2.out.below⟩
      · have s0 : ((sw : Int) == 0) = false := beq_eq_false_iff_ne.2 (by omega)
        have s1 : ((sw : Int) == 1) = false := beq_eq_false_iff_ne.2 (by omega)
        have s2 : ((sw : Int) == 2) = false := beq_eq_false_iff_ne.2 (by omega)
        have HOe : Hid (Ow w wb (some g) [] [] [codeR w2.heap.size d m f, ⟨Ad, d, cd, 5, bys data⟩, ⟨some ⟨gw, 0, none⟩, nn, cw, 5, bys W⟩, ⟨Al, kl, cl, 3, ints (E.map Int.ofNat)⟩]) := by
          have h5 := HOb.out
          rw [nats_ints] at h5
          exact h5
        go_upto_region 19 with (fail)
        obtain ⟨Al2, hA2⟩ : ∃ A, A = Al := ⟨_, rfl⟩
        obtain ⟨cl2, hc2'⟩ : ∃ A, A = cl := ⟨_, rfl⟩
        rw [← hA2, ← hc2'] at HOe ⊢
        clear hA2 hc2' HOb HDb s0 s1 s2
        obtain ⟨hc0, hc1, hc2, hc3⟩ := HOe.out.cdc 0 rfl
        go_wp2_with fail
        refine (awake07_any _).mono ?_
        rintro en wv ⟨rfl, hb⟩
        have HF := Lib.hid (HOe.out.go hb)
        clear hb hc0 hc1 hc2 hc3
        obtain ⟨hc0, hc1, hc2, hc3⟩ := HF.out.cdc 0 rfl
        have HAg := Lib.hid (agree07_any (d := d) (m := m) (f := f) hcd0.out Ad cd (some ⟨gw, 0, none⟩) nn cw Al2 kl cl2 data W (E.map Int.ofNat) wv HDl.out (Sl.of_own (HF.out.row 1 rfl)) (own_cap (HF.out.row 1 rfl)).1 HWl.out (Sl.of_own (HF.out.row 2 rfl)) (own_cap (HF.out.row 2 rfl)).1 HKl.out (Sl.of_own (HF.out.row 3 rfl)) (own_cap (HF.out.row 3 rfl)).1 (by omega) (by omega))
        go_wp2_with fail
        refine HAg.out.mono ?_
        rintro en wu ⟨rfl, hb⟩
        have HF2 := Lib.hid (HF.out.go hb)
        clear hb
        go_wp2_with fail
        go_ret
        exact ⟨rfl, HF2.out.below⟩
    · have t2 : decide (0 < (k : Int)) = true := decide_eq_true (by omega)
      go_upto_region 10 with (fail)
      refine reg_monoT [some 37, some 38, some 39, some 40, some 41, some 42, some 43, some 44, some 45, some 46, some 47, some 48, none] (fun v => True) (fun v => Ow w v (some g) [] [] [codeR w2.heap.size d m f, ⟨Ad, d, cd, 5, bys data⟩, ⟨some ⟨gw, 0, none⟩, nn, cw, 5, bys W⟩] ∧ Dice v g w.heap.size) 12 (fun _ => 13) (lwM w g w.heap.size gw nn cw (fun p b => [codeR w2.heap.size d m f, ⟨Ad, d, cd, 5, bys data⟩, ⟨some ⟨gw, 0, none⟩, nn, cw, 5, bys (W.set p b)⟩])) (by kernel_rfl) (by kernel_rfl) (by kernel_rfl) ?_ ?_ ?_ ?_
      · exact trivial
      · exact ⟨HOr.out.drew, HDr.out.drew⟩
      · rintro j us v hj hl HS hS hp
        replace hl : us.length = 13 := hl
        obtain ⟨u0, us0, rfl, hl0⟩ := us_cons (n := 12) hl
        obtain ⟨u1, us1, rfl, hl1⟩ := us_cons (n := 11) hl0
        obtain ⟨u2, us2, rfl, hl2⟩ := us_cons (n := 10) hl1
        obtain ⟨u3, us3, rfl, hl3⟩ := us_cons (n := 9) hl2
        obtain ⟨u4, us4, rfl, hl4⟩ := us_cons (n := 8) hl3
        obtain ⟨u5, us5, rfl, hl5⟩ := us_cons (n := 7) hl4
        obtain ⟨u6, us6, rfl, hl6⟩ := us_cons (n := 6) hl5
        obtain ⟨u7, us7, rfl, hl7⟩ := us_cons (n := 5) hl6
        obtain ⟨u8, us8, rfl, hl8⟩ := us_cons (n := 4) hl7
        obtain ⟨u9, us9, rfl, hl9⟩ := us_cons (n := 3) hl8
        obtain ⟨u10, us10, rfl, hl10⟩ := us_cons (n := 2) hl9
        obtain ⟨u11, us11, rfl, hl11⟩ := us_cons (n := 1) hl10
        obtain ⟨u12, us12, rfl, hl12⟩ := us_cons (n := 0) hl11
        obtain rfl := us_nil hl12
        clear hl hl0 hl1 hl2 hl3 hl4 hl5 hl6 hl7 hl8 hl9 hl10 hl11
        have hj' : j < 13 := hj
        have hcase : j = 0 ∨ j = 1 ∨ j = 2 ∨ j = 3 ∨ j = 4 ∨ j = 5 ∨ j = 6 ∨ j = 7 ∨ j = 8 ∨ j = 9 ∨ j = 10 ∨ j = 11 ∨ j = 12 := by omega
        clear hj hj'
        replace HS : True := HS
        rcases hcase with rfl | rfl | rfl | rfl | rfl | rfl | rfl | rfl | rfl | rfl | rfl | rfl | rfl
        · have HS2 := Lib.hid (hS (.inl (by kernel_rfl)))
          clear HS hS hp
          refine wpOp_step rfl (fun K hK => ?_)
          simp only [putL, Act.put, List.setIfInBounds_toArray, List.set_cons_zero, List.set_cons_succ]
          go_simp
          refine hK _ _ ⟨.slice (some ⟨gw, 0, none⟩) nn cw, ?_, trivial, fun _ _ h => h, rfl, fun _ _ _ _ _ _ h => h⟩
          simp only [putL, Act.put, List.getD_cons_zero, List.setIfInBounds_toArray, List.set_cons_zero, List.set_cons_succ]
        · have HS2 := Lib.hid (hS (.inl (by kernel_rfl)))
          clear HS hS hp
          refine wpOp_step rfl (fun K hK => ?_)
          simp only [putL, Act.put, List.setIfInBounds_toArray, List.set_cons_zero, List.set_cons_succ]
          go_simp
          refine hK _ _ ⟨.pointer (some ⟨g, 0, none⟩), ?_, trivial, fun _ _ h => h, rfl, fun _ _ _ _ _ _ h => h⟩
          simp only [putL, Act.put, List.getD_cons_zero, List.getD_cons_succ, List.setIfInBounds_toArray, List.set_cons_zero, List.set_cons_succ]
        · have HS2 := Lib.hid (hS (.inl (by kernel_rfl)))
          clear HS hS hp
          refine wpOp_step rfl (fun K hK => ?_)
          simp only [putL, Act.put, List.setIfInBounds_toArray, List.set_cons_zero, List.set_cons_succ]
          go_simp
          refine hK _ _ ⟨.slice (some ⟨gw, 0, none⟩) nn cw, ?_, trivial, fun _ _ h => h, rfl, fun _ _ _ _ _ _ h => h⟩
          simp only [putL, Act.put, List.getD_cons_zero, List.getD_cons_succ, List.setIfInBounds_toArray, List.set_cons_zero, List.set_cons_succ]
        · obtain rfl : u2 = .slice (some ⟨gw, 0, none⟩) nn cw := hp 2 (by kernel_rfl) (.inr (by decide))
          have HS2 := Lib.hid (hS (.inl (by kernel_rfl)))
          clear HS hS hp
          refine wpOp_step rfl (fun K hK => ?_)
          simp only [putL, Act.put, List.setIfInBounds_toArray, List.set_cons_zero, List.set_cons_succ]
          go_simp
          refine hK _ _ ⟨.int .i64 (nn : Int), ?_, trivial, fun _ _ h => h, rfl, fun _ _ _ _ _ _ h => h⟩
          simp only [putL, Act.put, List.getD_cons_zero, List.getD_cons_succ, List.setIfInBounds_toArray, List.set_cons_zero, List.set_cons_succ]
        · obtain rfl : u1 = .pointer (some ⟨g, 0, none⟩) := hp 1 (by kernel_rfl) (.inr (by decide))
          obtain rfl : u3 = .int .i64 (nn : Int) := hp 3 (by kernel_rfl) (.inr (by decide))
          have HS2 := Lib.hid (hS (.inl (by kernel_rfl)))
          clear HS hS hp
          refine wpOp_step rfl (fun K hK => ?_)
          simp only [putL, Act.put, List.setIfInBounds_toArray, List.set_cons_zero, List.set_cons_succ]
          go_simp
          refine (next_ow HS2.out.1 HS2.out.2 nn (by omega) (by omega)).mono ?_
          rintro en v' ⟨r, rfl, hr, hd', ho, hg⟩
          refine hK _ _ ⟨.int .i64 (r : Int), ?_, trivial, fun _ _ _ => ⟨ho, hd'⟩, ⟨r, hr, rfl⟩, fun k y _ _ ha _ h => ?_⟩
          · simp only [putL, Act.put, List.getD_cons_zero, List.getD_cons_succ, List.setIfInBounds_toArray, List.set_cons_zero, List.set_cons_succ]
          by_cases hk9 : k = 12
          · subst hk9; exact absurd (ha.symm.trans (show _ = true by kernel_rfl)) (by decide)
          · exact lwM_any k y hk9 h
        · obtain ⟨p, hpn, rfl⟩ : lwM w g w.heap.size gw nn cw (fun p b => [codeR w2.heap.size d m f, ⟨Ad, d, cd, 5, bys data⟩, ⟨some ⟨gw, 0, none⟩, nn, cw, 5, bys (W.set p b)⟩]) 4 u4 v := hp 4 (by kernel_rfl) (.inr (by decide))
          obtain rfl : u0 = .slice (some ⟨gw, 0, none⟩) nn cw := hp 0 (by kernel_rfl) (.inr (by decide))
          have HS2 := Lib.hid (hS (.inl (by kernel_rfl)))
          clear HS hS hp
          refine wpOp_step rfl (fun K hK => ?_)
          simp only [putL, Act.put, List.setIfInBounds_toArray, List.set_cons_zero, List.set_cons_succ]
          go_simp
          refine hK _ _ ⟨.pointer (some ⟨gw, p, none⟩), ?_, trivial, fun _ _ h => h, ⟨p, hpn, rfl⟩, fun _ _ _ _ _ _ h => h⟩
          simp only [putL, Act.put, List.getD_cons_zero, List.getD_cons_succ, List.setIfInBounds_toArray, List.set_cons_zero, List.set_cons_succ]
        · obtain ⟨p, hpn, rfl⟩ : lwM w g w.heap.size gw nn cw (fun p b => [codeR w2.heap.size d m f, ⟨Ad, d, cd, 5, bys data⟩, ⟨some ⟨gw, 0, none⟩, nn, cw, 5, bys (W.set p b)⟩]) 5 u5 v := hp 5 (by kernel_rfl) (.inr (by decide))
          obtain ⟨x0, hx0⟩ : ∃ x0, Hid (W[p]? = some x0) := ⟨_, List.getElem?_eq_getElem (by rw [HWl.out]; exact hpn)⟩
          have HS2 := Lib.hid (hS (.inl (by kernel_rfl)))
          clear HS hS hp
          have hx := HS2.out.1.byteO 2 rfl hx0.out
          refine wpOp_step rfl (fun K hK => ?_)
          simp only [putL, Act.put, List.setIfInBounds_toArray, List.set_cons_zero, List.set_cons_succ]
          go_simp
          refine hK _ _ ⟨.int .u8 (x0.toNat : Int), ?_, trivial, fun _ _ h => h, ⟨x0, rfl⟩, fun _ _ _ _ _ _ h => h⟩
          simp only [putL, Act.put, List.getD_cons_zero, List.getD_cons_succ, List.setIfInBounds_toArray, List.set_cons_zero, List.set_cons_succ]
        · have HS2 := Lib.hid (hS (.inl (by kernel_rfl)))
          clear HS hS hp
          refine wpOp_step rfl (fun K hK => ?_)
          simp only [putL, Act.put, List.setIfInBounds_toArray, List.set_cons_zero, List.set_cons_succ]
          go_simp
          refine hK _ _ ⟨.pointer (some ⟨g, 0, none⟩), ?_, trivial, fun _ _ h => h, rfl, fun _ _ _ _ _ _ h => h⟩
          simp only [putL, Act.put, List.getD_cons_zero, List.getD_cons_succ, List.setIfInBounds_toArray, List.set_cons_zero, List.set_cons_succ]
        · obtain rfl : u7 = .pointer (some ⟨g, 0, none⟩) := hp 7 (by kernel_rfl) (.inr (by decide))
          have HS2 := Lib.hid (hS (.inl (by kernel_rfl)))
          clear HS hS hp
          refine wpOp_step rfl (fun K hK => ?_)
          simp only [putL, Act.put, List.setIfInBounds_toArray, List.set_cons_zero, List.set_cons_succ]
          go_simp
          refine (next_ow HS2.out.1 HS2.out.2 256 (by omega) (by omega)).mono ?_
          rintro en v' ⟨r, rfl, hr, hd', ho, hg⟩
          obtain ⟨b, hb⟩ := byte_of hr
          rw [hb]
          refine hK _ _ ⟨.int .i64 (b.toNat : Int), ?_, trivial, fun _ _ _ => ⟨ho, hd'⟩, ⟨b, rfl⟩, fun k y _ _ ha _ h => ?_⟩
          · simp only [putL, Act.put, List.getD_cons_zero, List.getD_cons_succ, List.setIfInBounds_toArray, List.set_cons_zero, List.set_cons_succ]
          by_cases hk9 : k = 12
          · subst hk9; exact absurd (ha.symm.trans (show _ = true by kernel_rfl)) (by decide)
          · exact lwM_any k y hk9 h
        · obtain ⟨b, rfl⟩ : lwM w g w.heap.size gw nn cw (fun p b => [codeR w2.heap.size d m f, ⟨Ad, d, cd, 5, bys data⟩, ⟨some ⟨gw, 0, none⟩, nn, cw, 5, bys (W.set p b)⟩]) 8 u8 v := hp 8 (by kernel_rfl) (.inr (by decide))
          have hwb : IntKind.u8.wrap (b.toNat : Int) = (b.toNat : Int) := IntWalk.u8_in _ (by have := u8_lt' b; omega)
          have HS2 := Lib.hid (hS (.inl (by kernel_rfl)))
          clear HS hS hp
          refine wpOp_step rfl (fun K hK => ?_)
          simp only [putL, Act.put, List.setIfInBounds_toArray, List.set_cons_zero, List.set_cons_succ]
          go_simp
          refine hK _ _ ⟨.int .u8 (b.toNat : Int), ?_, trivial, fun _ _ h => h, ⟨b, rfl⟩, fun _ _ _ _ _ _ h => h⟩
          simp only [putL, Act.put, List.getD_cons_zero, List.getD_cons_succ, List.setIfInBounds_toArray, List.set_cons_zero, List.set_cons_succ]
        · obtain ⟨x0, rfl⟩ : lwM w g w.heap.size gw nn cw (fun p b => [codeR w2.heap.size d m f, ⟨Ad, d, cd, 5, bys data⟩, ⟨some ⟨gw, 0, none⟩, nn, cw, 5, bys (W.set p b)⟩]) 6 u6 v := hp 6 (by kernel_rfl) (.inr (by decide))
          obtain ⟨b, rfl⟩ : lwM w g w.heap.size gw nn cw (fun p b => [codeR w2.heap.size d m f, ⟨Ad, d, cd, 5, bys data⟩, ⟨some ⟨gw, 0, none⟩, nn, cw, 5, bys (W.set p b)⟩]) 9 u9 v := hp 9 (by kernel_rfl) (.inr (by decide))
          obtain ⟨z, hz, HZ⟩ := xor_ex x0 b
          clear HZ
          have HS2 := Lib.hid (hS (.inl (by kernel_rfl)))
          clear HS hS hp
          refine wpOp_step rfl (fun K hK => ?_)
          simp only [putL, Act.put, List.setIfInBounds_toArray, List.set_cons_zero, List.set_cons_succ]
          go_simp
          refine hK _ _ ⟨.int .u8 (z.toNat : Int), ?_, trivial, fun _ _ h => h, ⟨z, rfl⟩, fun _ _ _ _ _ _ h => h⟩
          simp only [putL, Act.put, List.getD_cons_zero, List.getD_cons_succ, List.setIfInBounds_toArray, List.set_cons_zero, List.set_cons_succ]
        · obtain ⟨p, hpn, rfl⟩ : lwM w g w.heap.size gw nn cw (fun p b => [codeR w2.heap.size d m f, ⟨Ad, d, cd, 5, bys data⟩, ⟨some ⟨gw, 0, none⟩, nn, cw, 5, bys (W.set p b)⟩]) 4 u4 v := hp 4 (by kernel_rfl) (.inr (by decide))
          obtain rfl : u0 = .slice (some ⟨gw, 0, none⟩) nn cw := hp 0 (by kernel_rfl) (.inr (by decide))
          have HS2 := Lib.hid (hS (.inl (by kernel_rfl)))
          clear HS hS hp
          refine wpOp_step rfl (fun K hK => ?_)
          simp only [putL, Act.put, List.setIfInBounds_toArray, List.set_cons_zero, List.set_cons_succ]
          go_simp
          refine hK _ _ ⟨.pointer (some ⟨gw, p, none⟩), ?_, trivial, fun _ _ h => h, ⟨p, hpn, rfl⟩, fun _ _ _ _ _ _ h => h⟩
          simp only [putL, Act.put, List.getD_cons_zero, List.getD_cons_succ, List.setIfInBounds_toArray, List.set_cons_zero, List.set_cons_succ]
        · obtain ⟨p, hpn, rfl⟩ : lwM w g w.heap.size gw nn cw (fun p b => [codeR w2.heap.size d m f, ⟨Ad, d, cd, 5, bys data⟩, ⟨some ⟨gw, 0, none⟩, nn, cw, 5, bys (W.set p b)⟩]) 11 u11 v := hp 11 (by kernel_rfl) (.inr (by decide))
          obtain ⟨z, rfl⟩ : lwM w g w.heap.size gw nn cw (fun p b => [codeR w2.heap.size d m f, ⟨Ad, d, cd, 5, bys data⟩, ⟨some ⟨gw, 0, none⟩, nn, cw, 5, bys (W.set p b)⟩]) 10 u10 v := hp 10 (by kernel_rfl) (.inr (by decide))
          have HS2 := Lib.hid (hS (.inr (.inl rfl)))
          clear HS hS hp
          obtain ⟨x0, hx0⟩ : ∃ x0, W[p]? = some x0 := ⟨_, List.getElem?_eq_getElem (by rw [HWl.out]; exact hpn)⟩
          have hcl := HS2.out.1.byteO 2 rfl hx0
          have hfr := HS2.out.1.frzO 2 (vs := _) rfl p
          have G := Lib.hid (HS2.out.1.putB 2 rfl p z)
          have GD := Lib.hid (HS2.out.2.turned (Nat.le_refl _) HS2.out.1 (i := 2) rfl (grown_set v ⟨gw, p, none⟩ (.int .u8 (z.toNat : Int))))
          clear hx0
          refine wpOp_step rfl (fun K hK => ?_)
          simp only [putL, Act.put, List.setIfInBounds_toArray, List.set_cons_zero, List.set_cons_succ]
          go_simp
          refine hK _ _ ⟨undef, ?_, trivial, fun h => absurd rfl h, ⟨p, z, hpn, G.out, GD.out⟩, fun k y hk _ _ _ h => lwM_any k y hk h⟩
          simp only [putL, Act.put, List.getD_cons_zero, List.getD_cons_succ, List.setIfInBounds_toArray, List.set_cons_zero, List.set_cons_succ]
      · rintro us v hl HS hS hP
        replace hl : us.length = 13 := hl
        obtain ⟨u0, us0, rfl, hl0⟩ := us_cons (n := 12) hl
        obtain ⟨u1, us1, rfl, hl1⟩ := us_cons (n := 11) hl0
        obtain ⟨u2, us2, rfl, hl2⟩ := us_cons (n := 10) hl1
        obtain ⟨u3, us3, rfl, hl3⟩ := us_cons (n := 9) hl2
        obtain ⟨u4, us4, rfl, hl4⟩ := us_cons (n := 8) hl3
        obtain ⟨u5, us5, rfl, hl5⟩ := us_cons (n := 7) hl4
        obtain ⟨u6, us6, rfl, hl6⟩ := us_cons (n := 6) hl5
        obtain ⟨u7, us7, rfl, hl7⟩ := us_cons (n := 5) hl6
        obtain ⟨u8, us8, rfl, hl8⟩ := us_cons (n := 4) hl7
        obtain ⟨u9, us9, rfl, hl9⟩ := us_cons (n := 3) hl8
        obtain ⟨u10, us10, rfl, hl10⟩ := us_cons (n := 2) hl9
        obtain ⟨u11, us11, rfl, hl11⟩ := us_cons (n := 1) hl10
        obtain ⟨u12, us12, rfl, hl12⟩ := us_cons (n := 0) hl11
        obtain rfl := us_nil hl12
        clear hl hl0 hl1 hl2 hl3 hl4 hl5 hl6 hl7 hl8 hl9 hl10 hl11
        clear hS
        replace HS : True := HS
        obtain ⟨p, b, hpn, hGo, hGd⟩ : lwM w g w.heap.size gw nn cw (fun p b => [codeR w2.heap.size d m f, ⟨Ad, d, cd, 5, bys data⟩, ⟨some ⟨gw, 0, none⟩, nn, cw, 5, bys (W.set p b)⟩]) 12 u12 v := hP 12 (by show 12 < 13; decide) (by decide)
        have HOs := Lib.hid hGo
        have HDs := Lib.hid hGd
        clear HS hP hGo hGd
        simp only [putL, Act.put, List.setIfInBounds_toArray, List.set_cons_zero, List.set_cons_succ]
        go_wp2_with fail
        go_roundw
        case rel => exact ⟨k - 1, W.set p b, by omega, int_eqv (by omega), by unfold Hid; rw [List.length_set]; exact HWl.out, HOs.out, HDs.out⟩
        case measure => simp [intOf]; omega
end Go.Proofs.YtnplaejlmbncfaaGreatDoor

namespace Go.Proofs.YtnplaejlmbncfaaGreatDoor
open Go.ChangeShapes Go.WideShapes Go.ChangeAt Go.RowKit

section
variable {H : Type} {enc : TypeId × Value → H} {P : Program}
/-- arguments read behind the call as before it, if nothing below the old heap's size has turned -/
theorem args_stay (hl : laidOutB P = true) {W W' : World} (hb : Below W.heap.size W W') {sp : Nat → Bool} : ∀ {ts : List TypeId} {vs : List Value} {ds : List (DataW H)} {ps : List MemPlace},
    (∀ t ∈ ts, P.readableRec t = true ∧ t < P.types.size) → DataW.TrodAll enc P W 0 (fun _ => true) true ts vs ds ps → (∀ x ∈ ps, x.block < W.heap.size) → (∀ p ∈ ps, sp p.block = true) →
    DataW.TrodAll enc P W' 0 sp true ts vs ds ps := by
  intro ts
  induction ts with
  | nil =>
    intro vs ds ps _ h _ _
    cases vs <;> cases ds <;> simp [DataW.TrodAll] at h ⊢
    exact h
  | cons t ts ih =>
    intro vs ds ps ht h hlt hs
    obtain ⟨v, vs', d, ds', p, q, rfl, rfl, rfl, h0, h1⟩ := trodAll_cons h
    refine ⟨p, q, ?_, ?_, rfl⟩
    · exact WideElems.Trod_stays hl (ht t (by simp)).1 (ht t (by simp)).2 h0 (fun x hx => hb.same (hlt x (by simp [hx]))) (fun x hx => hs x (by simp [hx]))
    · exact ih (fun u hu => ht u (by simp [hu])) h1 (fun x hx => hlt x (by simp [hx])) (fun x hx => hs x (by simp [hx]))

theorem post_law (hl : laidOutB P = true) {f : Func} {s : ChangeSpec} {W W' : World} {args : Array Value} {ds gs : List (DataW H)} {before : List MemPlace} {tb : TypeId} (hb : Below W.heap.size W W')
    (hvars : s.vars = []) (hW : DataW.Whole enc P f.params.toList s.vars false W args.toList ds gs before)
    (hfn : s.fn H (ds ++ gs) = { results := [.lit (.bool true)], args := ds, vars := [] }) (hres : f.resultTypes = #[tb]) (htb : P.underlying tb = some .bool)
    (hts : ∀ t ∈ f.params.toList, P.readableRec t = true ∧ t < P.types.size) :
    s.post enc P f false true false false W args (.bool true) W' := by
  have hlt : ∀ p ∈ before, p.block < W.heap.size := fun p hp => hW.lt p hp
  have hW' := hW
  obtain ⟨p, q, hA, hV, rfl, hz, hn⟩ := hW
  rw [hvars] at hV
  have hq : q = [] := by
    cases gs with
    | nil => exact hV
    | cons g r => exact absurd hV (by intro h; cases h)
  subst hq
  refine ⟨ds, gs, _, [], p, [], hW', ?_, ?_, ?_, hb.frame _, fun h => by cases h⟩
  · rw [hfn, hres]
    exact trodAll_mk1 (shut_bool htb true)
  · rw [hfn]
    exact args_stay hl hb hts hA (fun x hx => hlt x (by simp [hx])) (fun x hx => by simpa using hlt x (by simp [hx]))
  · rw [hfn, hvars]
    rfl
end
end Go.Proofs.YtnplaejlmbncfaaGreatDoor

namespace Go.Proofs.YtnplaejlmbncfaaGreatDoor
open Go.ChangeShapes Go.WideShapes Go.ChangeAt Go.RowKit
set_option linter.unusedVariables false

theorem block_lt {W : World} {a : Addr} {v : Value} (h : W.cell? a = some v) : a.block < W.heap.size := by
  rcases Nat.lt_or_ge a.block W.heap.size with h1 | h1
  · exact h1
  · have h2 : W.heap[a.block]? = none := Array.getElem?_eq_none h1
    simp [World.cell?, h2] at h
section
variable {H : Type} {enc : TypeId × Value → H} {P : Program} {W : World}
theorem open_sl {t e : TypeId} {k : IntKind} (ht : P.underlying t = some (.slice e)) (he : P.underlying e = some (.int k)) (hc : P.cellsOf e = 1) {r : Reach} {b0 : Nat} {v : Value} {d : DataW H} {ps : List MemPlace}
    (hval : Value.okWide P W r b0 t v) (h : DataW.Trod enc P W 0 (fun _ => true) true t v d ps) :
    ∃ (A : Option Addr) (n c : Nat) (zs : List Int), v = .slice A n c ∧ zs.length = n ∧ n ≤ c ∧ c ≤ maxLen ∧ Sl W W.heap.size A (zs.map (Value.int k)) ∧ ∀ z ∈ zs, (Lit.int k z).wf = true := by
  obtain ⟨a0, n, c, rfl⟩ := okWide_slice ht hval
  obtain ⟨fuel, hf⟩ := h
  rcases Go.ChangeShapes.open_ints ht he hc hf with ⟨hcs, _⟩ | ⟨a, len, cap, zs, hcs, _, hle, hmx, hall, _, hcell, hwf⟩
  · have e1 : (Value.slice a0 n c) = .slice none 0 0 := (List.cons.inj (show [Value.slice a0 n c] = _ from hcs)).1
    injection e1 with h1 h2 h3
    subst h1 h2 h3
    exact ⟨none, 0, 0, [], rfl, rfl, Nat.le_refl _, Nat.zero_le _, Sl.nil _ _ _, fun z hz => by cases hz⟩
  · have e1 : (Value.slice a0 n c) = .slice (some a) len cap := (List.cons.inj (show [Value.slice a0 n c] = _ from hcs)).1
    injection e1 with h1 h2 h3
    subst h1 h2 h3
    have hz : zs.length = c := by simpa using hall
    refine ⟨some a, n, c, zs.take n, rfl, by rw [List.length_take]; omega, hle, hmx, fun hn => ?_, fun z hz => hwf z (List.mem_of_mem_take hz)⟩
    rw [List.length_map, List.length_take] at hn
    refine ⟨a, rfl, ?_, fun j u hu => ?_⟩
    · have h0 := hcell 0 (by omega)
      have := block_lt h0
      rwa [add_block] at this
    · rw [List.getElem?_map, List.getElem?_take] at hu
      by_cases hj : j < n
      · rw [if_pos hj, List.getElem?_eq_getElem (by omega)] at hu
        rw [hcell j (by omega), List.getD_eq_getElem?_getD, List.getElem?_eq_getElem (by omega)]
        exact hu
      · rw [if_neg hj] at hu
        cases hu
end
end Go.Proofs.YtnplaejlmbncfaaGreatDoor
