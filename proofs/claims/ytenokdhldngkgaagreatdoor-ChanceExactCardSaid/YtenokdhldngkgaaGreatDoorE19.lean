/- Eo Ep Eq -/
import Derived.Test.YtenokdhldngkgaaGreatDoorE12
import Derived.Test.YtenokdhldngkgaaGreatDoorE15
import Derived.Test.YtenokdhldngkgaaGreatDoorE16
import Derived.Test.YtenokdhldngkgaaGreatDoorE17
import Derived.Test.YtenokdhldngkgaaGreatDoorE18
namespace Go.Proofs.YtenokdhldngkgaaGreatDoor
open Go.RowKit Go.Sort
set_option linter.unusedVariables false
set_option maxRecDepth 100000
structure DeK (w0 : World) (g : Option Nat) (M : List (Nat × Value)) (L : List Ob) (O1 : List Rw) (rb ob wb nb : Nat) (P : Option Addr) (np cp : Nat) (V : Option Addr) (nV cV : Nat) (R : Option Addr) (nR cR : Nat) (A Wv n j y o k z nj X : Nat) (Ld : Nat → Bool) (u0 u1 u2 u3 u4 u5 u6 u7 u8 u9 u10 u11 u12 u13 u14 u15 u16 u17 u18 u19 u20 : Value) (va : Value) (Ls : List Ob) (W : World) : Prop where
 ow : Ow w0 W g (M ++ [(rb, .slice none 0 0), (ob, .slice P np cp), (wb, .slice V nV cV), (nb, va)]) (L ++ [(⟨P, np, cp, nats (Na.dig A)⟩ : Ob), (⟨V, nV, cV, nats (Na.dig Wv)⟩ : Ob), (⟨R, nR, cR, nats (Na.dig X)⟩ : Ob)] ++ Ls) O1
 h0 : Ld 0 = true → u0 = .agg #[.slice R nR cR]
 h1 : Ld 1 = true → u1 = .int .i64 (j : Int)
 h2 : Ld 2 = true → u2 = .int .i64 (y : Int)
 h3 : GN Ld 3 u3 (Na.bin j y) Ls
 h4 : Ld 4 = true → u4 = .int .i64 (j : Int)
 h5 : Ld 5 = true → u5 = .int .i64 (y : Int)
 h6 : Ld 6 = true → u6 = .int .i64 (z : Int)
 h7 : Ld 7 = true → u7 = .int .i64 (o : Int)
 h8 : GN Ld 8 u8 (Na.bin z o) Ls
 h9 : Ld 9 = true → u9 = .int .i64 (o : Int)
 h10 : GN Ld 10 u10 (254 ^ o) Ls
 h11 : Ld 11 = true → u11 = .int .i64 (n : Int)
 h12 : Ld 12 = true → u12 = .int .i64 (j : Int)
 h13 : Ld 13 = true → u13 = .int .i64 (nj : Int)
 h14 : Ld 14 = true → u14 = .int .i64 (k : Int)
 h15 : GN Ld 15 u15 (Na.bin nj k) Ls
 h16 : Ld 16 = true → u16 = .int .i64 (k : Int)
 h17 : GN Ld 17 u17 (255 ^ k) Ls
 h18 : GL Ld 18 u18 [Na.bin j y, Na.bin z o, 254 ^ o, Na.bin nj k, 255 ^ k] 5 (L ++ [(⟨P, np, cp, nats (Na.dig A)⟩ : Ob), (⟨V, nV, cV, nats (Na.dig Wv)⟩ : Ob), (⟨R, nR, cR, nats (Na.dig X)⟩ : Ob)]) Ls
 h19 : GN Ld 19 u19 (Na.bin j y * (Na.bin z o * (254 ^ o * (Na.bin nj k * 255 ^ k)))) Ls
 h20 : GN Ld 20 u20 (X + Na.bin j y * (Na.bin z o * (254 ^ o * (Na.bin nj k * 255 ^ k)))) Ls
 v0 : Ld 21 = false → va = .slice R nR cR
 v1 : GV Ld 21 va (X + Na.bin j y * (Na.bin z o * (254 ^ o * (Na.bin nj k * 255 ^ k)))) Ls
def DeI (w0 : World) (g : Option Nat) (M : List (Nat × Value)) (L : List Ob) (O1 : List Rw) (rb ob wb nb : Nat) (P : Option Addr) (np cp : Nat) (V : Option Addr) (nV cV : Nat) (R : Option Addr) (nR cR : Nat) (A Wv n j y o k z nj X : Nat) (A0 : Act) (Ld : Nat → Bool) (a : Act) (W : World) : Prop :=
 ∃ (u0 u1 u2 u3 u4 u5 u6 u7 u8 u9 u10 u11 u12 u13 u14 u15 u16 u17 u18 u19 u20 : Value) (va : Value) (Ls : List Ob), a = (((((((((((((((((((((A0.put (some 84) u0).put (some 85) u1).put (some 86) u2).put (some 87) u3).put (some 88) u4).put (some 89) u5).put (some 90) u6).put (some 91) u7).put (some 92) u8).put (some 93) u9).put (some 94) u10).put (some 95) u11).put (some 96) u12).put (some 97) u13).put (some 98) u14).put (some 99) u15).put (some 100) u16).put (some 101) u17).put (some 102) u18).put (some 103) u19).put (some 104) u20) ∧ DeK w0 g M L O1 rb ob wb nb P np cp V nV cV R nR cR A Wv n j y o k z nj X Ld u0 u1 u2 u3 u4 u5 u6 u7 u8 u9 u10 u11 u12 u13 u14 u15 u16 u17 u18 u19 u20 va Ls W
structure DfK (w0 : World) (g : Option Nat) (M : List (Nat × Value)) (L : List Ob) (O1 : List Rw) (rb ob wb nb : Nat) (P : Option Addr) (np cp : Nat) (V : Option Addr) (nV cV : Nat) (R : Option Addr) (nR cR : Nat) (A Wv X : Nat) (Ld : Nat → Bool) (u0 u1 u2 u3 u4 u5 : Value) (va : Value) (Ls : List Ob) (W : World) : Prop where
 ow : Ow w0 W g (M ++ [(rb, .slice none 0 0), (ob, va), (wb, .slice V nV cV), (nb, .slice R nR cR)]) (L ++ [(⟨P, np, cp, nats (Na.dig A)⟩ : Ob), (⟨V, nV, cV, nats (Na.dig Wv)⟩ : Ob), (⟨R, nR, cR, nats (Na.dig X)⟩ : Ob)] ++ Ls) O1
 h0 : Ld 0 = true → u0 = .agg #[.slice P np cp]
 h1 : Ld 1 = true → u1 = .agg #[.slice V nV cV]
 h2 : Ld 2 = true → u2 = .agg #[.slice R nR cR]
 h3 : GL Ld 3 u3 [Wv, X] 2 (L ++ [(⟨P, np, cp, nats (Na.dig A)⟩ : Ob), (⟨V, nV, cV, nats (Na.dig Wv)⟩ : Ob), (⟨R, nR, cR, nats (Na.dig X)⟩ : Ob)]) Ls
 h4 : GN Ld 4 u4 (Wv * X) Ls
 h5 : GN Ld 5 u5 (A + Wv * X) Ls
 v0 : Ld 6 = false → va = .slice P np cp
 v1 : GV Ld 6 va (A + Wv * X) Ls
def DfI (w0 : World) (g : Option Nat) (M : List (Nat × Value)) (L : List Ob) (O1 : List Rw) (rb ob wb nb : Nat) (P : Option Addr) (np cp : Nat) (V : Option Addr) (nV cV : Nat) (R : Option Addr) (nR cR : Nat) (A Wv X : Nat) (A0 : Act) (Ld : Nat → Bool) (a : Act) (W : World) : Prop :=
 ∃ (u0 u1 u2 u3 u4 u5 : Value) (va : Value) (Ls : List Ob), a = ((((((A0.put (some 105) u0).put (some 106) u1).put (some 107) u2).put (some 108) u3).put (some 109) u4).put (some 110) u5) ∧ DfK w0 g M L O1 rb ob wb nb P np cp V nV cV R nR cR A Wv X Ld u0 u1 u2 u3 u4 u5 va Ls W
namespace Ch
theorem nd_two {n f u v g o : Nat} (hn : n ≤ 40) (hu : u ≤ n) (hf : f ≤ 4) : nd n f u v g o ≤ 2 ^ 190 := by
 unfold nd
 split
 ·exact Nat.zero_le _
 ·next h =>
  rw [not_or, not_or, not_or] at h
  exact nt_two hn hu (by omega) (by omega)
def ng (n f u v g : Nat) : Nat := ns (fun o => nd n f u v g o) (f + 1 - g)
theorem nr_ng (n f u v : Nat) : ns (ng n f u v) (f + 1) = nr n f u v := nr_doc n f u v
theorem ng_two {n f u v g : Nat} (hn : n ≤ 40) (hu : u ≤ n) (hf : f ≤ 4) : ng n f u v g ≤ 5 * 2 ^ 190 :=
 Nat.le_trans (ns_le_mul _ fun i hi => nd_two hn hu hf) (Nat.mul_le_mul_right _ (by omega))
theorem ns_ng_two {n f u v g : Nat} (hn : n ≤ 40) (hu : u ≤ n) (hf : f ≤ 4) (hg : g ≤ 5) : ns (ng n f u v) g ≤ 25 * 2 ^ 190 := by
 refine Nat.le_trans (ns_le_mul g fun i hi => ng_two hn hu hf) ?_
 have : g * (5 * 2 ^ 190) ≤ 5 * (5 * 2 ^ 190) := Nat.mul_le_mul_right _ hg
 omega
def wo (n m f v : Nat) (i : Nat) : Nat := wd n m (i + 1) * nr n f (i + 1) v
theorem wo_two {n m f v i : Nat} (hn : n ≤ 40) (hi : i < n) (hf : f ≤ 4) : wo n m f v i ≤ K406 * 2 ^ 195 := wt_two hn (by omega) hf
end Ch
structure NdK (n j y o k z nj X : Nat) : Prop where
 b1 : Na.bin j y < Na.top
 b2 : Na.bin z o < Na.top
 b3 : 254 ^ o < Na.top
 b4 : Na.bin nj k < Na.top
 b5 : 255 ^ k < Na.top
 p2 : Na.bin j y * Na.bin z o < Na.top
 p3 : Na.bin j y * (Na.bin z o * 254 ^ o) < Na.top
 p4 : Na.bin j y * (Na.bin z o * (254 ^ o * Na.bin nj k)) < Na.top
 p5 : Na.bin j y * (Na.bin z o * (254 ^ o * (Na.bin nj k * 255 ^ k))) < Na.top
 xt : X < Na.top
 xs : X + Na.bin j y * (Na.bin z o * (254 ^ o * (Na.bin nj k * 255 ^ k))) < Na.top
 nx : Na.bin j y * (Na.bin z o * (254 ^ o * (Na.bin nj k * 255 ^ k))) = Ch.nt n j y o k
theorem NdK.of {n f j y o k X : Nat} (hn : n ≤ 40) (hj : j ≤ n) (hf : f ≤ 4) (hs : y + k + o ≤ f) (hy : y ≤ j) (hX : X ≤ 2 ^ 195) : NdK n j y o k (j - y) (n - j) X := by
 have h : NrK n f j 0 y k o X := NrK.of hn hj hf hs hX
 have e : Ch.ch ((j : Int) - (y : Int)) o = Na.bin (j - y) o := by
  unfold Ch.ch
  rw [if_neg (by omega), show ((j : Int) - (y : Int)).toNat = j - y by omega]
 obtain ⟨y4, o4, k4, b1, b2, b3, b4, b5, p2, p3, p4, p5, xt, xs, nx⟩ := h
 rw [e] at b2 p2 p3 p4 p5 xs nx
 exact ⟨b1, b2, b3, b4, b5, p2, p3, p4, p5, xt, xs, nx⟩
def RWo (w0 : World) (g : Option Nat) (M : List (Nat × Value)) (L : List Ob) (O1 : List Rw) (rb ob n m f v : Nat) (x : Value) (wr : World) : Prop :=
 ∃ (j : Nat) (P : Option Addr) (np cp : Nat), 1 ≤ j ∧ j ≤ n + 1 ∧ x = .int .i64 (j : Int) ∧
  Hid (Ow w0 wr g (M ++ [(rb, .slice none 0 0), (ob, .slice P np cp)]) (L ++ [⟨P, np, cp, nats (Na.dig (Ch.ns (Ch.wo n m f v) (j - 1)))⟩]) O1)
def RWm (w0 : World) (g : Option Nat) (M : List (Nat × Value)) (L : List Ob) (O1 : List Rw) (rb ob wb nb : Nat) (P : Option Addr) (np cp : Nat) (V : Option Addr) (nV cV A Wv n f j v : Nat) (x : Value) (wr : World) : Prop :=
 ∃ (y : Nat) (R : Option Addr) (nR cR : Nat), y ≤ f + 1 ∧ x = .int .i64 (y : Int) ∧
  Hid (Ow w0 wr g (M ++ [(rb, .slice none 0 0), (ob, .slice P np cp), (wb, .slice V nV cV), (nb, .slice R nR cR)]) (L ++ [⟨P, np, cp, nats (Na.dig A)⟩, ⟨V, nV, cV, nats (Na.dig Wv)⟩, ⟨R, nR, cR, nats (Na.dig (Ch.ns (Ch.ng n f j v) y))⟩]) O1)
def RWi (w0 : World) (g : Option Nat) (M : List (Nat × Value)) (L : List Ob) (O1 : List Rw) (rb ob wb nb : Nat) (P : Option Addr) (np cp : Nat) (V : Option Addr) (nV cV A Wv n f j v y X0 : Nat) (x : Value) (wr : World) : Prop :=
 ∃ (o : Nat) (R : Option Addr) (nR cR : Nat), o ≤ f + 1 - y ∧ x = .int .i64 (o : Int) ∧
  Hid (Ow w0 wr g (M ++ [(rb, .slice none 0 0), (ob, .slice P np cp), (wb, .slice V nV cV), (nb, .slice R nR cR)]) (L ++ [⟨P, np, cp, nats (Na.dig A)⟩, ⟨V, nV, cV, nats (Na.dig Wv)⟩, ⟨R, nR, cR, nats (Na.dig (X0 + Ch.ns (fun o => Ch.nd n f j v y o) o))⟩]) O1)
section
variable {w0 w w' : World} {g : Option Nat} {M M2 : List (Nat × Value)} {L : List Ob} {O : List Rw} {A A2 A3 A4 : Option Addr} {b n c m c2 n3 c3 n4 c4 x y d v f rb : Nat} {p q r s : List Int}
set_option maxHeartbeats 16000000 in
theorem r_Wrong (h : Ow w0 w g M L O) (hc : Cv d m f n) (hv : v ≤ n) :
  Calls Tryz.prog 64 #[.agg #[.int .i64 2, .int .i64 (d : Int), .int .i64 (m : Int), .int .i64 (f : Int)], .int .i64 (v : Int)] w (GotO w0 g M L O (Na.dig (Ch.wr n m f v)) 0) := by
 have HK := Lib.hid hc
 have H0 := (h.code d m f).boxed (.slice none 0 0) 25
 obtain ⟨k0, k1, k2, k3⟩ := H0.cdc (O.length + 0) (by rw [get_r]; rfl)
 have HW := Lib.hid (r_checkI H0 2 d m f v)
 rw [eI_ok hc hv] at HW
 unfold cdI at HW
 have hni := hc.ni
 have hn40 := hc.n40
 have hf4 : f ≤ 4 := hc.f4
 have hvn : v ≤ 40 := by omega
 clear h H0 hv hc
 go_enter Tryz.func64, Tryz.ntmps64
 go_wp2_with fail
 refine HW.out.mono ?_
 rintro en w1 ⟨rfl, G⟩
 obtain ⟨q0, q1, q2, q3⟩ := G.cdc (O.length + 0) (by rw [get_r]; rfl)
 have H1 := (G.boxed (.slice none 0 0) 25).nil'
 have hci : (O ++ [(⟨some ⟨w.heap.size, 0, none⟩, 4, 4, 57, (cdv d m f).toList⟩ : Rw)])[O.length + 0]? = some ⟨some ⟨w.heap.size, 0, none⟩, 4, 4, 57, (cdv d m f).toList⟩ := by rw [get_r]; rfl
 try simp only [World.size_alloc] at H1
 try simp only [List.append_assoc] at H1
 try simp only [List.cons_append] at H1
 try simp only [List.nil_append] at H1
 obtain ⟨O1, hO1⟩ : ∃ O1, O ++ [(⟨some ⟨w.heap.size, 0, none⟩, 4, 4, 57, (cdv d m f).toList⟩ : Rw)] = O1 := ⟨_, rfl⟩
 rw [hO1] at H1
 rw [hO1] at hci
 have HCI := Lib.hid hci
 have HO1 := Lib.hid hO1
 have HO := Lib.hid H1
 clear HW G H1 hci hO1 k0 k1 k2 k3
 go_wp2_with fail
 clear q0 q1 q2 q3
 go_loopw [9] (fun x wr => RWo w0 g M L O1 (w.heap.size + 1) w1.heap.size n m f v x wr) (fun x _ => 43 - (intOf x).toNat)
 case atStart => exact ⟨1, none, 0, 0, by omega, by omega, rfl, HO.out⟩
 case round =>
  clear HO
  obtain ⟨j, P, np, cp, hj1, hj2, rfl, HO⟩ := hrel
  obtain ⟨k0, k1, k2, k3⟩ := HO.out.cdc (O.length + 0) HCI.out
  rcases Nat.lt_or_ge n j with hge | hlt
  ·have hd : decide ((j : Int) ≤ (n : Int)) = false := decide_eq_false (by omega)
   have hd2 : decide (j ≤ n) = false := decide_eq_false (by omega)
   have HE : Hid (j - 1 = n) := by unfold Hid; omega
   rw [HE.out] at HO
   have x1 := HO.out.cell (M.length + 1) (by rw [get_r]; rfl)
   have x0 := HO.out.cell (M.length + 0) (by rw [get_r]; rfl)
   have f0 := HO.out.free (M.length + 0) (by rw [get_r]; rfl)
   have Z := HO.out.setv (M.length + 0) (by rw [get_r]; rfl) (.slice P np cp)
   rw [set_r, List.set_cons_zero] at Z
   have s0 := Z.cell (M.length + 0) (by rw [get_r]; rfl)
   have Z2 := Z.fewM
   rw [← HO1.out] at Z2
   have HF := Lib.hid Z2.fewO
   clear HO Z Z2
   go_wp2_with fail
   refine bodyPost_ret (v := .tuple #[.agg #[.slice P np cp], .int .i64 0]) (by simp [results, Tryz.results64, go_sem, s0]) rfl ?_
   exact ⟨P, np, cp, rfl, HF.out⟩
  ·have hd : decide ((j : Int) ≤ (n : Int)) = true := decide_eq_true (by omega)
   have hd2 : decide (j ≤ n) = true := decide_eq_true (by omega)
   have HJ : Hid (j ≤ n ∧ 1 ≤ j ∧ j ≤ 40) := ⟨hlt, hj1, by omega⟩
   have hj40 : j ≤ 40 := by omega
   have hj1' : 1 ≤ j := hj1
   have HC := Lib.hid (r_Words HO.out HK.out hlt)
   obtain ⟨A, hA⟩ : ∃ x, Ch.ns (Ch.wo n m f v) (j - 1) = x := ⟨_, rfl⟩
   have HA := Lib.hid hA
   obtain ⟨Wv, hWv⟩ : ∃ x, Ch.wd n m j = x := ⟨_, rfl⟩
   have HWv := Lib.hid hWv
   rw [hA, hWv] at HC
   clear HO hA hWv hlt hj1 hj2
   go_wp2_with fail
   refine HC.out.mono ?_
   rintro en w5 ⟨V, nV, cV, rfl, G⟩
   have G1 := ((G.boxed (.slice V nV cV) 25).boxed (.slice none 0 0) 25).nil'
   simp only [World.size_alloc, List.append_assoc, List.cons_append, List.nil_append] at G1
   have HO := Lib.hid G1
   clear HC G G1 k0 k1 k2 k3
   go_wp2_with fail
   go_loopw [13] (fun x wr => RWm w0 g M L O1 (w.heap.size + 1) w1.heap.size w5.heap.size (w5.heap.size + 1) P np cp V nV cV A Wv n f j v x wr) (fun x _ => 6 - (intOf x).toNat)
   case atStart => exact ⟨0, none, 0, 0, Nat.zero_le _, rfl, HO.out⟩
   case round =>
   clear HO
   obtain ⟨y, R, nR, cR, hy, rfl, HO⟩ := hrel
   obtain ⟨k0, k1, k2, k3⟩ := HO.out.cdc (O.length + 0) HCI.out
   rcases Nat.lt_or_ge f y with hge | hlt
   ·have hd3 : decide ((y : Int) ≤ (f : Int)) = false := decide_eq_false (by omega)
    have hd4 : decide (y ≤ f) = false := decide_eq_false (by omega)
    have HE : Hid (y = f + 1) := by unfold Hid; omega
    rw [HE.out, Ch.nr_ng] at HO
    have HX0 : Hid (Ch.nr n f j v ≤ 2 ^ 195) := Ch.nr_two hn40 HJ.out.1 hf4
    have HAb : Hid (A + Wv * Ch.nr n f j v = Ch.ns (Ch.wo n m f v) j ∧ A + Wv * Ch.nr n f j v < Na.top) := by
     obtain ⟨i, hi⟩ : ∃ i, j = i + 1 := ⟨j - 1, by have := HJ.out; omega⟩
     have e1 : A + Wv * Ch.nr n f j v = Ch.ns (Ch.wo n m f v) j := by
      rw [← HA.out, ← HWv.out, hi]
      rfl
     refine ⟨e1, ?_⟩
     rw [e1]
     have h3 := Ch.ns_le_mul (f := Ch.wo n m f v) (b := Ch.K406 * 2 ^ 195) j fun i hi => Ch.wo_two hn40 (by have := HJ.out; omega) hf4
     obtain ⟨B, hB⟩ : ∃ b, Ch.K406 * 2 ^ 195 = b := ⟨_, rfl⟩
     have hk := Ch.k607
     rw [hB] at h3 hk
     have h4 : j * B ≤ 41 * B := Nat.mul_le_mul_right _ (by omega)
     have h5 : 41 * B ≤ 42 * B := Nat.mul_le_mul_right _ (by omega)
     exact Ch.lt607 (Nat.le_trans h3 (Nat.le_trans h4 (Nat.le_trans h5 hk)))
    have HWb : Hid (Wv < Na.top) := by unfold Hid; rw [← HWv.out]; exact Nat.lt_of_le_of_lt (Ch.wd_two (by have := HJ.out; omega) hn40) (by decide +kernel)
    obtain ⟨X, hX⟩ : ∃ x, Ch.nr n f j v = x := ⟨_, rfl⟩
    rw [hX] at HO HX0 HAb
    have HB : Hid (Wv < Na.top ∧ X < Na.top ∧ Wv * X < Na.top ∧ A < Na.top ∧ A + Wv * X < Na.top) := by
     have h1 := HAb.out.2
     exact ⟨HWb.out, Ch.two366 (Nat.le_trans HX0.out (by decide +kernel)), by omega, by omega, h1⟩
    clear hX hy hge
    go_wp2_with fail
    clear k0 k1 k2 k3 hd3 hd4 hd hd2
   
    refine reg_inv34 (DfI w0 g M L O1 (w.heap.size + 1) w1.heap.size w5.heap.size (w5.heap.size + 1) P np cp V nV cV R nR cR A Wv X) (by kernel_rfl) (by kernel_rfl) ?_ ?_ ?_
    ·refine ⟨u105, u106, u107, u108, u109, u110, .slice P np cp, [], ?_, ⟨by rw [List.append_nil]; exact HO.out.drew, ?_, ?_, ?_, ?_, ?_, ?_, fun _ => rfl, ?_⟩⟩
     ·simp only [Act.put, zT, zZ, zS]
     all_goals (intro h; cases h)
    ·rintro jj Ld b W hj hf hcl hd ⟨u0, u1, u2, u3, u4, u5, va, Ls, rfl, hC⟩
     have hj' : jj < 7 := hj
     have hcase : jj = 0 ∨ jj = 1 ∨ jj = 2 ∨ jj = 3 ∨ jj = 4 ∨ jj = 5 ∨ jj = 6 := by omega
     have qa := hC.ow.cell (M.length + 1) (by rw [get_r]; rfl)
     have qz := hC.ow.free (M.length + 1) (by rw [get_r]; rfl)
     have qv := hC.ow.cell (M.length + 2) (by rw [get_r]; rfl)
     have qw := hC.ow.cell (M.length + 3) (by rw [get_r]; rfl)
     clear hj hj'
     simp only [Act.put, zT, zZ, zS]
     rcases hcase with rfl | rfl | rfl | rfl | rfl | rfl | rfl
     ·have g5 : Ld 5 = false := by cases e : Ld 5 with | false => rfl | true => (rw [hcl 5 0 e (by kernel_rfl)] at hf; cases hf)
      have g6 : Ld 6 = false := by cases e : Ld 6 with | false => rfl | true => (rw [hcl 6 5 e (by kernel_rfl)] at g5; cases g5)
      obtain rfl := hC.v0 g6
      clear hd hcl
      refine wpOp_step rfl (fun K hK => ?_)
      go_simp
      refine hK _ _ ⟨_, u1, u2, u3, u4, u5, _, Ls, ?_, ⟨hC.ow, fun _ => rfl, hC.h1, hC.h2, hC.h3, hC.h4, hC.h5, hC.v0, hC.v1⟩⟩
      simp only [Act.put, zT, zZ, zS]
     ·clear hd hcl
      refine wpOp_step rfl (fun K hK => ?_)
      go_simp
      refine hK _ _ ⟨u0, _, u2, u3, u4, u5, va, Ls, ?_, ⟨hC.ow, hC.h0, fun _ => rfl, hC.h2, hC.h3, hC.h4, hC.h5, hC.v0, hC.v1⟩⟩
      simp only [Act.put, zT, zZ, zS]
     ·clear hd hcl
      refine wpOp_step rfl (fun K hK => ?_)
      go_simp
      refine hK _ _ ⟨u0, u1, _, u3, u4, u5, va, Ls, ?_, ⟨hC.ow, hC.h0, hC.h1, fun _ => rfl, hC.h3, hC.h4, hC.h5, hC.v0, hC.v1⟩⟩
      simp only [Act.put, zT, zZ, zS]
     ·obtain rfl := hC.h1 (hd 1 (by kernel_rfl))
      obtain rfl := hC.h2 (hd 2 (by kernel_rfl))
      clear hd hcl
      refine wpOp_step rfl (fun K hK => ?_)
      go_simp
      have ho := hC.ow.push (World.ownsRow_lit (base := W.heap.size) (e := 25) (size := 1) W #[.slice V nV cV, .slice R nR cR] 2 (Nat.le_refl _) (by decide) rfl) (by omega) (own_box1 _ _)
      rw [List.append_assoc _ Ls] at ho
      refine hK _ _ ⟨u0, _, _, _, u4, u5, va, _, ?_, ⟨ho, hC.h0, hC.h1, hC.h2, GL.new _ _ _ _ _ _ _ (Nums.two (t1 := L.length + 1) (t2 := L.length + 2) ((get_l _ _ (by simp)).trans ((get_r _ _ 1).trans rfl)) ((get_l _ _ (by simp)).trans ((get_r _ _ 2).trans rfl))), hC.h4.more, hC.h5.more, hC.v0, hC.v1.more⟩⟩
      simp only [Act.put, zT, zZ, zS]
     ·obtain ⟨t3, A3, vs3, rfl, r3, m3⟩ := hC.h3 (hd 3 (by kernel_rfl))
      have R3 := hC.ow.got r3
      clear hd hcl
      refine wpOp_step rfl (fun K hK => ?_)
      go_simp
      refine (r8_mul2 hC.ow _ R3 m3 HB.out.1 HB.out.2.1 HB.out.2.2.1).mono ?_
      rintro e W' ⟨Az, nz, cz, rfl, ho⟩
      rw [List.append_assoc _ Ls] at ho
      refine hK _ _ ⟨u0, u1, u2, _, _, u5, va, _, ?_, ⟨ho, hC.h0, hC.h1, hC.h2, hC.h3.more, GN.new _ _ _ _ _ _ _, hC.h5.more, hC.v0, hC.v1.more⟩⟩
      simp only [Act.put, zT, zZ, zS]
     ·obtain rfl := hC.h0 (hd 0 (by kernel_rfl))
      obtain ⟨t4, A4, n4, c4, rfl, r4⟩ := hC.h4 (hd 4 (by kernel_rfl))
      have R4 := hC.ow.got r4
      clear hd hcl
      refine wpOp_step rfl (fun K hK => ?_)
      go_simp
      refine (r8_add hC.ow (L.length + 0) _ ((get_l _ _ (by simp)).trans ((get_r _ _ 0).trans rfl)) R4 HB.out.2.2.2.1 HB.out.2.2.1 HB.out.2.2.2.2).mono ?_
      rintro e W' ⟨Az, nz, cz, rfl, ho⟩
      rw [List.append_assoc _ Ls] at ho
      refine hK _ _ ⟨_, u1, u2, u3, _, _, va, _, ?_, ⟨ho, hC.h0, hC.h1, hC.h2, hC.h3.more, hC.h4.more, GN.new _ _ _ _ _ _ _, hC.v0, hC.v1.more⟩⟩
      simp only [Act.put, zT, zZ, zS]
     ·obtain ⟨t5, A5, n5, c5, rfl, r5⟩ := hC.h5 (hd 5 (by kernel_rfl))
      have R5 := hC.ow.got r5
      clear hd hcl
      refine wpOp_step rfl (fun K hK => ?_)
      go_simp
      have ho := hC.ow.setv (M.length + 1) (by rw [get_r]; rfl) (.slice A5 n5 c5)
      rw [set_r, List.set_cons_succ, List.set_cons_zero] at ho
      refine hK _ _ ⟨u0, u1, u2, u3, u4, _, _, Ls, ?_, ⟨ho, hC.h0, hC.h1, hC.h2, hC.h3, hC.h4, hC.h5, fun e => absurd (show true = false from e) (by decide), fun _ => ⟨t5, A5, n5, c5, rfl, r5⟩⟩⟩
      simp only [Act.put, zT, zZ, zS]
    ·rintro Ld b W hL ⟨u0, u1, u2, u3, u4, u5, va, Ls, rfl, hC⟩
     obtain ⟨tz, Az, nz, cz, rfl, rz⟩ := hC.v1 (hL 6 (by show 6 < 7; decide))
     have HG : Hid (Ow w0 W g (M ++ [(w.heap.size + 1, .slice none 0 0), (w1.heap.size, .slice Az nz cz)]) (L ++ [⟨Az, nz, cz, nats (Na.dig (Ch.ns (Ch.wo n m f v) (j + 1 - 1)))⟩]) O1) := by
      unfold Hid
      rw [Nat.add_sub_cancel, ← HAb.out.1]
      refine hC.ow.m2.less (fun ob ho => ?_)
      rcases List.mem_append.1 ho with h | h
      ·exact List.mem_append_left _ (List.mem_append_left _ h)
      ·rw [List.mem_singleton] at h
       subst h
       exact List.mem_append_right _ (List.mem_of_getElem? rz)
     clear hC HO
     simp only [Act.put, zT, zZ, zS]
     go_wp2_with fail
     go_roundw
     case rel => exact ⟨j + 1, Az, nz, cz, by omega, by have := HJ.out; omega, by go_num, HG⟩
     case measure => simp [intOf]; omega
   ·have hd3 : decide ((y : Int) ≤ (f : Int)) = true := decide_eq_true (by omega)
    have hd4 : decide (y ≤ f) = true := decide_eq_true (by omega)
    have hy4 : y ≤ 4 := by omega
    have hX0 : Hid (Ch.ns (Ch.ng n f j v) y ≤ 25 * 2 ^ 190) := Ch.ns_ng_two hn40 HJ.out.1 hf4 (by omega)
    have HN : Hid (Ch.ns (Ch.ng n f j v) (y + 1) = Ch.ns (Ch.ng n f j v) y + Ch.ns (fun o => Ch.nd n f j v y o) (f + 1 - y)) := rfl
    have HY : Hid (y + 1 ≤ f + 1) := Nat.succ_le_succ hlt
    obtain ⟨X0, hX⟩ : ∃ x, Ch.ns (Ch.ng n f j v) y = x := ⟨_, rfl⟩
    rw [hX] at HO HN hX0
    clear hX hy
    go_wp2_with fail
    clear k0 k1 k2 k3
    go_loopw [14] (fun x wr => RWi w0 g M L O1 (w.heap.size + 1) w1.heap.size w5.heap.size (w5.heap.size + 1) P np cp V nV cV A Wv n f j v y X0 x wr) (fun x _ => 6 - (intOf x).toNat)
    case atStart => exact ⟨0, R, nR, cR, Nat.zero_le _, rfl, HO.out⟩
    case round =>
     clear HO
     obtain ⟨o, R, nR, cR, ho, rfl, HO⟩ := hrel
     obtain ⟨k0, k1, k2, k3⟩ := HO.out.cdc (O.length + 0) HCI.out
     have g3 : IntKind.i64.wrap ((y : Int) + (o : Int)) = (y : Int) + (o : Int) := IntWalk.i64_in _ (by omega)
     rcases Nat.lt_or_ge f (y + o) with hout | hin
     ·have hd5 : decide ((y : Int) + (o : Int) ≤ (f : Int)) = false := decide_eq_false (by omega)
      have hd6 : decide (y + o ≤ f) = false := decide_eq_false (by omega)
      have HE : Hid (o = f + 1 - y) := by unfold Hid; omega
      clear hout
      go_wp2_with fail
      go_roundw
      case rel => exact ⟨y + 1, R, nR, cR, HY.out, by go_num, by rw [HN.out, ← HE.out]; exact HO⟩
      case measure => simp [intOf]; omega
     ·have hd5 : decide ((y : Int) + (o : Int) ≤ (f : Int)) = true := decide_eq_true (by omega)
      have hd6 : decide (y + o ≤ f) = true := decide_eq_true (by omega)
      have g1 : IntKind.i64.wrap ((j : Int) - (y : Int)) = (j : Int) - (y : Int) := IntWalk.i64_in _ (by omega)
      rcases Nat.lt_or_ge (v + y) j with hneg | hpos
      ·have g2 : IntKind.i64.wrap ((v : Int) - ((j : Int) - (y : Int))) = (v : Int) - ((j : Int) - (y : Int)) := IntWalk.i64_in _ (by omega)
       have c1 : decide ((v : Int) - ((j : Int) - (y : Int)) < 0) = true := decide_eq_true (by omega)
     
       have HNx : Hid (X0 + Ch.ns (fun o => Ch.nd n f j v y o) (o + 1) = X0 + Ch.ns (fun o => Ch.nd n f j v y o) o) := by
        have e0 : Ch.nd n f j v y o = 0 := if_pos (.inl hneg)
        show X0 + (Ch.ns (fun o => Ch.nd n f j v y o) o + Ch.nd n f j v y o) = _
        rw [e0, Nat.add_zero]
       clear hneg
       go_wp2_with fail
       go_roundw
       case rel => exact ⟨o + 1, R, nR, cR, by omega, by go_num, by rw [HNx.out]; exact HO⟩
       case measure => simp [intOf]; omega
      ·obtain ⟨k, hk⟩ : ∃ k, v + y - j = k := ⟨_, rfl⟩
       have g2 : IntKind.i64.wrap ((v : Int) - ((j : Int) - (y : Int))) = (k : Int) := by rw [IntWalk.i64_in _ (by omega)]; omega
       have hk80 : k ≤ 80 := by omega
       have c1 : decide ((k : Int) < 0) = false := decide_eq_false (by omega)
       have g4 : IntKind.i64.wrap ((y : Int) + (o : Int) + (k : Int)) = (y : Int) + (o : Int) + (k : Int) := IntWalk.i64_in _ (by omega)
       have HKk : Hid (v + y - j = k) := hk
       clear hk
       rcases Nat.lt_or_ge f (y + o + k) with h2 | h2
       ·have c2 : decide ((f : Int) < (y : Int) + (o : Int) + (k : Int)) = true := decide_eq_true (by omega)
        have c2' : decide (f < y + o + k) = true := decide_eq_true (by omega)
     
        have HNx : Hid (X0 + Ch.ns (fun o => Ch.nd n f j v y o) (o + 1) = X0 + Ch.ns (fun o => Ch.nd n f j v y o) o) := by
         have e0 : Ch.nd n f j v y o = 0 := if_pos (.inr (.inl (by rw [HKk.out]; exact h2)))
         show X0 + (Ch.ns (fun o => Ch.nd n f j v y o) o + Ch.nd n f j v y o) = _
         rw [e0, Nat.add_zero]
        clear hpos h2
        go_wp2_with fail
        go_roundw
        case rel => exact ⟨o + 1, R, nR, cR, by omega, by go_num, by rw [HNx.out]; exact HO⟩
        case measure => simp [intOf]; omega
       ·have c2 : decide ((f : Int) < (y : Int) + (o : Int) + (k : Int)) = false := decide_eq_false (by omega)
        have c2' : decide (f < y + o + k) = false := decide_eq_false (by omega)
        rcases Nat.lt_or_ge j (y + o) with h3 | h3
        ·have c3 : decide ((j : Int) < (y : Int) + (o : Int)) = true := decide_eq_true (by omega)
         have c3' : decide (j < y + o) = true := decide_eq_true (by omega)
     
         have HNx : Hid (X0 + Ch.ns (fun o => Ch.nd n f j v y o) (o + 1) = X0 + Ch.ns (fun o => Ch.nd n f j v y o) o) := by
          have e0 : Ch.nd n f j v y o = 0 := if_pos (.inr (.inr (.inl h3)))
          show X0 + (Ch.ns (fun o => Ch.nd n f j v y o) o + Ch.nd n f j v y o) = _
          rw [e0, Nat.add_zero]
         clear hpos h2 h3
         go_wp2_with fail
         go_roundw
         case rel => exact ⟨o + 1, R, nR, cR, by omega, by go_num, by rw [HNx.out]; exact HO⟩
         case measure => simp [intOf]; omega
        ·have c3 : decide ((j : Int) < (y : Int) + (o : Int)) = false := decide_eq_false (by omega)
         have c3' : decide (j < y + o) = false := decide_eq_false (by omega)
         obtain ⟨nj, hnj⟩ : ∃ x, n - j = x := ⟨_, rfl⟩
         have g5 : IntKind.i64.wrap ((n : Int) - (j : Int)) = (nj : Int) := by have := HJ.out.1; rw [IntWalk.i64_in _ (by omega)]; omega
         have hnj40 : nj ≤ 40 := by omega
         have HNJ := Lib.hid hnj
         clear hnj
         rcases Nat.lt_or_ge nj k with h4 | h4
         ·have c4 : decide ((nj : Int) < (k : Int)) = true := decide_eq_true (by omega)
          have c4' : decide (nj < k) = true := decide_eq_true (by omega)
     
          have HNx : Hid (X0 + Ch.ns (fun o => Ch.nd n f j v y o) (o + 1) = X0 + Ch.ns (fun o => Ch.nd n f j v y o) o) := by
           have e0 : Ch.nd n f j v y o = 0 := if_pos (.inr (.inr (.inr (by rw [HKk.out, HNJ.out]; exact h4))))
           show X0 + (Ch.ns (fun o => Ch.nd n f j v y o) o + Ch.nd n f j v y o) = _
           rw [e0, Nat.add_zero]
          clear hpos h2 h3 h4
          go_wp2_with fail
          go_roundw
          case rel => exact ⟨o + 1, R, nR, cR, by omega, by go_num, by rw [HNx.out]; exact HO⟩
          case measure => simp [intOf]; omega
         ·have c4 : decide ((nj : Int) < (k : Int)) = false := decide_eq_false (by omega)
          have c4' : decide (nj < k) = false := decide_eq_false (by omega)
          obtain ⟨X, hX⟩ : ∃ x, X0 + Ch.ns (fun o => Ch.nd n f j v y o) o = x := ⟨_, rfl⟩
          have hXb : X ≤ 2 ^ 195 := by
           have h1 : Ch.ns (fun o => Ch.nd n f j v y o) o ≤ o * 2 ^ 190 := Ch.ns_le_mul _ fun i hi => Ch.nd_two hn40 HJ.out.1 hf4
           have h2 : o * 2 ^ 190 ≤ 5 * 2 ^ 190 := Nat.mul_le_mul_right _ (by omega)
           have h3 := hX0.out
           have h4 : 25 * 2 ^ 190 + 5 * 2 ^ 190 ≤ 2 ^ 195 := by decide +kernel
           omega
          obtain ⟨z, hz⟩ : ∃ x, j - y = x := ⟨_, rfl⟩
          have HB0 := Lib.hid (NdK.of (y := y) (o := o) (k := k) hn40 HJ.out.1 hf4 (by omega) (by omega) hXb)
          rw [hz, HNJ.out] at HB0
          have HB : Hid (NdK n j y o k z nj X) := HB0
          have HS : Hid (X0 + Ch.ns (fun o => Ch.nd n f j v y o) (o + 1) = X + Ch.nt n j y o k) := by
           have e0 : Ch.nd n f j v y o = Ch.nt n j y o k := by
            unfold Ch.nd
            rw [if_neg (by rw [HKk.out, HNJ.out]; omega), HKk.out]
           show X0 + (Ch.ns (fun o => Ch.nd n f j v y o) o + Ch.nd n f j v y o) = _
           rw [← Nat.add_assoc, hX, e0]
          rw [hX] at HO
          have g6 : IntKind.i64.wrap ((j : Int) - (y : Int)) = (z : Int) := by rw [g1]; omega
          have HS0 : Hid (j ≤ 40 ∧ z ≤ 40 ∧ nj ≤ 40 ∧ o ≤ 4 ∧ k ≤ 4) := ⟨hj40, by omega, hnj40, by omega, by omega⟩
          have HLe : Hid (o + 1 ≤ f + 1 - y) := by unfold Hid; omega
          have HG6 := Lib.hid g6
          have HG5 := Lib.hid g5
          have hok : o ≤ 4 := by omega
          clear hX hXb hin ho hz HB0 h2 h3 h4 hpos g6
          go_wp2_with fail
          clear g1 g2 g3 g4 c1 c2 c2' c3 c3' c4 c4' hd5 hd6 hd3 hd4 hd hd2
          have g6 := HG6.out
     
          refine reg_inv34 (DeI w0 g M L O1 (w.heap.size + 1) w1.heap.size w5.heap.size (w5.heap.size + 1) P np cp V nV cV R nR cR A Wv n j y o k z nj X) (by kernel_rfl) (by kernel_rfl) ?_ ?_ ?_
          ·refine ⟨u84, u85, u86, u87, u88, u89, u90, u91, u92, u93, u94, u95, u96, u97, u98, u99, u100, u101, u102, u103, u104, .slice R nR cR, [], ?_, ⟨by rw [List.append_nil]; exact HO.out.drew, ?_, ?_, ?_, ?_, ?_, ?_, ?_, ?_, ?_, ?_, ?_, ?_, ?_, ?_, ?_, ?_, ?_, ?_, ?_, ?_, ?_, fun _ => rfl, ?_⟩⟩
           ·simp only [Act.put, zT, zZ, zS]
           all_goals (intro h; cases h)
          ·rintro jj Ld b W hj hf hcl hd ⟨u0, u1, u2, u3, u4, u5, u6, u7, u8, u9, u10, u11, u12, u13, u14, u15, u16, u17, u18, u19, u20, va, Ls, rfl, hC⟩
           have hj' : jj < 22 := hj
           have hcase : jj = 0 ∨ jj = 1 ∨ jj = 2 ∨ jj = 3 ∨ jj = 4 ∨ jj = 5 ∨ jj = 6 ∨ jj = 7 ∨ jj = 8 ∨ jj = 9 ∨ jj = 10 ∨ jj = 11 ∨ jj = 12 ∨ jj = 13 ∨ jj = 14 ∨ jj = 15 ∨ jj = 16 ∨ jj = 17 ∨ jj = 18 ∨ jj = 19 ∨ jj = 20 ∨ jj = 21 := by omega
           have qa := hC.ow.cell (M.length + 3) (by rw [get_r]; rfl)
           have qz := hC.ow.free (M.length + 3) (by rw [get_r]; rfl)
           clear hj hj'
           simp only [Act.put, zT, zZ, zS]
           rcases hcase with rfl | rfl | rfl | rfl | rfl | rfl | rfl | rfl | rfl | rfl | rfl | rfl | rfl | rfl | rfl | rfl | rfl | rfl | rfl | rfl | rfl | rfl
           ·have g20 : Ld 20 = false := by cases e : Ld 20 with | false => rfl | true => (rw [hcl 20 0 e (by kernel_rfl)] at hf; cases hf)
            have g21 : Ld 21 = false := by cases e : Ld 21 with | false => rfl | true => (rw [hcl 21 20 e (by kernel_rfl)] at g20; cases g20)
            obtain rfl := hC.v0 g21
            clear hd hcl
            refine wpOp_step rfl (fun K hK => ?_)
            go_simp
            refine hK _ _ ⟨_, u1, u2, u3, u4, u5, u6, u7, u8, u9, u10, u11, u12, u13, u14, u15, u16, u17, u18, u19, u20, _, Ls, ?_, ⟨hC.ow, fun _ => rfl, hC.h1, hC.h2, hC.h3, hC.h4, hC.h5, hC.h6, hC.h7, hC.h8, hC.h9, hC.h10, hC.h11, hC.h12, hC.h13, hC.h14, hC.h15, hC.h16, hC.h17, hC.h18, hC.h19, hC.h20, hC.v0, hC.v1⟩⟩
            simp only [Act.put, zT, zZ, zS]
           ·clear hd hcl
            refine wpOp_step rfl (fun K hK => ?_)
            go_simp
            refine hK _ _ ⟨u0, _, u2, u3, u4, u5, u6, u7, u8, u9, u10, u11, u12, u13, u14, u15, u16, u17, u18, u19, u20, va, Ls, ?_, ⟨hC.ow, hC.h0, fun _ => rfl, hC.h2, hC.h3, hC.h4, hC.h5, hC.h6, hC.h7, hC.h8, hC.h9, hC.h10, hC.h11, hC.h12, hC.h13, hC.h14, hC.h15, hC.h16, hC.h17, hC.h18, hC.h19, hC.h20, hC.v0, hC.v1⟩⟩
            simp only [Act.put, zT, zZ, zS]
           ·clear hd hcl
            refine wpOp_step rfl (fun K hK => ?_)
            go_simp
            refine hK _ _ ⟨u0, u1, _, u3, u4, u5, u6, u7, u8, u9, u10, u11, u12, u13, u14, u15, u16, u17, u18, u19, u20, va, Ls, ?_, ⟨hC.ow, hC.h0, hC.h1, fun _ => rfl, hC.h3, hC.h4, hC.h5, hC.h6, hC.h7, hC.h8, hC.h9, hC.h10, hC.h11, hC.h12, hC.h13, hC.h14, hC.h15, hC.h16, hC.h17, hC.h18, hC.h19, hC.h20, hC.v0, hC.v1⟩⟩
            simp only [Act.put, zT, zZ, zS]
           ·obtain rfl := hC.h1 (hd 1 (by kernel_rfl))
            obtain rfl := hC.h2 (hd 2 (by kernel_rfl))
            clear hd hcl
            refine wpOp_step rfl (fun K hK => ?_)
            go_simp
            refine (r8_choose hC.ow j y (by have := HS0.out; omega)).mono ?_
            rintro e W' ⟨Az, nz, cz, rfl, ho⟩
            rw [List.append_assoc _ Ls] at ho
            refine hK _ _ ⟨u0, _, _, _, u4, u5, u6, u7, u8, u9, u10, u11, u12, u13, u14, u15, u16, u17, u18, u19, u20, va, _, ?_, ⟨ho, hC.h0, hC.h1, hC.h2, GN.new _ _ _ _ _ _ _, hC.h4, hC.h5, hC.h6, hC.h7, hC.h8.more, hC.h9, hC.h10.more, hC.h11, hC.h12, hC.h13, hC.h14, hC.h15.more, hC.h16, hC.h17.more, hC.h18.more, hC.h19.more, hC.h20.more, hC.v0, hC.v1.more⟩⟩
            simp only [Act.put, zT, zZ, zS]
           ·clear hd hcl
            refine wpOp_step rfl (fun K hK => ?_)
            go_simp
            refine hK _ _ ⟨u0, u1, u2, u3, _, u5, u6, u7, u8, u9, u10, u11, u12, u13, u14, u15, u16, u17, u18, u19, u20, va, Ls, ?_, ⟨hC.ow, hC.h0, hC.h1, hC.h2, hC.h3, fun _ => rfl, hC.h5, hC.h6, hC.h7, hC.h8, hC.h9, hC.h10, hC.h11, hC.h12, hC.h13, hC.h14, hC.h15, hC.h16, hC.h17, hC.h18, hC.h19, hC.h20, hC.v0, hC.v1⟩⟩
            simp only [Act.put, zT, zZ, zS]
           ·clear hd hcl
            refine wpOp_step rfl (fun K hK => ?_)
            go_simp
            refine hK _ _ ⟨u0, u1, u2, u3, u4, _, u6, u7, u8, u9, u10, u11, u12, u13, u14, u15, u16, u17, u18, u19, u20, va, Ls, ?_, ⟨hC.ow, hC.h0, hC.h1, hC.h2, hC.h3, hC.h4, fun _ => rfl, hC.h6, hC.h7, hC.h8, hC.h9, hC.h10, hC.h11, hC.h12, hC.h13, hC.h14, hC.h15, hC.h16, hC.h17, hC.h18, hC.h19, hC.h20, hC.v0, hC.v1⟩⟩
            simp only [Act.put, zT, zZ, zS]
           ·obtain rfl := hC.h4 (hd 4 (by kernel_rfl))
            obtain rfl := hC.h5 (hd 5 (by kernel_rfl))
            clear hd hcl
            refine wpOp_step rfl (fun K hK => ?_)
            go_simp
            refine hK _ _ ⟨u0, u1, u2, u3, _, _, _, u7, u8, u9, u10, u11, u12, u13, u14, u15, u16, u17, u18, u19, u20, va, Ls, ?_, ⟨hC.ow, hC.h0, hC.h1, hC.h2, hC.h3, hC.h4, hC.h5, fun _ => rfl, hC.h7, hC.h8, hC.h9, hC.h10, hC.h11, hC.h12, hC.h13, hC.h14, hC.h15, hC.h16, hC.h17, hC.h18, hC.h19, hC.h20, hC.v0, hC.v1⟩⟩
            simp only [Act.put, zT, zZ, zS]
           ·clear hd hcl
            refine wpOp_step rfl (fun K hK => ?_)
            go_simp
            refine hK _ _ ⟨u0, u1, u2, u3, u4, u5, u6, _, u8, u9, u10, u11, u12, u13, u14, u15, u16, u17, u18, u19, u20, va, Ls, ?_, ⟨hC.ow, hC.h0, hC.h1, hC.h2, hC.h3, hC.h4, hC.h5, hC.h6, fun _ => rfl, hC.h8, hC.h9, hC.h10, hC.h11, hC.h12, hC.h13, hC.h14, hC.h15, hC.h16, hC.h17, hC.h18, hC.h19, hC.h20, hC.v0, hC.v1⟩⟩
            simp only [Act.put, zT, zZ, zS]
           ·obtain rfl := hC.h6 (hd 6 (by kernel_rfl))
            obtain rfl := hC.h7 (hd 7 (by kernel_rfl))
            clear hd hcl
            refine wpOp_step rfl (fun K hK => ?_)
            go_simp
            refine (r8_choose hC.ow z o (by have := HS0.out; omega)).mono ?_
            rintro e W' ⟨Az, nz, cz, rfl, ho⟩
            rw [List.append_assoc _ Ls] at ho
            refine hK _ _ ⟨u0, u1, u2, u3, u4, u5, _, _, _, u9, u10, u11, u12, u13, u14, u15, u16, u17, u18, u19, u20, va, _, ?_, ⟨ho, hC.h0, hC.h1, hC.h2, hC.h3.more, hC.h4, hC.h5, hC.h6, hC.h7, GN.new _ _ _ _ _ _ _, hC.h9, hC.h10.more, hC.h11, hC.h12, hC.h13, hC.h14, hC.h15.more, hC.h16, hC.h17.more, hC.h18.more, hC.h19.more, hC.h20.more, hC.v0, hC.v1.more⟩⟩
            simp only [Act.put, zT, zZ, zS]
           ·clear hd hcl
            refine wpOp_step rfl (fun K hK => ?_)
            go_simp
            refine hK _ _ ⟨u0, u1, u2, u3, u4, u5, u6, u7, u8, _, u10, u11, u12, u13, u14, u15, u16, u17, u18, u19, u20, va, Ls, ?_, ⟨hC.ow, hC.h0, hC.h1, hC.h2, hC.h3, hC.h4, hC.h5, hC.h6, hC.h7, hC.h8, fun _ => rfl, hC.h10, hC.h11, hC.h12, hC.h13, hC.h14, hC.h15, hC.h16, hC.h17, hC.h18, hC.h19, hC.h20, hC.v0, hC.v1⟩⟩
            simp only [Act.put, zT, zZ, zS]
           ·obtain rfl := hC.h9 (hd 9 (by kernel_rfl))
            clear hd hcl
            refine wpOp_step rfl (fun K hK => ?_)
            go_simp
            refine (r8_power hC.ow 254 o (by omega) (by have := HS0.out; omega) HB.out.b3).mono ?_
            rintro e W' ⟨Az, nz, cz, rfl, ho⟩
            rw [List.append_assoc _ Ls] at ho
            refine hK _ _ ⟨u0, u1, u2, u3, u4, u5, u6, u7, u8, _, _, u11, u12, u13, u14, u15, u16, u17, u18, u19, u20, va, _, ?_, ⟨ho, hC.h0, hC.h1, hC.h2, hC.h3.more, hC.h4, hC.h5, hC.h6, hC.h7, hC.h8.more, hC.h9, GN.new _ _ _ _ _ _ _, hC.h11, hC.h12, hC.h13, hC.h14, hC.h15.more, hC.h16, hC.h17.more, hC.h18.more, hC.h19.more, hC.h20.more, hC.v0, hC.v1.more⟩⟩
            simp only [Act.put, zT, zZ, zS]
           ·clear hd hcl
            refine wpOp_step rfl (fun K hK => ?_)
            go_simp
            refine hK _ _ ⟨u0, u1, u2, u3, u4, u5, u6, u7, u8, u9, u10, _, u12, u13, u14, u15, u16, u17, u18, u19, u20, va, Ls, ?_, ⟨hC.ow, hC.h0, hC.h1, hC.h2, hC.h3, hC.h4, hC.h5, hC.h6, hC.h7, hC.h8, hC.h9, hC.h10, fun _ => rfl, hC.h12, hC.h13, hC.h14, hC.h15, hC.h16, hC.h17, hC.h18, hC.h19, hC.h20, hC.v0, hC.v1⟩⟩
            simp only [Act.put, zT, zZ, zS]
           ·clear hd hcl
            refine wpOp_step rfl (fun K hK => ?_)
            go_simp
            refine hK _ _ ⟨u0, u1, u2, u3, u4, u5, u6, u7, u8, u9, u10, u11, _, u13, u14, u15, u16, u17, u18, u19, u20, va, Ls, ?_, ⟨hC.ow, hC.h0, hC.h1, hC.h2, hC.h3, hC.h4, hC.h5, hC.h6, hC.h7, hC.h8, hC.h9, hC.h10, hC.h11, fun _ => rfl, hC.h13, hC.h14, hC.h15, hC.h16, hC.h17, hC.h18, hC.h19, hC.h20, hC.v0, hC.v1⟩⟩
            simp only [Act.put, zT, zZ, zS]
           ·obtain rfl := hC.h11 (hd 11 (by kernel_rfl))
            obtain rfl := hC.h12 (hd 12 (by kernel_rfl))
            clear hd hcl
            refine wpOp_step rfl (fun K hK => ?_)
            go_simp
            refine hK _ _ ⟨u0, u1, u2, u3, u4, u5, u6, u7, u8, u9, u10, _, _, _, u14, u15, u16, u17, u18, u19, u20, va, Ls, ?_, ⟨hC.ow, hC.h0, hC.h1, hC.h2, hC.h3, hC.h4, hC.h5, hC.h6, hC.h7, hC.h8, hC.h9, hC.h10, hC.h11, hC.h12, fun _ => rfl, hC.h14, hC.h15, hC.h16, hC.h17, hC.h18, hC.h19, hC.h20, hC.v0, hC.v1⟩⟩
            simp only [Act.put, zT, zZ, zS]
           ·clear hd hcl
            refine wpOp_step rfl (fun K hK => ?_)
            go_simp
            refine hK _ _ ⟨u0, u1, u2, u3, u4, u5, u6, u7, u8, u9, u10, u11, u12, u13, _, u15, u16, u17, u18, u19, u20, va, Ls, ?_, ⟨hC.ow, hC.h0, hC.h1, hC.h2, hC.h3, hC.h4, hC.h5, hC.h6, hC.h7, hC.h8, hC.h9, hC.h10, hC.h11, hC.h12, hC.h13, fun _ => rfl, hC.h15, hC.h16, hC.h17, hC.h18, hC.h19, hC.h20, hC.v0, hC.v1⟩⟩
            simp only [Act.put, zT, zZ, zS]
           ·obtain rfl := hC.h13 (hd 13 (by kernel_rfl))
            obtain rfl := hC.h14 (hd 14 (by kernel_rfl))
            clear hd hcl
            refine wpOp_step rfl (fun K hK => ?_)
            go_simp
            refine (r8_choose hC.ow nj k (by have := HS0.out; omega)).mono ?_
            rintro e W' ⟨Az, nz, cz, rfl, ho⟩
            rw [List.append_assoc _ Ls] at ho
            refine hK _ _ ⟨u0, u1, u2, u3, u4, u5, u6, u7, u8, u9, u10, u11, u12, _, _, _, u16, u17, u18, u19, u20, va, _, ?_, ⟨ho, hC.h0, hC.h1, hC.h2, hC.h3.more, hC.h4, hC.h5, hC.h6, hC.h7, hC.h8.more, hC.h9, hC.h10.more, hC.h11, hC.h12, hC.h13, hC.h14, GN.new _ _ _ _ _ _ _, hC.h16, hC.h17.more, hC.h18.more, hC.h19.more, hC.h20.more, hC.v0, hC.v1.more⟩⟩
            simp only [Act.put, zT, zZ, zS]
           ·clear hd hcl
            refine wpOp_step rfl (fun K hK => ?_)
            go_simp
            refine hK _ _ ⟨u0, u1, u2, u3, u4, u5, u6, u7, u8, u9, u10, u11, u12, u13, u14, u15, _, u17, u18, u19, u20, va, Ls, ?_, ⟨hC.ow, hC.h0, hC.h1, hC.h2, hC.h3, hC.h4, hC.h5, hC.h6, hC.h7, hC.h8, hC.h9, hC.h10, hC.h11, hC.h12, hC.h13, hC.h14, hC.h15, fun _ => rfl, hC.h17, hC.h18, hC.h19, hC.h20, hC.v0, hC.v1⟩⟩
            simp only [Act.put, zT, zZ, zS]
           ·obtain rfl := hC.h16 (hd 16 (by kernel_rfl))
            clear hd hcl
            refine wpOp_step rfl (fun K hK => ?_)
            go_simp
            refine (r8_power hC.ow 255 k (by omega) (by have := HS0.out; omega) HB.out.b5).mono ?_
            rintro e W' ⟨Az, nz, cz, rfl, ho⟩
            rw [List.append_assoc _ Ls] at ho
            refine hK _ _ ⟨u0, u1, u2, u3, u4, u5, u6, u7, u8, u9, u10, u11, u12, u13, u14, u15, _, _, u18, u19, u20, va, _, ?_, ⟨ho, hC.h0, hC.h1, hC.h2, hC.h3.more, hC.h4, hC.h5, hC.h6, hC.h7, hC.h8.more, hC.h9, hC.h10.more, hC.h11, hC.h12, hC.h13, hC.h14, hC.h15.more, hC.h16, GN.new _ _ _ _ _ _ _, hC.h18.more, hC.h19.more, hC.h20.more, hC.v0, hC.v1.more⟩⟩
            simp only [Act.put, zT, zZ, zS]
           ·obtain ⟨t3, A3, n3, c3, rfl, r3⟩ := hC.h3 (hd 3 (by kernel_rfl))
            have R3 := hC.ow.got r3
            obtain ⟨t8, A8, n8, c8, rfl, r8⟩ := hC.h8 (hd 8 (by kernel_rfl))
            have R8 := hC.ow.got r8
            obtain ⟨t10, A10, n10, c10, rfl, r10⟩ := hC.h10 (hd 10 (by kernel_rfl))
            have R10 := hC.ow.got r10
            obtain ⟨t15, A15, n15, c15, rfl, r15⟩ := hC.h15 (hd 15 (by kernel_rfl))
            have R15 := hC.ow.got r15
            obtain ⟨t17, A17, n17, c17, rfl, r17⟩ := hC.h17 (hd 17 (by kernel_rfl))
            have R17 := hC.ow.got r17
            clear hd hcl
            refine wpOp_step rfl (fun K hK => ?_)
            go_simp
            have ho := hC.ow.push (World.ownsRow_lit (base := W.heap.size) (e := 25) (size := 1) W #[.slice A3 n3 c3, .slice A8 n8 c8, .slice A10 n10 c10, .slice A15 n15 c15, .slice A17 n17 c17] 5 (Nat.le_refl _) (by decide) rfl) (by omega) (own_box1 _ _)
            rw [List.append_assoc _ Ls] at ho
            refine hK _ _ ⟨u0, u1, u2, _, u4, u5, u6, u7, _, u9, _, u11, u12, u13, u14, _, u16, _, _, u19, u20, va, _, ?_, ⟨ho, hC.h0, hC.h1, hC.h2, hC.h3.more, hC.h4, hC.h5, hC.h6, hC.h7, hC.h8.more, hC.h9, hC.h10.more, hC.h11, hC.h12, hC.h13, hC.h14, hC.h15.more, hC.h16, hC.h17.more, GL.new _ _ _ _ _ _ _ (Nums.five R3 R8 R10 R15 R17), hC.h19.more, hC.h20.more, hC.v0, hC.v1.more⟩⟩
            simp only [Act.put, zT, zZ, zS]
           ·obtain ⟨t18, A18, vs18, rfl, r18, m18⟩ := hC.h18 (hd 18 (by kernel_rfl))
            have R18 := hC.ow.got r18
            clear hd hcl
            refine wpOp_step rfl (fun K hK => ?_)
            go_simp
            refine (r8_mul5 hC.ow _ R18 m18 HB.out.b1 HB.out.b2 HB.out.b3 HB.out.b4 HB.out.b5 HB.out.p2 HB.out.p3 HB.out.p4 HB.out.p5).mono ?_
            rintro e W' ⟨Az, nz, cz, rfl, ho⟩
            rw [List.append_assoc _ Ls] at ho
            refine hK _ _ ⟨u0, u1, u2, u3, u4, u5, u6, u7, u8, u9, u10, u11, u12, u13, u14, u15, u16, u17, _, _, u20, va, _, ?_, ⟨ho, hC.h0, hC.h1, hC.h2, hC.h3.more, hC.h4, hC.h5, hC.h6, hC.h7, hC.h8.more, hC.h9, hC.h10.more, hC.h11, hC.h12, hC.h13, hC.h14, hC.h15.more, hC.h16, hC.h17.more, hC.h18.more, GN.new _ _ _ _ _ _ _, hC.h20.more, hC.v0, hC.v1.more⟩⟩
            simp only [Act.put, zT, zZ, zS]
           ·obtain rfl := hC.h0 (hd 0 (by kernel_rfl))
            obtain ⟨t19, A19, n19, c19, rfl, r19⟩ := hC.h19 (hd 19 (by kernel_rfl))
            have R19 := hC.ow.got r19
            clear hd hcl
            refine wpOp_step rfl (fun K hK => ?_)
            go_simp
            refine (r8_add hC.ow (L.length + 2) _ ((get_l _ _ (by simp)).trans ((get_r _ _ 2).trans rfl)) R19 HB.out.xt HB.out.p5 HB.out.xs).mono ?_
            rintro e W' ⟨Az, nz, cz, rfl, ho⟩
            rw [List.append_assoc _ Ls] at ho
            refine hK _ _ ⟨_, u1, u2, u3, u4, u5, u6, u7, u8, u9, u10, u11, u12, u13, u14, u15, u16, u17, u18, _, _, va, _, ?_, ⟨ho, hC.h0, hC.h1, hC.h2, hC.h3.more, hC.h4, hC.h5, hC.h6, hC.h7, hC.h8.more, hC.h9, hC.h10.more, hC.h11, hC.h12, hC.h13, hC.h14, hC.h15.more, hC.h16, hC.h17.more, hC.h18.more, hC.h19.more, GN.new _ _ _ _ _ _ _, hC.v0, hC.v1.more⟩⟩
            simp only [Act.put, zT, zZ, zS]
           ·obtain ⟨t20, A20, n20, c20, rfl, r20⟩ := hC.h20 (hd 20 (by kernel_rfl))
            have R20 := hC.ow.got r20
            clear hd hcl
            refine wpOp_step rfl (fun K hK => ?_)
            go_simp
            have ho := hC.ow.setv (M.length + 3) (by rw [get_r]; rfl) (.slice A20 n20 c20)
            rw [set_r, List.set_cons_succ, List.set_cons_succ, List.set_cons_succ, List.set_cons_zero] at ho
            refine hK _ _ ⟨u0, u1, u2, u3, u4, u5, u6, u7, u8, u9, u10, u11, u12, u13, u14, u15, u16, u17, u18, u19, _, _, Ls, ?_, ⟨ho, hC.h0, hC.h1, hC.h2, hC.h3, hC.h4, hC.h5, hC.h6, hC.h7, hC.h8, hC.h9, hC.h10, hC.h11, hC.h12, hC.h13, hC.h14, hC.h15, hC.h16, hC.h17, hC.h18, hC.h19, hC.h20, fun e => absurd (show true = false from e) (by decide), fun _ => ⟨t20, A20, n20, c20, rfl, r20⟩⟩⟩
            simp only [Act.put, zT, zZ, zS]
          ·rintro Ld b W hL ⟨u0, u1, u2, u3, u4, u5, u6, u7, u8, u9, u10, u11, u12, u13, u14, u15, u16, u17, u18, u19, u20, va, Ls, rfl, hC⟩
           obtain ⟨tz, Az, nz, cz, rfl, rz⟩ := hC.v1 (hL 21 (by show 21 < 22; decide))
           have HG : Hid (Ow w0 W g (M ++ [(w.heap.size + 1, .slice none 0 0), (w1.heap.size, .slice P np cp), (w5.heap.size, .slice V nV cV), (w5.heap.size + 1, .slice Az nz cz)]) (L ++ [⟨P, np, cp, nats (Na.dig A)⟩, ⟨V, nV, cV, nats (Na.dig Wv)⟩, ⟨Az, nz, cz, nats (Na.dig (X0 + Ch.ns (fun o => Ch.nd n f j v y o) (o + 1)))⟩]) O1) := by
            unfold Hid
            rw [HS.out, ← HB.out.nx]
            refine hC.ow.less (fun ob ho => ?_)
            rcases List.mem_append.1 ho with h | h
            ·exact List.mem_append_left _ (List.mem_append_left _ h)
            ·simp only [List.mem_cons, List.mem_nil_iff, or_false] at h
             rcases h with rfl | rfl | rfl
             ·exact List.mem_append_left _ (List.mem_append_right _ (List.mem_of_getElem? (i := 0) rfl))
             ·exact List.mem_append_left _ (List.mem_append_right _ (List.mem_of_getElem? (i := 1) rfl))
             ·exact List.mem_append_right _ (List.mem_of_getElem? rz)
           clear hC HO
           simp only [Act.put, zT, zZ, zS]
           go_wp2_with fail
           go_roundw
           case rel => exact ⟨o + 1, Az, nz, cz, HLe.out, by go_num, HG⟩
           case measure => simp [intOf]; omega
end
section
variable {w0 w w' : World} {g : Option Nat} {M M2 : List (Nat × Value)} {L : List Ob} {O : List Rw} {A A2 A3 A4 : Option Addr} {b n c m c2 n3 c3 n4 c4 x y d v f rb : Nat} {tF : Nat × Nat × Int} {p q r s : List Int}
set_option maxHeartbeats 16000000 in
theorem r_Chance (h : Ow w0 w g M L O) (hc : Cv d m f n) (hv : v ≤ n) (htF : frM (Ch.wr n m f v) (Na.bin n v * 255 ^ v) = tF) :
  Calls Tryz.prog 65 #[.agg #[.int .i64 2, .int .i64 (d : Int), .int .i64 (m : Int), .int .i64 (f : Int)], .int .i64 (v : Int)] w (GotF w0 g M L O tF) := by
 have HX : Hid (Ch.wr n m f v < Na.top ∧ Na.bin n v * 255 ^ v < Na.top) := ⟨Ch.wr_lt hc hv, er_top hc.n40 (by have := hc.n40; omega)⟩
 have H0 := (h.code d m f).pair (.slice none 0 0) (.slice none 0 0) 27
 simp only [List.append_assoc, List.cons_append, List.nil_append, World.size_alloc] at H0
 obtain ⟨k0, k1, k2, k3⟩ := H0.cdc (O.length + 0) (by rw [get_r]; rfl)
 have HW := Lib.hid (r_Wrong H0 hc hv)
 have HE := Lib.hid htF
 have HV := Lib.hid hv
 have HK := Lib.hid hc
 obtain ⟨X, hX⟩ : ∃ x, Ch.wr n m f v = x := ⟨_, rfl⟩
 obtain ⟨Y, hY⟩ : ∃ x, Na.bin n v * 255 ^ v = x := ⟨_, rfl⟩
 rw [hX] at HW HX HE
 rw [hY] at HX HE
 have HY := Lib.hid hY
 clear h H0 hv hc htF hX hY
 go_enter Tryz.func65, Tryz.ntmps65
 go_wp2_with fail
 refine HW.out.mono ?_
 rintro en w1 ⟨P, np, cp, rfl, G⟩
 have H2 := G.boxed (.slice P np cp) 25
 obtain ⟨q0, q1, q2, q3⟩ := H2.cdc (O.length + 0) (by rw [get_r]; rfl)
 have HC := Lib.hid (r_Errors H2 HK.out HV.out)
 rw [HY.out] at HC
 clear HW G H2 k0 k1 k2 k3
 go_wp2_with fail
 refine HC.out.mono ?_
 rintro en w2 ⟨Q, nq, cq, rfl, G⟩
 have H3 := G.boxed (.slice Q nq cq) 25
 simp only [List.append_assoc, List.cons_append, List.nil_append] at H3
 have c0 := H3.cell (M.length + 0) (by rw [get_r]; rfl)
 have c1 := H3.cell (M.length + 1) (by rw [get_r]; rfl)
 have HC2 := Lib.hid (qrmake_fr H3 (L.length + 0) (L.length + 1) (by rw [get_r]; rfl) (by rw [get_r]; rfl) HX.out.1 HX.out.2 HE.out)
 clear HC G H3 q0 q1 q2 q3
 go_wp2_with fail
 refine HC2.out.mono ?_
 rintro en w3 ⟨A1, n1, c1', A2, n2, c2', rfl, H2⟩
 have y0 := H2.p0 (O.length + 1) (by rw [get_r]; rfl)
 have y1 := H2.p1 (O.length + 1) (by rw [get_r]; rfl)
 have yf0 := H2.pf (O.length + 1) (by rw [get_r]; rfl) 0
 have yf1 := H2.pf (O.length + 1) (by rw [get_r]; rfl) 1
 have Z1 := H2.set0 (O.length + 1) (by rw [get_r]; rfl) (.slice A1 n1 c1')
 rw [set_r, List.set_cons_succ, List.set_cons_zero] at Z1
 have Z2 := Z1.set1 (O.length + 1) (by rw [get_r]; rfl) (.slice A2 n2 c2')
 rw [set_r, List.set_cons_succ, List.set_cons_zero] at Z2
 have s0 := Z2.p0 (O.length + 1) (by rw [get_r]; rfl)
 have s1 := Z2.p1 (O.length + 1) (by rw [get_r]; rfl)
 simp only [List.append_assoc, List.cons_append, List.nil_append] at Z2
 have HF := Lib.hid (Z2.fewM.fewO.less (L' := L ++ [⟨A1, n1, c1', nats (Na.dig tF.1)⟩] ++ [⟨A2, n2, c2', nats (Na.dig tF.2.1)⟩]) (fun o ho => by
  rcases List.mem_append.1 ho with h | h
  ·rcases List.mem_append.1 h with h | h
   ·exact List.mem_append_left _ h
   ·rw [List.mem_singleton] at h
    subst h
    exact List.mem_append_right _ (List.mem_of_getElem? (i := 2) rfl)
  ·rw [List.mem_singleton] at h
   subst h
   exact List.mem_append_right _ (List.mem_of_getElem? (i := 3) rfl)))
 clear HC2 H2 Z1 Z2 c0 c1
 go_wp2_with fail
 refine bodyPost_ret (v := .tuple #[.agg #[.slice A1 n1 c1', .slice A2 n2 c2'], .int .i64 tF.2.2]) (by simp [results, Tryz.results65, go_sem, s0, s1]) rfl ?_
 exact ⟨A1, n1, c1', A2, n2, c2', rfl, HF.out⟩
end
def erI (k d m f v : Int) : List Nat := if eI k d m f v = 0 then Na.dig (Na.bin (d + m).toNat v.toNat * 255 ^ v.toNat) else []
def wdI (k d m f v : Int) : List Nat := if eI k d m f v = 0 then Na.dig (Ch.wd (d + m).toNat m.toNat v.toNat) else []
def wrI (k d m f v : Int) : List Nat := if eI k d m f v = 0 then Na.dig (Ch.wr (d + m).toNat m.toNat f.toNat v.toNat) else []
def chI (k d m f v : Int) : Nat × Nat × Int := if eI k d m f v = 0 then frM (Ch.wr (d + m).toNat m.toNat f.toNat v.toNat) (Na.bin (d + m).toNat v.toNat * 255 ^ v.toNat) else (0, 0, eI k d m f v)
theorem eI_zero {k d m f v : Int} (h : eI k d m f v = 0) : ∃ d' m' f' n' v' : Nat, k = 2 ∧ d = d' ∧ m = m' ∧ f = f' ∧ v = v' ∧ Cv d' m' f' n' ∧ v' ≤ n' ∧ (d + m).toNat = n' ∧ m.toNat = m' ∧ f.toNat = f' ∧ v.toNat = v' := by
 unfold eI at h
 split at h
 ·next h1 =>
  obtain ⟨rfl, h2⟩ := h1
  unfold vI at h2
  split at h
  ·exact absurd h (by decide)
  ·next h3 =>
   have hcd : Cd d.toNat m.toNat f.toNat := ⟨by omega, by omega, by omega, by omega, by omega⟩
   exact ⟨d.toNat, m.toNat, f.toNat, d.toNat + m.toNat, v.toNat, rfl, by omega, by omega, by omega, by omega, Cv.of hcd (by omega), by omega, by omega, rfl, rfl, rfl⟩
 ·exact absurd h (by decide)
section
variable {w0 w w' : World} {g : Option Nat} {M : List (Nat × Value)} {L : List Ob} {O : List Rw}
theorem c_ErrorsI (h : Ow w0 w g M L O) (k d m f v : Int) :
  Calls Tryz.prog 60 #[.agg (cdI k d m f), .int .i64 v] w (GotO w0 g M L O (erI k d m f v) (eI k d m f v)) := by
 unfold erI
 by_cases he : eI k d m f v = 0
 ·obtain ⟨d', m', f', n', v', rfl, e5, e6, e7, e8, hc, hv, e1, e2, e3, e4⟩ := eI_zero he
  rw [if_pos he, he, e1, e4]
  rw [e5, e6, e7, e8]
  exact c_Errors h hc hv
 ·rw [if_neg he]
  exact c_Errors_no h k d m f v he
theorem r_ErrorsI (h : Ow w0 w g M L O) (k d m f v : Int) :
  Calls Tryz.prog 61 #[.agg (cdI k d m f), .int .i64 v] w (GotO w0 g M L O (erI k d m f v) (eI k d m f v)) := by
 unfold erI
 by_cases he : eI k d m f v = 0
 ·obtain ⟨d', m', f', n', v', rfl, e5, e6, e7, e8, hc, hv, e1, e2, e3, e4⟩ := eI_zero he
  rw [if_pos he, he, e1, e4]
  rw [e5, e6, e7, e8]
  exact r_Errors h hc hv
 ·rw [if_neg he]
  exact r_Errors_no h k d m f v he
theorem c_WordsI (h : Ow w0 w g M L O) (k d m f v : Int) :
  Calls Tryz.prog 54 #[.agg (cdI k d m f), .int .i64 v] w (GotO w0 g M L O (wdI k d m f v) (eI k d m f v)) := by
 unfold wdI
 by_cases he : eI k d m f v = 0
 ·obtain ⟨d', m', f', n', v', rfl, e5, e6, e7, e8, hc, hv, e1, e2, e3, e4⟩ := eI_zero he
  rw [if_pos he, he, e1, e2, e4]
  rw [e5, e6, e7, e8]
  exact c_Words h hc hv
 ·rw [if_neg he]
  exact c_Words_no h k d m f v he
theorem r_WordsI (h : Ow w0 w g M L O) (k d m f v : Int) :
  Calls Tryz.prog 62 #[.agg (cdI k d m f), .int .i64 v] w (GotO w0 g M L O (wdI k d m f v) (eI k d m f v)) := by
 unfold wdI
 by_cases he : eI k d m f v = 0
 ·obtain ⟨d', m', f', n', v', rfl, e5, e6, e7, e8, hc, hv, e1, e2, e3, e4⟩ := eI_zero he
  rw [if_pos he, he, e1, e2, e4]
  rw [e5, e6, e7, e8]
  exact r_Words h hc hv
 ·rw [if_neg he]
  exact r_Words_no h k d m f v he
theorem c_WrongI (h : Ow w0 w g M L O) (k d m f v : Int) :
  Calls Tryz.prog 63 #[.agg (cdI k d m f), .int .i64 v] w (GotO w0 g M L O (wrI k d m f v) (eI k d m f v)) := by
 unfold wrI
 by_cases he : eI k d m f v = 0
 ·obtain ⟨d', m', f', n', v', rfl, e5, e6, e7, e8, hc, hv, e1, e2, e3, e4⟩ := eI_zero he
  rw [if_pos he, he, e1, e2, e3, e4]
  rw [e5, e6, e7, e8]
  exact c_Wrong h hc hv
 ·rw [if_neg he]
  exact c_Wrong_no h k d m f v he
theorem r_WrongI (h : Ow w0 w g M L O) (k d m f v : Int) :
  Calls Tryz.prog 64 #[.agg (cdI k d m f), .int .i64 v] w (GotO w0 g M L O (wrI k d m f v) (eI k d m f v)) := by
 unfold wrI
 by_cases he : eI k d m f v = 0
 ·obtain ⟨d', m', f', n', v', rfl, e5, e6, e7, e8, hc, hv, e1, e2, e3, e4⟩ := eI_zero he
  rw [if_pos he, he, e1, e2, e3, e4]
  rw [e5, e6, e7, e8]
  exact r_Wrong h hc hv
 ·rw [if_neg he]
  exact r_Wrong_no h k d m f v he
theorem c_ChanceI (h : Ow w0 w g M L O) (k d m f v : Int) (ht : Tab w0) :
  Calls Tryz.prog 55 #[.agg (cdI k d m f), .int .i64 v] w (GotF w0 g M L O (chI k d m f v)) := by
 unfold chI
 by_cases he : eI k d m f v = 0
 ·obtain ⟨d', m', f', n', v', rfl, e5, e6, e7, e8, hc, hv, e1, e2, e3, e4⟩ := eI_zero he
  rw [if_pos he, e1, e2, e3, e4]
  rw [e5, e6, e7, e8]
  exact c_Chance h hc hv ht rfl
 ·rw [if_neg he]
  exact c_Chance_no h k d m f v he
theorem r_ChanceI (h : Ow w0 w g M L O) (k d m f v : Int) :
  Calls Tryz.prog 65 #[.agg (cdI k d m f), .int .i64 v] w (GotF w0 g M L O (chI k d m f v)) := by
 unfold chI
 by_cases he : eI k d m f v = 0
 ·obtain ⟨d', m', f', n', v', rfl, e5, e6, e7, e8, hc, hv, e1, e2, e3, e4⟩ := eI_zero he
  rw [if_pos he, e1, e2, e3, e4]
  rw [e5, e6, e7, e8]
  exact r_Chance h hc hv rfl
 ·rw [if_neg he]
  exact r_Chance_no h k d m f v he
theorem Ow.cdi (h : Ow w0 w g M L O) (i : Nat) {b : Nat} {k d m f : Int} (hi : O[i]? = some ⟨some ⟨b, 0, none⟩, 4, 4, 57, (cdI k d m f).toList⟩) : w.cell? ⟨b, 0, none⟩ = some (.int .i64 k) ∧ w.cell? ⟨b, 1, none⟩ = some (.int .i64 d) ∧ w.cell? ⟨b, 2, none⟩ = some (.int .i64 m) ∧ w.cell? ⟨b, 3, none⟩ = some (.int .i64 f) :=
 ⟨(h.row i hi).cellAt 0 (by decide), (h.row i hi).cellAt 1 (by decide), (h.row i hi).cellAt 2 (by decide), (h.row i hi).cellAt 3 (by decide)⟩
end
set_option maxHeartbeats 8000000 in
theorem agree08 (k d m f v : Int) (w : World) (ht : Tab w) :
  Calls Tryz.prog 28 #[.agg (cdI k d m f), .int .i64 v] w fun e w' => e = .returned (.bool true) ∧ Below w.heap.size w w' := by
 have HT := Lib.hid ht
 have H0 := (Ow.of (St.refl w)).arr (cdI k d m f) 4 rfl (by omega) 57
 simp only [List.nil_append] at H0
 obtain ⟨e, he⟩ : ∃ e, eI k d m f v = e := ⟨_, rfl⟩
 obtain ⟨l1, hl1⟩ : ∃ l, erI k d m f v = l := ⟨_, rfl⟩
 obtain ⟨l2, hl2⟩ : ∃ l, wdI k d m f v = l := ⟨_, rfl⟩
 obtain ⟨l3, hl3⟩ : ∃ l, wrI k d m f v = l := ⟨_, rfl⟩
 obtain ⟨tq, htq⟩ : ∃ l, chI k d m f v = l := ⟨_, rfl⟩
 have HEq := Lib.hid (And.intro he (And.intro hl1 (And.intro hl2 (And.intro hl3 htq))))
 have hee : (e == e) = true := beq_self_eq_true e
 clear he hl1 hl2 hl3 htq ht
 obtain ⟨k0, k1, k2, k3⟩ := H0.cdi 0 rfl
 skip
 go_enter Tryz.func28, Tryz.ntmps28
 have HC := Lib.hid (c_ErrorsI H0 k d m f v)
 rw [HEq.out.1, HEq.out.2.1] at HC
 clear H0
 go_wp2_with fail
 refine HC.out.mono ?_
 rintro e w11 ⟨B11, m11, d11, rfl, G⟩
 clear k0 k1 k2 k3 HC
 have H11 := G.boxed (.slice B11 m11 d11) 25
 try simp only [List.cons_append] at H11
 try simp only [List.nil_append] at H11
 clear G
 obtain ⟨k0, k1, k2, k3⟩ := H11.cdi 0 rfl
 have HC := Lib.hid (r_ErrorsI H11 k d m f v)
 rw [HEq.out.1, HEq.out.2.1] at HC
 clear H11
 go_wp2_with fail
 refine HC.out.mono ?_
 rintro e w12 ⟨B12, m12, d12, rfl, G⟩
 clear k0 k1 k2 k3 HC
 have H12 := G.boxed (.slice B12 m12 d12) 25
 try simp only [List.cons_append] at H12
 try simp only [List.nil_append] at H12
 clear G
 obtain ⟨k0, k1, k2, k3⟩ := H12.cdi 0 rfl
 have HC := Lib.hid (c_WordsI H12 k d m f v)
 rw [HEq.out.1, HEq.out.2.2.1] at HC
 clear H12
 go_wp2_with fail
 refine HC.out.mono ?_
 rintro e w13 ⟨B13, m13, d13, rfl, G⟩
 clear k0 k1 k2 k3 HC
 have H13 := G.boxed (.slice B13 m13 d13) 25
 try simp only [List.cons_append] at H13
 try simp only [List.nil_append] at H13
 clear G
 obtain ⟨k0, k1, k2, k3⟩ := H13.cdi 0 rfl
 have HC := Lib.hid (r_WordsI H13 k d m f v)
 rw [HEq.out.1, HEq.out.2.2.1] at HC
 clear H13
 go_wp2_with fail
 refine HC.out.mono ?_
 rintro e w14 ⟨B14, m14, d14, rfl, G⟩
 clear k0 k1 k2 k3 HC
 have H14 := G.boxed (.slice B14 m14 d14) 25
 try simp only [List.cons_append] at H14
 try simp only [List.nil_append] at H14
 clear G
 obtain ⟨k0, k1, k2, k3⟩ := H14.cdi 0 rfl
 have HC := Lib.hid (c_WrongI H14 k d m f v)
 rw [HEq.out.1, HEq.out.2.2.2.1] at HC
 clear H14
 go_wp2_with fail
 refine HC.out.mono ?_
 rintro e w15 ⟨B15, m15, d15, rfl, G⟩
 clear k0 k1 k2 k3 HC
 have H15 := G.boxed (.slice B15 m15 d15) 25
 try simp only [List.cons_append] at H15
 try simp only [List.nil_append] at H15
 clear G
 obtain ⟨k0, k1, k2, k3⟩ := H15.cdi 0 rfl
 have HC := Lib.hid (r_WrongI H15 k d m f v)
 rw [HEq.out.1, HEq.out.2.2.2.1] at HC
 clear H15
 go_wp2_with fail
 refine HC.out.mono ?_
 rintro e w16 ⟨B16, m16, d16, rfl, G⟩
 clear k0 k1 k2 k3 HC
 have H16 := G.boxed (.slice B16 m16 d16) 25
 try simp only [List.cons_append] at H16
 try simp only [List.nil_append] at H16
 clear G
 obtain ⟨k0, k1, k2, k3⟩ := H16.cdi 0 rfl
 have HC := Lib.hid (c_ChanceI H16 k d m f v HT.out)
 rw [HEq.out.2.2.2.2] at HC
 clear H16
 go_wp2_with fail
 refine HC.out.mono ?_
 rintro e w17 ⟨B17, m17, d17, C17, n17, c17, rfl, G⟩
 clear k0 k1 k2 k3 HC
 have H17 := G.pair (.slice B17 m17 d17) (.slice C17 n17 c17) 27
 try simp only [List.cons_append] at H17
 try simp only [List.nil_append] at H17
 clear G
 obtain ⟨k0, k1, k2, k3⟩ := H17.cdi 0 rfl
 have HC := Lib.hid (r_ChanceI H17 k d m f v)
 rw [HEq.out.2.2.2.2] at HC
 clear H17
 go_wp2_with fail
 refine HC.out.mono ?_
 rintro e w18 ⟨B18, m18, d18, C18, n18, c18, rfl, G⟩
 clear k0 k1 k2 k3 HC
 have H18 := G.pair (.slice B18 m18 d18) (.slice C18 n18 c18) 27
 try simp only [List.cons_append] at H18
 try simp only [List.nil_append] at H18
 clear G
 have htt : (tq.2.2 == tq.2.2) = true := beq_self_eq_true _
 have c0 := H18.cell 0 rfl
 have c1 := H18.cell 1 rfl
 have HC := Lib.hid (ag_same H18 0 1 rfl rfl)
 clear H18
 go_wp2_with fail
 refine HC.out.mono ?_
 rintro e w19 ⟨rfl, H19⟩
 clear c0 c1 HC
 have c2 := H19.cell 2 rfl
 have c3 := H19.cell 3 rfl
 have HC := Lib.hid (ag_same H19 2 3 rfl rfl)
 clear H19
 go_wp2_with fail
 refine HC.out.mono ?_
 rintro e w20 ⟨rfl, H20⟩
 clear c2 c3 HC
 have c4 := H20.cell 4 rfl
 have c5 := H20.cell 5 rfl
 have HC := Lib.hid (ag_same H20 4 5 rfl rfl)
 clear H20
 go_wp2_with fail
 refine HC.out.mono ?_
 rintro e w21 ⟨rfl, H21⟩
 clear c4 c5 HC
 have y0 := H21.p0 1 rfl
 have y1 := H21.p1 1 rfl
 have y2 := H21.p0 2 rfl
 have y3 := H21.p1 2 rfl
 have HC := Lib.hid (qsame_ow H21 6 7 8 9 rfl rfl rfl rfl)
 clear H21
 go_wp2_with fail
 refine HC.out.mono ?_
 rintro e w22 ⟨rfl, H22⟩
 clear y0 y1 y2 y3 HC
 have HB := Lib.hid H22.below
 clear H22
 go_wp2_with fail
 go_ret
 exact ⟨rfl, HB.out⟩
end Go.Proofs.YtenokdhldngkgaaGreatDoor
