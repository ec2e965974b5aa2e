/- Dj Yd Eg Eh Ei -/
import Derived.Test.YtenokdhldngkgaaGreatDoorE01
import Derived.Test.YtenokdhldngkgaaGreatDoorE11
import Derived.Test.YtenokdhldngkgaaGreatDoorE12
import Derived.Test.YtenokdhldngkgaaGreatDoorE13
import Derived.Test.YtenokdhldngkgaaGreatDoorE14
import Derived.Outline
namespace Go.Proofs.YtenokdhldngkgaaGreatDoor
open Go.RowKit Go.Sort
set_option linter.unusedVariables false
set_option maxRecDepth 100000
def GR (L : Nat → Bool) (k : Nat) (u : Value) (t : Nat × Nat × Int) (Ls : List Ob) : Prop :=
 L k = true → ∃ (i : Nat) (A : Option Addr) (n c : Nat) (B : Option Addr) (m d : Nat), u = .tuple #[.agg #[.slice A n c, .slice B m d], .int .i64 t.2.2] ∧ Ls[i]? = some ⟨A, n, c, nats (Na.dig t.1)⟩ ∧ Ls[i + 1]? = some ⟨B, m, d, nats (Na.dig t.2.1)⟩
theorem GR.more {L : Nat → Bool} {k : Nat} {u : Value} {t : Nat × Nat × Int} {Ls l : List Ob} (h : GR L k u t Ls) : GR L k u t (Ls ++ l) := fun e => by
 obtain ⟨i, A, n, c, B, m, d, h1, h2, h3⟩ := h e
 exact ⟨i, A, n, c, B, m, d, h1, by rw [List.getElem?_append_left (get_lt h2)]; exact h2, by rw [List.getElem?_append_left (get_lt h3)]; exact h3⟩
theorem GR.new (L : Nat → Bool) (k : Nat) (A : Option Addr) (n c : Nat) (B : Option Addr) (m d : Nat) (t : Nat × Nat × Int) (Ls : List Ob) : GR L k (.tuple #[.agg #[.slice A n c, .slice B m d], .int .i64 t.2.2]) t (Ls ++ [⟨A, n, c, nats (Na.dig t.1)⟩, ⟨B, m, d, nats (Na.dig t.2.1)⟩]) := fun _ => ⟨Ls.length, A, n, c, B, m, d, rfl, by simp, by simp⟩
def GA (L : Nat → Bool) (k : Nat) (u : Value) (t : Nat × Nat × Int) (Ls : List Ob) : Prop :=
 L k = true → ∃ (i : Nat) (A : Option Addr) (n c : Nat) (B : Option Addr) (m d : Nat), u = .agg #[.slice A n c, .slice B m d] ∧ Ls[i]? = some ⟨A, n, c, nats (Na.dig t.1)⟩ ∧ Ls[i + 1]? = some ⟨B, m, d, nats (Na.dig t.2.1)⟩
theorem GA.more {L : Nat → Bool} {k : Nat} {u : Value} {t : Nat × Nat × Int} {Ls l : List Ob} (h : GA L k u t Ls) : GA L k u t (Ls ++ l) := fun e => by
 obtain ⟨i, A, n, c, B, m, d, h1, h2, h3⟩ := h e
 exact ⟨i, A, n, c, B, m, d, h1, by rw [List.getElem?_append_left (get_lt h2)]; exact h2, by rw [List.getElem?_append_left (get_lt h3)]; exact h3⟩
def rpr (b : Nat) (T : TypeId) : Value → Rw
 | .agg a => ⟨some ⟨b, 0, none⟩, 2, 2, T, a.toList⟩
 | _ => ⟨some ⟨b, 0, none⟩, 2, 2, T, []⟩
namespace Ch
def K607 : Nat := 2 ^ 607
def wt (n m f v u : Nat) : Nat := wd n m u * nr n f u v
theorem wt_two {n m f v u : Nat} (hn : n ≤ 40) (hu : u ≤ n) (hf : f ≤ 4) : wt n m f v u ≤ K406 * 2 ^ 195 :=
 Nat.mul_le_mul (wd_two (by omega) hn) (nr_two hn hu hf)
theorem k607 : 42 * (K406 * 2 ^ 195) ≤ K607 := by decide +kernel
theorem lt607 {x : Nat} (h : x ≤ K607) : x < Na.top := Nat.lt_of_le_of_lt h (by decide +kernel)
end Ch
structure WrK (n m f v y X : Nat) : Prop where
 y40 : y ≤ 40
 yn : y ≤ n
 a : Ch.wd n m y < Na.top
 b : Ch.nr n f y v < Na.top
 t : Ch.wd n m y * Ch.nr n f y v < Na.top
 xt : X < Na.top
 xs : X + Ch.wd n m y * Ch.nr n f y v < Na.top
theorem WrK.of {n m f v y i X : Nat} (hn : n ≤ 40) (hy : y ≤ n) (hf : f ≤ 4) (hi : i ≤ 41) (hX : X ≤ i * (Ch.K406 * 2 ^ 195)) : WrK n m f v y X := by
 have h1 : Ch.wd n m y ≤ Ch.K406 := Ch.wd_two (by omega) hn
 have h2 := Ch.nr_two (v := v) hn hy hf
 have h3 : Ch.wd n m y * Ch.nr n f y v ≤ Ch.K406 * 2 ^ 195 := Nat.mul_le_mul h1 h2
 obtain ⟨B, hB⟩ : ∃ b, Ch.K406 * 2 ^ 195 = b := ⟨_, rfl⟩
 have hk := Ch.k607
 rw [hB] at h3 hX hk
 have h4 : i * B ≤ 41 * B := Nat.mul_le_mul_right _ hi
 have h5 : 41 * B + B = 42 * B := by omega
 exact ⟨by omega, hy, Ch.two366 (Nat.le_trans h1 (by decide +kernel)), Ch.two366 (Nat.le_trans h2 (by decide +kernel)), Ch.lt607 (by omega), Ch.lt607 (by omega), Ch.lt607 (by omega)⟩
def RWr (w0 : World) (g : Option Nat) (M : List (Nat × Value)) (L : List Ob) (O1 : List Rw) (rb sb n m f v zu cn : Nat) (x : Value) (wr : World) : Prop :=
 ∃ (i y : Nat) (P : Option Addr) (np cp : Nat), i ≤ cn ∧ y = zu + i ∧ x = .int .i64 (y : Int) ∧
  Hid (Ow w0 wr g (M ++ [(rb, .slice none 0 0)]) (L ++ [⟨P, np, cp, nats (Na.dig (Ch.ns (fun i => Ch.wt n m f v (zu + i)) i))⟩, ⟨none, 0, 0, nats (Na.dig 0)⟩]) (O1 ++ [Rw.pair sb 142 (.slice P np cp) (.slice none 0 0)]))
section
variable {w0 w w' : World} {g : Option Nat} {M M2 : List (Nat × Value)} {L : List Ob} {O : List Rw} {A A2 A3 A4 : Option Addr} {b n c m c2 n3 c3 n4 c4 x y d v f u i X rb sb cb : Nat} {P : Option Addr} {np cp : Nat} {O1 : List Rw}
set_option maxHeartbeats 4000000 in
theorem c_wordsA (h : Ow w0 w g M L O) (hc : Cv d m f n) (hv : v ≤ n) :
  Calls Tryz.prog 98 #[.agg #[.int .i64 2, .int .i64 (d : Int), .int .i64 (m : Int), .int .i64 (f : Int)], .int .i64 (v : Int)] w (GotU w0 g M L O (Na.dig (Ch.wd n m v))) := by
 rcases Nat.eq_zero_or_pos v with h0 | h0
 ·subst h0
  have H0 := (h.code d m f).boxed (.slice none 0 0) 25
  simp only [World.size_alloc] at H0
  have HC := Lib.hid (c_number H0 1 (by omega))
  have e : Ch.wd n m 0 = 1 := if_pos rfl
  rw [e]
  clear h H0 hc hv e
  go_enter Tryz.func98, Tryz.ntmps98
  go_wp2_with fail
  refine HC.out.mono ?_
  rintro e w2 ⟨B3, m3, d3, rfl, G4⟩
  have r0 := G4.cell (M.length + 0) (by rw [get_r]; rfl)
  have f0 := G4.free (M.length + 0) (by rw [get_r]; rfl)
  have Z := G4.setv (M.length + 0) (by rw [get_r]; rfl) (.slice B3 m3 d3)
  rw [set_r] at Z
  try simp only [List.set_cons_zero] at Z
  have s0 := Z.cell (M.length + 0) (by rw [get_r]; rfl)
  have HF := Lib.hid Z.fewM.fewO
  clear HC G4 Z
  go_wp2_with fail
  refine bodyPost_ret (v := .agg #[.slice B3 m3 d3]) (by simp [results, Tryz.results98, go_sem, s0]) rfl ?_
  exact ⟨B3, m3, d3, rfl, HF.out⟩
 ·exact c_words h hc hv h0
set_option maxHeartbeats 4000000 in
theorem c_Words (h : Ow w0 w g M L O) (hc : Cv d m f n) (hv : v ≤ n) :
  Calls Tryz.prog 54 #[.agg #[.int .i64 2, .int .i64 (d : Int), .int .i64 (m : Int), .int .i64 (f : Int)], .int .i64 (v : Int)] w (GotO w0 g M L O (Na.dig (Ch.wd n m v)) 0) := by
 have H0 := (h.code d m f).boxed (.slice none 0 0) 25
 simp only [World.size_alloc] at H0
 obtain ⟨k0, k1, k2, k3⟩ := H0.cdc (O.length + 0) (by rw [get_r]; rfl)
 have HC := Lib.hid (c_wrong H0 hc hv)
 have HK := Lib.hid hc
 have HN := Lib.hid hv
 obtain ⟨l0, hl0⟩ : ∃ z, Na.dig (Ch.wd n m v) = z := ⟨_, rfl⟩
 rw [hl0]
 have HL := Lib.hid hl0
 clear h H0 hl0 hc hv
 go_enter Tryz.func54, Tryz.ntmps54
 go_wp2_with fail
 refine HC.out.mono ?_
 rintro e w1 ⟨rfl, H1⟩
 obtain ⟨q0, q1, q2, q3⟩ := H1.cdc (O.length + 0) (by rw [get_r]; rfl)
 have HE := Lib.hid (c_wordsA H1 HK.out HN.out)
 rw [HL.out] at HE
 clear HC H1 k0 k1 k2 k3
 go_wp2_with fail
 refine HE.out.mono ?_
 rintro e w2 ⟨B3, m3, d3, rfl, G4⟩
 have r0 := G4.cell (M.length + 0) (by rw [get_r]; rfl)
 have f0 := G4.free (M.length + 0) (by rw [get_r]; rfl)
 have Z := G4.setv (M.length + 0) (by rw [get_r]; rfl) (.slice B3 m3 d3)
 rw [set_r] at Z
 try simp only [List.set_cons_zero] at Z
 have s0 := Z.cell (M.length + 0) (by rw [get_r]; rfl)
 have HF := Lib.hid Z.fewM.fewO
 clear HE G4 Z q0 q1 q2 q3
 go_wp2_with fail
 refine bodyPost_ret (v := .tuple #[.agg #[.slice B3 m3 d3], .int .i64 0]) (by simp [results, Tryz.results54, go_sem, s0]) rfl ?_
 exact ⟨B3, m3, d3, rfl, HF.out⟩
structure WgK (w0 : World) (g : Option Nat) (M : List (Nat × Value)) (L : List Ob) (O1 : List Rw) (rb sb cb : Nat) (P : Option Addr) (np cp d m f n v y X : Nat) (Ld : Nat → Bool) (u0 u1 u2 u3 u4 u5 u6 u7 u8 u9 : Value) (va : Value) (Ls : List Ob) (W : World) : Prop where
 ow : Ow w0 W g (M ++ [(rb, .slice none 0 0)]) (L ++ [(⟨P, np, cp, nats (Na.dig X)⟩ : Ob), (⟨none, 0, 0, nats (Na.dig 0)⟩ : Ob)] ++ Ls) (O1 ++ [Rw.pair sb 142 (va) (.slice none 0 0)])
 h0 : Ld 0 = true → u0 = .agg #[.int .i64 2, .int .i64 (d : Int), .int .i64 (m : Int), .int .i64 (f : Int)]
 h1 : Ld 1 = true → u1 = .int .i64 (y : Int)
 h2 : GN Ld 2 u2 (Ch.wd n m y) Ls
 h3 : Ld 3 = true → u3 = .agg #[.int .i64 2, .int .i64 (d : Int), .int .i64 (m : Int), .int .i64 (f : Int)]
 h4 : Ld 4 = true → u4 = .int .i64 (y : Int)
 h5 : Ld 5 = true → u5 = .int .i64 (v : Int)
 h6 : GN Ld 6 u6 (Ch.nr n f y v) Ls
 h7 : GL Ld 7 u7 [Ch.wd n m y, Ch.nr n f y v] 2 (L ++ [(⟨P, np, cp, nats (Na.dig X)⟩ : Ob), (⟨none, 0, 0, nats (Na.dig 0)⟩ : Ob)]) Ls
 h8 : GN Ld 8 u8 (Ch.wd n m y * Ch.nr n f y v) Ls
 h9 : Ld 9 = true → u9 = .tuple #[]
 v0 : Ld 9 = false → va = .slice P np cp
 v1 : GV Ld 9 va (X + Ch.wd n m y * Ch.nr n f y v) Ls
def WgI (w0 : World) (g : Option Nat) (M : List (Nat × Value)) (L : List Ob) (O1 : List Rw) (rb sb cb : Nat) (P : Option Addr) (np cp d m f n v y X : Nat) (A0 : Act) (Ld : Nat → Bool) (a : Act) (W : World) : Prop :=
 ∃ (u0 u1 u2 u3 u4 u5 u6 u7 u8 u9 : Value) (va : Value) (Ls : List Ob), a = ((((((((((A0.put (some 35) u0).put (some 36) u1).put (some 37) u2).put (some 38) u3).put (some 39) u4).put (some 40) u5).put (some 41) u6).put (some 42) u7).put (some 43) u8).put (some 44) u9) ∧ WgK w0 g M L O1 rb sb cb P np cp d m f n v y X Ld u0 u1 u2 u3 u4 u5 u6 u7 u8 u9 va Ls W
set_option maxHeartbeats 16000000 in
theorem c_Wrong (h : Ow w0 w g M L O) (hc : Cv d m f n) (hv : v ≤ n) :
  Calls Tryz.prog 63 #[.agg #[.int .i64 2, .int .i64 (d : Int), .int .i64 (m : Int), .int .i64 (f : Int)], .int .i64 (v : Int)] w (GotO w0 g M L O (Na.dig (Ch.wr n m f v)) 0) := by
 have HC0 := Lib.hid hc
 have HVn := Lib.hid hv
 have H0 := h.code d m f
 have hci : (O ++ [(⟨some ⟨w.heap.size, 0, none⟩, 4, 4, 57, (cdv d m f).toList⟩ : Rw)])[O.length + 0]? = some ⟨some ⟨w.heap.size, 0, none⟩, 4, 4, 57, (cdv d m f).toList⟩ := by rw [get_r]; rfl
 obtain ⟨O1, hO1⟩ : ∃ O1, O ++ [(⟨some ⟨w.heap.size, 0, none⟩, 4, 4, 57, (cdv d m f).toList⟩ : Rw)] = O1 := ⟨_, rfl⟩
 rw [hO1] at H0 hci
 have HCI := Lib.hid hci
 have H1 := H0.boxed (.slice none 0 0) 25
 try simp only [World.size_alloc] at H1
 obtain ⟨k0, k1, k2, k3⟩ := H1.cdc (O.length + 0) HCI.out
 have HW := Lib.hid (c_wrong H1 hc hv)
 have HCv := Lib.hid hc
 have hf4 : f ≤ 4 := hc.f4
 have hni := hc.ni
 have hn40 := hc.n40
 have hvn : v ≤ 40 := by omega
 have HO1 := Lib.hid hO1
 have HVt := Lib.hid (Ch.wr_range n m f v hv)
 obtain ⟨zu, hzu⟩ : ∃ u, max 1 (v - f) = u := ⟨_, rfl⟩
 obtain ⟨mn, hmn⟩ : ∃ u, min n (v + f) = u := ⟨_, rfl⟩
 rw [hzu, hmn] at HVt
 have HM : Hid (mn ≤ n ∧ zu ≤ 40 ∧ (mn = n ∧ n ≤ v + f ∨ mn = v + f ∧ v + f ≤ n) ∧ (zu = 1 ∧ v ≤ f + 1 ∨ zu = v - f ∧ f + 1 < v)) := by unfold Hid; omega
 clear h H0 H1 hci hO1 hv hc hzu hmn
 go_enter Tryz.func63, Tryz.ntmps63
 go_wp2_with fail
 refine HW.out.mono ?_
 rintro e w1 ⟨rfl, G1⟩
 have H2 := ((G1.pair (.slice none 0 0) (.slice none 0 0) 142).nil').nil'
 try simp only [List.append_assoc] at H2
 try simp only [List.cons_append] at H2
 try simp only [List.nil_append] at H2
 have HO := Lib.hid H2
 obtain ⟨q0, q1, q2, q3⟩ := H2.cdc (O.length + 0) ((get_l _ _ (get_lt HCI.out)).trans HCI.out)
 obtain ⟨sb, hsb⟩ : ∃ b, w1.heap.size = b := ⟨_, rfl⟩
 rw [hsb] at HO
 clear HW G1 H2 k0 k1 k2 k3
 have g1 : IntKind.i64.wrap ((v : Int) - (f : Int)) = (v : Int) - (f : Int) := IntWalk.i64_in _ (by omega)
 have hmx : (if (1 : Int) < (v : Int) - (f : Int) then (v : Int) - (f : Int) else 1) = (zu : Int) := by
  rcases HM.out.2.2.2 with ⟨e1, e2⟩ | ⟨e1, e2⟩
  ·rw [if_neg (by omega), e1]; rfl
  ·rw [if_pos (by omega), e1]; omega
 have hu40 : zu ≤ 40 := HM.out.2.1
 go_wp2_with fail
 clear hmx q0 q1 q2 q3 g1
 go_loopw [8] (fun x wr => RWr w0 g M L O1 (w.heap.size + 1) sb n m f v zu (mn + 1 - zu) x wr) (fun x _ => 90 - (intOf x).toNat)
 case atStart => exact ⟨0, zu, none, 0, 0, Nat.zero_le _, rfl, rfl, HO.out⟩
 case round =>
  clear HO
  obtain ⟨i, y, P, np, cp, hi, hyi, rfl, HO⟩ := hrel
  have hmn40 : mn ≤ 40 := by have := HM.out.1; omega
  have hi41 : i ≤ 41 := by omega
  have hy80 : y ≤ 82 := by omega
  obtain ⟨k0, k1, k2, k3⟩ := HO.out.cdc (O.length + 0) ((get_l _ _ (get_lt HCI.out)).trans HCI.out)
  have g2 : IntKind.i64.wrap ((v : Int) + (f : Int)) = (v : Int) + (f : Int) := IntWalk.i64_in _ (by omega)
  have hmn1 : (if (v : Int) + (f : Int) < (n : Int) then (v : Int) + (f : Int) else (n : Int)) = (mn : Int) := by
   rcases HM.out.2.2.1 with ⟨e1, e2⟩ | ⟨e1, e2⟩
   ·rw [if_neg (by omega), e1]
   ·by_cases h : (v : Int) + (f : Int) < (n : Int)
    ·rw [if_pos h, e1]; omega
    ·rw [if_neg h, e1]; omega
  have hmn2 : (if v + f < n then (v : Int) + (f : Int) else (n : Int)) = (mn : Int) := by
   rcases HM.out.2.2.1 with ⟨e1, e2⟩ | ⟨e1, e2⟩
   ·rw [if_neg (by omega), e1]
   ·by_cases h : v + f < n
    ·rw [if_pos h, e1]; omega
    ·rw [if_neg h, e1]; omega
  have HXb : Hid (Ch.ns (fun i => Ch.wt n m f v (zu + i)) i ≤ i * (Ch.K406 * 2 ^ 195)) := Ch.ns_le_mul _ fun j hj => Ch.wt_two hn40 (by have := HM.out.1; omega) hf4
  rcases Nat.lt_or_ge i (mn + 1 - zu) with hlt | hge
  ·have hd1 : decide ((y : Int) ≤ (mn : Int)) = true := decide_eq_true (by omega)
   have hd2 : decide (y ≤ mn) = true := decide_eq_true (by omega)
   have HB : Hid (WrK n m f v y (Ch.ns (fun i => Ch.wt n m f v (zu + i)) i)) := WrK.of hn40 (by have := HM.out.1; omega) hf4 hi41 HXb.out
   have HS : Hid (Ch.ns (fun i => Ch.wt n m f v (zu + i)) (i + 1) = Ch.ns (fun i => Ch.wt n m f v (zu + i)) i + Ch.wd n m y * Ch.nr n f y v) := by unfold Hid; rw [hyi]; rfl
   have HY : Hid (y + 1 = zu + (i + 1) ∧ i + 1 ≤ mn + 1 - zu) := ⟨by omega, hlt⟩
   obtain ⟨X, hX⟩ : ∃ x, Ch.ns (fun i => Ch.wt n m f v (zu + i)) i = x := ⟨_, rfl⟩
   rw [hX] at HO HB HS
   clear hX hyi HXb hlt hi
   go_wp2_with fail
   clear hmn1 hmn2 g2 k0 k1 k2 k3
   refine reg_inv34 (WgI w0 g M L O1 (w.heap.size + 1) sb w.heap.size P np cp d m f n v y X) (by kernel_rfl) (by kernel_rfl) ?_ ?_ ?_
   ·refine ⟨u35, u36, u37, u38, u39, u40, u41, u42, u43, u44, .slice P np cp, [], ?_, ⟨by rw [List.append_nil]; exact HO.out.drew, ?_, ?_, ?_, ?_, ?_, ?_, ?_, ?_, ?_, ?_, fun _ => rfl, ?_⟩⟩
    ·simp only [Act.put, zT, zZ, zS]
    all_goals (intro h; cases h)
   ·rintro jj Ld b W hj hf hcl hd ⟨u0, u1, u2, u3, u4, u5, u6, u7, u8, u9, va, Ls, rfl, hC⟩
    have hj' : jj < 10 := hj
    have hcase : jj = 0 ∨ jj = 1 ∨ jj = 2 ∨ jj = 3 ∨ jj = 4 ∨ jj = 5 ∨ jj = 6 ∨ jj = 7 ∨ jj = 8 ∨ jj = 9 := by omega
    obtain ⟨k0, k1, k2, k3⟩ := hC.ow.cdc (O.length + 0) ((get_l _ _ (get_lt HCI.out)).trans HCI.out)
    clear hj hj'
    simp only [Act.put, zT, zZ, zS]
    rcases hcase with rfl | rfl | rfl | rfl | rfl | rfl | rfl | rfl | rfl | rfl
    ·clear hd hcl
     refine wpOp_step rfl (fun K hK => ?_)
     go_simp
     refine hK _ _ ⟨_, u1, u2, u3, u4, u5, u6, u7, u8, u9, va, Ls, ?_, ⟨hC.ow, fun _ => rfl, hC.h1, hC.h2, hC.h3, hC.h4, hC.h5, hC.h6, hC.h7, hC.h8, hC.h9, hC.v0, hC.v1⟩⟩
     simp only [Act.put, zT, zZ, zS]
    ·clear hd hcl
     refine wpOp_step rfl (fun K hK => ?_)
     go_simp
     refine hK _ _ ⟨u0, _, u2, u3, u4, u5, u6, u7, u8, u9, va, Ls, ?_, ⟨hC.ow, hC.h0, fun _ => rfl, hC.h2, hC.h3, hC.h4, hC.h5, hC.h6, hC.h7, hC.h8, hC.h9, hC.v0, hC.v1⟩⟩
     simp only [Act.put, zT, zZ, zS]
    ·obtain rfl := hC.h0 (hd 0 (by kernel_rfl))
     obtain rfl := hC.h1 (hd 1 (by kernel_rfl))
     clear hd hcl
     refine wpOp_step rfl (fun K hK => ?_)
     go_simp
     refine (c_wordsA hC.ow HCv.out HB.out.yn).mono ?_
     rintro e W' ⟨Az, nz, cz, rfl, ho⟩
     rw [List.append_assoc _ Ls] at ho
     refine hK _ _ ⟨_, _, _, u3, u4, u5, u6, u7, u8, u9, va, _, ?_, ⟨ho, hC.h0, hC.h1, GN.new _ _ _ _ _ _ _, hC.h3, hC.h4, hC.h5, hC.h6.more, hC.h7.more, hC.h8.more, hC.h9, hC.v0, hC.v1.more⟩⟩
     simp only [Act.put, zT, zZ, zS]
    ·clear hd hcl
     refine wpOp_step rfl (fun K hK => ?_)
     go_simp
     refine hK _ _ ⟨u0, u1, u2, _, u4, u5, u6, u7, u8, u9, va, Ls, ?_, ⟨hC.ow, hC.h0, hC.h1, hC.h2, fun _ => rfl, hC.h4, hC.h5, hC.h6, hC.h7, hC.h8, hC.h9, hC.v0, hC.v1⟩⟩
     simp only [Act.put, zT, zZ, zS]
    ·clear hd hcl
     refine wpOp_step rfl (fun K hK => ?_)
     go_simp
     refine hK _ _ ⟨u0, u1, u2, u3, _, u5, u6, u7, u8, u9, va, Ls, ?_, ⟨hC.ow, hC.h0, hC.h1, hC.h2, hC.h3, fun _ => rfl, hC.h5, hC.h6, hC.h7, hC.h8, hC.h9, hC.v0, hC.v1⟩⟩
     simp only [Act.put, zT, zZ, zS]
    ·clear hd hcl
     refine wpOp_step rfl (fun K hK => ?_)
     go_simp
     refine hK _ _ ⟨u0, u1, u2, u3, u4, _, u6, u7, u8, u9, va, Ls, ?_, ⟨hC.ow, hC.h0, hC.h1, hC.h2, hC.h3, hC.h4, fun _ => rfl, hC.h6, hC.h7, hC.h8, hC.h9, hC.v0, hC.v1⟩⟩
     simp only [Act.put, zT, zZ, zS]
    ·obtain rfl := hC.h3 (hd 3 (by kernel_rfl))
     obtain rfl := hC.h4 (hd 4 (by kernel_rfl))
     obtain rfl := hC.h5 (hd 5 (by kernel_rfl))
     clear hd hcl
     refine wpOp_step rfl (fun K hK => ?_)
     go_simp
     refine (c_near hC.ow HCv.out HB.out.yn HVn.out).mono ?_
     rintro e W' ⟨Az, nz, cz, rfl, ho⟩
     rw [List.append_assoc _ Ls] at ho
     refine hK _ _ ⟨u0, u1, u2, _, _, _, _, u7, u8, u9, va, _, ?_, ⟨ho, hC.h0, hC.h1, hC.h2.more, hC.h3, hC.h4, hC.h5, GN.new _ _ _ _ _ _ _, hC.h7.more, hC.h8.more, hC.h9, hC.v0, hC.v1.more⟩⟩
     simp only [Act.put, zT, zZ, zS]
    ·obtain ⟨t2, A2, n2, c2, rfl, r2⟩ := hC.h2 (hd 2 (by kernel_rfl))
     have R2 := hC.ow.got r2
     obtain ⟨t6, A6, n6, c6, rfl, r6⟩ := hC.h6 (hd 6 (by kernel_rfl))
     have R6 := hC.ow.got r6
     clear hd hcl
     refine wpOp_step rfl (fun K hK => ?_)
     go_simp
     have ho := hC.ow.push (World.ownsRow_lit (base := W.heap.size) (e := 25) (size := 1) W #[.slice A2 n2 c2, .slice A6 n6 c6] 2 (Nat.le_refl _) (by decide) rfl) (by omega) (own_box1 _ _)
     rw [List.append_assoc _ Ls] at ho
     refine hK _ _ ⟨u0, u1, _, u3, u4, u5, _, _, u8, u9, va, _, ?_, ⟨ho, hC.h0, hC.h1, hC.h2.more, hC.h3, hC.h4, hC.h5, hC.h6.more, GL.new _ _ _ _ _ _ _ (Nums.two R2 R6), hC.h8.more, hC.h9, hC.v0, hC.v1.more⟩⟩
     simp only [Act.put, zT, zZ, zS]
    ·obtain ⟨t7, A7, vs7, rfl, r7, m7⟩ := hC.h7 (hd 7 (by kernel_rfl))
     have R7 := hC.ow.got r7
     clear hd hcl
     refine wpOp_step rfl (fun K hK => ?_)
     go_simp
     refine (c_times2 hC.ow _ R7 m7 HB.out.a HB.out.b HB.out.t).mono ?_
     rintro e W' ⟨Az, nz, cz, rfl, ho⟩
     rw [List.append_assoc _ Ls] at ho
     refine hK _ _ ⟨u0, u1, u2, u3, u4, u5, u6, _, _, u9, va, _, ?_, ⟨ho, hC.h0, hC.h1, hC.h2.more, hC.h3, hC.h4, hC.h5, hC.h6.more, hC.h7.more, GN.new _ _ _ _ _ _ _, hC.h9, hC.v0, hC.v1.more⟩⟩
     simp only [Act.put, zT, zZ, zS]
    ·obtain rfl := hC.v0 hf
     obtain ⟨t8, A8, n8, c8, rfl, r8⟩ := hC.h8 (hd 8 (by kernel_rfl))
     have R8 := hC.ow.got r8
     clear hd hcl
     refine wpOp_step rfl (fun K hK => ?_)
     go_simp
     refine (c_sadd hC.ow _ (L.length + 0) R8 ((get_l _ _ (by simp)).trans ((get_r _ _ 0).trans rfl)) HB.out.xt HB.out.t HB.out.xs).mono ?_
     rintro e W' ⟨Az, nz, cz, rfl, ho⟩
     rw [List.append_assoc _ Ls] at ho
     refine hK _ _ ⟨u0, u1, u2, u3, u4, u5, u6, u7, _, _, _, _, ?_, ⟨ho, hC.h0, hC.h1, hC.h2.more, hC.h3, hC.h4, hC.h5, hC.h6.more, hC.h7.more, hC.h8.more, fun _ => rfl, fun e => absurd (show true = false from e) (by decide), GV.new _ _ _ _ _ _ _⟩⟩
     simp only [Act.put, zT, zZ, zS]
   ·rintro Ld b W hL ⟨u0, u1, u2, u3, u4, u5, u6, u7, u8, u9, va, Ls, rfl, hC⟩
    obtain ⟨tz, Az, nz, cz, rfl, rz⟩ := hC.v1 (hL 9 (by show 9 < 10; decide))
    have HG : Hid (Ow w0 W g (M ++ [(w.heap.size + 1, .slice none 0 0)]) (L ++ [⟨Az, nz, cz, nats (Na.dig (Ch.ns (fun i => Ch.wt n m f v (zu + i)) (i + 1)))⟩, ⟨none, 0, 0, nats (Na.dig 0)⟩]) (O1 ++ [Rw.pair sb 142 (.slice Az nz cz) (.slice none 0 0)])) := by
     unfold Hid
     rw [HS.out]
     refine hC.ow.less (fun ob ho => ?_)
     rcases List.mem_append.1 ho with h | h
     ·exact List.mem_append_left _ (List.mem_append_left _ h)
     ·simp only [List.mem_cons, List.mem_nil_iff, or_false] at h
      rcases h with rfl | rfl
      ·exact List.mem_append_right _ (List.mem_of_getElem? rz)
      ·exact List.mem_append_left _ (List.mem_append_right _ (List.mem_cons_of_mem _ List.mem_cons_self))
    clear hC HO
    simp only [Act.put, zT, zZ, zS]
    go_wp2_with fail
    go_roundw
    case rel => exact ⟨i + 1, y + 1, Az, nz, cz, HY.out.2, HY.out.1, by go_num, HG⟩
    case measure => simp [intOf]; omega
  ·have hd1 : decide ((y : Int) ≤ (mn : Int)) = false := decide_eq_false (by omega)
   have hd2 : decide (y ≤ mn) = false := decide_eq_false (by omega)
   obtain rfl : i = mn + 1 - zu := by omega
   have HT : Hid (Ch.ns (fun i => Ch.wt n m f v (zu + i)) (mn + 1 - zu) < Na.top) := by
    obtain ⟨B, hB⟩ : ∃ b, Ch.K406 * 2 ^ 195 = b := ⟨_, rfl⟩
    have hk := Ch.k607
    have h3 := HXb.out
    rw [hB] at h3 hk
    have h4 : (mn + 1 - zu) * B ≤ 41 * B := Nat.mul_le_mul_right _ hi41
    exact Ch.lt607 (by omega)
   have HC := Lib.hid (c_sval HO.out (L.length + 0) (L.length + 1) (by rw [get_r]; rfl) (by rw [get_r]; rfl) HT.out (Nat.zero_le _))
   have e8 : Ch.ns (fun i => Ch.wt n m f v (zu + i)) (mn + 1 - zu) = Ch.wr n m f v := HVt.out
   rw [Nat.sub_zero, e8] at HC
   clear HO HXb HT e8 hi hge hyi
   go_wp2_with fail
   refine HC.out.mono ?_
   rintro e3 w3 ⟨B3, m3, d3, rfl, G4⟩
   have r0 := G4.cell (M.length + 0) (by rw [get_r]; rfl)
   have f0 := G4.free (M.length + 0) (by rw [get_r]; rfl)
   have Z := G4.setv (M.length + 0) (by rw [get_r]; rfl) (.slice B3 m3 d3)
   rw [set_r] at Z
   try simp only [List.set_cons_zero] at Z
   have s0 := Z.cell (M.length + 0) (by rw [get_r]; rfl)
   try simp only [List.append_assoc] at Z
   try simp only [List.cons_append] at Z
   try simp only [List.nil_append] at Z
   have Z2 := Z.fewM.fewO
   rw [← HO1.out] at Z2
   have HF := Lib.hid (Z2.fewO.less (L' := L ++ [⟨B3, m3, d3, nats (Na.dig (Ch.wr n m f v))⟩]) (fun o ho => by
    rcases List.mem_append.1 ho with h | h
    ·exact List.mem_append_left _ h
    ·rw [List.mem_singleton] at h
     subst h
     exact List.mem_append_right _ (List.mem_of_getElem? (i := 2) rfl)))
   clear HC G4 Z Z2 k0 k1 k2 k3 hmn1 hmn2 g2
   go_wp2_with fail
   refine bodyPost_ret (v := .tuple #[.agg #[.slice B3 m3 d3], .int .i64 0]) (by simp [results, Tryz.results63, go_sem, s0]) rfl ?_
   exact ⟨B3, m3, d3, rfl, HF.out⟩
end
end Go.Proofs.YtenokdhldngkgaaGreatDoor
namespace Go.Proofs.YtenokdhldngkgaaGreatDoor
open Go.RowKit
set_option linter.unusedVariables false
set_option maxRecDepth 100000
namespace Sy
theorem wd_set_ne {l : List UInt8} {p i : Nat} {b : UInt8} (h : p ≠ i) : wd (l.set p b) i = wd l i := by
 unfold wd
 rw [List.getElem?_set_ne h]
def Off (E : List Nat) (V W : List UInt8) : Prop := ∀ p, p ∉ E → wd W p = wd V p
theorem Off.set {E : List Nat} {V W : List UInt8} (h : Off E V W) {p : Nat} (hp : p ∈ E) (b : UInt8) : Off E V (W.set p b) := fun i hi => by
 rw [wd_set_ne (show p ≠ i from fun e => hi (e ▸ hp))]
 exact h i hi
end Sy
section
variable {w0 w w' : World} {g : Option Nat} {M : List (Nat × Value)} {L : List Ob} {O : List Rw} {n c gb k : Nat} {e : TypeId} {vs : List Value} {v : Value}
end
end Go.Proofs.YtenokdhldngkgaaGreatDoor
namespace Go.Proofs.YtenokdhldngkgaaGreatDoor
open Go.RowKit Go.Sort
set_option linter.unusedVariables false
set_option maxRecDepth 100000
def vI (d m f : Int) : Prop := 1 ≤ d ∧ d ≤ 32 ∧ 1 ≤ m ∧ m ≤ 8 ∧ 0 ≤ f ∧ f ≤ m / 2
instance (d m f : Int) : Decidable (vI d m f) := by unfold vI; infer_instance
def cdI (k d m f : Int) : Array Value := #[.int .i64 k, .int .i64 d, .int .i64 m, .int .i64 f]
set_option maxHeartbeats 2000000 in
theorem vcode_0 (d m f : Int)  (h0 : ¬ ((1 : Int) ≤ d)) (w : World) : Calls Tryz.prog 146 #[.agg (cdI 2 d m f)] w fun e w' => e = .returned (.bool false) ∧ Below w.heap.size w w' := by
 have H1 := (Ow.of (St.refl w)).arr (cdI 2 d m f) 4 rfl (by omega) 57
 unfold cdI at H1 ⊢
 have hc0 : (w.alloc (.cells #[.int .i64 2, .int .i64 d, .int .i64 m, .int .i64 f] 57)).cell? ⟨w.heap.size, 0, none⟩ = some (.int .i64 2) := (H1.row 0 rfl).cellAt 0 (by decide)
 have hc1 : (w.alloc (.cells #[.int .i64 2, .int .i64 d, .int .i64 m, .int .i64 f] 57)).cell? ⟨w.heap.size, 1, none⟩ = some (.int .i64 d) := (H1.row 0 rfl).cellAt 1 (by decide)
 have hc2 : (w.alloc (.cells #[.int .i64 2, .int .i64 d, .int .i64 m, .int .i64 f] 57)).cell? ⟨w.heap.size, 2, none⟩ = some (.int .i64 m) := (H1.row 0 rfl).cellAt 2 (by decide)
 have hc3 : (w.alloc (.cells #[.int .i64 2, .int .i64 d, .int .i64 m, .int .i64 f] 57)).cell? ⟨w.heap.size, 3, none⟩ = some (.int .i64 f) := (H1.row 0 rfl).cellAt 3 (by decide)
 have HB := Lib.hid H1.below
 have t0 : decide ((1 : Int) ≤ d) = false := decide_eq_false h0
 clear H1 h0
 go_enter Tryz.func146, Tryz.ntmps146
 go_wp2_with fail
 go_ret
 exact ⟨rfl, HB.out⟩
set_option maxHeartbeats 2000000 in
theorem vcode_1 (d m f : Int) (h0 : (1 : Int) ≤ d) (h1 : ¬ (d ≤ 32)) (w : World) : Calls Tryz.prog 146 #[.agg (cdI 2 d m f)] w fun e w' => e = .returned (.bool false) ∧ Below w.heap.size w w' := by
 have H1 := (Ow.of (St.refl w)).arr (cdI 2 d m f) 4 rfl (by omega) 57
 unfold cdI at H1 ⊢
 have hc0 : (w.alloc (.cells #[.int .i64 2, .int .i64 d, .int .i64 m, .int .i64 f] 57)).cell? ⟨w.heap.size, 0, none⟩ = some (.int .i64 2) := (H1.row 0 rfl).cellAt 0 (by decide)
 have hc1 : (w.alloc (.cells #[.int .i64 2, .int .i64 d, .int .i64 m, .int .i64 f] 57)).cell? ⟨w.heap.size, 1, none⟩ = some (.int .i64 d) := (H1.row 0 rfl).cellAt 1 (by decide)
 have hc2 : (w.alloc (.cells #[.int .i64 2, .int .i64 d, .int .i64 m, .int .i64 f] 57)).cell? ⟨w.heap.size, 2, none⟩ = some (.int .i64 m) := (H1.row 0 rfl).cellAt 2 (by decide)
 have hc3 : (w.alloc (.cells #[.int .i64 2, .int .i64 d, .int .i64 m, .int .i64 f] 57)).cell? ⟨w.heap.size, 3, none⟩ = some (.int .i64 f) := (H1.row 0 rfl).cellAt 3 (by decide)
 have HB := Lib.hid H1.below
 have t0 : decide ((1 : Int) ≤ d) = true := decide_eq_true h0
 have t1 : decide (d ≤ 32) = false := decide_eq_false h1
 clear H1 h0 h1
 go_enter Tryz.func146, Tryz.ntmps146
 go_wp2_with fail
 go_ret
 exact ⟨rfl, HB.out⟩
set_option maxHeartbeats 2000000 in
theorem vcode_2 (d m f : Int) (h0 : (1 : Int) ≤ d) (h1 : d ≤ 32) (h2 : ¬ ((1 : Int) ≤ m)) (w : World) : Calls Tryz.prog 146 #[.agg (cdI 2 d m f)] w fun e w' => e = .returned (.bool false) ∧ Below w.heap.size w w' := by
 have H1 := (Ow.of (St.refl w)).arr (cdI 2 d m f) 4 rfl (by omega) 57
 unfold cdI at H1 ⊢
 have hc0 : (w.alloc (.cells #[.int .i64 2, .int .i64 d, .int .i64 m, .int .i64 f] 57)).cell? ⟨w.heap.size, 0, none⟩ = some (.int .i64 2) := (H1.row 0 rfl).cellAt 0 (by decide)
 have hc1 : (w.alloc (.cells #[.int .i64 2, .int .i64 d, .int .i64 m, .int .i64 f] 57)).cell? ⟨w.heap.size, 1, none⟩ = some (.int .i64 d) := (H1.row 0 rfl).cellAt 1 (by decide)
 have hc2 : (w.alloc (.cells #[.int .i64 2, .int .i64 d, .int .i64 m, .int .i64 f] 57)).cell? ⟨w.heap.size, 2, none⟩ = some (.int .i64 m) := (H1.row 0 rfl).cellAt 2 (by decide)
 have hc3 : (w.alloc (.cells #[.int .i64 2, .int .i64 d, .int .i64 m, .int .i64 f] 57)).cell? ⟨w.heap.size, 3, none⟩ = some (.int .i64 f) := (H1.row 0 rfl).cellAt 3 (by decide)
 have HB := Lib.hid H1.below
 have t0 : decide ((1 : Int) ≤ d) = true := decide_eq_true h0
 have t1 : decide (d ≤ 32) = true := decide_eq_true h1
 have t2 : decide ((1 : Int) ≤ m) = false := decide_eq_false h2
 clear H1 h0 h1 h2
 go_enter Tryz.func146, Tryz.ntmps146
 go_wp2_with fail
 go_ret
 exact ⟨rfl, HB.out⟩
set_option maxHeartbeats 2000000 in
theorem vcode_3 (d m f : Int) (h0 : (1 : Int) ≤ d) (h1 : d ≤ 32) (h2 : (1 : Int) ≤ m) (h3 : ¬ (m ≤ 8)) (w : World) : Calls Tryz.prog 146 #[.agg (cdI 2 d m f)] w fun e w' => e = .returned (.bool false) ∧ Below w.heap.size w w' := by
 have H1 := (Ow.of (St.refl w)).arr (cdI 2 d m f) 4 rfl (by omega) 57
 unfold cdI at H1 ⊢
 have hc0 : (w.alloc (.cells #[.int .i64 2, .int .i64 d, .int .i64 m, .int .i64 f] 57)).cell? ⟨w.heap.size, 0, none⟩ = some (.int .i64 2) := (H1.row 0 rfl).cellAt 0 (by decide)
 have hc1 : (w.alloc (.cells #[.int .i64 2, .int .i64 d, .int .i64 m, .int .i64 f] 57)).cell? ⟨w.heap.size, 1, none⟩ = some (.int .i64 d) := (H1.row 0 rfl).cellAt 1 (by decide)
 have hc2 : (w.alloc (.cells #[.int .i64 2, .int .i64 d, .int .i64 m, .int .i64 f] 57)).cell? ⟨w.heap.size, 2, none⟩ = some (.int .i64 m) := (H1.row 0 rfl).cellAt 2 (by decide)
 have hc3 : (w.alloc (.cells #[.int .i64 2, .int .i64 d, .int .i64 m, .int .i64 f] 57)).cell? ⟨w.heap.size, 3, none⟩ = some (.int .i64 f) := (H1.row 0 rfl).cellAt 3 (by decide)
 have HB := Lib.hid H1.below
 have t0 : decide ((1 : Int) ≤ d) = true := decide_eq_true h0
 have t1 : decide (d ≤ 32) = true := decide_eq_true h1
 have t2 : decide ((1 : Int) ≤ m) = true := decide_eq_true h2
 have t3 : decide (m ≤ 8) = false := decide_eq_false h3
 clear H1 h0 h1 h2 h3
 go_enter Tryz.func146, Tryz.ntmps146
 go_wp2_with fail
 go_ret
 exact ⟨rfl, HB.out⟩
set_option maxHeartbeats 2000000 in
theorem vcode_4 (d m f : Int) (h0 : (1 : Int) ≤ d) (h1 : d ≤ 32) (h2 : (1 : Int) ≤ m) (h3 : m ≤ 8) (h4 : ¬ ((0 : Int) ≤ f)) (w : World) : Calls Tryz.prog 146 #[.agg (cdI 2 d m f)] w fun e w' => e = .returned (.bool false) ∧ Below w.heap.size w w' := by
 have H1 := (Ow.of (St.refl w)).arr (cdI 2 d m f) 4 rfl (by omega) 57
 unfold cdI at H1 ⊢
 have hc0 : (w.alloc (.cells #[.int .i64 2, .int .i64 d, .int .i64 m, .int .i64 f] 57)).cell? ⟨w.heap.size, 0, none⟩ = some (.int .i64 2) := (H1.row 0 rfl).cellAt 0 (by decide)
 have hc1 : (w.alloc (.cells #[.int .i64 2, .int .i64 d, .int .i64 m, .int .i64 f] 57)).cell? ⟨w.heap.size, 1, none⟩ = some (.int .i64 d) := (H1.row 0 rfl).cellAt 1 (by decide)
 have hc2 : (w.alloc (.cells #[.int .i64 2, .int .i64 d, .int .i64 m, .int .i64 f] 57)).cell? ⟨w.heap.size, 2, none⟩ = some (.int .i64 m) := (H1.row 0 rfl).cellAt 2 (by decide)
 have hc3 : (w.alloc (.cells #[.int .i64 2, .int .i64 d, .int .i64 m, .int .i64 f] 57)).cell? ⟨w.heap.size, 3, none⟩ = some (.int .i64 f) := (H1.row 0 rfl).cellAt 3 (by decide)
 have HB := Lib.hid H1.below
 have t0 : decide ((1 : Int) ≤ d) = true := decide_eq_true h0
 have t1 : decide (d ≤ 32) = true := decide_eq_true h1
 have t2 : decide ((1 : Int) ≤ m) = true := decide_eq_true h2
 have t3 : decide (m ≤ 8) = true := decide_eq_true h3
 have t4 : decide ((0 : Int) ≤ f) = false := decide_eq_false h4
 clear H1 h0 h1 h2 h3 h4
 go_enter Tryz.func146, Tryz.ntmps146
 go_wp2_with fail
 go_ret
 exact ⟨rfl, HB.out⟩
set_option maxHeartbeats 2000000 in
theorem vcode_5 (d m f : Int) (h0 : (1 : Int) ≤ d) (h1 : d ≤ 32) (h2 : (1 : Int) ≤ m) (h3 : m ≤ 8) (h4 : (0 : Int) ≤ f) (h5 : ¬ (f ≤ m / 2)) (w : World) : Calls Tryz.prog 146 #[.agg (cdI 2 d m f)] w fun e w' => e = .returned (.bool false) ∧ Below w.heap.size w w' := by
 have H1 := (Ow.of (St.refl w)).arr (cdI 2 d m f) 4 rfl (by omega) 57
 unfold cdI at H1 ⊢
 have hc0 : (w.alloc (.cells #[.int .i64 2, .int .i64 d, .int .i64 m, .int .i64 f] 57)).cell? ⟨w.heap.size, 0, none⟩ = some (.int .i64 2) := (H1.row 0 rfl).cellAt 0 (by decide)
 have hc1 : (w.alloc (.cells #[.int .i64 2, .int .i64 d, .int .i64 m, .int .i64 f] 57)).cell? ⟨w.heap.size, 1, none⟩ = some (.int .i64 d) := (H1.row 0 rfl).cellAt 1 (by decide)
 have hc2 : (w.alloc (.cells #[.int .i64 2, .int .i64 d, .int .i64 m, .int .i64 f] 57)).cell? ⟨w.heap.size, 2, none⟩ = some (.int .i64 m) := (H1.row 0 rfl).cellAt 2 (by decide)
 have hc3 : (w.alloc (.cells #[.int .i64 2, .int .i64 d, .int .i64 m, .int .i64 f] 57)).cell? ⟨w.heap.size, 3, none⟩ = some (.int .i64 f) := (H1.row 0 rfl).cellAt 3 (by decide)
 have HB := Lib.hid H1.below
 have t0 : decide ((1 : Int) ≤ d) = true := decide_eq_true h0
 have t1 : decide (d ≤ 32) = true := decide_eq_true h1
 have t2 : decide ((1 : Int) ≤ m) = true := decide_eq_true h2
 have t3 : decide (m ≤ 8) = true := decide_eq_true h3
 have t4 : decide ((0 : Int) ≤ f) = true := decide_eq_true h4
 have t5 : decide (f ≤ m / 2) = false := decide_eq_false h5
 have e1 : IntKind.i64.wrap (m / 2) = m / 2 := IntWalk.i64_in _ (by omega)
 have e2 : m.tdiv 2 = m / 2 := Int.tdiv_eq_ediv_of_nonneg (by omega)
 clear H1 h0 h1 h2 h3 h4 h5
 go_enter Tryz.func146, Tryz.ntmps146
 go_wp2_with fail
 go_ret
 exact ⟨rfl, HB.out⟩
set_option maxHeartbeats 2000000 in
theorem vcode_6 (d m f : Int) (h0 : (1 : Int) ≤ d) (h1 : d ≤ 32) (h2 : (1 : Int) ≤ m) (h3 : m ≤ 8) (h4 : (0 : Int) ≤ f) (h5 : f ≤ m / 2) (w : World) : Calls Tryz.prog 146 #[.agg (cdI 2 d m f)] w fun e w' => e = .returned (.bool true) ∧ Below w.heap.size w w' := by
 have H1 := (Ow.of (St.refl w)).arr (cdI 2 d m f) 4 rfl (by omega) 57
 unfold cdI at H1 ⊢
 have hc0 : (w.alloc (.cells #[.int .i64 2, .int .i64 d, .int .i64 m, .int .i64 f] 57)).cell? ⟨w.heap.size, 0, none⟩ = some (.int .i64 2) := (H1.row 0 rfl).cellAt 0 (by decide)
 have hc1 : (w.alloc (.cells #[.int .i64 2, .int .i64 d, .int .i64 m, .int .i64 f] 57)).cell? ⟨w.heap.size, 1, none⟩ = some (.int .i64 d) := (H1.row 0 rfl).cellAt 1 (by decide)
 have hc2 : (w.alloc (.cells #[.int .i64 2, .int .i64 d, .int .i64 m, .int .i64 f] 57)).cell? ⟨w.heap.size, 2, none⟩ = some (.int .i64 m) := (H1.row 0 rfl).cellAt 2 (by decide)
 have hc3 : (w.alloc (.cells #[.int .i64 2, .int .i64 d, .int .i64 m, .int .i64 f] 57)).cell? ⟨w.heap.size, 3, none⟩ = some (.int .i64 f) := (H1.row 0 rfl).cellAt 3 (by decide)
 have HB := Lib.hid H1.below
 have t0 : decide ((1 : Int) ≤ d) = true := decide_eq_true h0
 have t1 : decide (d ≤ 32) = true := decide_eq_true h1
 have t2 : decide ((1 : Int) ≤ m) = true := decide_eq_true h2
 have t3 : decide (m ≤ 8) = true := decide_eq_true h3
 have t4 : decide ((0 : Int) ≤ f) = true := decide_eq_true h4
 have t5 : decide (f ≤ m / 2) = true := decide_eq_true h5
 have e1 : IntKind.i64.wrap (m / 2) = m / 2 := IntWalk.i64_in _ (by omega)
 have e2 : m.tdiv 2 = m / 2 := Int.tdiv_eq_ediv_of_nonneg (by omega)
 clear H1 h0 h1 h2 h3 h4 h5
 go_enter Tryz.func146, Tryz.ntmps146
 go_wp2_with fail
 go_ret
 exact ⟨rfl, HB.out⟩
theorem vcode (d m f : Int) (w : World) : Calls Tryz.prog 146 #[.agg (cdI 2 d m f)] w fun e w' => e = .returned (.bool (decide (vI d m f))) ∧ Below w.heap.size w w' := by
 by_cases h0 : (1 : Int) ≤ d
 ·by_cases h1 : d ≤ 32
  ·by_cases h2 : (1 : Int) ≤ m
   ·by_cases h3 : m ≤ 8
    ·by_cases h4 : (0 : Int) ≤ f
     ·by_cases h5 : f ≤ m / 2
      ·rw [decide_eq_true (show vI d m f from ⟨h0, h1, h2, h3, h4, h5⟩)]
       exact vcode_6 d m f h0 h1 h2 h3 h4 h5 w
      ·rw [decide_eq_false (show ¬ vI d m f from fun h => h5 h.2.2.2.2.2)]
       exact vcode_5 d m f h0 h1 h2 h3 h4 h5 w
     ·rw [decide_eq_false (show ¬ vI d m f from fun h => h4 h.2.2.2.2.1)]
      exact vcode_4 d m f h0 h1 h2 h3 h4 w
    ·rw [decide_eq_false (show ¬ vI d m f from fun h => h3 h.2.2.2.1)]
     exact vcode_3 d m f h0 h1 h2 h3 w
   ·rw [decide_eq_false (show ¬ vI d m f from fun h => h2 h.2.2.1)]
    exact vcode_2 d m f h0 h1 h2 w
  ·rw [decide_eq_false (show ¬ vI d m f from fun h => h1 h.2.1)]
   exact vcode_1 d m f h0 h1 w
 ·rw [decide_eq_false (show ¬ vI d m f from fun h => h0 h.1)]
  exact vcode_0 d m f h0 w
set_option maxHeartbeats 2000000 in
theorem rvcode_0 (d m f : Int)  (h0 : ¬ ((1 : Int) ≤ d)) (w : World) : Calls Tryz.prog 160 #[.agg (cdI 2 d m f)] w fun e w' => e = .returned (.bool false) ∧ Below w.heap.size w w' := by
 have H1 := (Ow.of (St.refl w)).arr (cdI 2 d m f) 4 rfl (by omega) 57
 unfold cdI at H1 ⊢
 have hc0 : (w.alloc (.cells #[.int .i64 2, .int .i64 d, .int .i64 m, .int .i64 f] 57)).cell? ⟨w.heap.size, 0, none⟩ = some (.int .i64 2) := (H1.row 0 rfl).cellAt 0 (by decide)
 have hc1 : (w.alloc (.cells #[.int .i64 2, .int .i64 d, .int .i64 m, .int .i64 f] 57)).cell? ⟨w.heap.size, 1, none⟩ = some (.int .i64 d) := (H1.row 0 rfl).cellAt 1 (by decide)
 have hc2 : (w.alloc (.cells #[.int .i64 2, .int .i64 d, .int .i64 m, .int .i64 f] 57)).cell? ⟨w.heap.size, 2, none⟩ = some (.int .i64 m) := (H1.row 0 rfl).cellAt 2 (by decide)
 have hc3 : (w.alloc (.cells #[.int .i64 2, .int .i64 d, .int .i64 m, .int .i64 f] 57)).cell? ⟨w.heap.size, 3, none⟩ = some (.int .i64 f) := (H1.row 0 rfl).cellAt 3 (by decide)
 have HB := Lib.hid H1.below
 have t0 : decide ((1 : Int) ≤ d) = false := decide_eq_false h0
 clear H1 h0
 go_enter Tryz.func160, Tryz.ntmps160
 go_wp2_with fail
 go_ret
 exact ⟨rfl, HB.out⟩
set_option maxHeartbeats 2000000 in
theorem rvcode_1 (d m f : Int) (h0 : (1 : Int) ≤ d) (h1 : ¬ (d ≤ 32)) (w : World) : Calls Tryz.prog 160 #[.agg (cdI 2 d m f)] w fun e w' => e = .returned (.bool false) ∧ Below w.heap.size w w' := by
 have H1 := (Ow.of (St.refl w)).arr (cdI 2 d m f) 4 rfl (by omega) 57
 unfold cdI at H1 ⊢
 have hc0 : (w.alloc (.cells #[.int .i64 2, .int .i64 d, .int .i64 m, .int .i64 f] 57)).cell? ⟨w.heap.size, 0, none⟩ = some (.int .i64 2) := (H1.row 0 rfl).cellAt 0 (by decide)
 have hc1 : (w.alloc (.cells #[.int .i64 2, .int .i64 d, .int .i64 m, .int .i64 f] 57)).cell? ⟨w.heap.size, 1, none⟩ = some (.int .i64 d) := (H1.row 0 rfl).cellAt 1 (by decide)
 have hc2 : (w.alloc (.cells #[.int .i64 2, .int .i64 d, .int .i64 m, .int .i64 f] 57)).cell? ⟨w.heap.size, 2, none⟩ = some (.int .i64 m) := (H1.row 0 rfl).cellAt 2 (by decide)
 have hc3 : (w.alloc (.cells #[.int .i64 2, .int .i64 d, .int .i64 m, .int .i64 f] 57)).cell? ⟨w.heap.size, 3, none⟩ = some (.int .i64 f) := (H1.row 0 rfl).cellAt 3 (by decide)
 have HB := Lib.hid H1.below
 have t0 : decide ((1 : Int) ≤ d) = true := decide_eq_true h0
 have t1 : decide (d ≤ 32) = false := decide_eq_false h1
 clear H1 h0 h1
 go_enter Tryz.func160, Tryz.ntmps160
 go_wp2_with fail
 go_ret
 exact ⟨rfl, HB.out⟩
set_option maxHeartbeats 2000000 in
theorem rvcode_2 (d m f : Int) (h0 : (1 : Int) ≤ d) (h1 : d ≤ 32) (h2 : ¬ ((1 : Int) ≤ m)) (w : World) : Calls Tryz.prog 160 #[.agg (cdI 2 d m f)] w fun e w' => e = .returned (.bool false) ∧ Below w.heap.size w w' := by
 have H1 := (Ow.of (St.refl w)).arr (cdI 2 d m f) 4 rfl (by omega) 57
 unfold cdI at H1 ⊢
 have hc0 : (w.alloc (.cells #[.int .i64 2, .int .i64 d, .int .i64 m, .int .i64 f] 57)).cell? ⟨w.heap.size, 0, none⟩ = some (.int .i64 2) := (H1.row 0 rfl).cellAt 0 (by decide)
 have hc1 : (w.alloc (.cells #[.int .i64 2, .int .i64 d, .int .i64 m, .int .i64 f] 57)).cell? ⟨w.heap.size, 1, none⟩ = some (.int .i64 d) := (H1.row 0 rfl).cellAt 1 (by decide)
 have hc2 : (w.alloc (.cells #[.int .i64 2, .int .i64 d, .int .i64 m, .int .i64 f] 57)).cell? ⟨w.heap.size, 2, none⟩ = some (.int .i64 m) := (H1.row 0 rfl).cellAt 2 (by decide)
 have hc3 : (w.alloc (.cells #[.int .i64 2, .int .i64 d, .int .i64 m, .int .i64 f] 57)).cell? ⟨w.heap.size, 3, none⟩ = some (.int .i64 f) := (H1.row 0 rfl).cellAt 3 (by decide)
 have HB := Lib.hid H1.below
 have t0 : decide ((1 : Int) ≤ d) = true := decide_eq_true h0
 have t1 : decide (d ≤ 32) = true := decide_eq_true h1
 have t2 : decide ((1 : Int) ≤ m) = false := decide_eq_false h2
 clear H1 h0 h1 h2
 go_enter Tryz.func160, Tryz.ntmps160
 go_wp2_with fail
 go_ret
 exact ⟨rfl, HB.out⟩
set_option maxHeartbeats 2000000 in
theorem rvcode_3 (d m f : Int) (h0 : (1 : Int) ≤ d) (h1 : d ≤ 32) (h2 : (1 : Int) ≤ m) (h3 : ¬ (m ≤ 8)) (w : World) : Calls Tryz.prog 160 #[.agg (cdI 2 d m f)] w fun e w' => e = .returned (.bool false) ∧ Below w.heap.size w w' := by
 have H1 := (Ow.of (St.refl w)).arr (cdI 2 d m f) 4 rfl (by omega) 57
 unfold cdI at H1 ⊢
 have hc0 : (w.alloc (.cells #[.int .i64 2, .int .i64 d, .int .i64 m, .int .i64 f] 57)).cell? ⟨w.heap.size, 0, none⟩ = some (.int .i64 2) := (H1.row 0 rfl).cellAt 0 (by decide)
 have hc1 : (w.alloc (.cells #[.int .i64 2, .int .i64 d, .int .i64 m, .int .i64 f] 57)).cell? ⟨w.heap.size, 1, none⟩ = some (.int .i64 d) := (H1.row 0 rfl).cellAt 1 (by decide)
 have hc2 : (w.alloc (.cells #[.int .i64 2, .int .i64 d, .int .i64 m, .int .i64 f] 57)).cell? ⟨w.heap.size, 2, none⟩ = some (.int .i64 m) := (H1.row 0 rfl).cellAt 2 (by decide)
 have hc3 : (w.alloc (.cells #[.int .i64 2, .int .i64 d, .int .i64 m, .int .i64 f] 57)).cell? ⟨w.heap.size, 3, none⟩ = some (.int .i64 f) := (H1.row 0 rfl).cellAt 3 (by decide)
 have HB := Lib.hid H1.below
 have t0 : decide ((1 : Int) ≤ d) = true := decide_eq_true h0
 have t1 : decide (d ≤ 32) = true := decide_eq_true h1
 have t2 : decide ((1 : Int) ≤ m) = true := decide_eq_true h2
 have t3 : decide (m ≤ 8) = false := decide_eq_false h3
 clear H1 h0 h1 h2 h3
 go_enter Tryz.func160, Tryz.ntmps160
 go_wp2_with fail
 go_ret
 exact ⟨rfl, HB.out⟩
set_option maxHeartbeats 2000000 in
theorem rvcode_4 (d m f : Int) (h0 : (1 : Int) ≤ d) (h1 : d ≤ 32) (h2 : (1 : Int) ≤ m) (h3 : m ≤ 8) (h4 : ¬ ((0 : Int) ≤ f)) (w : World) : Calls Tryz.prog 160 #[.agg (cdI 2 d m f)] w fun e w' => e = .returned (.bool false) ∧ Below w.heap.size w w' := by
 have H1 := (Ow.of (St.refl w)).arr (cdI 2 d m f) 4 rfl (by omega) 57
 unfold cdI at H1 ⊢
 have hc0 : (w.alloc (.cells #[.int .i64 2, .int .i64 d, .int .i64 m, .int .i64 f] 57)).cell? ⟨w.heap.size, 0, none⟩ = some (.int .i64 2) := (H1.row 0 rfl).cellAt 0 (by decide)
 have hc1 : (w.alloc (.cells #[.int .i64 2, .int .i64 d, .int .i64 m, .int .i64 f] 57)).cell? ⟨w.heap.size, 1, none⟩ = some (.int .i64 d) := (H1.row 0 rfl).cellAt 1 (by decide)
 have hc2 : (w.alloc (.cells #[.int .i64 2, .int .i64 d, .int .i64 m, .int .i64 f] 57)).cell? ⟨w.heap.size, 2, none⟩ = some (.int .i64 m) := (H1.row 0 rfl).cellAt 2 (by decide)
 have hc3 : (w.alloc (.cells #[.int .i64 2, .int .i64 d, .int .i64 m, .int .i64 f] 57)).cell? ⟨w.heap.size, 3, none⟩ = some (.int .i64 f) := (H1.row 0 rfl).cellAt 3 (by decide)
 have HB := Lib.hid H1.below
 have t0 : decide ((1 : Int) ≤ d) = true := decide_eq_true h0
 have t1 : decide (d ≤ 32) = true := decide_eq_true h1
 have t2 : decide ((1 : Int) ≤ m) = true := decide_eq_true h2
 have t3 : decide (m ≤ 8) = true := decide_eq_true h3
 have t4 : decide ((0 : Int) ≤ f) = false := decide_eq_false h4
 clear H1 h0 h1 h2 h3 h4
 go_enter Tryz.func160, Tryz.ntmps160
 go_wp2_with fail
 go_ret
 exact ⟨rfl, HB.out⟩
set_option maxHeartbeats 2000000 in
theorem rvcode_5 (d m f : Int) (h0 : (1 : Int) ≤ d) (h1 : d ≤ 32) (h2 : (1 : Int) ≤ m) (h3 : m ≤ 8) (h4 : (0 : Int) ≤ f) (h5 : ¬ (f ≤ m / 2)) (w : World) : Calls Tryz.prog 160 #[.agg (cdI 2 d m f)] w fun e w' => e = .returned (.bool false) ∧ Below w.heap.size w w' := by
 have H1 := (Ow.of (St.refl w)).arr (cdI 2 d m f) 4 rfl (by omega) 57
 unfold cdI at H1 ⊢
 have hc0 : (w.alloc (.cells #[.int .i64 2, .int .i64 d, .int .i64 m, .int .i64 f] 57)).cell? ⟨w.heap.size, 0, none⟩ = some (.int .i64 2) := (H1.row 0 rfl).cellAt 0 (by decide)
 have hc1 : (w.alloc (.cells #[.int .i64 2, .int .i64 d, .int .i64 m, .int .i64 f] 57)).cell? ⟨w.heap.size, 1, none⟩ = some (.int .i64 d) := (H1.row 0 rfl).cellAt 1 (by decide)
 have hc2 : (w.alloc (.cells #[.int .i64 2, .int .i64 d, .int .i64 m, .int .i64 f] 57)).cell? ⟨w.heap.size, 2, none⟩ = some (.int .i64 m) := (H1.row 0 rfl).cellAt 2 (by decide)
 have hc3 : (w.alloc (.cells #[.int .i64 2, .int .i64 d, .int .i64 m, .int .i64 f] 57)).cell? ⟨w.heap.size, 3, none⟩ = some (.int .i64 f) := (H1.row 0 rfl).cellAt 3 (by decide)
 have HB := Lib.hid H1.below
 have t0 : decide ((1 : Int) ≤ d) = true := decide_eq_true h0
 have t1 : decide (d ≤ 32) = true := decide_eq_true h1
 have t2 : decide ((1 : Int) ≤ m) = true := decide_eq_true h2
 have t3 : decide (m ≤ 8) = true := decide_eq_true h3
 have t4 : decide ((0 : Int) ≤ f) = true := decide_eq_true h4
 have t5 : decide (f ≤ m / 2) = false := decide_eq_false h5
 have e1 : IntKind.i64.wrap (m / 2) = m / 2 := IntWalk.i64_in _ (by omega)
 have e2 : m.tdiv 2 = m / 2 := Int.tdiv_eq_ediv_of_nonneg (by omega)
 clear H1 h0 h1 h2 h3 h4 h5
 go_enter Tryz.func160, Tryz.ntmps160
 go_wp2_with fail
 go_ret
 exact ⟨rfl, HB.out⟩
set_option maxHeartbeats 2000000 in
theorem rvcode_6 (d m f : Int) (h0 : (1 : Int) ≤ d) (h1 : d ≤ 32) (h2 : (1 : Int) ≤ m) (h3 : m ≤ 8) (h4 : (0 : Int) ≤ f) (h5 : f ≤ m / 2) (w : World) : Calls Tryz.prog 160 #[.agg (cdI 2 d m f)] w fun e w' => e = .returned (.bool true) ∧ Below w.heap.size w w' := by
 have H1 := (Ow.of (St.refl w)).arr (cdI 2 d m f) 4 rfl (by omega) 57
 unfold cdI at H1 ⊢
 have hc0 : (w.alloc (.cells #[.int .i64 2, .int .i64 d, .int .i64 m, .int .i64 f] 57)).cell? ⟨w.heap.size, 0, none⟩ = some (.int .i64 2) := (H1.row 0 rfl).cellAt 0 (by decide)
 have hc1 : (w.alloc (.cells #[.int .i64 2, .int .i64 d, .int .i64 m, .int .i64 f] 57)).cell? ⟨w.heap.size, 1, none⟩ = some (.int .i64 d) := (H1.row 0 rfl).cellAt 1 (by decide)
 have hc2 : (w.alloc (.cells #[.int .i64 2, .int .i64 d, .int .i64 m, .int .i64 f] 57)).cell? ⟨w.heap.size, 2, none⟩ = some (.int .i64 m) := (H1.row 0 rfl).cellAt 2 (by decide)
 have hc3 : (w.alloc (.cells #[.int .i64 2, .int .i64 d, .int .i64 m, .int .i64 f] 57)).cell? ⟨w.heap.size, 3, none⟩ = some (.int .i64 f) := (H1.row 0 rfl).cellAt 3 (by decide)
 have HB := Lib.hid H1.below
 have t0 : decide ((1 : Int) ≤ d) = true := decide_eq_true h0
 have t1 : decide (d ≤ 32) = true := decide_eq_true h1
 have t2 : decide ((1 : Int) ≤ m) = true := decide_eq_true h2
 have t3 : decide (m ≤ 8) = true := decide_eq_true h3
 have t4 : decide ((0 : Int) ≤ f) = true := decide_eq_true h4
 have t5 : decide (f ≤ m / 2) = true := decide_eq_true h5
 have e1 : IntKind.i64.wrap (m / 2) = m / 2 := IntWalk.i64_in _ (by omega)
 have e2 : m.tdiv 2 = m / 2 := Int.tdiv_eq_ediv_of_nonneg (by omega)
 clear H1 h0 h1 h2 h3 h4 h5
 go_enter Tryz.func160, Tryz.ntmps160
 go_wp2_with fail
 go_ret
 exact ⟨rfl, HB.out⟩
theorem rvcode (d m f : Int) (w : World) : Calls Tryz.prog 160 #[.agg (cdI 2 d m f)] w fun e w' => e = .returned (.bool (decide (vI d m f))) ∧ Below w.heap.size w w' := by
 by_cases h0 : (1 : Int) ≤ d
 ·by_cases h1 : d ≤ 32
  ·by_cases h2 : (1 : Int) ≤ m
   ·by_cases h3 : m ≤ 8
    ·by_cases h4 : (0 : Int) ≤ f
     ·by_cases h5 : f ≤ m / 2
      ·rw [decide_eq_true (show vI d m f from ⟨h0, h1, h2, h3, h4, h5⟩)]
       exact rvcode_6 d m f h0 h1 h2 h3 h4 h5 w
      ·rw [decide_eq_false (show ¬ vI d m f from fun h => h5 h.2.2.2.2.2)]
       exact rvcode_5 d m f h0 h1 h2 h3 h4 h5 w
     ·rw [decide_eq_false (show ¬ vI d m f from fun h => h4 h.2.2.2.2.1)]
      exact rvcode_4 d m f h0 h1 h2 h3 h4 w
    ·rw [decide_eq_false (show ¬ vI d m f from fun h => h3 h.2.2.2.1)]
     exact rvcode_3 d m f h0 h1 h2 h3 w
   ·rw [decide_eq_false (show ¬ vI d m f from fun h => h2 h.2.2.1)]
    exact rvcode_2 d m f h0 h1 h2 w
  ·rw [decide_eq_false (show ¬ vI d m f from fun h => h1 h.2.1)]
   exact rvcode_1 d m f h0 h1 w
 ·rw [decide_eq_false (show ¬ vI d m f from fun h => h0 h.1)]
  exact rvcode_0 d m f h0 w
section
variable {w0 w w' : World} {g : Option Nat} {M M2 : List (Nat × Value)} {L : List Ob} {O : List Rw} {A A2 A3 A4 : Option Addr} {b n c m c2 n3 c3 n4 c4 x y : Nat} {p q r s : List Int}
def eI (k d m f v : Int) : Int := if k = 2 ∧ vI d m f then (if v < 0 ∨ d + m < v then 2 else 0) else 1
set_option maxHeartbeats 4000000 in
theorem c_wrongI_a (h : Ow w0 w g M L O) (k d m f v : Int) (hk : k ≠ 2) :
  Calls Tryz.prog 97 #[.agg (cdI k d m f), .int .i64 v] w fun e w' => e = .returned (.int .i64 1) ∧ Ow w0 w' g M L O := by
 have H0 := h.arr (cdI k d m f) 4 rfl (by omega) 57
 unfold cdI at H0 ⊢
 have k0 : (w.alloc (.cells #[.int .i64 k, .int .i64 d, .int .i64 m, .int .i64 f] 57)).cell? ⟨w.heap.size, 0, none⟩ = some (.int .i64 k) := (H0.row (O.length + 0) (by rw [get_r]; rfl)).cellAt 0 (by decide)
 have k1 : (w.alloc (.cells #[.int .i64 k, .int .i64 d, .int .i64 m, .int .i64 f] 57)).cell? ⟨w.heap.size, 1, none⟩ = some (.int .i64 d) := (H0.row (O.length + 0) (by rw [get_r]; rfl)).cellAt 1 (by decide)
 have k2 : (w.alloc (.cells #[.int .i64 k, .int .i64 d, .int .i64 m, .int .i64 f] 57)).cell? ⟨w.heap.size, 2, none⟩ = some (.int .i64 m) := (H0.row (O.length + 0) (by rw [get_r]; rfl)).cellAt 2 (by decide)
 have k3 : (w.alloc (.cells #[.int .i64 k, .int .i64 d, .int .i64 m, .int .i64 f] 57)).cell? ⟨w.heap.size, 3, none⟩ = some (.int .i64 f) := (H0.row (O.length + 0) (by rw [get_r]; rfl)).cellAt 3 (by decide)
 have HO := Lib.hid H0
 have hA : (k == 2) = false := by rw [beq_eq_false_iff_ne]; exact hk
 have hA2 : decide (k = 2) = false := decide_eq_false hk
 have hA3 : (k != 2) = true := by rw [bne, hA]; rfl
 clear hk
 clear h H0
 go_enter Tryz.func97, Tryz.ntmps97
 go_wp2_with fail
 go_ret
 exact ⟨rfl, HO.out.fewO⟩
set_option maxHeartbeats 4000000 in
theorem c_wrongI_b (h : Ow w0 w g M L O) (d m f v : Int) (hn : ¬ vI d m f) :
  Calls Tryz.prog 97 #[.agg (cdI 2 d m f), .int .i64 v] w fun e w' => e = .returned (.int .i64 1) ∧ Ow w0 w' g M L O := by
 have H0 := h.arr (cdI 2 d m f) 4 rfl (by omega) 57
 have HV := Lib.hid (fun W => vcode d m f W)
 rw [decide_eq_false hn] at HV
 unfold cdI at H0 ⊢
 unfold cdI at HV
 have k0 : (w.alloc (.cells #[.int .i64 2, .int .i64 d, .int .i64 m, .int .i64 f] 57)).cell? ⟨w.heap.size, 0, none⟩ = some (.int .i64 2) := (H0.row (O.length + 0) (by rw [get_r]; rfl)).cellAt 0 (by decide)
 have k1 : (w.alloc (.cells #[.int .i64 2, .int .i64 d, .int .i64 m, .int .i64 f] 57)).cell? ⟨w.heap.size, 1, none⟩ = some (.int .i64 d) := (H0.row (O.length + 0) (by rw [get_r]; rfl)).cellAt 1 (by decide)
 have k2 : (w.alloc (.cells #[.int .i64 2, .int .i64 d, .int .i64 m, .int .i64 f] 57)).cell? ⟨w.heap.size, 2, none⟩ = some (.int .i64 m) := (H0.row (O.length + 0) (by rw [get_r]; rfl)).cellAt 2 (by decide)
 have k3 : (w.alloc (.cells #[.int .i64 2, .int .i64 d, .int .i64 m, .int .i64 f] 57)).cell? ⟨w.heap.size, 3, none⟩ = some (.int .i64 f) := (H0.row (O.length + 0) (by rw [get_r]; rfl)).cellAt 3 (by decide)
 have HO := Lib.hid H0
 clear h H0 hn
 go_enter Tryz.func97, Tryz.ntmps97
 go_wp2_with (go_at_call 146; refine (HV.out _).mono ?_; rintro e w1 ⟨rfl, hb⟩; have HO1 := Lib.hid (HO.out.go hb); have q0 : w1.cell? ⟨w.heap.size, 0, none⟩ = some (.int .i64 2) := (HO1.out.row (O.length + 0) (by rw [get_r]; rfl)).cellAt 0 (by decide); have q1 : w1.cell? ⟨w.heap.size, 1, none⟩ = some (.int .i64 d) := (HO1.out.row (O.length + 0) (by rw [get_r]; rfl)).cellAt 1 (by decide); have q2 : w1.cell? ⟨w.heap.size, 2, none⟩ = some (.int .i64 m) := (HO1.out.row (O.length + 0) (by rw [get_r]; rfl)).cellAt 2 (by decide); have q3 : w1.cell? ⟨w.heap.size, 3, none⟩ = some (.int .i64 f) := (HO1.out.row (O.length + 0) (by rw [get_r]; rfl)).cellAt 3 (by decide); clear hb)
 go_ret
 exact ⟨rfl, HO1.out.fewO⟩
set_option maxHeartbeats 4000000 in
theorem c_wrongI_c (h : Ow w0 w g M L O) (d m f v : Int) (hn : vI d m f) (hv : v < 0) :
  Calls Tryz.prog 97 #[.agg (cdI 2 d m f), .int .i64 v] w fun e w' => e = .returned (.int .i64 2) ∧ Ow w0 w' g M L O := by
 have H0 := h.arr (cdI 2 d m f) 4 rfl (by omega) 57
 have HV := Lib.hid (fun W => vcode d m f W)
 rw [decide_eq_true hn] at HV
 unfold cdI at H0 ⊢
 unfold cdI at HV
 have k0 : (w.alloc (.cells #[.int .i64 2, .int .i64 d, .int .i64 m, .int .i64 f] 57)).cell? ⟨w.heap.size, 0, none⟩ = some (.int .i64 2) := (H0.row (O.length + 0) (by rw [get_r]; rfl)).cellAt 0 (by decide)
 have k1 : (w.alloc (.cells #[.int .i64 2, .int .i64 d, .int .i64 m, .int .i64 f] 57)).cell? ⟨w.heap.size, 1, none⟩ = some (.int .i64 d) := (H0.row (O.length + 0) (by rw [get_r]; rfl)).cellAt 1 (by decide)
 have k2 : (w.alloc (.cells #[.int .i64 2, .int .i64 d, .int .i64 m, .int .i64 f] 57)).cell? ⟨w.heap.size, 2, none⟩ = some (.int .i64 m) := (H0.row (O.length + 0) (by rw [get_r]; rfl)).cellAt 2 (by decide)
 have k3 : (w.alloc (.cells #[.int .i64 2, .int .i64 d, .int .i64 m, .int .i64 f] 57)).cell? ⟨w.heap.size, 3, none⟩ = some (.int .i64 f) := (H0.row (O.length + 0) (by rw [get_r]; rfl)).cellAt 3 (by decide)
 have HO := Lib.hid H0
 obtain ⟨b1, b2, b3, b4, b5, b6⟩ := hn
 have t1 : decide (v < 0) = true := decide_eq_true (by omega)
 have hw : IntKind.i64.wrap (d + m) = d + m := IntWalk.i64_in _ (by omega)
 clear hv
 clear h H0
 go_enter Tryz.func97, Tryz.ntmps97
 go_wp2_with (go_at_call 146; refine (HV.out _).mono ?_; rintro e w1 ⟨rfl, hb⟩; have HO1 := Lib.hid (HO.out.go hb); have q0 : w1.cell? ⟨w.heap.size, 0, none⟩ = some (.int .i64 2) := (HO1.out.row (O.length + 0) (by rw [get_r]; rfl)).cellAt 0 (by decide); have q1 : w1.cell? ⟨w.heap.size, 1, none⟩ = some (.int .i64 d) := (HO1.out.row (O.length + 0) (by rw [get_r]; rfl)).cellAt 1 (by decide); have q2 : w1.cell? ⟨w.heap.size, 2, none⟩ = some (.int .i64 m) := (HO1.out.row (O.length + 0) (by rw [get_r]; rfl)).cellAt 2 (by decide); have q3 : w1.cell? ⟨w.heap.size, 3, none⟩ = some (.int .i64 f) := (HO1.out.row (O.length + 0) (by rw [get_r]; rfl)).cellAt 3 (by decide); clear hb)
 go_ret
 exact ⟨rfl, HO1.out.fewO⟩
set_option maxHeartbeats 4000000 in
theorem c_wrongI_d (h : Ow w0 w g M L O) (d m f v : Int) (hn : vI d m f) (hv : 0 ≤ v) (hb : d + m < v) :
  Calls Tryz.prog 97 #[.agg (cdI 2 d m f), .int .i64 v] w fun e w' => e = .returned (.int .i64 2) ∧ Ow w0 w' g M L O := by
 have H0 := h.arr (cdI 2 d m f) 4 rfl (by omega) 57
 have HV := Lib.hid (fun W => vcode d m f W)
 rw [decide_eq_true hn] at HV
 unfold cdI at H0 ⊢
 unfold cdI at HV
 have k0 : (w.alloc (.cells #[.int .i64 2, .int .i64 d, .int .i64 m, .int .i64 f] 57)).cell? ⟨w.heap.size, 0, none⟩ = some (.int .i64 2) := (H0.row (O.length + 0) (by rw [get_r]; rfl)).cellAt 0 (by decide)
 have k1 : (w.alloc (.cells #[.int .i64 2, .int .i64 d, .int .i64 m, .int .i64 f] 57)).cell? ⟨w.heap.size, 1, none⟩ = some (.int .i64 d) := (H0.row (O.length + 0) (by rw [get_r]; rfl)).cellAt 1 (by decide)
 have k2 : (w.alloc (.cells #[.int .i64 2, .int .i64 d, .int .i64 m, .int .i64 f] 57)).cell? ⟨w.heap.size, 2, none⟩ = some (.int .i64 m) := (H0.row (O.length + 0) (by rw [get_r]; rfl)).cellAt 2 (by decide)
 have k3 : (w.alloc (.cells #[.int .i64 2, .int .i64 d, .int .i64 m, .int .i64 f] 57)).cell? ⟨w.heap.size, 3, none⟩ = some (.int .i64 f) := (H0.row (O.length + 0) (by rw [get_r]; rfl)).cellAt 3 (by decide)
 have HO := Lib.hid H0
 obtain ⟨b1, b2, b3, b4, b5, b6⟩ := hn
 have t1 : decide (v < 0) = false := decide_eq_false (by omega)
 have t2 : decide (d + m < v) = true := decide_eq_true (by omega)
 have hw : IntKind.i64.wrap (d + m) = d + m := IntWalk.i64_in _ (by omega)
 clear hv hb
 clear h H0
 go_enter Tryz.func97, Tryz.ntmps97
 go_wp2_with (go_at_call 146; refine (HV.out _).mono ?_; rintro e w1 ⟨rfl, hb⟩; have HO1 := Lib.hid (HO.out.go hb); have q0 : w1.cell? ⟨w.heap.size, 0, none⟩ = some (.int .i64 2) := (HO1.out.row (O.length + 0) (by rw [get_r]; rfl)).cellAt 0 (by decide); have q1 : w1.cell? ⟨w.heap.size, 1, none⟩ = some (.int .i64 d) := (HO1.out.row (O.length + 0) (by rw [get_r]; rfl)).cellAt 1 (by decide); have q2 : w1.cell? ⟨w.heap.size, 2, none⟩ = some (.int .i64 m) := (HO1.out.row (O.length + 0) (by rw [get_r]; rfl)).cellAt 2 (by decide); have q3 : w1.cell? ⟨w.heap.size, 3, none⟩ = some (.int .i64 f) := (HO1.out.row (O.length + 0) (by rw [get_r]; rfl)).cellAt 3 (by decide); clear hb)
 go_ret
 exact ⟨rfl, HO1.out.fewO⟩
set_option maxHeartbeats 4000000 in
theorem c_wrongI_e (h : Ow w0 w g M L O) (d m f v : Int) (hn : vI d m f) (hv : 0 ≤ v) (hb : v ≤ d + m) :
  Calls Tryz.prog 97 #[.agg (cdI 2 d m f), .int .i64 v] w fun e w' => e = .returned (.int .i64 0) ∧ Ow w0 w' g M L O := by
 have H0 := h.arr (cdI 2 d m f) 4 rfl (by omega) 57
 have HV := Lib.hid (fun W => vcode d m f W)
 rw [decide_eq_true hn] at HV
 unfold cdI at H0 ⊢
 unfold cdI at HV
 have k0 : (w.alloc (.cells #[.int .i64 2, .int .i64 d, .int .i64 m, .int .i64 f] 57)).cell? ⟨w.heap.size, 0, none⟩ = some (.int .i64 2) := (H0.row (O.length + 0) (by rw [get_r]; rfl)).cellAt 0 (by decide)
 have k1 : (w.alloc (.cells #[.int .i64 2, .int .i64 d, .int .i64 m, .int .i64 f] 57)).cell? ⟨w.heap.size, 1, none⟩ = some (.int .i64 d) := (H0.row (O.length + 0) (by rw [get_r]; rfl)).cellAt 1 (by decide)
 have k2 : (w.alloc (.cells #[.int .i64 2, .int .i64 d, .int .i64 m, .int .i64 f] 57)).cell? ⟨w.heap.size, 2, none⟩ = some (.int .i64 m) := (H0.row (O.length + 0) (by rw [get_r]; rfl)).cellAt 2 (by decide)
 have k3 : (w.alloc (.cells #[.int .i64 2, .int .i64 d, .int .i64 m, .int .i64 f] 57)).cell? ⟨w.heap.size, 3, none⟩ = some (.int .i64 f) := (H0.row (O.length + 0) (by rw [get_r]; rfl)).cellAt 3 (by decide)
 have HO := Lib.hid H0
 obtain ⟨b1, b2, b3, b4, b5, b6⟩ := hn
 have t1 : decide (v < 0) = false := decide_eq_false (by omega)
 have t2 : decide (d + m < v) = false := decide_eq_false (by omega)
 have hw : IntKind.i64.wrap (d + m) = d + m := IntWalk.i64_in _ (by omega)
 clear hv hb
 clear h H0
 go_enter Tryz.func97, Tryz.ntmps97
 go_wp2_with (go_at_call 146; refine (HV.out _).mono ?_; rintro e w1 ⟨rfl, hb⟩; have HO1 := Lib.hid (HO.out.go hb); have q0 : w1.cell? ⟨w.heap.size, 0, none⟩ = some (.int .i64 2) := (HO1.out.row (O.length + 0) (by rw [get_r]; rfl)).cellAt 0 (by decide); have q1 : w1.cell? ⟨w.heap.size, 1, none⟩ = some (.int .i64 d) := (HO1.out.row (O.length + 0) (by rw [get_r]; rfl)).cellAt 1 (by decide); have q2 : w1.cell? ⟨w.heap.size, 2, none⟩ = some (.int .i64 m) := (HO1.out.row (O.length + 0) (by rw [get_r]; rfl)).cellAt 2 (by decide); have q3 : w1.cell? ⟨w.heap.size, 3, none⟩ = some (.int .i64 f) := (HO1.out.row (O.length + 0) (by rw [get_r]; rfl)).cellAt 3 (by decide); clear hb)
 go_ret
 exact ⟨rfl, HO1.out.fewO⟩
theorem c_wrongI (h : Ow w0 w g M L O) (k d m f v : Int) :
  Calls Tryz.prog 97 #[.agg (cdI k d m f), .int .i64 v] w fun e w' => e = .returned (.int .i64 (eI k d m f v)) ∧ Ow w0 w' g M L O := by
 unfold eI
 by_cases hk : k = 2
 ·subst hk
  by_cases hn : vI d m f
  ·rw [if_pos ⟨rfl, hn⟩]
   rcases Int.lt_or_le v 0 with hv | hv
   ·rw [if_pos (.inl hv)]
    exact c_wrongI_c h d m f v hn hv
   ·rcases Int.lt_or_le (d + m) v with hb | hb
    ·rw [if_pos (.inr hb)]
     exact c_wrongI_d h d m f v hn hv hb
    ·rw [if_neg (by omega)]
     exact c_wrongI_e h d m f v hn hv hb
  ·rw [if_neg fun e => hn e.2]
   exact c_wrongI_b h d m f v hn
 ·rw [if_neg fun e => hk e.1]
  exact c_wrongI_a h k d m f v hk
set_option maxHeartbeats 4000000 in
theorem r_checkI_a (h : Ow w0 w g M L O) (k d m f v : Int) (hk : k ≠ 2) :
  Calls Tryz.prog 113 #[.agg (cdI k d m f), .int .i64 v] w fun e w' => e = .returned (.int .i64 1) ∧ Ow w0 w' g M L O := by
 have H0 := h.arr (cdI k d m f) 4 rfl (by omega) 57
 unfold cdI at H0 ⊢
 have k0 : (w.alloc (.cells #[.int .i64 k, .int .i64 d, .int .i64 m, .int .i64 f] 57)).cell? ⟨w.heap.size, 0, none⟩ = some (.int .i64 k) := (H0.row (O.length + 0) (by rw [get_r]; rfl)).cellAt 0 (by decide)
 have k1 : (w.alloc (.cells #[.int .i64 k, .int .i64 d, .int .i64 m, .int .i64 f] 57)).cell? ⟨w.heap.size, 1, none⟩ = some (.int .i64 d) := (H0.row (O.length + 0) (by rw [get_r]; rfl)).cellAt 1 (by decide)
 have k2 : (w.alloc (.cells #[.int .i64 k, .int .i64 d, .int .i64 m, .int .i64 f] 57)).cell? ⟨w.heap.size, 2, none⟩ = some (.int .i64 m) := (H0.row (O.length + 0) (by rw [get_r]; rfl)).cellAt 2 (by decide)
 have k3 : (w.alloc (.cells #[.int .i64 k, .int .i64 d, .int .i64 m, .int .i64 f] 57)).cell? ⟨w.heap.size, 3, none⟩ = some (.int .i64 f) := (H0.row (O.length + 0) (by rw [get_r]; rfl)).cellAt 3 (by decide)
 have HO := Lib.hid H0
 have hA : (k == 2) = false := by rw [beq_eq_false_iff_ne]; exact hk
 have hA2 : decide (k = 2) = false := decide_eq_false hk
 have hA3 : (k != 2) = true := by rw [bne, hA]; rfl
 clear hk
 clear h H0
 go_enter Tryz.func113, Tryz.ntmps113
 go_wp2_with fail
 go_ret
 exact ⟨rfl, HO.out.fewO⟩
set_option maxHeartbeats 4000000 in
theorem r_checkI_b (h : Ow w0 w g M L O) (d m f v : Int) (hn : ¬ vI d m f) :
  Calls Tryz.prog 113 #[.agg (cdI 2 d m f), .int .i64 v] w fun e w' => e = .returned (.int .i64 1) ∧ Ow w0 w' g M L O := by
 have H0 := h.arr (cdI 2 d m f) 4 rfl (by omega) 57
 have HV := Lib.hid (fun W => rvcode d m f W)
 rw [decide_eq_false hn] at HV
 unfold cdI at H0 ⊢
 unfold cdI at HV
 have k0 : (w.alloc (.cells #[.int .i64 2, .int .i64 d, .int .i64 m, .int .i64 f] 57)).cell? ⟨w.heap.size, 0, none⟩ = some (.int .i64 2) := (H0.row (O.length + 0) (by rw [get_r]; rfl)).cellAt 0 (by decide)
 have k1 : (w.alloc (.cells #[.int .i64 2, .int .i64 d, .int .i64 m, .int .i64 f] 57)).cell? ⟨w.heap.size, 1, none⟩ = some (.int .i64 d) := (H0.row (O.length + 0) (by rw [get_r]; rfl)).cellAt 1 (by decide)
 have k2 : (w.alloc (.cells #[.int .i64 2, .int .i64 d, .int .i64 m, .int .i64 f] 57)).cell? ⟨w.heap.size, 2, none⟩ = some (.int .i64 m) := (H0.row (O.length + 0) (by rw [get_r]; rfl)).cellAt 2 (by decide)
 have k3 : (w.alloc (.cells #[.int .i64 2, .int .i64 d, .int .i64 m, .int .i64 f] 57)).cell? ⟨w.heap.size, 3, none⟩ = some (.int .i64 f) := (H0.row (O.length + 0) (by rw [get_r]; rfl)).cellAt 3 (by decide)
 have HO := Lib.hid H0
 clear h H0 hn
 go_enter Tryz.func113, Tryz.ntmps113
 go_wp2_with (go_at_call 160; refine (HV.out _).mono ?_; rintro e w1 ⟨rfl, hb⟩; have HO1 := Lib.hid (HO.out.go hb); have q0 : w1.cell? ⟨w.heap.size, 0, none⟩ = some (.int .i64 2) := (HO1.out.row (O.length + 0) (by rw [get_r]; rfl)).cellAt 0 (by decide); have q1 : w1.cell? ⟨w.heap.size, 1, none⟩ = some (.int .i64 d) := (HO1.out.row (O.length + 0) (by rw [get_r]; rfl)).cellAt 1 (by decide); have q2 : w1.cell? ⟨w.heap.size, 2, none⟩ = some (.int .i64 m) := (HO1.out.row (O.length + 0) (by rw [get_r]; rfl)).cellAt 2 (by decide); have q3 : w1.cell? ⟨w.heap.size, 3, none⟩ = some (.int .i64 f) := (HO1.out.row (O.length + 0) (by rw [get_r]; rfl)).cellAt 3 (by decide); clear hb)
 go_ret
 exact ⟨rfl, HO1.out.fewO⟩
set_option maxHeartbeats 4000000 in
theorem r_checkI_c (h : Ow w0 w g M L O) (d m f v : Int) (hn : vI d m f) (hv : v < 0) :
  Calls Tryz.prog 113 #[.agg (cdI 2 d m f), .int .i64 v] w fun e w' => e = .returned (.int .i64 2) ∧ Ow w0 w' g M L O := by
 have H0 := h.arr (cdI 2 d m f) 4 rfl (by omega) 57
 have HV := Lib.hid (fun W => rvcode d m f W)
 rw [decide_eq_true hn] at HV
 unfold cdI at H0 ⊢
 unfold cdI at HV
 have k0 : (w.alloc (.cells #[.int .i64 2, .int .i64 d, .int .i64 m, .int .i64 f] 57)).cell? ⟨w.heap.size, 0, none⟩ = some (.int .i64 2) := (H0.row (O.length + 0) (by rw [get_r]; rfl)).cellAt 0 (by decide)
 have k1 : (w.alloc (.cells #[.int .i64 2, .int .i64 d, .int .i64 m, .int .i64 f] 57)).cell? ⟨w.heap.size, 1, none⟩ = some (.int .i64 d) := (H0.row (O.length + 0) (by rw [get_r]; rfl)).cellAt 1 (by decide)
 have k2 : (w.alloc (.cells #[.int .i64 2, .int .i64 d, .int .i64 m, .int .i64 f] 57)).cell? ⟨w.heap.size, 2, none⟩ = some (.int .i64 m) := (H0.row (O.length + 0) (by rw [get_r]; rfl)).cellAt 2 (by decide)
 have k3 : (w.alloc (.cells #[.int .i64 2, .int .i64 d, .int .i64 m, .int .i64 f] 57)).cell? ⟨w.heap.size, 3, none⟩ = some (.int .i64 f) := (H0.row (O.length + 0) (by rw [get_r]; rfl)).cellAt 3 (by decide)
 have HO := Lib.hid H0
 obtain ⟨b1, b2, b3, b4, b5, b6⟩ := hn
 have t1 : decide (v < 0) = true := decide_eq_true (by omega)
 have hw : IntKind.i64.wrap (d + m) = d + m := IntWalk.i64_in _ (by omega)
 clear hv
 clear h H0
 go_enter Tryz.func113, Tryz.ntmps113
 go_wp2_with (go_at_call 160; refine (HV.out _).mono ?_; rintro e w1 ⟨rfl, hb⟩; have HO1 := Lib.hid (HO.out.go hb); have q0 : w1.cell? ⟨w.heap.size, 0, none⟩ = some (.int .i64 2) := (HO1.out.row (O.length + 0) (by rw [get_r]; rfl)).cellAt 0 (by decide); have q1 : w1.cell? ⟨w.heap.size, 1, none⟩ = some (.int .i64 d) := (HO1.out.row (O.length + 0) (by rw [get_r]; rfl)).cellAt 1 (by decide); have q2 : w1.cell? ⟨w.heap.size, 2, none⟩ = some (.int .i64 m) := (HO1.out.row (O.length + 0) (by rw [get_r]; rfl)).cellAt 2 (by decide); have q3 : w1.cell? ⟨w.heap.size, 3, none⟩ = some (.int .i64 f) := (HO1.out.row (O.length + 0) (by rw [get_r]; rfl)).cellAt 3 (by decide); clear hb)
 go_ret
 exact ⟨rfl, HO1.out.fewO⟩
set_option maxHeartbeats 4000000 in
theorem r_checkI_d (h : Ow w0 w g M L O) (d m f v : Int) (hn : vI d m f) (hv : 0 ≤ v) (hb : d + m < v) :
  Calls Tryz.prog 113 #[.agg (cdI 2 d m f), .int .i64 v] w fun e w' => e = .returned (.int .i64 2) ∧ Ow w0 w' g M L O := by
 have H0 := h.arr (cdI 2 d m f) 4 rfl (by omega) 57
 have HV := Lib.hid (fun W => rvcode d m f W)
 rw [decide_eq_true hn] at HV
 unfold cdI at H0 ⊢
 unfold cdI at HV
 have k0 : (w.alloc (.cells #[.int .i64 2, .int .i64 d, .int .i64 m, .int .i64 f] 57)).cell? ⟨w.heap.size, 0, none⟩ = some (.int .i64 2) := (H0.row (O.length + 0) (by rw [get_r]; rfl)).cellAt 0 (by decide)
 have k1 : (w.alloc (.cells #[.int .i64 2, .int .i64 d, .int .i64 m, .int .i64 f] 57)).cell? ⟨w.heap.size, 1, none⟩ = some (.int .i64 d) := (H0.row (O.length + 0) (by rw [get_r]; rfl)).cellAt 1 (by decide)
 have k2 : (w.alloc (.cells #[.int .i64 2, .int .i64 d, .int .i64 m, .int .i64 f] 57)).cell? ⟨w.heap.size, 2, none⟩ = some (.int .i64 m) := (H0.row (O.length + 0) (by rw [get_r]; rfl)).cellAt 2 (by decide)
 have k3 : (w.alloc (.cells #[.int .i64 2, .int .i64 d, .int .i64 m, .int .i64 f] 57)).cell? ⟨w.heap.size, 3, none⟩ = some (.int .i64 f) := (H0.row (O.length + 0) (by rw [get_r]; rfl)).cellAt 3 (by decide)
 have HO := Lib.hid H0
 obtain ⟨b1, b2, b3, b4, b5, b6⟩ := hn
 have t1 : decide (v < 0) = false := decide_eq_false (by omega)
 have t2 : decide (d + m < v) = true := decide_eq_true (by omega)
 have hw : IntKind.i64.wrap (d + m) = d + m := IntWalk.i64_in _ (by omega)
 clear hv hb
 clear h H0
 go_enter Tryz.func113, Tryz.ntmps113
 go_wp2_with (go_at_call 160; refine (HV.out _).mono ?_; rintro e w1 ⟨rfl, hb⟩; have HO1 := Lib.hid (HO.out.go hb); have q0 : w1.cell? ⟨w.heap.size, 0, none⟩ = some (.int .i64 2) := (HO1.out.row (O.length + 0) (by rw [get_r]; rfl)).cellAt 0 (by decide); have q1 : w1.cell? ⟨w.heap.size, 1, none⟩ = some (.int .i64 d) := (HO1.out.row (O.length + 0) (by rw [get_r]; rfl)).cellAt 1 (by decide); have q2 : w1.cell? ⟨w.heap.size, 2, none⟩ = some (.int .i64 m) := (HO1.out.row (O.length + 0) (by rw [get_r]; rfl)).cellAt 2 (by decide); have q3 : w1.cell? ⟨w.heap.size, 3, none⟩ = some (.int .i64 f) := (HO1.out.row (O.length + 0) (by rw [get_r]; rfl)).cellAt 3 (by decide); clear hb)
 go_ret
 exact ⟨rfl, HO1.out.fewO⟩
set_option maxHeartbeats 4000000 in
theorem r_checkI_e (h : Ow w0 w g M L O) (d m f v : Int) (hn : vI d m f) (hv : 0 ≤ v) (hb : v ≤ d + m) :
  Calls Tryz.prog 113 #[.agg (cdI 2 d m f), .int .i64 v] w fun e w' => e = .returned (.int .i64 0) ∧ Ow w0 w' g M L O := by
 have H0 := h.arr (cdI 2 d m f) 4 rfl (by omega) 57
 have HV := Lib.hid (fun W => rvcode d m f W)
 rw [decide_eq_true hn] at HV
 unfold cdI at H0 ⊢
 unfold cdI at HV
 have k0 : (w.alloc (.cells #[.int .i64 2, .int .i64 d, .int .i64 m, .int .i64 f] 57)).cell? ⟨w.heap.size, 0, none⟩ = some (.int .i64 2) := (H0.row (O.length + 0) (by rw [get_r]; rfl)).cellAt 0 (by decide)
 have k1 : (w.alloc (.cells #[.int .i64 2, .int .i64 d, .int .i64 m, .int .i64 f] 57)).cell? ⟨w.heap.size, 1, none⟩ = some (.int .i64 d) := (H0.row (O.length + 0) (by rw [get_r]; rfl)).cellAt 1 (by decide)
 have k2 : (w.alloc (.cells #[.int .i64 2, .int .i64 d, .int .i64 m, .int .i64 f] 57)).cell? ⟨w.heap.size, 2, none⟩ = some (.int .i64 m) := (H0.row (O.length + 0) (by rw [get_r]; rfl)).cellAt 2 (by decide)
 have k3 : (w.alloc (.cells #[.int .i64 2, .int .i64 d, .int .i64 m, .int .i64 f] 57)).cell? ⟨w.heap.size, 3, none⟩ = some (.int .i64 f) := (H0.row (O.length + 0) (by rw [get_r]; rfl)).cellAt 3 (by decide)
 have HO := Lib.hid H0
 obtain ⟨b1, b2, b3, b4, b5, b6⟩ := hn
 have t1 : decide (v < 0) = false := decide_eq_false (by omega)
 have t2 : decide (d + m < v) = false := decide_eq_false (by omega)
 have hw : IntKind.i64.wrap (d + m) = d + m := IntWalk.i64_in _ (by omega)
 clear hv hb
 clear h H0
 go_enter Tryz.func113, Tryz.ntmps113
 go_wp2_with (go_at_call 160; refine (HV.out _).mono ?_; rintro e w1 ⟨rfl, hb⟩; have HO1 := Lib.hid (HO.out.go hb); have q0 : w1.cell? ⟨w.heap.size, 0, none⟩ = some (.int .i64 2) := (HO1.out.row (O.length + 0) (by rw [get_r]; rfl)).cellAt 0 (by decide); have q1 : w1.cell? ⟨w.heap.size, 1, none⟩ = some (.int .i64 d) := (HO1.out.row (O.length + 0) (by rw [get_r]; rfl)).cellAt 1 (by decide); have q2 : w1.cell? ⟨w.heap.size, 2, none⟩ = some (.int .i64 m) := (HO1.out.row (O.length + 0) (by rw [get_r]; rfl)).cellAt 2 (by decide); have q3 : w1.cell? ⟨w.heap.size, 3, none⟩ = some (.int .i64 f) := (HO1.out.row (O.length + 0) (by rw [get_r]; rfl)).cellAt 3 (by decide); clear hb)
 go_ret
 exact ⟨rfl, HO1.out.fewO⟩
theorem r_checkI (h : Ow w0 w g M L O) (k d m f v : Int) :
  Calls Tryz.prog 113 #[.agg (cdI k d m f), .int .i64 v] w fun e w' => e = .returned (.int .i64 (eI k d m f v)) ∧ Ow w0 w' g M L O := by
 unfold eI
 by_cases hk : k = 2
 ·subst hk
  by_cases hn : vI d m f
  ·rw [if_pos ⟨rfl, hn⟩]
   rcases Int.lt_or_le v 0 with hv | hv
   ·rw [if_pos (.inl hv)]
    exact r_checkI_c h d m f v hn hv
   ·rcases Int.lt_or_le (d + m) v with hb | hb
    ·rw [if_pos (.inr hb)]
     exact r_checkI_d h d m f v hn hv hb
    ·rw [if_neg (by omega)]
     exact r_checkI_e h d m f v hn hv hb
  ·rw [if_neg fun e => hn e.2]
   exact r_checkI_b h d m f v hn
 ·rw [if_neg fun e => hk e.1]
  exact r_checkI_a h k d m f v hk
end
section
variable {w0 w w' : World} {g : Option Nat} {M M2 : List (Nat × Value)} {L : List Ob} {O : List Rw} {A A2 A3 A4 : Option Addr} {b n c m c2 n3 c3 n4 c4 x y : Nat} {p q r s : List Int}
set_option maxHeartbeats 4000000 in
theorem c_Errors_no (h : Ow w0 w g M L O) (k d m f v : Int) (he : eI k d m f v ≠ 0) :
  Calls Tryz.prog 60 #[.agg (cdI k d m f), .int .i64 v] w (GotO w0 g M L O [] (eI k d m f v)) := by
 have H0 := (h.arr (cdI k d m f) 4 rfl (by omega) 57).boxed (.slice none 0 0) 25
 have HW := Lib.hid (c_wrongI H0 k d m f v)
 obtain ⟨e, hee⟩ : ∃ e, eI k d m f v = e := ⟨_, rfl⟩
 rw [hee] at he HW ⊢
 have hA : (e == 0) = false := by rw [beq_eq_false_iff_ne]; exact he
 have hA2 : decide (e = 0) = false := decide_eq_false he
 have hA3 : (e != 0) = true := by rw [bne, hA]; rfl
 unfold cdI at H0 HW ⊢
 have k0 : ((w.alloc (.cells #[.int .i64 k, .int .i64 d, .int .i64 m, .int .i64 f] 57)).alloc (.cells #[.slice none 0 0] 25)).cell? ⟨w.heap.size, 0, none⟩ = some (.int .i64 k) := (H0.row (O.length + 0) (by rw [get_r]; rfl)).cellAt 0 (by decide)
 have k1 : ((w.alloc (.cells #[.int .i64 k, .int .i64 d, .int .i64 m, .int .i64 f] 57)).alloc (.cells #[.slice none 0 0] 25)).cell? ⟨w.heap.size, 1, none⟩ = some (.int .i64 d) := (H0.row (O.length + 0) (by rw [get_r]; rfl)).cellAt 1 (by decide)
 have k2 : ((w.alloc (.cells #[.int .i64 k, .int .i64 d, .int .i64 m, .int .i64 f] 57)).alloc (.cells #[.slice none 0 0] 25)).cell? ⟨w.heap.size, 2, none⟩ = some (.int .i64 m) := (H0.row (O.length + 0) (by rw [get_r]; rfl)).cellAt 2 (by decide)
 have k3 : ((w.alloc (.cells #[.int .i64 k, .int .i64 d, .int .i64 m, .int .i64 f] 57)).alloc (.cells #[.slice none 0 0] 25)).cell? ⟨w.heap.size, 3, none⟩ = some (.int .i64 f) := (H0.row (O.length + 0) (by rw [get_r]; rfl)).cellAt 3 (by decide)
 clear h H0 he hee
 go_enter Tryz.func60, Tryz.ntmps60
 go_wp2_with fail
 refine HW.out.mono ?_
 rintro en w1 ⟨rfl, G⟩
 have r0 := G.cell (M.length + 0) (by rw [get_r]; rfl)
 have f0 := G.free (M.length + 0) (by rw [get_r]; rfl)
 have Z := G.setv (M.length + 0) (by rw [get_r]; rfl) (.slice none 0 0)
 rw [set_r] at Z
 try simp only [List.set_cons_zero] at Z
 have s0 := Z.cell (M.length + 0) (by rw [get_r]; rfl)
 have HF := Lib.hid Z.fewM.fewO.nil'
 rw [Na.dig_zero] at HF
 try simp only [World.size_alloc] at r0 f0 s0 HF
 clear HW G Z k0 k1 k2 k3
 go_wp2_with fail
 refine bodyPost_ret (v := .tuple #[.agg #[.slice none 0 0], .int .i64 e]) (by simp [results, Tryz.results60, go_sem, s0]) rfl ?_
 exact ⟨none, 0, 0, rfl, HF.out⟩
set_option maxHeartbeats 4000000 in
theorem c_Words_no (h : Ow w0 w g M L O) (k d m f v : Int) (he : eI k d m f v ≠ 0) :
  Calls Tryz.prog 54 #[.agg (cdI k d m f), .int .i64 v] w (GotO w0 g M L O [] (eI k d m f v)) := by
 have H0 := (h.arr (cdI k d m f) 4 rfl (by omega) 57).boxed (.slice none 0 0) 25
 have HW := Lib.hid (c_wrongI H0 k d m f v)
 obtain ⟨e, hee⟩ : ∃ e, eI k d m f v = e := ⟨_, rfl⟩
 rw [hee] at he HW ⊢
 have hA : (e == 0) = false := by rw [beq_eq_false_iff_ne]; exact he
 have hA2 : decide (e = 0) = false := decide_eq_false he
 have hA3 : (e != 0) = true := by rw [bne, hA]; rfl
 unfold cdI at H0 HW ⊢
 have k0 : ((w.alloc (.cells #[.int .i64 k, .int .i64 d, .int .i64 m, .int .i64 f] 57)).alloc (.cells #[.slice none 0 0] 25)).cell? ⟨w.heap.size, 0, none⟩ = some (.int .i64 k) := (H0.row (O.length + 0) (by rw [get_r]; rfl)).cellAt 0 (by decide)
 have k1 : ((w.alloc (.cells #[.int .i64 k, .int .i64 d, .int .i64 m, .int .i64 f] 57)).alloc (.cells #[.slice none 0 0] 25)).cell? ⟨w.heap.size, 1, none⟩ = some (.int .i64 d) := (H0.row (O.length + 0) (by rw [get_r]; rfl)).cellAt 1 (by decide)
 have k2 : ((w.alloc (.cells #[.int .i64 k, .int .i64 d, .int .i64 m, .int .i64 f] 57)).alloc (.cells #[.slice none 0 0] 25)).cell? ⟨w.heap.size, 2, none⟩ = some (.int .i64 m) := (H0.row (O.length + 0) (by rw [get_r]; rfl)).cellAt 2 (by decide)
 have k3 : ((w.alloc (.cells #[.int .i64 k, .int .i64 d, .int .i64 m, .int .i64 f] 57)).alloc (.cells #[.slice none 0 0] 25)).cell? ⟨w.heap.size, 3, none⟩ = some (.int .i64 f) := (H0.row (O.length + 0) (by rw [get_r]; rfl)).cellAt 3 (by decide)
 clear h H0 he hee
 go_enter Tryz.func54, Tryz.ntmps54
 go_wp2_with fail
 refine HW.out.mono ?_
 rintro en w1 ⟨rfl, G⟩
 have r0 := G.cell (M.length + 0) (by rw [get_r]; rfl)
 have f0 := G.free (M.length + 0) (by rw [get_r]; rfl)
 have Z := G.setv (M.length + 0) (by rw [get_r]; rfl) (.slice none 0 0)
 rw [set_r] at Z
 try simp only [List.set_cons_zero] at Z
 have s0 := Z.cell (M.length + 0) (by rw [get_r]; rfl)
 have HF := Lib.hid Z.fewM.fewO.nil'
 rw [Na.dig_zero] at HF
 try simp only [World.size_alloc] at r0 f0 s0 HF
 clear HW G Z k0 k1 k2 k3
 go_wp2_with fail
 refine bodyPost_ret (v := .tuple #[.agg #[.slice none 0 0], .int .i64 e]) (by simp [results, Tryz.results54, go_sem, s0]) rfl ?_
 exact ⟨none, 0, 0, rfl, HF.out⟩
set_option maxHeartbeats 4000000 in
theorem c_Wrong_no (h : Ow w0 w g M L O) (k d m f v : Int) (he : eI k d m f v ≠ 0) :
  Calls Tryz.prog 63 #[.agg (cdI k d m f), .int .i64 v] w (GotO w0 g M L O [] (eI k d m f v)) := by
 have H0 := (h.arr (cdI k d m f) 4 rfl (by omega) 57).boxed (.slice none 0 0) 25
 have HW := Lib.hid (c_wrongI H0 k d m f v)
 obtain ⟨e, hee⟩ : ∃ e, eI k d m f v = e := ⟨_, rfl⟩
 rw [hee] at he HW ⊢
 have hA : (e == 0) = false := by rw [beq_eq_false_iff_ne]; exact he
 have hA2 : decide (e = 0) = false := decide_eq_false he
 have hA3 : (e != 0) = true := by rw [bne, hA]; rfl
 unfold cdI at H0 HW ⊢
 have k0 : ((w.alloc (.cells #[.int .i64 k, .int .i64 d, .int .i64 m, .int .i64 f] 57)).alloc (.cells #[.slice none 0 0] 25)).cell? ⟨w.heap.size, 0, none⟩ = some (.int .i64 k) := (H0.row (O.length + 0) (by rw [get_r]; rfl)).cellAt 0 (by decide)
 have k1 : ((w.alloc (.cells #[.int .i64 k, .int .i64 d, .int .i64 m, .int .i64 f] 57)).alloc (.cells #[.slice none 0 0] 25)).cell? ⟨w.heap.size, 1, none⟩ = some (.int .i64 d) := (H0.row (O.length + 0) (by rw [get_r]; rfl)).cellAt 1 (by decide)
 have k2 : ((w.alloc (.cells #[.int .i64 k, .int .i64 d, .int .i64 m, .int .i64 f] 57)).alloc (.cells #[.slice none 0 0] 25)).cell? ⟨w.heap.size, 2, none⟩ = some (.int .i64 m) := (H0.row (O.length + 0) (by rw [get_r]; rfl)).cellAt 2 (by decide)
 have k3 : ((w.alloc (.cells #[.int .i64 k, .int .i64 d, .int .i64 m, .int .i64 f] 57)).alloc (.cells #[.slice none 0 0] 25)).cell? ⟨w.heap.size, 3, none⟩ = some (.int .i64 f) := (H0.row (O.length + 0) (by rw [get_r]; rfl)).cellAt 3 (by decide)
 clear h H0 he hee
 go_enter Tryz.func63, Tryz.ntmps63
 go_wp2_with fail
 refine HW.out.mono ?_
 rintro en w1 ⟨rfl, G⟩
 have r0 := G.cell (M.length + 0) (by rw [get_r]; rfl)
 have f0 := G.free (M.length + 0) (by rw [get_r]; rfl)
 have Z := G.setv (M.length + 0) (by rw [get_r]; rfl) (.slice none 0 0)
 rw [set_r] at Z
 try simp only [List.set_cons_zero] at Z
 have s0 := Z.cell (M.length + 0) (by rw [get_r]; rfl)
 have HF := Lib.hid Z.fewM.fewO.nil'
 rw [Na.dig_zero] at HF
 try simp only [World.size_alloc] at r0 f0 s0 HF
 clear HW G Z k0 k1 k2 k3
 go_wp2_with fail
 refine bodyPost_ret (v := .tuple #[.agg #[.slice none 0 0], .int .i64 e]) (by simp [results, Tryz.results63, go_sem, s0]) rfl ?_
 exact ⟨none, 0, 0, rfl, HF.out⟩
set_option maxHeartbeats 4000000 in
theorem r_Errors_no (h : Ow w0 w g M L O) (k d m f v : Int) (he : eI k d m f v ≠ 0) :
  Calls Tryz.prog 61 #[.agg (cdI k d m f), .int .i64 v] w (GotO w0 g M L O [] (eI k d m f v)) := by
 have H0 := (h.arr (cdI k d m f) 4 rfl (by omega) 57).boxed (.slice none 0 0) 25
 have HW := Lib.hid (r_checkI H0 k d m f v)
 obtain ⟨e, hee⟩ : ∃ e, eI k d m f v = e := ⟨_, rfl⟩
 rw [hee] at he HW ⊢
 have hA : (e == 0) = false := by rw [beq_eq_false_iff_ne]; exact he
 have hA2 : decide (e = 0) = false := decide_eq_false he
 have hA3 : (e != 0) = true := by rw [bne, hA]; rfl
 unfold cdI at H0 HW ⊢
 have k0 : ((w.alloc (.cells #[.int .i64 k, .int .i64 d, .int .i64 m, .int .i64 f] 57)).alloc (.cells #[.slice none 0 0] 25)).cell? ⟨w.heap.size, 0, none⟩ = some (.int .i64 k) := (H0.row (O.length + 0) (by rw [get_r]; rfl)).cellAt 0 (by decide)
 have k1 : ((w.alloc (.cells #[.int .i64 k, .int .i64 d, .int .i64 m, .int .i64 f] 57)).alloc (.cells #[.slice none 0 0] 25)).cell? ⟨w.heap.size, 1, none⟩ = some (.int .i64 d) := (H0.row (O.length + 0) (by rw [get_r]; rfl)).cellAt 1 (by decide)
 have k2 : ((w.alloc (.cells #[.int .i64 k, .int .i64 d, .int .i64 m, .int .i64 f] 57)).alloc (.cells #[.slice none 0 0] 25)).cell? ⟨w.heap.size, 2, none⟩ = some (.int .i64 m) := (H0.row (O.length + 0) (by rw [get_r]; rfl)).cellAt 2 (by decide)
 have k3 : ((w.alloc (.cells #[.int .i64 k, .int .i64 d, .int .i64 m, .int .i64 f] 57)).alloc (.cells #[.slice none 0 0] 25)).cell? ⟨w.heap.size, 3, none⟩ = some (.int .i64 f) := (H0.row (O.length + 0) (by rw [get_r]; rfl)).cellAt 3 (by decide)
 clear h H0 he hee
 go_enter Tryz.func61, Tryz.ntmps61
 go_wp2_with fail
 refine HW.out.mono ?_
 rintro en w1 ⟨rfl, G⟩
 have r0 := G.cell (M.length + 0) (by rw [get_r]; rfl)
 have f0 := G.free (M.length + 0) (by rw [get_r]; rfl)
 have Z := G.setv (M.length + 0) (by rw [get_r]; rfl) (.slice none 0 0)
 rw [set_r] at Z
 try simp only [List.set_cons_zero] at Z
 have s0 := Z.cell (M.length + 0) (by rw [get_r]; rfl)
 have HF := Lib.hid Z.fewM.fewO.nil'
 rw [Na.dig_zero] at HF
 try simp only [World.size_alloc] at r0 f0 s0 HF
 clear HW G Z k0 k1 k2 k3
 go_wp2_with fail
 refine bodyPost_ret (v := .tuple #[.agg #[.slice none 0 0], .int .i64 e]) (by simp [results, Tryz.results61, go_sem, s0]) rfl ?_
 exact ⟨none, 0, 0, rfl, HF.out⟩
set_option maxHeartbeats 4000000 in
theorem r_Words_no (h : Ow w0 w g M L O) (k d m f v : Int) (he : eI k d m f v ≠ 0) :
  Calls Tryz.prog 62 #[.agg (cdI k d m f), .int .i64 v] w (GotO w0 g M L O [] (eI k d m f v)) := by
 have H0 := (h.arr (cdI k d m f) 4 rfl (by omega) 57).boxed (.slice none 0 0) 25
 have HW := Lib.hid (r_checkI H0 k d m f v)
 obtain ⟨e, hee⟩ : ∃ e, eI k d m f v = e := ⟨_, rfl⟩
 rw [hee] at he HW ⊢
 have hA : (e == 0) = false := by rw [beq_eq_false_iff_ne]; exact he
 have hA2 : decide (e = 0) = false := decide_eq_false he
 have hA3 : (e != 0) = true := by rw [bne, hA]; rfl
 unfold cdI at H0 HW ⊢
 have k0 : ((w.alloc (.cells #[.int .i64 k, .int .i64 d, .int .i64 m, .int .i64 f] 57)).alloc (.cells #[.slice none 0 0] 25)).cell? ⟨w.heap.size, 0, none⟩ = some (.int .i64 k) := (H0.row (O.length + 0) (by rw [get_r]; rfl)).cellAt 0 (by decide)
 have k1 : ((w.alloc (.cells #[.int .i64 k, .int .i64 d, .int .i64 m, .int .i64 f] 57)).alloc (.cells #[.slice none 0 0] 25)).cell? ⟨w.heap.size, 1, none⟩ = some (.int .i64 d) := (H0.row (O.length + 0) (by rw [get_r]; rfl)).cellAt 1 (by decide)
 have k2 : ((w.alloc (.cells #[.int .i64 k, .int .i64 d, .int .i64 m, .int .i64 f] 57)).alloc (.cells #[.slice none 0 0] 25)).cell? ⟨w.heap.size, 2, none⟩ = some (.int .i64 m) := (H0.row (O.length + 0) (by rw [get_r]; rfl)).cellAt 2 (by decide)
 have k3 : ((w.alloc (.cells #[.int .i64 k, .int .i64 d, .int .i64 m, .int .i64 f] 57)).alloc (.cells #[.slice none 0 0] 25)).cell? ⟨w.heap.size, 3, none⟩ = some (.int .i64 f) := (H0.row (O.length + 0) (by rw [get_r]; rfl)).cellAt 3 (by decide)
 clear h H0 he hee
 go_enter Tryz.func62, Tryz.ntmps62
 go_wp2_with fail
 refine HW.out.mono ?_
 rintro en w1 ⟨rfl, G⟩
 have r0 := G.cell (M.length + 0) (by rw [get_r]; rfl)
 have f0 := G.free (M.length + 0) (by rw [get_r]; rfl)
 have Z := G.setv (M.length + 0) (by rw [get_r]; rfl) (.slice none 0 0)
 rw [set_r] at Z
 try simp only [List.set_cons_zero] at Z
 have s0 := Z.cell (M.length + 0) (by rw [get_r]; rfl)
 have HF := Lib.hid Z.fewM.fewO.nil'
 rw [Na.dig_zero] at HF
 try simp only [World.size_alloc] at r0 f0 s0 HF
 clear HW G Z k0 k1 k2 k3
 go_wp2_with fail
 refine bodyPost_ret (v := .tuple #[.agg #[.slice none 0 0], .int .i64 e]) (by simp [results, Tryz.results62, go_sem, s0]) rfl ?_
 exact ⟨none, 0, 0, rfl, HF.out⟩
set_option maxHeartbeats 4000000 in
theorem r_Wrong_no (h : Ow w0 w g M L O) (k d m f v : Int) (he : eI k d m f v ≠ 0) :
  Calls Tryz.prog 64 #[.agg (cdI k d m f), .int .i64 v] w (GotO w0 g M L O [] (eI k d m f v)) := by
 have H0 := (h.arr (cdI k d m f) 4 rfl (by omega) 57).boxed (.slice none 0 0) 25
 have HW := Lib.hid (r_checkI H0 k d m f v)
 obtain ⟨e, hee⟩ : ∃ e, eI k d m f v = e := ⟨_, rfl⟩
 rw [hee] at he HW ⊢
 have hA : (e == 0) = false := by rw [beq_eq_false_iff_ne]; exact he
 have hA2 : decide (e = 0) = false := decide_eq_false he
 have hA3 : (e != 0) = true := by rw [bne, hA]; rfl
 unfold cdI at H0 HW ⊢
 have k0 : ((w.alloc (.cells #[.int .i64 k, .int .i64 d, .int .i64 m, .int .i64 f] 57)).alloc (.cells #[.slice none 0 0] 25)).cell? ⟨w.heap.size, 0, none⟩ = some (.int .i64 k) := (H0.row (O.length + 0) (by rw [get_r]; rfl)).cellAt 0 (by decide)
 have k1 : ((w.alloc (.cells #[.int .i64 k, .int .i64 d, .int .i64 m, .int .i64 f] 57)).alloc (.cells #[.slice none 0 0] 25)).cell? ⟨w.heap.size, 1, none⟩ = some (.int .i64 d) := (H0.row (O.length + 0) (by rw [get_r]; rfl)).cellAt 1 (by decide)
 have k2 : ((w.alloc (.cells #[.int .i64 k, .int .i64 d, .int .i64 m, .int .i64 f] 57)).alloc (.cells #[.slice none 0 0] 25)).cell? ⟨w.heap.size, 2, none⟩ = some (.int .i64 m) := (H0.row (O.length + 0) (by rw [get_r]; rfl)).cellAt 2 (by decide)
 have k3 : ((w.alloc (.cells #[.int .i64 k, .int .i64 d, .int .i64 m, .int .i64 f] 57)).alloc (.cells #[.slice none 0 0] 25)).cell? ⟨w.heap.size, 3, none⟩ = some (.int .i64 f) := (H0.row (O.length + 0) (by rw [get_r]; rfl)).cellAt 3 (by decide)
 clear h H0 he hee
 go_enter Tryz.func64, Tryz.ntmps64
 go_wp2_with fail
 refine HW.out.mono ?_
 rintro en w1 ⟨rfl, G⟩
 have r0 := G.cell (M.length + 0) (by rw [get_r]; rfl)
 have f0 := G.free (M.length + 0) (by rw [get_r]; rfl)
 have Z := G.setv (M.length + 0) (by rw [get_r]; rfl) (.slice none 0 0)
 rw [set_r] at Z
 try simp only [List.set_cons_zero] at Z
 have s0 := Z.cell (M.length + 0) (by rw [get_r]; rfl)
 have HF := Lib.hid Z.fewM.fewO.nil'
 rw [Na.dig_zero] at HF
 try simp only [World.size_alloc] at r0 f0 s0 HF
 clear HW G Z k0 k1 k2 k3
 go_wp2_with fail
 refine bodyPost_ret (v := .tuple #[.agg #[.slice none 0 0], .int .i64 e]) (by simp [results, Tryz.results64, go_sem, s0]) rfl ?_
 exact ⟨none, 0, 0, rfl, HF.out⟩
end
end Go.Proofs.YtenokdhldngkgaaGreatDoor
