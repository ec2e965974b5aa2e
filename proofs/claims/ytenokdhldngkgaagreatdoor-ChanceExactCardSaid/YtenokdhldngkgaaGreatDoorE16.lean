/- Dk Ej Dc Cp De Cq Cf Cg Ch Ci Cj Cl Ck Cn Cm -/
import Derived.Test.YtenokdhldngkgaaGreatDoorE04
import Derived.Test.YtenokdhldngkgaaGreatDoorE06
import Derived.Test.YtenokdhldngkgaaGreatDoorE10
import Derived.Test.YtenokdhldngkgaaGreatDoorE12
import Derived.Test.YtenokdhldngkgaaGreatDoorE13
import Derived.Test.YtenokdhldngkgaaGreatDoorE14
import Derived.Test.YtenokdhldngkgaaGreatDoorE15
import Derived.Lib.BitFns
import Derived.Shelf.Bits.Mul64
namespace Go.Proofs.YtenokdhldngkgaaGreatDoor
open Go.RowKit Go.Sort
set_option linter.unusedVariables false
set_option maxRecDepth 100000
theorem Ch.wr_lt {n m f v d : Nat} (hc : Cv d m f n) (hv : v ≤ n) : Ch.wr n m f v < Na.top := by
 rw [← Ch.wr_range n m f v hv]
 have h1 : Ch.ns (fun i => Ch.wt n m f v (max 1 (v - f) + i)) (min n (v + f) + 1 - max 1 (v - f)) ≤ (min n (v + f) + 1 - max 1 (v - f)) * (Ch.K406 * 2 ^ 195) := Ch.ns_le_mul _ fun j hj => Ch.wt_two hc.n40 (by omega) hc.f4
 obtain ⟨B, hB⟩ : ∃ b, Ch.K406 * 2 ^ 195 = b := ⟨_, rfl⟩
 have hk := Ch.k607
 rw [hB] at h1 hk
 have := hc.n40
 have h4 : (min n (v + f) + 1 - max 1 (v - f)) * B ≤ 41 * B := Nat.mul_le_mul_right _ (by omega)
 refine Ch.lt607 (Nat.le_trans ?_ hk)
 have h5 : 41 * B ≤ 42 * B := Nat.mul_le_mul_right _ (by omega)
 exact Nat.le_trans h1 (Nat.le_trans h4 h5)
section
variable {w0 w w' : World} {g : Option Nat} {M M2 : List (Nat × Value)} {L : List Ob} {O : List Rw} {A A2 A3 A4 : Option Addr} {b n c m c2 n3 c3 n4 c4 x y d v f X rb xb : Nat} {P : Option Addr} {np cp : Nat} {O1 : List Rw} {tF : Nat × Nat × Int}
structure WcK (w0 : World) (g : Option Nat) (M : List (Nat × Value)) (L : List Ob) (O1 : List Rw) (rb xb : Nat) (P : Option Addr) (np cp d m f n v X : Nat) (tF : Nat × Nat × Int) (Ld : Nat → Bool) (u0 u1 u2 u3 u4 u5 u6 u8 : Value) (va : Value) (Ls : List Ob) (W : World) : Prop where
 ow : Ow w0 W g (M ++ [(xb, .slice P np cp)]) (L ++ [(⟨P, np, cp, nats (Na.dig X)⟩ : Ob)] ++ Ls) (O1 ++ [rpr rb 27 (va)])
 h0 : Ld 0 = true → u0 = .agg #[.slice P np cp]
 h1 : Ld 1 = true → u1 = .agg #[.int .i64 2, .int .i64 (d : Int), .int .i64 (m : Int), .int .i64 (f : Int)]
 h2 : Ld 2 = true → u2 = .int .i64 (v : Int)
 h3 : GN Ld 3 u3 (Na.bin n v * 255 ^ v) Ls
 h4 : GR Ld 4 u4 tF Ls
 h5 : GA Ld 5 u5 tF Ls
 h6 : Ld 6 = true → u6 = .int .i64 tF.2.2
 h8 : Ld 8 = true → u8 = .int .i64 tF.2.2
 v0 : Ld 7 = false → va = .agg #[.slice none 0 0, .slice none 0 0]
 v1 : GA Ld 7 va tF Ls
def WcI (w0 : World) (g : Option Nat) (M : List (Nat × Value)) (L : List Ob) (O1 : List Rw) (rb xb : Nat) (P : Option Addr) (np cp d m f n v X : Nat) (tF : Nat × Nat × Int) (A0 : Act) (Ld : Nat → Bool) (a : Act) (W : World) : Prop :=
 ∃ (u0 u1 u2 u3 u4 u5 u6 u8 : Value) (va : Value) (Ls : List Ob), a = ((((((((A0.put (some 18) u0).put (some 19) u1).put (some 20) u2).put (some 21) u3).put (some 22) u4).put (some 23) u5).put (some 24) u6).put (some 5) u8) ∧ WcK w0 g M L O1 rb xb P np cp d m f n v X tF Ld u0 u1 u2 u3 u4 u5 u6 u8 va Ls W
set_option maxHeartbeats 16000000 in
theorem c_Chance (h : Ow w0 w g M L O) (hc : Cv d m f n) (hv : v ≤ n) (ht : Tab w0) (htF : frM (Ch.wr n m f v) (Na.bin n v * 255 ^ v) = tF) :
  Calls Tryz.prog 55 #[.agg #[.int .i64 2, .int .i64 (d : Int), .int .i64 (m : Int), .int .i64 (f : Int)], .int .i64 (v : Int)] w (GotF w0 g M L O tF) := by
 have HVn := Lib.hid hv
 have HCv := Lib.hid hc
 have HTb := Lib.hid ht
 have H0 := h.code d m f
 have hci : (O ++ [(⟨some ⟨w.heap.size, 0, none⟩, 4, 4, 57, (cdv d m f).toList⟩ : Rw)])[O.length + 0]? = some ⟨some ⟨w.heap.size, 0, none⟩, 4, 4, 57, (cdv d m f).toList⟩ := by rw [get_r]; rfl
 obtain ⟨O1, hO1⟩ : ∃ O1, O ++ [(⟨some ⟨w.heap.size, 0, none⟩, 4, 4, 57, (cdv d m f).toList⟩ : Rw)] = O1 := ⟨_, rfl⟩
 rw [hO1] at H0 hci
 have HCI := Lib.hid hci
 have H1 := H0.pair (.slice none 0 0) (.slice none 0 0) 27
 try simp only [World.size_alloc] at H1
 obtain ⟨k0, k1, k2, k3⟩ := H1.cdc (O.length + 0) ((get_l _ _ (get_lt HCI.out)).trans HCI.out)
 have HW := Lib.hid (c_Wrong H1 hc hv)
 have HX : Hid (Ch.wr n m f v < Na.top ∧ Na.bin n v * 255 ^ v < Na.top) := ⟨Ch.wr_lt hc hv, er_top hc.n40 (by have := hc.n40; omega)⟩
 have HE := Lib.hid htF
 have HO1 := Lib.hid hO1
 clear h H0 H1 hci hO1 hv hc ht htF
 go_enter Tryz.func55, Tryz.ntmps55
 go_wp2_with fail
 refine HW.out.mono ?_
 rintro e w1 ⟨P, np, cp, rfl, G1⟩
 have H2 := G1.boxed (.slice P np cp) 25
 have HO := Lib.hid H2
 obtain ⟨q0, q1, q2, q3⟩ := H2.cdc (O.length + 0) ((get_l _ _ (get_lt HCI.out)).trans HCI.out)
 obtain ⟨xb, hxb⟩ : ∃ b, w1.heap.size = b := ⟨_, rfl⟩
 rw [hxb] at HO
 obtain ⟨X, hX⟩ : ∃ x, Ch.wr n m f v = x := ⟨_, rfl⟩
 rw [hX] at HO HE HX
 clear HW G1 H2 k0 k1 k2 k3 hX
 go_wp2_with fail
 clear q0 q1 q2 q3
 refine reg_inv34 (WcI w0 g M L O1 (w.heap.size + 1) xb P np cp d m f n v X tF) (by kernel_rfl) (by kernel_rfl) ?_ ?_ ?_
 ·refine ⟨undef, undef, undef, undef, undef, undef, undef, (.int .i64 0), .agg #[.slice none 0 0, .slice none 0 0], [], ?_, ⟨by rw [List.append_nil]; exact HO.out.drew, ?_, ?_, ?_, ?_, ?_, ?_, ?_, ?_, fun _ => rfl, ?_⟩⟩
  ·simp only [Act.put, zT, zZ, zS]
  all_goals (intro h; cases h)
 ·rintro jj Ld b W hj hf hcl hd ⟨u0, u1, u2, u3, u4, u5, u6, u8, va, Ls, rfl, hC⟩
  have hj' : jj < 9 := hj
  have hcase : jj = 0 ∨ jj = 1 ∨ jj = 2 ∨ jj = 3 ∨ jj = 4 ∨ jj = 5 ∨ jj = 6 ∨ jj = 7 ∨ jj = 8 := by omega
  obtain ⟨k0, k1, k2, k3⟩ := hC.ow.cdc (O.length + 0) ((get_l _ _ (get_lt HCI.out)).trans HCI.out)
  have qx := hC.ow.cell (M.length + 0) (by rw [get_r]; rfl)
  clear hj hj'
  simp only [Act.put, zT, zZ, zS]
  rcases hcase with rfl | rfl | rfl | rfl | rfl | rfl | rfl | rfl | rfl
  ·clear hd hcl
   refine wpOp_step rfl (fun K hK => ?_)
   go_simp
   refine hK _ _ ⟨_, u1, u2, u3, u4, u5, u6, u8, va, Ls, ?_, ⟨hC.ow, fun _ => rfl, hC.h1, hC.h2, hC.h3, hC.h4, hC.h5, hC.h6, hC.h8, hC.v0, hC.v1⟩⟩
   simp only [Act.put, zT, zZ, zS]
  ·clear hd hcl
   refine wpOp_step rfl (fun K hK => ?_)
   go_simp
   refine hK _ _ ⟨u0, _, u2, u3, u4, u5, u6, u8, va, Ls, ?_, ⟨hC.ow, hC.h0, fun _ => rfl, hC.h2, hC.h3, hC.h4, hC.h5, hC.h6, hC.h8, hC.v0, hC.v1⟩⟩
   simp only [Act.put, zT, zZ, zS]
  ·clear hd hcl
   refine wpOp_step rfl (fun K hK => ?_)
   go_simp
   refine hK _ _ ⟨u0, u1, _, u3, u4, u5, u6, u8, va, Ls, ?_, ⟨hC.ow, hC.h0, hC.h1, fun _ => rfl, hC.h3, hC.h4, hC.h5, hC.h6, hC.h8, hC.v0, hC.v1⟩⟩
   simp only [Act.put, zT, zZ, zS]
  ·obtain rfl := hC.h1 (hd 1 (by kernel_rfl))
   obtain rfl := hC.h2 (hd 2 (by kernel_rfl))
   clear hd hcl
   refine wpOp_step rfl (fun K hK => ?_)
   go_simp
   refine (c_errors hC.ow HCv.out HVn.out).mono ?_
   rintro e W' ⟨Az, nz, cz, rfl, ho⟩
   rw [List.append_assoc _ Ls] at ho
   refine hK _ _ ⟨u0, _, _, _, u4, u5, u6, u8, va, _, ?_, ⟨ho, hC.h0, hC.h1, hC.h2, GN.new _ _ _ _ _ _ _, hC.h4.more, hC.h5.more, hC.h6, hC.h8, hC.v0, hC.v1.more⟩⟩
   simp only [Act.put, zT, zZ, zS]
  ·obtain rfl := hC.h0 (hd 0 (by kernel_rfl))
   obtain ⟨t3, A3, n3, c3, rfl, r3⟩ := hC.h3 (hd 3 (by kernel_rfl))
   have R3 := hC.ow.got r3
   clear hd hcl
   refine wpOp_step rfl (fun K hK => ?_)
   go_simp
   refine (qmake_fr hC.ow (L.length + 0) _ ((get_l _ _ (by simp)).trans ((get_r _ _ 0).trans rfl)) R3 HTb.out HX.out.1 HX.out.2 HE.out).mono ?_
   rintro e W' ⟨Az, nz, cz, Bz, mz, dz, rfl, ho⟩
   rw [List.append_assoc (L ++ [(⟨P, np, cp, nats (Na.dig X)⟩ : Ob)] ++ Ls), List.append_assoc (L ++ [(⟨P, np, cp, nats (Na.dig X)⟩ : Ob)]) Ls, List.singleton_append] at ho
   refine hK _ _ ⟨_, u1, u2, _, _, u5, u6, u8, va, _, ?_, ⟨ho, hC.h0, hC.h1, hC.h2, hC.h3.more, GR.new _ _ _ _ _ _ _ _ _ _, hC.h5.more, hC.h6, hC.h8, hC.v0, hC.v1.more⟩⟩
   simp only [Act.put, zT, zZ, zS]
  ·obtain ⟨t4, A4, n4, c4, B4, m4, d4, rfl, r4, q4⟩ := hC.h4 (hd 4 (by kernel_rfl))
   clear hd hcl
   refine wpOp_step rfl (fun K hK => ?_)
   go_simp
   refine hK _ _ ⟨u0, u1, u2, u3, _, _, u6, u8, va, Ls, ?_, ⟨hC.ow, hC.h0, hC.h1, hC.h2, hC.h3, hC.h4, fun _ => ⟨t4, A4, n4, c4, B4, m4, d4, rfl, r4, q4⟩, hC.h6, hC.h8, hC.v0, hC.v1⟩⟩
   simp only [Act.put, zT, zZ, zS]
  ·obtain ⟨t4, A4, n4, c4, B4, m4, d4, rfl, r4, q4⟩ := hC.h4 (hd 4 (by kernel_rfl))
   clear hd hcl
   refine wpOp_step rfl (fun K hK => ?_)
   go_simp
   refine hK _ _ ⟨u0, u1, u2, u3, _, u5, _, u8, va, Ls, ?_, ⟨hC.ow, hC.h0, hC.h1, hC.h2, hC.h3, hC.h4, hC.h5, fun _ => rfl, hC.h8, hC.v0, hC.v1⟩⟩
   simp only [Act.put, zT, zZ, zS]
  ·obtain rfl := hC.v0 hf
   obtain ⟨t5, A5, n5, c5, B5, m5, d5, rfl, r5, q5⟩ := hC.h5 (hd 5 (by kernel_rfl))
   have ho0 : Ow w0 W g (M ++ [(xb, .slice P np cp)]) (L ++ [(⟨P, np, cp, nats (Na.dig X)⟩ : Ob)] ++ Ls) (O1 ++ [Rw.pair (w.heap.size + 1) 27 (.slice none 0 0) (.slice none 0 0)]) := hC.ow
   have y0 := ho0.p0 (O1.length + 0) (by rw [get_r]; rfl)
   have y1 := ho0.p1 (O1.length + 0) (by rw [get_r]; rfl)
   have yf0 := ho0.pf (O1.length + 0) (by rw [get_r]; rfl) 0
   have yf1 := ho0.pf (O1.length + 0) (by rw [get_r]; rfl) 1
   clear hd hcl
   refine wpOp_step rfl (fun K hK => ?_)
   go_simp
   have ho1 := ho0.set0 (O1.length + 0) (by rw [get_r]; rfl) (.slice A5 n5 c5)
   rw [set_r, List.set_cons_zero] at ho1
   have ho2 := ho1.set1 (O1.length + 0) (by rw [get_r]; rfl) (.slice B5 m5 d5)
   rw [set_r, List.set_cons_zero] at ho2
   refine hK _ _ ⟨u0, u1, u2, u3, u4, _, u6, u8, (.agg #[.slice A5 n5 c5, .slice B5 m5 d5]), Ls, ?_, ⟨ho2, hC.h0, hC.h1, hC.h2, hC.h3, hC.h4, hC.h5, hC.h6, hC.h8, fun e => absurd (show true = false from e) (by decide), fun _ => ⟨t5, A5, n5, c5, B5, m5, d5, rfl, r5, q5⟩⟩⟩
   simp only [Act.put, zT, zZ, zS]
  ·obtain rfl := hC.h6 (hd 6 (by kernel_rfl))
   clear hd hcl
   refine wpOp_step rfl (fun K hK => ?_)
   go_simp
   refine hK _ _ ⟨u0, u1, u2, u3, u4, u5, _, _, va, Ls, ?_, ⟨hC.ow, hC.h0, hC.h1, hC.h2, hC.h3, hC.h4, hC.h5, hC.h6, fun _ => rfl, hC.v0, hC.v1⟩⟩
   simp only [Act.put, zT, zZ, zS]
 ·rintro Ld b W hL ⟨u0, u1, u2, u3, u4, u5, u6, u8, va, Ls, rfl, hC⟩
  obtain ⟨tz, Az, nz, cz, Bz, mz, dz, rfl, rz, qz⟩ := hC.v1 (hL 7 (by show 7 < 9; decide))
  have H7 : Ow w0 W g (M ++ [(xb, .slice P np cp)]) (L ++ [(⟨P, np, cp, nats (Na.dig X)⟩ : Ob)] ++ Ls) (O1 ++ [Rw.pair (w.heap.size + 1) 27 (.slice Az nz cz) (.slice Bz mz dz)]) := hC.ow
  have y0 := H7.p0 (O1.length + 0) (by rw [get_r]; rfl)
  have y1 := H7.p1 (O1.length + 0) (by rw [get_r]; rfl)
  obtain rfl := hC.h6 (hL 6 (by show 6 < 9; decide))
  obtain rfl := hC.h8 (hL 8 (by show 8 < 9; decide))
  have Z2 := H7.fewM.fewO
  rw [← HO1.out] at Z2
  have HF := Lib.hid (Z2.fewO.less (L' := L ++ [⟨Az, nz, cz, nats (Na.dig tF.1)⟩] ++ [⟨Bz, mz, dz, nats (Na.dig tF.2.1)⟩]) (fun o ho => by
   rcases List.mem_append.1 ho with h | h
   ·rcases List.mem_append.1 h with h | h
    ·exact List.mem_append_left _ (List.mem_append_left _ h)
    ·rw [List.mem_singleton] at h
     subst h
     exact List.mem_append_right _ (List.mem_of_getElem? rz)
   ·rw [List.mem_singleton] at h
    subst h
    exact List.mem_append_right _ (List.mem_of_getElem? qz)))
  clear hC H7 Z2
  simp only [Act.put, zT, zZ, zS]
  go_wp2_with fail
  refine bodyPost_ret (v := .tuple #[.agg #[.slice Az nz cz, .slice Bz mz dz], .int .i64 tF.2.2]) (by simp [results, Tryz.results55, go_sem, y0, y1]) rfl ?_
  exact ⟨Az, nz, cz, Bz, mz, dz, rfl, HF.out⟩
end
section
variable {w0 w w' : World} {g : Option Nat} {M M2 : List (Nat × Value)} {L : List Ob} {O : List Rw} {A A2 A3 A4 : Option Addr} {b n c m c2 n3 c3 n4 c4 x y : Nat} {p q r s : List Int}
set_option maxHeartbeats 4000000 in
theorem c_Chance_no (h : Ow w0 w g M L O) (k d m f v : Int) (he : eI k d m f v ≠ 0) :
  Calls Tryz.prog 55 #[.agg (cdI k d m f), .int .i64 v] w (GotF w0 g M L O (0, 0, eI k d m f v)) := by
 have H0 := (h.arr (cdI k d m f) 4 rfl (by omega) 57).pair (.slice none 0 0) (.slice none 0 0) 27
 simp only [List.append_assoc, List.cons_append, List.nil_append, World.size_alloc] at H0
 have HW := Lib.hid (c_Wrong_no H0 k d m f v he)
 obtain ⟨e, hee⟩ : ∃ e, eI k d m f v = e := ⟨_, rfl⟩
 rw [hee] at he HW ⊢
 have hA : (e == 0) = false := by rw [beq_eq_false_iff_ne]; exact he
 have hA2 : decide (e = 0) = false := decide_eq_false he
 have hA3 : (e != 0) = true := by rw [bne, hA]; rfl
 unfold cdI at H0 HW ⊢
 have k0 : ((w.alloc (.cells #[.int .i64 k, .int .i64 d, .int .i64 m, .int .i64 f] 57)).alloc (.cells #[.slice none 0 0, .slice none 0 0] 27)).cell? ⟨w.heap.size, 0, none⟩ = some (.int .i64 k) := (H0.row (O.length + 0) (by rw [get_r]; rfl)).cellAt 0 (by decide)
 have k1 : ((w.alloc (.cells #[.int .i64 k, .int .i64 d, .int .i64 m, .int .i64 f] 57)).alloc (.cells #[.slice none 0 0, .slice none 0 0] 27)).cell? ⟨w.heap.size, 1, none⟩ = some (.int .i64 d) := (H0.row (O.length + 0) (by rw [get_r]; rfl)).cellAt 1 (by decide)
 have k2 : ((w.alloc (.cells #[.int .i64 k, .int .i64 d, .int .i64 m, .int .i64 f] 57)).alloc (.cells #[.slice none 0 0, .slice none 0 0] 27)).cell? ⟨w.heap.size, 2, none⟩ = some (.int .i64 m) := (H0.row (O.length + 0) (by rw [get_r]; rfl)).cellAt 2 (by decide)
 have k3 : ((w.alloc (.cells #[.int .i64 k, .int .i64 d, .int .i64 m, .int .i64 f] 57)).alloc (.cells #[.slice none 0 0, .slice none 0 0] 27)).cell? ⟨w.heap.size, 3, none⟩ = some (.int .i64 f) := (H0.row (O.length + 0) (by rw [get_r]; rfl)).cellAt 3 (by decide)
 clear h H0 he hee
 go_enter Tryz.func55, Tryz.ntmps55
 go_wp2_with fail
 refine HW.out.mono ?_
 rintro en w1 ⟨P, np, cp, rfl, G⟩
 have H2 := G.boxed (.slice P np cp) 25
 have y0 := H2.p0 (O.length + 1) (by rw [get_r]; rfl)
 have y1 := H2.p1 (O.length + 1) (by rw [get_r]; rfl)
 have yf0 := H2.pf (O.length + 1) (by rw [get_r]; rfl) 0
 have yf1 := H2.pf (O.length + 1) (by rw [get_r]; rfl) 1
 have Z1 := H2.set0 (O.length + 1) (by rw [get_r]; rfl) (.slice none 0 0)
 rw [set_r, List.set_cons_succ, List.set_cons_zero] at Z1
 have Z2 := Z1.set1 (O.length + 1) (by rw [get_r]; rfl) (.slice none 0 0)
 rw [set_r, List.set_cons_succ, List.set_cons_zero] at Z2
 have s0 := Z2.p0 (O.length + 1) (by rw [get_r]; rfl)
 have s1 := Z2.p1 (O.length + 1) (by rw [get_r]; rfl)
 have HF := Lib.hid (((Z2.fewM.fewO.less (L' := L) (fun o ho => List.mem_append_left _ ho)).nil').nil')
 clear HW G H2 Z1 Z2 k0 k1 k2 k3
 go_wp2_with fail
 refine bodyPost_ret (v := .tuple #[.agg #[.slice none 0 0, .slice none 0 0], .int .i64 e]) (by simp [results, Tryz.results55, go_sem, s0, s1]) rfl ?_
 exact ⟨none, 0, 0, none, 0, 0, rfl, HF.out⟩
set_option maxHeartbeats 4000000 in
theorem r_Chance_no (h : Ow w0 w g M L O) (k d m f v : Int) (he : eI k d m f v ≠ 0) :
  Calls Tryz.prog 65 #[.agg (cdI k d m f), .int .i64 v] w (GotF w0 g M L O (0, 0, eI k d m f v)) := by
 have H0 := (h.arr (cdI k d m f) 4 rfl (by omega) 57).pair (.slice none 0 0) (.slice none 0 0) 27
 simp only [List.append_assoc, List.cons_append, List.nil_append, World.size_alloc] at H0
 have HW := Lib.hid (r_Wrong_no H0 k d m f v he)
 obtain ⟨e, hee⟩ : ∃ e, eI k d m f v = e := ⟨_, rfl⟩
 rw [hee] at he HW ⊢
 have hA : (e == 0) = false := by rw [beq_eq_false_iff_ne]; exact he
 have hA2 : decide (e = 0) = false := decide_eq_false he
 have hA3 : (e != 0) = true := by rw [bne, hA]; rfl
 unfold cdI at H0 HW ⊢
 have k0 : ((w.alloc (.cells #[.int .i64 k, .int .i64 d, .int .i64 m, .int .i64 f] 57)).alloc (.cells #[.slice none 0 0, .slice none 0 0] 27)).cell? ⟨w.heap.size, 0, none⟩ = some (.int .i64 k) := (H0.row (O.length + 0) (by rw [get_r]; rfl)).cellAt 0 (by decide)
 have k1 : ((w.alloc (.cells #[.int .i64 k, .int .i64 d, .int .i64 m, .int .i64 f] 57)).alloc (.cells #[.slice none 0 0, .slice none 0 0] 27)).cell? ⟨w.heap.size, 1, none⟩ = some (.int .i64 d) := (H0.row (O.length + 0) (by rw [get_r]; rfl)).cellAt 1 (by decide)
 have k2 : ((w.alloc (.cells #[.int .i64 k, .int .i64 d, .int .i64 m, .int .i64 f] 57)).alloc (.cells #[.slice none 0 0, .slice none 0 0] 27)).cell? ⟨w.heap.size, 2, none⟩ = some (.int .i64 m) := (H0.row (O.length + 0) (by rw [get_r]; rfl)).cellAt 2 (by decide)
 have k3 : ((w.alloc (.cells #[.int .i64 k, .int .i64 d, .int .i64 m, .int .i64 f] 57)).alloc (.cells #[.slice none 0 0, .slice none 0 0] 27)).cell? ⟨w.heap.size, 3, none⟩ = some (.int .i64 f) := (H0.row (O.length + 0) (by rw [get_r]; rfl)).cellAt 3 (by decide)
 clear h H0 he hee
 go_enter Tryz.func65, Tryz.ntmps65
 go_wp2_with fail
 refine HW.out.mono ?_
 rintro en w1 ⟨P, np, cp, rfl, G⟩
 have H2 := G.boxed (.slice P np cp) 25
 have y0 := H2.p0 (O.length + 1) (by rw [get_r]; rfl)
 have y1 := H2.p1 (O.length + 1) (by rw [get_r]; rfl)
 have yf0 := H2.pf (O.length + 1) (by rw [get_r]; rfl) 0
 have yf1 := H2.pf (O.length + 1) (by rw [get_r]; rfl) 1
 have Z1 := H2.set0 (O.length + 1) (by rw [get_r]; rfl) (.slice none 0 0)
 rw [set_r, List.set_cons_succ, List.set_cons_zero] at Z1
 have Z2 := Z1.set1 (O.length + 1) (by rw [get_r]; rfl) (.slice none 0 0)
 rw [set_r, List.set_cons_succ, List.set_cons_zero] at Z2
 have s0 := Z2.p0 (O.length + 1) (by rw [get_r]; rfl)
 have s1 := Z2.p1 (O.length + 1) (by rw [get_r]; rfl)
 have HF := Lib.hid (((Z2.fewM.fewO.less (L' := L) (fun o ho => List.mem_append_left _ ho)).nil').nil')
 clear HW G H2 Z1 Z2 k0 k1 k2 k3
 go_wp2_with fail
 refine bodyPost_ret (v := .tuple #[.agg #[.slice none 0 0, .slice none 0 0], .int .i64 e]) (by simp [results, Tryz.results65, go_sem, s0, s1]) rfl ?_
 exact ⟨none, 0, 0, none, 0, 0, rfl, HF.out⟩
end
end Go.Proofs.YtenokdhldngkgaaGreatDoor
namespace Go.Proofs.YtenokdhldngkgaaGreatDoor
open Go.RowKit Go.Shelf
set_option linter.unusedVariables false
set_option maxRecDepth 100000
set_option maxHeartbeats 2000000 in
theorem ones64 (x : Nat) (hx : x < 256) (w : World) :
  Calls Tryz.prog 218 #[.int .u64 (x : Int)] w fun e w' => e = .returned (.int .i64 (Ch.pc x : Int)) ∧ w = w' := by
 go_enter Tryz.func218, Tryz.ntmps218
 go_wp2_with fail
 go_ret
 refine ⟨congrArg (fun z => Ending.returned (.int .i64 z)) ?_, rfl⟩
 revert hx
 clear w
 revert x
 decide +kernel
set_option maxHeartbeats 2000000 in
theorem onesc (x : Nat) (hx : x < 256) (w : World) :
  Calls Tryz.prog 211 #[.int .u64 (x : Int)] w fun e w' => e = .returned (.int .i64 (Ch.pc x : Int)) ∧ w = w' := by
 have HC := Lib.hid (ones64 x hx w)
 obtain ⟨p, hp⟩ : ∃ p, Ch.pc x = p := ⟨_, rfl⟩
 rw [hp] at HC ⊢
 clear hp
 go_enter Tryz.func211, Tryz.ntmps211
 go_wp2_with fail
 refine HC.out.mono ?_
 rintro e w1 ⟨rfl, rfl⟩
 go_wp2_with fail
 go_ret
 exact ⟨rfl, rfl⟩
def nb (l : List Nat) : List Value := l.map fun (x : Nat) => Value.int .u8 (x : Int)
theorem nb_snoc (l : List Nat) (x : Nat) : nb (l ++ [x]) = nb l ++ [.int .u8 (x : Int)] := by unfold nb; rw [List.map_append]; rfl
theorem nb_length (l : List Nat) : (nb l).length = l.length := by unfold nb; rw [List.length_map]
theorem nb_get {l : List Nat} {i x : Nat} (h : l[i]? = some x) : (nb l)[i]? = some (.int .u8 (x : Int)) := by unfold nb; rw [List.getElem?_map, h]; rfl
theorem nb_one (l : List Nat) : ∀ u ∈ nb l, u.oneCell' = true := fun u hu => by
 obtain ⟨x, -, rfl⟩ := List.mem_map.1 hu
 rfl
namespace Ch
def fl (p k : Nat) : List Nat := (List.range k).filter fun x => pc x == p
theorem fl_succ (p k : Nat) : fl p (k + 1) = if pc k = p then fl p k ++ [k] else fl p k := by
 unfold fl
 rw [List.range_succ, List.filter_append]
 by_cases h : pc k = p
 ·rw [if_pos h]
  have : ([k].filter fun x => pc x == p) = [k] := by simp [h]
  rw [this]
 ·rw [if_neg h]
  have : ([k].filter fun x => pc x == p) = [] := by simp [h]
  rw [this, List.append_nil]
theorem fl3 : (fl 3 256).length = 56 ∧ (fl 5 256).length = 56 := by decide +kernel
def pw2 (k : Nat) : List Nat := [1, 2, 4, 8, 16, 32, 64, 128].take k
end Ch
def RCo (w0 : World) (v1 v2 v6 : Value) (wr : World) : Prop :=
 ∃ (k : Nat) (A1 : Option Addr) (n1 c1 : Nat) (A2 : Option Addr) (n2 c2 : Nat), k ≤ 256 ∧ v6 = .int .i64 (k : Int) ∧ v1 = .slice A1 n1 c1 ∧ v2 = .slice A2 n2 c2 ∧ n1 ≤ k ∧ n2 ≤ k ∧ Hid ((Ch.fl 3 k).length = n1 ∧ (Ch.fl 5 k).length = n2) ∧
  Hid (Ow w0 wr none [] [] [⟨A1, n1, c1, 5, nb (Ch.fl 3 k)⟩, ⟨A2, n2, c2, 5, nb (Ch.fl 5 k)⟩, ⟨none, 0, 0, 5, []⟩])
def RCp (w0 : World) (O1 : List Nat) (v3 v35 : Value) (wr : World) : Prop :=
 ∃ (k : Nat) (A3 : Option Addr) (c3 : Nat), k ≤ 8 ∧ v35 = .int .i64 (k : Int) ∧ v3 = .slice A3 (64 + k) c3 ∧
  Hid (Ow w0 wr none [] [] [⟨A3, 64 + k, c3, 5, nb (O1 ++ Ch.pw2 k)⟩])
set_option maxHeartbeats 4000000 in
theorem columns_any (w : World) :
  Calls Tryz.prog 189 #[] w fun e w' => ∃ (A : Option Addr) (c : Nat), e = .returned (.slice A 72 c) ∧ w'.ownsRow w.heap.size 5 1 (.slice A 72 c) 72 (nb Ch.cols) ∧ Below w.heap.size w w' := by
 have HO := Lib.hid ((((Ow.of (St.refl w)).nil 5).nil 5).nil 5)
 go_enter Tryz.func189, Tryz.ntmps189
 go_wp2_with fail
 go_loopw [1, 2, 6] (fun v1 v2 v6 wr => RCo w v1 v2 v6 wr) (fun _ _ v6 _ => 257 - (intOf v6).toNat)
 case atStart => exact ⟨0, none, 0, 0, none, 0, 0, by omega, rfl, rfl, rfl, by omega, by omega, ⟨rfl, rfl⟩, HO.out⟩
 case round =>
  clear HO
  obtain ⟨k, A1, n1, c1, A2, n2, c2, hk, rfl, rfl, rfl, hn1, hn2, HL, HO⟩ := hrel
  rcases Nat.lt_or_ge k 256 with hlt | hge
  ·have hd : decide ((k : Int) < 256) = true := decide_eq_true (by omega)
   have hw1 : IntKind.u64.wrap (k : Int) = (k : Int) := IntWalk.u64_in _ (by omega)
   have hw2 : IntKind.u8.wrap (k : Int) = (k : Int) := IntWalk.u8_in _ (by omega)
   have HC := Lib.hid (onesc k hlt wr)
   obtain ⟨p, hp⟩ : ∃ p, Ch.pc k = p := ⟨_, rfl⟩
   rw [hp] at HC
   rcases (show p = 3 ∨ p = 5 ∨ (p ≠ 3 ∧ p ≠ 5) by omega) with hp3 | hp5 | ⟨hp3, hp5⟩
   ·have hA : ((p : Int) == 3) = true := by rw [beq_iff_eq]; omega
    have HS : Hid (Ch.fl 3 (k + 1) = Ch.fl 3 k ++ [k] ∧ Ch.fl 5 (k + 1) = Ch.fl 5 k) := ⟨by rw [Ch.fl_succ, if_pos (by omega)], by rw [Ch.fl_succ, if_neg (by omega)]⟩
    clear hp hp3
    go_wp2_with fail
    refine HC.out.mono ?_
    rintro e w1 ⟨rfl, rfl⟩
    clear HC
    go_wp2_with (at_builtin; refine ow_append1 elemB HO.out 0 (.tmp 14) (.tmp 17) _ _ rfl rfl (by unfold maxLen; omega) (by omega) rfl rfl rfl rfl ?_; intro A' c' w8 how; have HW8 := Lib.hid how; clear how)
    go_roundw
    case rel =>
     refine ⟨k + 1, A', n1 + 1, c', A2, n2, c2, by omega, by go_num, rfl, rfl, by omega, by omega, ⟨by rw [HS.out.1, List.length_append, HL.out.1]; rfl, by rw [HS.out.2]; exact HL.out.2⟩, ?_⟩
     unfold Hid
     rw [HS.out.1, HS.out.2, nb_snoc]
     exact HW8.out
    case measure => simp [intOf]; omega
   ·have hA : ((p : Int) == 3) = false := by rw [beq_eq_false_iff_ne]; omega
    have hB : ((p : Int) == 5) = true := by rw [beq_iff_eq]; omega
    have HS : Hid (Ch.fl 3 (k + 1) = Ch.fl 3 k ∧ Ch.fl 5 (k + 1) = Ch.fl 5 k ++ [k]) := ⟨by rw [Ch.fl_succ, if_neg (by omega)], by rw [Ch.fl_succ, if_pos (by omega)]⟩
    clear hp hp5
    go_wp2_with fail
    refine HC.out.mono ?_
    rintro e w1 ⟨rfl, rfl⟩
    clear HC
    go_wp2_with (at_builtin; refine ow_append1 elemB HO.out 1 (.tmp 21) (.tmp 24) _ _ rfl rfl (by unfold maxLen; omega) (by omega) rfl rfl rfl rfl ?_; intro A' c' w8 how; have HW8 := Lib.hid how; clear how)
    go_roundw
    case rel =>
     refine ⟨k + 1, A1, n1, c1, A', n2 + 1, c', by omega, by go_num, rfl, rfl, by omega, by omega, ⟨by rw [HS.out.1]; exact HL.out.1, by rw [HS.out.2, List.length_append, HL.out.2]; rfl⟩, ?_⟩
     unfold Hid
     rw [HS.out.1, HS.out.2, nb_snoc]
     exact HW8.out
    case measure => simp [intOf]; omega
   ·have hA : ((p : Int) == 3) = false := by rw [beq_eq_false_iff_ne]; omega
    have hB : ((p : Int) == 5) = false := by rw [beq_eq_false_iff_ne]; omega
    have HS : Hid (Ch.fl 3 (k + 1) = Ch.fl 3 k ∧ Ch.fl 5 (k + 1) = Ch.fl 5 k) := ⟨by rw [Ch.fl_succ, if_neg (by omega)], by rw [Ch.fl_succ, if_neg (by omega)]⟩
    clear hp hp3 hp5
    go_wp2_with fail
    refine HC.out.mono ?_
    rintro e w1 ⟨rfl, rfl⟩
    clear HC
    go_wp2_with fail
    go_roundw
    case rel =>
     refine ⟨k + 1, A1, n1, c1, A2, n2, c2, by omega, by go_num, rfl, rfl, by omega, by omega, ⟨by rw [HS.out.1]; exact HL.out.1, by rw [HS.out.2]; exact HL.out.2⟩, ?_⟩
     unfold Hid
     rw [HS.out.1, HS.out.2]
     exact HO.out
    case measure => simp [intOf]; omega
  ·have hd : decide ((k : Int) < 256) = false := decide_eq_false (by omega)
   obtain rfl : k = 256 := by omega
   have h1 : n1 = 56 := by rw [← HL.out.1]; exact Ch.fl3.1
   have h2 : n2 = 56 := by rw [← HL.out.2]; exact Ch.fl3.2
   subst h1 h2
   have hc1 := (own_cap (HO.out.row 0 rfl)).1
   have hc2 := (own_cap (HO.out.row 1 rfl)).1
   have HS1 := Lib.hid (Sl.of_own (HO.out.row 0 rfl))
   have HL3 : Hid ((nb (Ch.fl 3 256)).length = 56) := by unfold Hid; rw [nb_length]; exact Ch.fl3.1
   have HL5 : Hid (((nb (Ch.fl 5 256)).take 8).length = 8) := by unfold Hid; rw [List.length_take, nb_length, Ch.fl3.2]; rfl
   go_wp2_with (first | (at_builtin; refine ow_append elemB HO.out 2 (.tmp 27) (.tmp 29) rfl HL3.out HS1.out (nb_one _) (by unfold maxLen; omega) (by omega) rfl rfl rfl rfl ?_; intro A' c' w8 how; have HW8 := Lib.hid how; have HS2 := Lib.hid (Sl.of_own ((how.cut 1 rfl (k := 8) (by omega)).row 1 rfl)); clear how) | (at_builtin; refine ow_append elemB HW8.out 2 (.tmp 31) (.tmp 33) rfl HL5.out HS2.out (fun u hu => nb_one _ u (List.mem_of_mem_take hu)) (by unfold maxLen; omega) (by omega) rfl rfl rfl rfl ?_; intro A2' c2' w9 how2; have HW9 := Lib.hid how2; clear how2))
   have HT : Hid (Ow w w9 none [] [] [⟨A2', 64 + 0, c2', 5, nb (Ch.three ++ Ch.five.take 8 ++ Ch.pw2 0)⟩]) := by
    have h5 := HW9.out
    simp only [List.set_cons_succ, List.set_cons_zero, List.nil_append] at h5
    have h6 := h5.tail.tail
    have e : nb (Ch.fl 3 256) ++ (nb (Ch.fl 5 256)).take 8 = nb (Ch.three ++ Ch.five.take 8 ++ Ch.pw2 0) := by
     unfold nb Ch.pw2 Ch.three Ch.five Ch.fl
     rw [List.take_zero, List.append_nil, List.map_append, List.map_take]
    rw [e] at h6
    exact h6
   clear HW8 HW9 HS1 HS2 HL3 HL5 HO HL
   go_loopw [3, 35] (fun v3 v35 wr => RCp w (Ch.three ++ Ch.five.take 8) v3 v35 wr) (fun _ v35 _ => 9 - (intOf v35).toNat)
   case atStart => exact ⟨0, A2', c2', by omega, rfl, rfl, HT.out⟩
   case round =>
    clear HT
    obtain ⟨k, A3, c3, hk, rfl, rfl, HO⟩ := hrel
    rcases Nat.lt_or_ge k 8 with hlt | hge
    ·have hd8 : decide ((k : Int) < 8) = true := decide_eq_true (by omega)
     obtain ⟨q, hq, hpq⟩ : ∃ q : Nat, (2 : Int) ^ k % 256 = (q : Int) ∧ Hid (Ch.pw2 (k + 1) = Ch.pw2 k ++ [q]) := by
      rcases (show k = 0 ∨ k = 1 ∨ k = 2 ∨ k = 3 ∨ k = 4 ∨ k = 5 ∨ k = 6 ∨ k = 7 by omega) with rfl | rfl | rfl | rfl | rfl | rfl | rfl | rfl
      ·exact ⟨1, rfl, rfl⟩
      ·exact ⟨2, rfl, rfl⟩
      ·exact ⟨4, rfl, rfl⟩
      ·exact ⟨8, rfl, rfl⟩
      ·exact ⟨16, rfl, rfl⟩
      ·exact ⟨32, rfl, rfl⟩
      ·exact ⟨64, rfl, rfl⟩
      ·exact ⟨128, rfl, rfl⟩
     go_wp2_with (at_builtin; refine ow_append1 elemB HO.out 0 (.tmp 38) (.tmp 41) _ _ rfl rfl (by unfold maxLen; omega) (by omega) rfl rfl rfl rfl ?_; intro A' c' w8 how; have HW8 := Lib.hid how; clear how)
     go_roundw
     case rel =>
      refine ⟨k + 1, A', c', by omega, by go_num, rfl, ?_⟩
      unfold Hid
      rw [hpq.out, ← List.append_assoc, nb_snoc]
      exact HW8.out
     case measure => simp [intOf]; omega
    ·have hd8 : decide ((k : Int) < 8) = false := decide_eq_false (by omega)
     obtain rfl : k = 8 := by omega
     have HF : Hid (wr.ownsRow w.heap.size 5 1 (.slice A3 72 c3) 72 (nb Ch.cols) ∧ Below w.heap.size w wr) := ⟨HO.out.row 0 rfl, HO.out.below⟩
     clear HO
     go_wp2_with fail
     go_ret
     exact ⟨A3, c3, rfl, HF.out⟩
theorem index_cols (xs : List Value) (k : Nat) (v : Value) (hk : k < 72) (hv : xs[k]? = some v) (w : World) : (Instr.index 159 (.agg xs.toArray) (.int .i64 (k : Int))).run Tryz.prog w = .ok v w := by
 have h0 : (0 : Int) ≤ (k : Int) ∧ (k : Int) < 72 := by omega
 simp [Instr.index, run_underlying Tryz.underlying159, asIntOf, h0, hv, go_sem]
 intro h; omega
theorem index_counts (xs : List Value) (k : Nat) (v : Value) (hk : k < 73) (hv : xs[k]? = some v) (w : World) : (Instr.index 128 (.agg xs.toArray) (.int .i64 (k : Int))).run Tryz.prog w = .ok v w := by
 have h0 : (0 : Int) ≤ (k : Int) ∧ (k : Int) < 73 := by omega
 simp [Instr.index, run_underlying Tryz.underlying128, asIntOf, h0, hv, go_sem]
 intro h; omega
theorem index_long (xs : List Value) (k : Nat) (a b : Value) (hk : k < 73) (ha : xs[2 * k]? = some a) (hb : xs[2 * k + 1]? = some b) (w : World) : (Instr.index 131 (.agg xs.toArray) (.int .i64 (k : Int))).run Tryz.prog w = .ok (.agg #[a, b]) w := by
 have h0 : (0 : Int) ≤ (k : Int) ∧ (k : Int) < 73 := by omega
 simp [Instr.index, run_underlying Tryz.underlying131, asIntOf, h0, go_sem]
 rw [if_pos hk, Nat.mul_comm k 2]
 have e : (xs.drop (2 * k)).take 2 = [a, b] := by
  have h1 := List.getElem?_eq_some_iff.1 ha
  have h2 := List.getElem?_eq_some_iff.1 hb
  obtain ⟨l1, e1⟩ := h1
  obtain ⟨l2, e2⟩ := h2
  rw [List.drop_eq_getElem_cons l1, List.drop_eq_getElem_cons l2, e1, e2]
  rfl
 rw [e]
set_option maxHeartbeats 2000000 in
theorem column_any (k x : Nat) (hk : k < 72) (hx : Ch.cols[k]? = some x) (w : World) :
  Calls Tryz.prog 151 #[.int .i64 (k : Int)] w fun e w' => e = .returned (.tuple #[.int .u8 (x : Int), .int .i64 0]) ∧ Below w.heap.size w w' := by
 have HC := Lib.hid (columns_any w)
 have t1 : decide ((k : Int) < 0) = false := decide_eq_false (by omega)
 have t2 : decide ((72 : Int) ≤ (k : Int)) = false := decide_eq_false (by omega)
 have t3 : decide (72 ≤ k) = false := decide_eq_false (by omega)
 have HX := Lib.hid (nb_get hx)
 clear hx
 go_enter Tryz.func151, Tryz.ntmps151
 go_wp2_with fail
 refine HC.out.mono ?_
 rintro e w1 ⟨A, c, rfl, ho, hb⟩
 have h1 := Sl.of_own ho
 have HB := Lib.hid hb
 have hl := own_len ho
 obtain ⟨ad, rfl, -, hcell⟩ := h1.at_ (k := k) (by rw [hl]; exact hk)
 have hv : (nb Ch.cols)[k]'(by rw [hl]; exact hk) = .int .u8 (x : Int) := by
  have := HX.out
  rw [List.getElem?_eq_some_iff] at this
  exact this.2
 rw [hv] at hcell
 clear hv h1 ho hb HC hl
 go_wp2_with fail
 refine bodyPost_ret (v := .tuple #[.int .u8 (x : Int), .int .i64 0]) (by simp [results, Tryz.results151, go_sem]) rfl ?_
 exact ⟨rfl, HB.out⟩
set_option maxHeartbeats 2000000 in
theorem ones8 (x : Nat) (hx : x < 256) (w : World) :
  Calls Tryz.prog 152 #[.int .u8 (x : Int)] w fun e w' => e = .returned (.int .i64 (Ch.pc x : Int)) ∧ w = w' := by
 go_enter Tryz.func152, Tryz.ntmps152
 go_wp2_with fail
 go_ret
 refine ⟨congrArg (fun z => Ending.returned (.int .i64 z)) ?_, rfl⟩
 revert hx
 clear w
 revert x
 decide +kernel
namespace Ch
def po (y k : Nat) : Nat := neg ((cols.take k).map (chi y))
theorem par_pc : ∀ x : Fin 256, par x.1 = decide (pc x.1 % 2 = 1) := by decide +kernel
theorem pc_le : ∀ x : Fin 256, pc x.1 ≤ 8 := by decide +kernel
theorem po_succ {y k c : Nat} (hc : cols[k]? = some c) (hy : y < 256) : po y (k + 1) = po y k + pc (c &&& y) % 2 := by
 have hc2 : c < 256 := cols_lt c (List.mem_of_getElem? hc)
 have ha : c &&& y < 256 := Nat.and_lt_two_pow (n := 8) c hy
 have hp := par_pc ⟨c &&& y, ha⟩
 have h1 : po y (k + 1) = po y k + neg [chi y c] := by
  unfold po
  rw [List.take_add_one, hc, List.map_append]
  unfold neg
  rw [List.countP_append]
  rfl
 have h2 : neg [chi y c] = pc (c &&& y) % 2 := by
  unfold chi
  rw [Nat.and_comm y c, hp]
  have h3 : pc (c &&& y) % 2 = 0 ∨ pc (c &&& y) % 2 = 1 := by omega
  rcases h3 with h3 | h3
  ·rw [h3]; rfl
  ·rw [h3]; rfl
 rw [h1, h2]
theorem po_le (y k : Nat) : po y k ≤ k := by
 have h : neg ((cols.take k).map (chi y)) ≤ ((cols.take k).map (chi y)).length := List.countP_le_length
 rw [List.length_map, List.length_take] at h
 unfold po
 omega
theorem po_all (y : Nat) : po y 72 = odd y := by
 unfold po odd
 rw [List.take_of_length_le (by rw [cols_len]; omega)]
def chu (y o : Nat) : Nat := ns (fun y => if odd y = o then 1 else 0) y
theorem chu_succ (y o : Nat) : chu (y + 1) o = chu y o + (if odd y = o then 1 else 0) := rfl
theorem chu_le (y o : Nat) : chu y o ≤ y := by
 induction y with
 | zero => exact Nat.le_refl _
 | succ y ih => rw [chu_succ]; split <;> omega
def cpre (k : Nat) : List Nat := cols.take k ++ List.replicate (72 - k) 0
theorem cpre_all : cpre 72 = cols := by decide +kernel
theorem cpre_at {k : Nat} (hk : k < 72) : ∃ z, (cpre k)[k]? = some z := by
 have hl : k < (cpre k).length := by
  unfold cpre
  rw [List.length_append, List.length_take, cols_len, List.length_replicate]
  omega
 exact ⟨_, List.getElem?_eq_getElem hl⟩
theorem cpre_set {k x : Nat} (hk : k < 72) (hx : cols[k]? = some x) : (cpre k).set k x = cpre (k + 1) := by
 unfold cpre
 have hl : (cols.take k).length = k := by rw [List.length_take, cols_len]; omega
 rw [List.set_append_right _ _ (by omega), hl, Nat.sub_self, List.take_add_one, hx, show 72 - k = (72 - (k + 1)) + 1 by omega, List.replicate_succ, List.set_cons_zero]
 simp
end Ch
theorem nb_set (l : List Nat) (k x : Nat) : (nb l).set k (.int .u8 (x : Int)) = nb (l.set k x) := by unfold nb; rw [List.map_set]
def cna (y : Nat) : List Value := (List.range 73).map fun o => Value.int .i64 (Ch.chu y o : Int)
theorem cna_get {y o : Nat} (h : o < 73) : (cna y)[o]? = some (.int .i64 (Ch.chu y o : Int)) := by
 unfold cna
 rw [List.getElem?_map, List.getElem?_range h]
 rfl
theorem cna_len (y : Nat) : (cna y).length = 73 := by unfold cna; rw [List.length_map, List.length_range]
theorem cna_set (y : Nat) : (cna y).set (Ch.odd y) (.int .i64 ((Ch.chu y (Ch.odd y) + 1 : Nat) : Int)) = cna (y + 1) := by
 refine List.ext_getElem? fun i => ?_
 rcases Nat.lt_or_ge i 73 with hi | hi
 ·rw [List.getElem?_set, cna_get hi, cna_get hi, cna_len, Ch.chu_succ]
  by_cases e : Ch.odd y = i
  ·subst e
   rw [if_pos rfl, if_pos hi, if_pos rfl]
  ·rw [if_neg e, if_neg e, Nat.add_zero]
 ·rw [List.getElem?_eq_none (by rw [List.length_set, cna_len]; exact hi), List.getElem?_eq_none (by rw [cna_len]; exact hi)]
noncomputable def zr80 (b : Nat) : Rw := ⟨some ⟨b, 0, none⟩, 73, 73, 128, Tryz.zeroCells128.toList⟩
theorem zero80_size : Tryz.zeroCells128.size = 73 := by kernel_rfl
theorem zero119_size : Tryz.zeroCells159.size = 72 := by kernel_rfl
theorem zero119 : Tryz.zeroCells159.toList = nb (Ch.cpre 0) := by kernel_rfl
theorem zero80 : Tryz.zeroCells128.toList = cna 0 := by kernel_rfl
theorem info80 : (Tryz.prog.info? 128).map (·.size) = some 73 := by kernel_rfl
theorem info119 : (Tryz.prog.info? 159).map (·.size) = some 72 := by kernel_rfl
def RC1 (w0 : World) (b1 b2 : Nat) (v8 : Value) (wr : World) : Prop := ∃ k : Nat, k ≤ 72 ∧ v8 = .int .i64 (k : Int) ∧ Hid (Ow w0 wr none [] [] [zr80 b1, ⟨some ⟨b2, 0, none⟩, 72, 72, 159, nb (Ch.cpre k)⟩])
def RC2 (w0 : World) (b1 b2 b3 : Nat) (v : Value) (wr : World) : Prop := ∃ y : Nat, y ≤ 256 ∧ v = .int .i64 (y : Int) ∧ Hid (Ow w0 wr none [] [] [zr80 b1, ⟨some ⟨b2, 0, none⟩, 72, 72, 159, nb Ch.cols⟩, ⟨some ⟨b3, 0, none⟩, 73, 73, 128, cna y⟩])
def RC3 (w0 : World) (b1 b2 b3 y : Nat) (v5 v : Value) (wr : World) : Prop := ∃ k : Nat, k ≤ 72 ∧ v = .int .i64 (k : Int) ∧ v5 = .int .i64 (Ch.po y k : Int) ∧ Hid (Ow w0 wr none [] [] [zr80 b1, ⟨some ⟨b2, 0, none⟩, 72, 72, 159, nb Ch.cols⟩, ⟨some ⟨b3, 0, none⟩, 73, 73, 128, cna y⟩])
theorem i64_and_one (p : Nat) (h : p ≤ 8) : bits .and .i64 (p : Int) 1 = ((p % 2 : Nat) : Int) :=
 (show ∀ p : Fin 9, bits .and .i64 (p.1 : Int) 1 = ((p.1 % 2 : Nat) : Int) by decide +kernel) ⟨p, by omega⟩
set_option maxHeartbeats 4000000 in
theorem characters_any (w : World) :
  Calls Tryz.prog 101 #[] w fun e w' => e = .returned (.agg (cna 256).toArray) ∧ Below w.heap.size w w' := by
 have H0 := ((Ow.of (St.refl w)).arr Tryz.zeroCells128 73 zero80_size (by omega) 128).arr Tryz.zeroCells159 72 zero119_size (by omega) 159
 simp only [List.nil_append, List.cons_append, World.size_alloc] at H0
 rw [zero119] at H0
 have HO := Lib.hid H0
 clear H0
 go_enter Tryz.func101, Tryz.ntmps101
 go_wp2_with fail
 go_loopw [8] (fun v wr => RC1 w w.heap.size (w.heap.size + 1) v wr) (fun v _ => 73 - (intOf v).toNat)
 case atStart => exact ⟨0, by omega, rfl, HO.out⟩
 case round =>
  clear HO
  obtain ⟨k, hk, rfl, HO⟩ := hrel
  rcases Nat.lt_or_ge k 72 with hlt | hge
  ·have hd : decide ((k : Int) < 72) = true := decide_eq_true (by omega)
   obtain ⟨x, hx⟩ : ∃ x, Ch.cols[k]? = some x := ⟨_, List.getElem?_eq_getElem (by rw [Ch.cols_len]; exact hlt)⟩
   have HC := Lib.hid (column_any k x hlt hx wr)
   have HX := Lib.hid hx
   clear hx
   go_wp2_with fail
   refine HC.out.mono ?_
   rintro e w1 ⟨rfl, hb⟩
   have HO1 := Lib.hid (HO.out.go hb)
   clear HC HO hb
   have f1 := HO1.out.frzO 1 (vs := _) rfl k
   have c1 := (HO1.out.row 1 rfl).cellAt k (by omega)
   obtain ⟨z, hz⟩ := Ch.cpre_at hlt
   rw [nb_get hz] at c1
   have hkI : (k : Int) < 72 := by omega
   clear hz
   go_wp2_with fail
   have G := HO1.out.put 1 rfl k (.int .u8 (x : Int))
   rw [nb_set, Ch.cpre_set hlt HX.out] at G
   simp only [List.set_cons_succ, List.set_cons_zero] at G
   have HG := Lib.hid G
   clear G HO1 f1 c1 hkI
   go_roundw
   case rel => exact ⟨k + 1, by omega, by go_num, HG.out⟩
   case measure => simp [intOf]; omega
  ·have hd : decide ((k : Int) < 72) = false := decide_eq_false (by omega)
   obtain rfl : k = 72 := by omega
   have H3 := HO.out.arr Tryz.zeroCells128 73 zero80_size (by omega) 128
   simp only [List.nil_append, List.cons_append] at H3
   rw [Ch.cpre_all, zero80] at H3
   obtain ⟨b3, hb3⟩ : ∃ b, wr.heap.size = b := ⟨_, rfl⟩
   rw [hb3] at H3
   have HO3 := Lib.hid H3
   clear H3 HO
   go_wp2_with fail
   try rw [hb3]
   clear hb3
   rw [show ((72 : Nat) : Int) = 72 from rfl]
   go_loopw [19] (fun v wr => RC2 w w.heap.size (w.heap.size + 1) b3 v wr) (fun v _ => 257 - (intOf v).toNat)
   case atStart => exact ⟨0, by omega, rfl, HO3.out⟩
   case round =>
    clear HO3
    obtain ⟨y, hy, rfl, HO⟩ := hrel
    rcases Nat.lt_or_ge y 256 with hylt | hyge
    ·have hdy : decide ((y : Int) < 256) = true := decide_eq_true (by omega)
     obtain ⟨xs, hxs⟩ : ∃ xs, xs = nb Ch.cols := ⟨_, rfl⟩
     have hlen : xs.length = 72 := by rw [hxs, nb_length, Ch.cols_len]
     obtain ⟨hx1, hx2⟩ := HO.out.rowHeap 1 rfl
     rw [← hxs] at hx1
     have hinf : (Tryz.prog.info? 159).map (·.size) = some xs.toArray.size := by rw [info119, List.size_toArray, hlen]
     have HX := Lib.hid hxs
     clear hxs hx2
     go_wp2_with (refine wpList_load_row rfl 159 (.tmp 1) rfl (w.heap.size + 1) rfl 159 xs.toArray (0, 0) _ hx1 Tryz.underlying159 rfl hinf ?_)
     clear hx1 hinf
     go_loopw [5, 23] (fun v5 v wr => RC3 w w.heap.size (w.heap.size + 1) b3 y v5 v wr) (fun _ v _ => 73 - (intOf v).toNat)
     case atStart => exact ⟨0, by omega, rfl, rfl, HO.out⟩
     case round =>
      clear HO
      obtain ⟨k, hk, rfl, rfl, HO⟩ := hrel
      rcases Nat.lt_or_ge k 72 with hlt | hge
      ·have hdk : decide ((k : Int) < 72) = true := decide_eq_true (by omega)
       obtain ⟨c, hc⟩ : ∃ c, Ch.cols[k]? = some c := ⟨_, List.getElem?_eq_getElem (by rw [Ch.cols_len]; exact hlt)⟩
       have hc2 : c < 256 := Ch.cols_lt c (List.mem_of_getElem? hc)
       have hxk : xs[k]? = some (.int .u8 (c : Int)) := by rw [HX.out]; exact nb_get hc
       obtain ⟨a, ha⟩ : ∃ a, c &&& y = a := ⟨_, rfl⟩
       have ha2 : a < 256 := by rw [← ha]; exact Nat.and_lt_two_pow (n := 8) c hylt
       have e1 : IntKind.u8.wrap (y : Int) = (y : Int) := IntWalk.u8_in _ (by omega)
       have e2 : bits .and .u8 (c : Int) (y : Int) = (a : Int) := by rw [← ha]; exact u8_and_nat c y hc2 hylt
       have HC := Lib.hid (ones8 a ha2)
       obtain ⟨p, hp⟩ : ∃ p, Ch.pc a = p := ⟨_, rfl⟩
       have hp8 : p ≤ 8 := by rw [← hp]; exact Ch.pc_le ⟨a, ha2⟩
       obtain ⟨r, hr⟩ : ∃ r, p % 2 = r := ⟨_, rfl⟩
       rw [hp] at HC
       have e3 : bits .and .i64 (p : Int) 1 = (r : Int) := by rw [← hr]; exact i64_and_one p (by omega)
       obtain ⟨s, hs⟩ : ∃ s, Ch.po y k = s := ⟨_, rfl⟩
       have hsl : s ≤ 72 := by rw [← hs]; have := Ch.po_le y k; omega
       have HN : Hid (Ch.po y (k + 1) = s + r) := by unfold Hid; rw [Ch.po_succ hc hylt, hs, ha, hp, hr]
       rw [hs]
       have hidx := index_cols xs k _ hlt hxk wr
       have hkI : (k : Int) < 72 := by omega
       have hr2 : r < 2 := by omega
       clear hc ha hp hr hs
       go_wp2_with (go_at_call 152; refine (HC.out _).mono ?_; rintro e w1 ⟨rfl, rfl⟩)
       go_roundw
       case rel => exact ⟨k + 1, by omega, by go_num, by rw [HN.out]; go_num, HO.out⟩
       case measure => simp [intOf]; omega
      ·have hdk : decide ((k : Int) < 72) = false := decide_eq_false (by omega)
       obtain rfl : k = 72 := by omega
       rw [Ch.po_all]
       obtain ⟨s, hs⟩ : ∃ s, Ch.odd y = s := ⟨_, rfl⟩
       have hsl : s ≤ 72 := by rw [← hs]; exact Ch.odd_le y
       rw [hs]
       obtain ⟨q, hq⟩ : ∃ q, Ch.chu y s = q := ⟨_, rfl⟩
       have hq2 : q ≤ 256 := by rw [← hq]; have := Ch.chu_le y s; omega
       have c3 := (HO.out.row 2 rfl).cellAt s (by omega)
       rw [cna_get (by omega), hq] at c3
       have f3 := HO.out.frzO 2 (vs := _) rfl s
       have hsI : (s : Int) < 73 := by omega
       have hs73 : s < 73 := by omega
       have HQ : Hid (Ch.odd y = s ∧ Ch.chu y s = q) := ⟨hs, hq⟩
       clear hs hq
       go_wp2_with fail
       have G := HO.out.put 2 rfl s (.int .i64 ((q : Int) + 1))
       have e9 : (cna y).set s (.int .i64 ((q : Int) + 1)) = cna (y + 1) := by
        have := cna_set y
        rw [HQ.out.1, HQ.out.2] at this
        exact this
       rw [e9] at G
       simp only [List.set_cons_succ, List.set_cons_zero] at G
       have HG := Lib.hid G
       clear G HO c3 f3 e9
       go_roundw
       case rel => exact ⟨y + 1, by omega, by go_num, HG.out⟩
       case measure => simp [intOf]; omega
    ·have hdy : decide ((y : Int) < 256) = false := decide_eq_false (by omega)
     obtain rfl : y = 256 := by omega
     obtain ⟨hx1, hx2⟩ := HO.out.rowHeap 2 rfl
     obtain ⟨hr1, hr2⟩ := HO.out.rowHeap 0 rfl
     obtain ⟨xs, hxs⟩ : ∃ xs, xs = cna 256 := ⟨_, rfl⟩
     have hone : xs.toArray.all (·.oneCell') = true := by rw [List.all_toArray, hxs]; unfold cna; rw [List.all_map]; exact List.all_eq_true.2 fun _ _ => rfl
     rw [← hxs] at hx1 hx2
     obtain ⟨lr, hlr⟩ : ∃ lr, lr = Tryz.zeroCells128.toList := ⟨_, rfl⟩
     have HOl := HO.out
     unfold zr80 at HOl
     rw [← hlr] at hr1 hr2 HOl
     have hinf : (Tryz.prog.info? 128).map (·.size) = some xs.toArray.size := by rw [info80, List.size_toArray, hx2]
     have Z := HOl.putRow 0 rfl xs.toArray (by rw [List.size_toArray, hx2]) (by omega)
     simp only [List.set_cons_zero] at Z
     obtain ⟨hz1, -⟩ := Z.rowHeap 0 rfl
     have HF9 := Lib.hid Z.below
     have hsz : lr.toArray.size = xs.toArray.size := by rw [List.size_toArray, List.size_toArray, hr2, hx2]
     have HX := Lib.hid hxs
     clear HO Z HOl hlr hxs
     go_wp2_with (first | (refine wpList_load_row rfl 128 (.tmp 3) rfl b3 rfl 128 xs.toArray (0, 0) _ hx1 Tryz.underlying128 rfl hinf ?_) | (refine wpList_store_row rfl 128 (.tmp 0) (.tmp 41) rfl w.heap.size xs.toArray rfl rfl 128 lr.toArray hr1 hinf hsz hone ?_))
     refine bodyPost_ret (v := .agg xs.toArray) (results_cell_row Tryz.results101 _ _ w.heap.size 128 xs.toArray (0, 0) _ rfl hz1 Tryz.underlying128 rfl hinf) rfl ?_
     exact ⟨by rw [HX.out], HF9.out⟩
theorem add64W (x y c : Nat) (hx : x < 18446744073709551616) (hy : y < 18446744073709551616) (hc : c ≤ 1) (w : World) :
  (callFunc 153 #[.int .u64 (x : Int), .int .u64 (y : Int), .int .u64 (c : Int)]).run Tryz.prog w =
   .ok (.value (.tuple #[.int .u64 (((x + y + c) % 18446744073709551616 : Nat) : Int), .int .u64 (((x + y + c) / 18446744073709551616 : Nat) : Int)])) w := by
 rw [run_callFunc_extern Tryz.func153 (by kernel_rfl) (by kernel_rfl) (by kernel_rfl) (e := add64Entry) (by kernel_rfl), run_add64 x y c (by omega) (by omega) (by omega) (by omega)]
 simp only [Result.andThen]
 congr 5 <;> omega
set_option maxHeartbeats 2000000 in
theorem ladd_any (h1 l1 h2 l2 : Nat) (a1 : h1 < 18446744073709551616) (b1 : l1 < 18446744073709551616) (a2 : h2 < 18446744073709551616) (b2 : l2 < 18446744073709551616) (w : World) :
  Calls Tryz.prog 102 #[.agg #[.int .u64 (h1 : Int), .int .u64 (l1 : Int)], .agg #[.int .u64 (h2 : Int), .int .u64 (l2 : Int)]] w fun e w' => e = .returned (.agg #[.int .u64 (((h1 + h2 + (l1 + l2) / 18446744073709551616) % 18446744073709551616 : Nat) : Int), .int .u64 (((l1 + l2) % 18446744073709551616 : Nat) : Int)]) ∧ Below w.heap.size w w' := by
 have H0 := (((Ow.of (St.refl w)).arr #[.int .u64 (h1 : Int), .int .u64 (l1 : Int)] 2 rfl (by omega) 127).arr #[.int .u64 (h2 : Int), .int .u64 (l2 : Int)] 2 rfl (by omega) 127).arr #[.int .u64 0, .int .u64 0] 2 rfl (by omega) 127
 simp only [List.nil_append, List.cons_append, World.size_alloc] at H0
 have k0 := (H0.row 0 rfl).cellAt 0 (by decide)
 have k1 := (H0.row 0 rfl).cellAt 1 (by decide)
 have m0 := (H0.row 1 rfl).cellAt 0 (by decide)
 have m1 := (H0.row 1 rfl).cellAt 1 (by decide)
 have r0 := (H0.row 2 rfl).cellAt 0 (by decide)
 have r1 := (H0.row 2 rfl).cellAt 1 (by decide)
 have f0 := H0.frzO 2 (vs := _) rfl 0
 have f1 := H0.frzO 2 (vs := _) rfl 1
 have HO := Lib.hid H0
 obtain ⟨s, hs⟩ : ∃ s : Nat, (l1 + l2) % 18446744073709551616 = s := ⟨_, rfl⟩
 obtain ⟨c, hc⟩ : ∃ c : Nat, (l1 + l2) / 18446744073709551616 = c := ⟨_, rfl⟩
 have hc1 : c ≤ 1 := by omega
 obtain ⟨t, ht⟩ : ∃ t : Nat, (h1 + h2 + c) % 18446744073709551616 = t := ⟨_, rfl⟩
 obtain ⟨d, hd⟩ : ∃ d : Nat, (h1 + h2 + c) / 18446744073709551616 = d := ⟨_, rfl⟩
 rw [hc, ht, hs]
 have A1 : ∀ W, (callFunc 153 #[.int .u64 (l1 : Int), .int .u64 (l2 : Int), .int .u64 0]).run Tryz.prog W = .ok (.value (.tuple #[.int .u64 (s : Int), .int .u64 (c : Int)])) W := fun W => by
  have := add64W l1 l2 0 b1 b2 (by omega) W
  rw [Nat.add_zero, hs, hc] at this
  exact this
 have A2 : ∀ W, (callFunc 153 #[.int .u64 (h1 : Int), .int .u64 (h2 : Int), .int .u64 (c : Int)]).run Tryz.prog W = .ok (.value (.tuple #[.int .u64 (t : Int), .int .u64 (d : Int)])) W := fun W => by
  have := add64W h1 h2 c a1 a2 hc1 W
  rw [ht, hd] at this
  exact this
 clear H0 hs hc ht hd
 go_enter Tryz.func102, Tryz.ntmps102
 go_wp2_with (simp only [A1, A2])

 refine bodyPost_ret (v := .agg #[.int .u64 (t : Int), .int .u64 (s : Int)]) (by simp [results, Tryz.results102, go_sem]) rfl ?_
 exact ⟨rfl, bal (bal (bal (Below.refl _ _) _) _) _⟩
def lg (x : Nat) : Value := .agg #[.int .u64 ((x / 18446744073709551616 : Nat) : Int), .int .u64 ((x % 18446744073709551616 : Nat) : Int)]
theorem ladd (x y : Nat) (hx : x < 340282366920938463463374607431768211456) (hy : y < 340282366920938463463374607431768211456) (w : World) :
  Calls Tryz.prog 102 #[lg x, lg y] w fun e w' => e = .returned (lg ((x + y) % 340282366920938463463374607431768211456)) ∧ Below w.heap.size w w' := by
 refine (ladd_any (x / 18446744073709551616) (x % 18446744073709551616) (y / 18446744073709551616) (y % 18446744073709551616) (by omega) (by omega) (by omega) (by omega) w).mono ?_
 rintro e w' ⟨rfl, hb⟩
 refine ⟨?_, hb⟩
 unfold lg
 have e1 : (x / 18446744073709551616 + y / 18446744073709551616 + (x % 18446744073709551616 + y % 18446744073709551616) / 18446744073709551616) % 18446744073709551616 = (x + y) % 340282366920938463463374607431768211456 / 18446744073709551616 := by omega
 have e2 : (x % 18446744073709551616 + y % 18446744073709551616) % 18446744073709551616 = (x + y) % 340282366920938463463374607431768211456 % 18446744073709551616 := by omega
 rw [e1, e2]
theorem u64_not (h : Nat) (hh : h < 18446744073709551616) : bits .xor .u64 IntKind.u64.max (h : Int) = ((18446744073709551615 - h : Nat) : Int) := by
 have e := bits_xor_u64_nat 18446744073709551615 h (by omega) hh
 have e2 : 18446744073709551615 ^^^ h = 18446744073709551615 - h := by
  refine Nat.eq_of_testBit_eq fun i => ?_
  have h1 := Nat.testBit_two_pow_sub_succ (n := 64) (x := h) (by omega) i
  have h2 := Nat.testBit_two_pow_sub_one 64 i
  rw [Nat.testBit_xor, show (18446744073709551615 : Nat) = 2 ^ 64 - 1 from rfl, h2, show 2 ^ 64 - 1 - h = 2 ^ 64 - (h + 1) by omega, h1]
  by_cases hi : i < 64
  ·simp [hi]
  ·have : h.testBit i = false := Nat.testBit_lt_two_pow (Nat.lt_of_lt_of_le (show h < 2 ^ 64 by omega) (Nat.pow_le_pow_right (by omega) (by omega)))
   simp [hi, this]
 rw [e2] at e
 exact e
set_option maxHeartbeats 2000000 in
theorem lminus_any (h l : Nat) (a1 : h < 18446744073709551616) (b1 : l < 18446744073709551616) (w : World) :
  Calls Tryz.prog 105 #[.agg #[.int .u64 (h : Int), .int .u64 (l : Int)]] w fun e w' => e = .returned (.agg #[.int .u64 (((18446744073709551615 - h + (18446744073709551615 - l + 1) / 18446744073709551616) % 18446744073709551616 : Nat) : Int), .int .u64 (((18446744073709551615 - l + 1) % 18446744073709551616 : Nat) : Int)]) ∧ Below w.heap.size w w' := by
 have H0 := ((Ow.of (St.refl w)).arr #[.int .u64 (h : Int), .int .u64 (l : Int)] 2 rfl (by omega) 127).arr #[.int .u64 0, .int .u64 0] 2 rfl (by omega) 127
 simp only [List.nil_append, List.cons_append, World.size_alloc] at H0
 have k0 := (H0.row 0 rfl).cellAt 0 (by decide)
 have k1 := (H0.row 0 rfl).cellAt 1 (by decide)
 obtain ⟨h', hh⟩ : ∃ t : Nat, 18446744073709551615 - h = t := ⟨_, rfl⟩
 obtain ⟨l', hl⟩ : ∃ t : Nat, 18446744073709551615 - l = t := ⟨_, rfl⟩
 have X1 : bits .xor .u64 IntKind.u64.max (h : Int) = (h' : Int) := by rw [u64_not h a1, hh]
 have X2 : bits .xor .u64 IntKind.u64.max (l : Int) = (l' : Int) := by rw [u64_not l b1, hl]
 have HA := Lib.hid (ladd_any h' l' 0 1 (by omega) (by omega) (by omega) (by omega) ((w.alloc (.cells #[.int .u64 (h : Int), .int .u64 (l : Int)] 127)).alloc (.cells #[.int .u64 0, .int .u64 0] 127)))
 rw [hh, hl]
 obtain ⟨t, ht⟩ : ∃ t : Nat, (h' + (l' + 1) / 18446744073709551616) % 18446744073709551616 = t := ⟨_, rfl⟩
 obtain ⟨s, hs⟩ : ∃ s : Nat, (l' + 1) % 18446744073709551616 = s := ⟨_, rfl⟩
 rw [ht, hs]
 rw [Nat.add_zero, ht, hs] at HA
 have HO := Lib.hid H0
 clear H0 hh hl ht hs
 go_enter Tryz.func105, Tryz.ntmps105
 go_wp2_with fail
 refine HA.out.mono ?_
 rintro e w1 ⟨rfl, hb⟩
 have HO1 := Lib.hid (HO.out.go hb)
 clear HA hb HO X1 X2
 have r0 := (HO1.out.row 1 rfl).cellAt 0 (by decide)
 have r1 := (HO1.out.row 1 rfl).cellAt 1 (by decide)
 have f0 := HO1.out.frzO 1 (vs := _) rfl 0
 have f1 := HO1.out.frzO 1 (vs := _) rfl 1
 go_wp2_with fail
 have G := (HO1.out.put 1 rfl 0 (.int .u64 (t : Int))).put 1 rfl 1 (.int .u64 (s : Int))
 have q0 := (G.row 1 rfl).cellAt 0 (by decide)
 have q1 := (G.row 1 rfl).cellAt 1 (by decide)
 refine bodyPost_ret (v := .agg #[.int .u64 (t : Int), .int .u64 (s : Int)]) (by simp [results, Tryz.results105, go_sem, q0, q1]) rfl ?_
 exact ⟨rfl, G.below⟩
theorem lminus (x : Nat) (hx : x < 340282366920938463463374607431768211456) (w : World) :
  Calls Tryz.prog 105 #[lg x] w fun e w' => e = .returned (lg ((340282366920938463463374607431768211456 - x) % 340282366920938463463374607431768211456)) ∧ Below w.heap.size w w' := by
 refine (lminus_any (x / 18446744073709551616) (x % 18446744073709551616) (by omega) (by omega) w).mono ?_
 rintro e w' ⟨rfl, hb⟩
 refine ⟨?_, hb⟩
 unfold lg
 have e1 : (18446744073709551615 - x / 18446744073709551616 + (18446744073709551615 - x % 18446744073709551616 + 1) / 18446744073709551616) % 18446744073709551616 = (340282366920938463463374607431768211456 - x) % 340282366920938463463374607431768211456 / 18446744073709551616 := by omega
 have e2 : (18446744073709551615 - x % 18446744073709551616 + 1) % 18446744073709551616 = (340282366920938463463374607431768211456 - x) % 340282366920938463463374607431768211456 % 18446744073709551616 := by omega
 rw [e1, e2]
set_option maxHeartbeats 1000000 in
theorem mul64_any (x y : Nat) (hx : x < 18446744073709551616) (hy : y < 18446744073709551616) (w : World) :
  Calls Tryz.prog 154 #[.int .u64 (x : Int), .int .u64 (y : Int)] w fun e w' => e = .returned (.tuple #[.int .u64 ((x * y / 18446744073709551616 : Nat) : Int), .int .u64 ((x * y % 18446744073709551616 : Nat) : Int)]) ∧ w' = w := by
 obtain ⟨bd, bt, bw, hhi⟩ := Lib.mul64_hi x y hx hy
 have ba := Lib.half_mul_le (a := x / 4294967296) (b := y / 4294967296) (by omega) (by omega)
 have bb := Lib.half_mul_le (a := x / 4294967296) (b := y % 4294967296) (by omega) (by omega)
 have bc := Lib.half_mul_le (a := x % 4294967296) (b := y / 4294967296) (by omega) (by omega)
 have ba' : x / 4294967296 * (y / 4294967296) < 18446744073709551616 := by omega
 have bb' : x / 4294967296 * (y % 4294967296) < 18446744073709551616 := by omega
 have bc' : x % 4294967296 * (y / 4294967296) < 18446744073709551616 := by omega
 have bh : x * y / 18446744073709551616 < 18446744073709551616 := by
  have h1 : x * y < 18446744073709551616 * 18446744073709551616 := Nat.mul_lt_mul'' hx hy
  omega
 have bh1 : x / 4294967296 * (y / 4294967296) + (x / 4294967296 * (y % 4294967296) + x % 4294967296 * (y % 4294967296) / 4294967296) / 4294967296 < 18446744073709551616 := by omega
 rw [← hhi] at bh
 go_enter Tryz.func154, Tryz.ntmps154
 go_wp2
 simp only [Mul64.maskN x hx, Mul64.maskN y hy, Mul64.divN, Mul64.mulN, Mul64.addN, Mul64.wrapN _ bd, Mul64.wrapN _ bb', Mul64.wrapN _ bt, Mul64.maskN _ bt, Mul64.wrapN _ bc', Mul64.wrapN _ bw, Mul64.wrapN _ ba', Mul64.wrapN _ bh1, Mul64.wrapN _ bh, Mul64.wrapM (x * y)]
 rw [hhi]
 go_ret2
 exact ⟨rfl, rfl⟩
set_option maxHeartbeats 2000000 in
theorem ltimes_any (h l n : Nat) (a1 : h < 18446744073709551616) (b1 : l < 18446744073709551616) (hn : n < 4611686018427387904) (w : World) :
  Calls Tryz.prog 104 #[.agg #[.int .u64 (h : Int), .int .u64 (l : Int)], .int .i64 (n : Int)] w fun e w' => e = .returned (.agg #[.int .u64 (((l * n / 18446744073709551616 + h * n % 18446744073709551616) % 18446744073709551616 : Nat) : Int), .int .u64 ((l * n % 18446744073709551616 : Nat) : Int)]) ∧ Below w.heap.size w w' := by
 have H0 := ((Ow.of (St.refl w)).arr #[.int .u64 (h : Int), .int .u64 (l : Int)] 2 rfl (by omega) 127).arr #[.int .u64 0, .int .u64 0] 2 rfl (by omega) 127
 simp only [List.nil_append, List.cons_append, World.size_alloc] at H0
 have k0 := (H0.row 0 rfl).cellAt 0 (by decide)
 have k1 := (H0.row 0 rfl).cellAt 1 (by decide)
 have HM := Lib.hid (mul64_any l n b1 (by omega))
 obtain ⟨p, hp⟩ : ∃ t : Nat, h * n % 18446744073709551616 = t := ⟨_, rfl⟩
 obtain ⟨q, hq⟩ : ∃ t : Nat, l * n / 18446744073709551616 = t := ⟨_, rfl⟩
 obtain ⟨r, hr⟩ : ∃ t : Nat, l * n % 18446744073709551616 = t := ⟨_, rfl⟩
 obtain ⟨s, hs⟩ : ∃ t : Nat, (q + p) % 18446744073709551616 = t := ⟨_, rfl⟩
 have HW1 : Hid (IntKind.u64.wrap ((h : Int) * (n : Int)) = (p : Int)) := by unfold Hid; rw [Mul64.mulN, Mul64.wrapM, hp]
 have HW2 : Hid (IntKind.u64.wrap ((q : Int) + (p : Int)) = (s : Int)) := by unfold Hid; rw [Mul64.addN, Mul64.wrapM, hs]
 have HW3 : Hid (IntKind.u64.wrap (n : Int) = (n : Int)) := Mul64.wrapN n (by omega)
 have hlt : decide ((n : Int) < 0) = false := decide_eq_false (by omega)
 rw [hq, hp, hr, hs]
 rw [hq, hr] at HM
 have HO := Lib.hid H0
 clear H0 hp hq hr hs
 have w1 := HW1.out
 have w2 := HW2.out
 have w3 := HW3.out
 go_enter Tryz.func104, Tryz.ntmps104
 go_wp2_with (go_at_call 154; refine (HM.out _).mono ?_; rintro e w' ⟨rfl, rfl⟩)
 refine bodyPost_ret (v := .agg #[.int .u64 (s : Int), .int .u64 (r : Int)]) (by simp [results, Tryz.results104, go_sem]) rfl ?_
 exact ⟨rfl, bal (bal (Below.refl _ _) _) _⟩
theorem ltimes (x n : Nat) (hx : x < 340282366920938463463374607431768211456) (hn : n < 4611686018427387904) (w : World) :
  Calls Tryz.prog 104 #[lg x, .int .i64 (n : Int)] w fun e w' => e = .returned (lg (x * n % 340282366920938463463374607431768211456)) ∧ Below w.heap.size w w' := by
 refine (ltimes_any (x / 18446744073709551616) (x % 18446744073709551616) n (by omega) (by omega) hn w).mono ?_
 rintro e w' ⟨rfl, hb⟩
 refine ⟨?_, hb⟩
 unfold lg
 obtain ⟨h, hh⟩ : ∃ h, h = x / 18446744073709551616 := ⟨_, rfl⟩
 obtain ⟨l, hl⟩ : ∃ l, l = x % 18446744073709551616 := ⟨_, rfl⟩
 have e0 : x = h * 18446744073709551616 + l := by omega
 rw [← hh, ← hl, e0, Nat.add_mul, Nat.mul_right_comm]
 generalize h * n = a
 generalize l * n = b
 have e1 : (b / 18446744073709551616 + a % 18446744073709551616) % 18446744073709551616 = (a * 18446744073709551616 + b) % 340282366920938463463374607431768211456 / 18446744073709551616 := by omega
 have e2 : b % 18446744073709551616 = (a * 18446744073709551616 + b) % 340282366920938463463374607431768211456 % 18446744073709551616 := by omega
 rw [e1, e2]
set_option maxHeartbeats 2000000 in
theorem ltimes_neg (x n : Nat) (hx : x < 340282366920938463463374607431768211456) (h0 : 0 < n) (hn : n < 4611686018427387904) (w : World) :
  Calls Tryz.prog 104 #[lg x, .int .i64 (-(n : Int))] w fun e w' => e = .returned (lg ((340282366920938463463374607431768211456 - x) % 340282366920938463463374607431768211456 * n % 340282366920938463463374607431768211456)) ∧ Below w.heap.size w w' := by
 obtain ⟨y, hy⟩ : ∃ y : Nat, (340282366920938463463374607431768211456 - x) % 340282366920938463463374607431768211456 = y := ⟨_, rfl⟩
 obtain ⟨z, hz⟩ : ∃ z : Nat, y * n % 340282366920938463463374607431768211456 = z := ⟨_, rfl⟩
 have HM := Lib.hid (fun W => lminus x hx W)
 have HT := Lib.hid (fun W => ltimes y n (by omega) hn W)
 rw [hy] at HM
 rw [hz] at HT
 rw [hy, hz]
 clear hy hz
 unfold lg at HM HT ⊢
 obtain ⟨h, hh⟩ : ∃ h, x / 18446744073709551616 = h := ⟨_, rfl⟩
 obtain ⟨l, hl⟩ : ∃ h, x % 18446744073709551616 = h := ⟨_, rfl⟩
 obtain ⟨yh, hyh⟩ : ∃ h, y / 18446744073709551616 = h := ⟨_, rfl⟩
 obtain ⟨yl, hyl⟩ : ∃ h, y % 18446744073709551616 = h := ⟨_, rfl⟩
 obtain ⟨zh, hzh⟩ : ∃ h, z / 18446744073709551616 = h := ⟨_, rfl⟩
 obtain ⟨zl, hzl⟩ : ∃ h, z % 18446744073709551616 = h := ⟨_, rfl⟩
 rw [hh, hl, hyh, hyl] at HM
 rw [hyh, hyl, hzh, hzl] at HT
 rw [hh, hl, hzh, hzl]
 clear hh hl hyh hyl hzh hzl
 have H0 := ((Ow.of (St.refl w)).arr #[.int .u64 (h : Int), .int .u64 (l : Int)] 2 rfl (by omega) 127).arr #[.int .u64 0, .int .u64 0] 2 rfl (by omega) 127
 simp only [List.nil_append, List.cons_append, World.size_alloc] at H0
 have k0 := (H0.row 0 rfl).cellAt 0 (by decide)
 have k1 := (H0.row 0 rfl).cellAt 1 (by decide)
 have hlt : decide (-(n : Int) < 0) = true := decide_eq_true (by omega)
 have hneg : IntKind.i64.wrap (- -(n : Int)) = (n : Int) := by rw [Int.neg_neg]; exact IntWalk.i64_in _ (by omega)
 have hneg2 : IntKind.i64.wrap (n : Int) = (n : Int) := IntWalk.i64_in _ (by omega)
 have HO := Lib.hid H0
 clear H0
 go_enter Tryz.func104, Tryz.ntmps104
 go_wp2_with (go_at_call 105; refine (HM.out _).mono ?_; rintro e w1 ⟨rfl, hb1⟩; have HO1 := Lib.hid (HO.out.go hb1))
 refine (HT.out _).mono ?_
 rintro e w2 ⟨rfl, hb2⟩
 have HO2 := Lib.hid (HO1.out.go hb2)
 clear HM HT HO HO1 hb1 hb2
 have f0 := HO2.out.frzO 1 (vs := _) rfl 0
 have f1 := HO2.out.frzO 1 (vs := _) rfl 1
 have r0 := (HO2.out.row 1 rfl).cellAt 0 (by decide)
 have r1 := (HO2.out.row 1 rfl).cellAt 1 (by decide)
 go_wp2_with fail
 have G := (HO2.out.put 1 rfl 0 (.int .u64 (zh : Int))).put 1 rfl 1 (.int .u64 (zl : Int))
 have q0 := (G.row 1 rfl).cellAt 0 (by decide)
 have q1 := (G.row 1 rfl).cellAt 1 (by decide)
 refine bodyPost_ret (v := .agg #[.int .u64 (zh : Int), .int .u64 (zl : Int)]) (by simp [results, Tryz.results104, go_sem, q0, q1]) rfl ?_
 exact ⟨rfl, G.below⟩
end Go.Proofs.YtenokdhldngkgaaGreatDoor
namespace Go.Proofs.YtenokdhldngkgaaGreatDoor
open Go.RowKit
set_option linter.unusedVariables false
namespace Ch
def tw (z : Int) : Nat := (z % 340282366920938463463374607431768211456).toNat
theorem tw_lt (z : Int) : tw z < 340282366920938463463374607431768211456 := by unfold tw; omega
theorem tw_int (z : Int) : (tw z : Int) = z % 340282366920938463463374607431768211456 := by unfold tw; omega
theorem tw_add (a b : Int) : (tw a + tw b) % 340282366920938463463374607431768211456 = tw (a + b) := by
 have h1 := tw_int a; have h2 := tw_int b; have h3 := tw_int (a + b)
 omega
theorem tw_neg (a : Int) : (340282366920938463463374607431768211456 - tw a) % 340282366920938463463374607431768211456 = tw (-a) := by
 have h1 := tw_int a; have h3 := tw_int (-a); have h4 := tw_lt a
 omega
theorem tw_mul (a : Int) (n : Nat) : tw a * n % 340282366920938463463374607431768211456 = tw (a * (n : Int)) := by
 have h : ((tw a * n % 340282366920938463463374607431768211456 : Nat) : Int) = (tw (a * (n : Int)) : Int) := by
  rw [tw_int, Int.natCast_emod, Int.natCast_mul, tw_int]
  show (a % 340282366920938463463374607431768211456 * (n : Int)) % 340282366920938463463374607431768211456 = _
  rw [Int.mul_emod, Int.emod_emod, ← Int.mul_emod]
 exact Int.ofNat.inj h
theorem tw_nat (n : Nat) (h : n < 340282366920938463463374607431768211456) : tw (n : Int) = n := by unfold tw; omega
end Ch
def lgs (A : List Nat) : List Value := A.flatMap fun x => [.int .u64 ((x / 18446744073709551616 : Nat) : Int), .int .u64 ((x % 18446744073709551616 : Nat) : Int)]
theorem lgs_length : ∀ (A : List Nat), (lgs A).length = 2 * A.length
 | [] => rfl
 | x :: A => by
  have h := lgs_length A
  show (lgs A).length + 1 + 1 = 2 * (A.length + 1)
  omega
theorem lgs_at : ∀ {A : List Nat} {k x : Nat}, A[k]? = some x → (lgs A)[2 * k]? = some (.int .u64 ((x / 18446744073709551616 : Nat) : Int)) ∧ (lgs A)[2 * k + 1]? = some (.int .u64 ((x % 18446744073709551616 : Nat) : Int))
 | [], _, _, h => by simp at h
 | y :: A, 0, x, h => by
  obtain rfl : y = x := by simpa using h
  exact ⟨rfl, rfl⟩
 | y :: A, k + 1, x, h => by
  have h1 := lgs_at (A := A) (k := k) (x := x) (by simpa using h)
  exact h1
theorem lgs_set : ∀ (A : List Nat) (k x : Nat), ((lgs A).set (2 * k) (.int .u64 ((x / 18446744073709551616 : Nat) : Int))).set (2 * k + 1) (.int .u64 ((x % 18446744073709551616 : Nat) : Int)) = lgs (A.set k x)
 | [], _, _ => rfl
 | y :: A, 0, x => rfl
 | y :: A, k + 1, x => by
  have h := lgs_set A k x
  have e : ∀ (u v : Value) (l : List Value) (i : Nat) (a b : Value), ((u :: v :: l).set (2 * (i + 1)) a).set (2 * (i + 1) + 1) b = u :: v :: (l.set (2 * i) a).set (2 * i + 1) b := fun _ _ _ _ _ _ => rfl
  have e2 : ∀ (y : Nat) (B : List Nat), lgs (y :: B) = .int .u64 ((y / 18446744073709551616 : Nat) : Int) :: .int .u64 ((y % 18446744073709551616 : Nat) : Int) :: lgs B := fun _ _ => rfl
  rw [List.set_cons_succ, e2, e2, e, h]
namespace Ch
def sgA (o b k : Nat) : List Nat := (List.range 73).map fun w => tw (if k < w then E (sl o (b + 1)) w else E (sl o b) w)
theorem sgA_length (o b k : Nat) : (sgA o b k).length = 73 := by unfold sgA; rw [List.length_map, List.length_range]
theorem sgA_at {o b k w : Nat} (hw : w < 73) : (sgA o b k)[w]? = some (tw (if k < w then E (sl o (b + 1)) w else E (sl o b) w)) := by
 unfold sgA
 rw [List.getElem?_map, List.getElem?_range hw]
 rfl
theorem sl_len (o b : Nat) : (sl o b).length = b := (sl_pm o b).2.1
theorem sgA_start (o b : Nat) : sgA o b (b + 1) = sgA o b 72 := by
 unfold sgA
 refine List.map_congr_left fun w hw => ?_
 have hw : w < 73 := List.mem_range.1 hw
 rw [if_neg (show ¬ 72 < w by omega)]
 split
 ·rw [E_more _ _ (by rw [sl_len]; omega), E_more _ _ (by rw [sl_len]; omega)]
 ·rfl
theorem sgA_end (o b : Nat) : sgA o b 0 = sgA o (b + 1) 72 := by
 unfold sgA
 refine List.map_congr_left fun w hw => ?_
 have hw : w < 73 := List.mem_range.1 hw
 rw [if_neg (show ¬ 72 < w by omega)]
 rcases w with _ | w
 ·rw [if_neg (by omega), E_zero, E_zero]
 ·rw [if_pos (by omega)]
theorem sgA_step {o b k : Nat} (hk : k + 1 < 73) : (sgA o b (k + 1)).set (k + 1) (tw (E (sl o b) (k + 1) + (if b < o then -1 else 1) * E (sl o b) k)) = sgA o b k := by
 refine List.ext_getElem? fun i => ?_
 rcases Nat.lt_or_ge i 73 with hi | hi
 ·rw [List.getElem?_set, sgA_at hi, sgA_at hi, sgA_length]
  by_cases e : k + 1 = i
  ·subst e
   rw [if_pos rfl, if_pos hi, if_pos (show k < k + 1 by omega)]
   rfl
  ·rw [if_neg e]
   by_cases h : k < i
   ·rw [if_pos h, if_pos (by omega)]
   ·rw [if_neg h, if_neg (by omega)]
 ·rw [List.getElem?_eq_none (by rw [List.length_set, sgA_length]; exact hi), List.getElem?_eq_none (by rw [sgA_length]; exact hi)]
end Ch
end Go.Proofs.YtenokdhldngkgaaGreatDoor
namespace Go.Proofs.YtenokdhldngkgaaGreatDoor
open Go.RowKit Go.Shelf
set_option linter.unusedVariables false
set_option maxRecDepth 100000
theorem sgA_zero0 : lgs (Ch.sgA 0 0 72) = ((Tryz.zeroCells131.setIfInBounds 0 (.int .u64 0)).setIfInBounds 1 (.int .u64 1)).toList := by kernel_rfl
theorem zero83_size : Tryz.zeroCells131.size = 146 := by kernel_rfl
theorem sgA_zero (o : Nat) : lgs (Ch.sgA o 0 72) = ((Tryz.zeroCells131.setIfInBounds 0 (.int .u64 0)).setIfInBounds 1 (.int .u64 1)).toList := by
 have e : Ch.sgA o 0 72 = Ch.sgA 0 0 72 := by
  unfold Ch.sgA
  refine List.map_congr_left fun w hw => ?_
  have hw : w < 73 := List.mem_range.1 hw
  rw [if_neg (show ¬ 72 < w by omega), if_neg (show ¬ 72 < w by omega)]
  rfl
 rw [e]
 exact sgA_zero0
def sgRow (b : Nat) (A : List Nat) : Rw := ⟨some ⟨b, 0, none⟩, 146, 146, 131, lgs A⟩
set_option maxHeartbeats 2000000 in
theorem sg_start (o : Nat) (w : World) : Ow w ((w.alloc (.cells Tryz.zeroCells131 131)).alloc (.cells ((Tryz.zeroCells131.setIfInBounds 0 (.int .u64 0)).setIfInBounds 1 (.int .u64 1)) 131)) none [] [] [⟨some ⟨w.heap.size, 0, none⟩, 146, 146, 131, Tryz.zeroCells131.toList⟩, sgRow (w.heap.size + 1) (Ch.sgA o 0 72)] := by
 have h1 := zero83_size
 have H0 := (((Ow.of (St.refl w)).arr Tryz.zeroCells131 146 h1 (by omega) 131).arr ((Tryz.zeroCells131.setIfInBounds 0 (.int .u64 0)).setIfInBounds 1 (.int .u64 1)) 146 (by rw [Array.size_setIfInBounds, Array.size_setIfInBounds]; exact h1) (by omega) 131)
 simp only [List.nil_append, List.cons_append, World.size_alloc] at H0
 unfold sgRow
 rw [sgA_zero]
 exact H0
theorem Ow.lgO {w0 w : World} {g : Option Nat} {M : List (Nat × Value)} {L : List Ob} {O : List Rw} (h : Ow w0 w g M L O) (i : Nat) {gb n c x k : Nat} {e : TypeId} {A : List Nat} (hi : O[i]? = some ⟨some ⟨gb, 0, none⟩, n, c, e, lgs A⟩) (hk : A[k]? = some x) :
  w.cell? ⟨gb, k * 2, none⟩ = some (.int .u64 ((x / 18446744073709551616 : Nat) : Int)) ∧ w.cell? ⟨gb, k * 2 + 1, none⟩ = some (.int .u64 ((x % 18446744073709551616 : Nat) : Int)) := by
 have ho := h.row i hi
 have hl := own_len ho
 rw [lgs_length] at hl
 have hlt := get_lt hk
 obtain ⟨h1, h2⟩ := lgs_at hk
 rw [Nat.mul_comm 2 k] at h1 h2
 constructor
 ·rw [ho.cellAt (k * 2) (by omega)]
  simpa [List.getD] using h1
 ·rw [ho.cellAt (k * 2 + 1) (by omega)]
  simpa [List.getD] using h2
noncomputable def zr (b : Nat) : Rw := ⟨some ⟨b, 0, none⟩, 146, 146, 131, Tryz.zeroCells131.toList⟩
theorem info83 : (Tryz.prog.info? 131).map (·.size) = some 146 := by kernel_rfl
theorem lgs_one : ∀ (A : List Nat), (lgs A).all (·.oneCell') = true
 | [] => rfl
 | x :: A => by
  have h := lgs_one A
  show (true && (true && (lgs A).all (·.oneCell'))) = true
  rw [h]; rfl
def RSg (w : World) (o : Nat) (x : Value) (wr : World) : Prop := ∃ b : Nat, b ≤ 72 ∧ x = .int .i64 (b : Int) ∧ Hid (Ow w wr none [] [] [zr w.heap.size, sgRow (w.heap.size + 1) (Ch.sgA o b 72)])
def RSgh (w : World) (o b : Nat) (x : Value) (wr : World) : Prop := ∃ k : Nat, k ≤ b + 1 ∧ x = .int .i64 (k : Int) ∧ Hid (Ow w wr none [] [] [zr w.heap.size, sgRow (w.heap.size + 1) (Ch.sgA o b k)])
set_option maxHeartbeats 2000000 in
theorem signs_any (o : Nat) (ho : o ≤ 72) (w : World) :
  Calls Tryz.prog 103 #[.int .i64 (o : Int)] w fun e w' => e = .returned (.agg (lgs (Ch.sgA o 72 72)).toArray) ∧ Below w.heap.size w w' := by
 have HO := Lib.hid (sg_start o w)
 go_enter Tryz.func103, Tryz.ntmps103
 go_upto_region 3 with (fail)
 generalize hw1 : World.alloc (World.alloc w _) _ = w1
 have HO1 : Hid (Ow w w1 none [] [] [zr w.heap.size, sgRow (w.heap.size + 1) (Ch.sgA o 0 72)]) := by
  have h5 := HO.out
  rw [hw1] at h5
  exact h5
 clear hw1 HO
 go_wp2_with fail
 go_loopw [9] (fun x wr => RSg w o x wr) (fun x _ => 72 - (intOf x).toNat)
 case atStart => exact ⟨0, Nat.zero_le _, rfl, HO1.out⟩
 case round =>
  clear HO1
  obtain ⟨b, hb, rfl, HO⟩ := hrel
  rcases Nat.lt_or_ge b 72 with hlt | hge
  ·have hd : decide ((b : Int) < 72) = true := decide_eq_true (by omega)
   have HO2 : Hid (Ow w wr none [] [] [zr w.heap.size, sgRow (w.heap.size + 1) (Ch.sgA o b (b + 1))]) := by
    unfold Hid
    rw [Ch.sgA_start]
    exact HO.out
   clear HO
   go_wp2_with fail
   go_loopw [5] (fun x wr => RSgh w o b x wr) (fun x _ => (intOf x).toNat)
   case atStart => exact ⟨b + 1, Nat.le_refl _, by go_num, HO2.out⟩
   case round =>
    clear HO2
    obtain ⟨k, hk, rfl, HO⟩ := hrel
    rcases Nat.eq_zero_or_pos k with hk0 | hk0
    ·subst hk0
     have HO3 : Hid (Ow w wr none [] [] [zr w.heap.size, sgRow (w.heap.size + 1) (Ch.sgA o (b + 1) 72)]) := by
      have h5 := HO.out
      rw [Ch.sgA_end] at h5
      exact h5
     clear HO
     go_wp2_with fail
     go_roundw
     case rel => exact ⟨b + 1, by omega, by go_num, HO3.out⟩
     case measure => simp [intOf]; omega
    ·have hd2 : decide (0 < (k : Int)) = true := decide_eq_true (by omega)
     obtain ⟨x0, hx0⟩ : ∃ x, Hid (x = Ch.tw (Ch.E (Ch.sl o b) (k - 1))) := ⟨_, rfl⟩
     obtain ⟨y0, hy0⟩ : ∃ x, Hid (x = Ch.tw (Ch.E (Ch.sl o b) k)) := ⟨_, rfl⟩
     obtain ⟨c0, c1⟩ := HO.out.lgO 1 (k := k - 1) (x := x0) rfl (by rw [Ch.sgA_at (by omega), if_neg (by omega), hx0.out])
     obtain ⟨d0, d1⟩ := HO.out.lgO 1 (k := k) (x := y0) rfl (by rw [Ch.sgA_at (by omega), if_neg (by omega), hy0.out])
     have hk1 : (k : Int) - 1 = ((k - 1 : Nat) : Int) := by omega
     have hk73 : k - 1 < 73 := by omega
     obtain ⟨xh, hxh⟩ : ∃ h, x0 / 18446744073709551616 = h := ⟨_, rfl⟩
     obtain ⟨xl, hxl⟩ : ∃ h, x0 % 18446744073709551616 = h := ⟨_, rfl⟩
     rw [hxh] at c0
     rw [hxl] at c1
     have HXL : Hid (x0 / 18446744073709551616 = xh ∧ x0 % 18446744073709551616 = xl) := ⟨hxh, hxl⟩
     clear d0 d1 hxh hxl
     go_upto_region 10 with (fail)
     have HQ : Hid (Ow w (wr.alloc (.cells #[.int .u64 (xh : Int), .int .u64 (xl : Int)] 127)) none [] [] [zr w.heap.size, sgRow (w.heap.size + 1) (Ch.sgA o b k), ⟨some ⟨wr.heap.size, 0, none⟩, 2, 2, 127, [.int .u64 (xh : Int), .int .u64 (xl : Int)]⟩]) := by
      exact HO.out.arr #[.int .u64 (xh : Int), .int .u64 (xl : Int)] 2 rfl (by omega) 127
     clear c0 c1 HO
     obtain ⟨wq, hwq⟩ : ∃ z, wr.alloc (.cells #[.int .u64 (xh : Int), .int .u64 (xl : Int)] 127) = z := ⟨_, rfl⟩
     rw [hwq] at HQ
     rw [hwq]
     clear hwq
     rcases Nat.lt_or_ge b o with hbo | hbo
     ·have hbo1 : decide ((b : Int) < (o : Int)) = true := decide_eq_true (by omega)
      obtain ⟨m0, hm⟩ : ∃ z, (340282366920938463463374607431768211456 - x0) % 340282366920938463463374607431768211456 = z := ⟨_, rfl⟩
      have hm0 : Hid (m0 < 340282366920938463463374607431768211456) := by unfold Hid; omega
      have HMn : Hid (m0 = Ch.tw (-Ch.E (Ch.sl o b) (k - 1))) := by unfold Hid; rw [← hm, hx0.out, Ch.tw_neg]
      obtain ⟨mh, hmh⟩ : ∃ h, m0 / 18446744073709551616 = h := ⟨_, rfl⟩
      obtain ⟨ml, hml⟩ : ∃ h, m0 % 18446744073709551616 = h := ⟨_, rfl⟩
      have HML : Hid (m0 / 18446744073709551616 = mh ∧ m0 % 18446744073709551616 = ml) := ⟨hmh, hml⟩
      have HC := Lib.hid (lminus x0 (by rw [hx0.out]; exact Ch.tw_lt _) wq)
      unfold lg at HC
      rw [hm, HXL.out.1, HXL.out.2, hmh, hml] at HC
      clear hm hmh hml
      have e0 := (HQ.out.row 2 rfl).cellAt 0 (by decide)
      have e1 := (HQ.out.row 2 rfl).cellAt 1 (by decide)
      go_wp2_with fail
      refine HC.out.mono ?_
      rintro e wa ⟨rfl, hb4⟩
      have HQ2 := HQ.out.go hb4
      have f0 := HQ2.frzO 2 (vs := _) rfl 0
      have f1 := HQ2.frzO 2 (vs := _) rfl 1
      have n0 := (HQ2.row 2 rfl).cellAt 0 (by decide)
      have n1 := (HQ2.row 2 rfl).cellAt 1 (by decide)
      have HOm : Hid (Ow w ((wa.setCell ⟨wr.heap.size, 0, none⟩ (.int .u64 (mh : Int))).setCell ⟨wr.heap.size, 1, none⟩ (.int .u64 (ml : Int))) none [] [] [zr w.heap.size, sgRow (w.heap.size + 1) (Ch.sgA o b k), ⟨some ⟨wr.heap.size, 0, none⟩, 2, 2, 127, [.int .u64 (mh : Int), .int .u64 (ml : Int)]⟩]) := by
       exact (HQ2.put 2 rfl 0 (.int .u64 (mh : Int))).put 2 rfl 1 (.int .u64 (ml : Int))
      clear HC HQ HQ2 e0 e1 hb4
      go_wp2_with fail
      clear f0 f1 n0 n1
      obtain ⟨wm, hwm⟩ : ∃ z, (wa.setCell ⟨wr.heap.size, 0, none⟩ (.int .u64 (mh : Int))).setCell ⟨wr.heap.size, 1, none⟩ (.int .u64 (ml : Int)) = z := ⟨_, rfl⟩
      rw [hwm] at HOm
      rw [hwm]
      clear hwm
      obtain ⟨yh, hyh⟩ : ∃ h, y0 / 18446744073709551616 = h := ⟨_, rfl⟩
      obtain ⟨yl, hyl⟩ : ∃ h, y0 % 18446744073709551616 = h := ⟨_, rfl⟩
      obtain ⟨z0, hz0⟩ : ∃ z, (y0 + m0) % 340282366920938463463374607431768211456 = z := ⟨_, rfl⟩
      obtain ⟨zh, hzh⟩ : ∃ h, z0 / 18446744073709551616 = h := ⟨_, rfl⟩
      obtain ⟨zl, hzl⟩ : ∃ h, z0 % 18446744073709551616 = h := ⟨_, rfl⟩
      have cL := regrown_call (P := Tryz.prog) (w := wm) (f := 102) (args := #[.agg #[.int .u64 (yh : Int), .int .u64 (yl : Int)], .agg #[.int .u64 (mh : Int), .int .u64 (ml : Int)]]) (v := .agg #[.int .u64 (zh : Int), .int .u64 (zl : Int)]) (fun W hW => by
       have := ladd y0 m0 (by rw [hy0.out]; exact Ch.tw_lt _) hm0.out W
       unfold lg at this
       rw [hz0, hyh, hyl, HML.out.1, HML.out.2, hzh, hzl] at this
       exact this)
      obtain ⟨d0, d1⟩ := HOm.out.lgO 1 (k := k) (x := y0) rfl (by rw [Ch.sgA_at (by omega), if_neg (by omega), hy0.out])
      rw [hyh] at d0
      rw [hyl] at d1
      have e0 := (HOm.out.row 2 rfl).cellAt 0 (by decide)
      have e1 := (HOm.out.row 2 rfl).cellAt 1 (by decide)
      have k1 := cell_regrown d0
      have k2 := cell_regrown d1
      have k3 := cell_regrown e0
      have k4 := cell_regrown e1
      have HZ : Hid (z0 / 18446744073709551616 = zh ∧ z0 % 18446744073709551616 = zl ∧ (y0 + m0) % 340282366920938463463374607431768211456 = z0) := ⟨hzh, hzl, hz0⟩
      clear hzh hzl hz0 hyh hyl d0 d1 e0 e1
      have hk74 : (k : Int) < 73 := by omega
      refine region_below_tail 7 (by kernel_rfl) (by kernel_rfl) ?_
      simp only [List.take_succ_cons, List.take_zero, List.drop_succ_cons, List.drop_zero]
      repeat (quiet_step (exact cL _ _))
      refine wpQuiet_nil ?_
      intro W hW
      have hbl := regrown_below hW
      clear hW k1 k2 k3 k4 cL
      have HO5 := HOm.out.go hbl
      have G := (HO5.put 1 rfl (k * 2) (.int .u64 (zh : Int))).put 1 rfl (k * 2 + 1) (.int .u64 (zl : Int))
      have fz0 := HO5.frzO 1 (vs := _) rfl (k * 2)
      have fz1 := HO5.frzO 1 (vs := _) rfl (k * 2 + 1)
      obtain ⟨g0, g1⟩ := HO5.lgO 1 (k := k) (x := y0) rfl (by rw [Ch.sgA_at (by omega), if_neg (by omega), hy0.out])
      have HG : Hid (Ow w ((W.setCell ⟨w.heap.size + 1, k * 2, none⟩ (.int .u64 (zh : Int))).setCell ⟨w.heap.size + 1, k * 2 + 1, none⟩ (.int .u64 (zl : Int))) none [] [] [zr w.heap.size, sgRow (w.heap.size + 1) (Ch.sgA o b (k - 1))]) := by
       have G2 := G.few 2
       simp only [List.set_cons_succ, List.set_cons_zero, List.take_succ_cons, List.take_zero] at G2
       have e6 := lgs_set (Ch.sgA o b k) k z0
       rw [HZ.out.1, HZ.out.2.1, Nat.mul_comm 2 k] at e6
       rw [e6] at G2
       have e7 : (Ch.sgA o b k).set k z0 = Ch.sgA o b (k - 1) := by
        obtain ⟨j, rfl⟩ : ∃ j, k = j + 1 := ⟨k - 1, by omega⟩
        have hz : z0 = Ch.tw (Ch.E (Ch.sl o b) (j + 1) + (if b < o then -1 else 1) * Ch.E (Ch.sl o b) j) := by
         rw [← HZ.out.2.2, hy0.out, HMn.out, Ch.tw_add, Nat.add_sub_cancel, if_pos hbo, Int.neg_mul, Int.one_mul]
        rw [hz, Nat.add_sub_cancel]
        exact Ch.sgA_step (by omega)
       rw [e7] at G2
       exact G2
      clear G HO5 HOm hbl
      go_wp2_with fail
      go_roundw
      case rel => exact ⟨k - 1, by omega, by go_num, HG.out⟩
      case measure => simp [intOf]; omega
     ·have hbo1 : decide ((b : Int) < (o : Int)) = false := decide_eq_false (by omega)
      obtain ⟨m0, hm⟩ : ∃ z, x0 = z := ⟨_, rfl⟩
      have hm0 : Hid (m0 < 340282366920938463463374607431768211456) := by unfold Hid; rw [← hm, hx0.out]; exact Ch.tw_lt _
      have HMn : Hid (m0 = Ch.tw (Ch.E (Ch.sl o b) (k - 1))) := by unfold Hid; rw [← hm, hx0.out]
      obtain ⟨mh, hmh⟩ : ∃ h, xh = h := ⟨_, rfl⟩
      obtain ⟨ml, hml⟩ : ∃ h, xl = h := ⟨_, rfl⟩
      have HML : Hid (m0 / 18446744073709551616 = mh ∧ m0 % 18446744073709551616 = ml) := by rw [← hmh, ← hml, ← hm]; exact HXL.out
      rw [hmh, hml] at HQ
      have HOm := HQ
      clear hm HQ
      rw [hmh, hml]
      clear hmh hml
      go_wp2_with fail
      obtain ⟨wm, hwm⟩ : ∃ z, wq = z := ⟨_, rfl⟩
      rw [hwm] at HOm
      rw [hwm]
      clear hwm
      obtain ⟨yh, hyh⟩ : ∃ h, y0 / 18446744073709551616 = h := ⟨_, rfl⟩
      obtain ⟨yl, hyl⟩ : ∃ h, y0 % 18446744073709551616 = h := ⟨_, rfl⟩
      obtain ⟨z0, hz0⟩ : ∃ z, (y0 + m0) % 340282366920938463463374607431768211456 = z := ⟨_, rfl⟩
      obtain ⟨zh, hzh⟩ : ∃ h, z0 / 18446744073709551616 = h := ⟨_, rfl⟩
      obtain ⟨zl, hzl⟩ : ∃ h, z0 % 18446744073709551616 = h := ⟨_, rfl⟩
      have cL := regrown_call (P := Tryz.prog) (w := wm) (f := 102) (args := #[.agg #[.int .u64 (yh : Int), .int .u64 (yl : Int)], .agg #[.int .u64 (mh : Int), .int .u64 (ml : Int)]]) (v := .agg #[.int .u64 (zh : Int), .int .u64 (zl : Int)]) (fun W hW => by
       have := ladd y0 m0 (by rw [hy0.out]; exact Ch.tw_lt _) hm0.out W
       unfold lg at this
       rw [hz0, hyh, hyl, HML.out.1, HML.out.2, hzh, hzl] at this
       exact this)
      obtain ⟨d0, d1⟩ := HOm.out.lgO 1 (k := k) (x := y0) rfl (by rw [Ch.sgA_at (by omega), if_neg (by omega), hy0.out])
      rw [hyh] at d0
      rw [hyl] at d1
      have e0 := (HOm.out.row 2 rfl).cellAt 0 (by decide)
      have e1 := (HOm.out.row 2 rfl).cellAt 1 (by decide)
      have k1 := cell_regrown d0
      have k2 := cell_regrown d1
      have k3 := cell_regrown e0
      have k4 := cell_regrown e1
      have HZ : Hid (z0 / 18446744073709551616 = zh ∧ z0 % 18446744073709551616 = zl ∧ (y0 + m0) % 340282366920938463463374607431768211456 = z0) := ⟨hzh, hzl, hz0⟩
      clear hzh hzl hz0 hyh hyl d0 d1 e0 e1
      have hk74 : (k : Int) < 73 := by omega
      refine region_below_tail 7 (by kernel_rfl) (by kernel_rfl) ?_
      simp only [List.take_succ_cons, List.take_zero, List.drop_succ_cons, List.drop_zero]
      repeat (quiet_step (exact cL _ _))
      refine wpQuiet_nil ?_
      intro W hW
      have hbl := regrown_below hW
      clear hW k1 k2 k3 k4 cL
      have HO5 := HOm.out.go hbl
      have G := (HO5.put 1 rfl (k * 2) (.int .u64 (zh : Int))).put 1 rfl (k * 2 + 1) (.int .u64 (zl : Int))
      have fz0 := HO5.frzO 1 (vs := _) rfl (k * 2)
      have fz1 := HO5.frzO 1 (vs := _) rfl (k * 2 + 1)
      obtain ⟨g0, g1⟩ := HO5.lgO 1 (k := k) (x := y0) rfl (by rw [Ch.sgA_at (by omega), if_neg (by omega), hy0.out])
      have HG : Hid (Ow w ((W.setCell ⟨w.heap.size + 1, k * 2, none⟩ (.int .u64 (zh : Int))).setCell ⟨w.heap.size + 1, k * 2 + 1, none⟩ (.int .u64 (zl : Int))) none [] [] [zr w.heap.size, sgRow (w.heap.size + 1) (Ch.sgA o b (k - 1))]) := by
       have G2 := G.few 2
       simp only [List.set_cons_succ, List.set_cons_zero, List.take_succ_cons, List.take_zero] at G2
       have e6 := lgs_set (Ch.sgA o b k) k z0
       rw [HZ.out.1, HZ.out.2.1, Nat.mul_comm 2 k] at e6
       rw [e6] at G2
       have e7 : (Ch.sgA o b k).set k z0 = Ch.sgA o b (k - 1) := by
        obtain ⟨j, rfl⟩ : ∃ j, k = j + 1 := ⟨k - 1, by omega⟩
        have hz : z0 = Ch.tw (Ch.E (Ch.sl o b) (j + 1) + (if b < o then -1 else 1) * Ch.E (Ch.sl o b) j) := by
         rw [← HZ.out.2.2, hy0.out, HMn.out, Ch.tw_add, Nat.add_sub_cancel, if_neg (by omega), Int.one_mul]
        rw [hz, Nat.add_sub_cancel]
        exact Ch.sgA_step (by omega)
       rw [e7] at G2
       exact G2
      clear G HO5 HOm hbl
      go_wp2_with fail
      go_roundw
      case rel => exact ⟨k - 1, by omega, by go_num, HG.out⟩
      case measure => simp [intOf]; omega
  ·have hd : decide ((b : Int) < 72) = false := decide_eq_false (by omega)
   obtain rfl : b = 72 := by omega
   obtain ⟨hx1, hx2⟩ := HO.out.rowHeap 1 rfl
   obtain ⟨hr1, hr2⟩ := HO.out.rowHeap 0 rfl
   obtain ⟨xs, hxs⟩ : ∃ xs, xs = lgs (Ch.sgA o 72 72) := ⟨_, rfl⟩
   have hone : xs.toArray.all (·.oneCell') = true := by rw [List.all_toArray, hxs]; exact lgs_one _
   rw [← hxs] at hx1 hx2
   have HX := Lib.hid hxs
   obtain ⟨lr, hlr⟩ : ∃ lr, lr = Tryz.zeroCells131.toList := ⟨_, rfl⟩
   have HOl := HO.out
   unfold zr at HOl
   rw [← hlr] at hr1 hr2 HOl
   have hinf : (Tryz.prog.info? 131).map (·.size) = some xs.toArray.size := by rw [info83, List.size_toArray, hx2]
   have Z := HOl.putRow 0 rfl xs.toArray (by rw [List.size_toArray, hx2]) (by omega)
   simp only [List.set_cons_zero] at Z
   obtain ⟨hz1, -⟩ := Z.rowHeap 0 rfl
   have HF9 := Lib.hid Z.below
   have hsz : lr.toArray.size = xs.toArray.size := by rw [List.size_toArray, List.size_toArray, hr2, hx2]
   clear HO Z HOl hlr hxs
   go_wp2_with (first | (refine wpList_load_row rfl 131 (.tmp 3) rfl (w.heap.size + 1) rfl 131 xs.toArray (0, 0) _ hx1 Tryz.underlying131 rfl hinf ?_) | (refine wpList_store_row rfl 131 (.tmp 2) (.tmp 35) rfl w.heap.size xs.toArray rfl rfl 131 lr.toArray hr1 hinf hsz hone ?_))
   refine bodyPost_ret (v := .agg xs.toArray) (results_cell_row Tryz.results103 _ _ w.heap.size 131 xs.toArray (0, 0) _ rfl hz1 Tryz.underlying131 rfl hinf) rfl ?_
   exact ⟨by rw [HX.out], HF9.out⟩
end Go.Proofs.YtenokdhldngkgaaGreatDoor
