/- En -/
import Derived.Test.YtenokdhldngkgaaGreatDoorE17
namespace Go.Proofs.YtenokdhldngkgaaGreatDoor
open Go.RowKit Go.Sort
set_option linter.unusedVariables false
set_option maxRecDepth 100000
section
variable {w0 w w' : World} {g : Option Nat} {M M2 : List (Nat × Value)} {L : List Ob} {O : List Rw} {A A2 A3 A4 : Option Addr} {b n c m c2 n3 c3 n4 c4 x y d v f rb : Nat} {p q r s : List Int}
structure DxK (w0 : World) (g : Option Nat) (M : List (Nat × Value)) (L : List Ob) (O1 : List Rw) (cb rb pb qb sb bb nb db : Nat) (vp vq vs vb vn : Value) (D : Option Addr) (nD cD d m n v X : Nat) (Ld : Nat → Bool) (u0 u1 u2 u3 u4 u5 u6 u7 u8 u9 u11 : Value) (va : Value) (Ls : List Ob) (W : World) : Prop where
 ow : Ow w0 W g (M ++ [(rb, va), (pb, vp), (qb, vq), (sb, vs), (bb, vb), (nb, vn), (db, .slice D nD cD)]) (L ++ [(⟨D, nD, cD, nats (Na.dig X)⟩ : Ob)] ++ Ls) O1
 h0 : Ld 0 = true → u0 = .agg #[.slice D nD cD]
 h1 : Ld 1 = true → u1 = .pointer (some ⟨cb, 1, none⟩)
 h2 : Ld 2 = true → u2 = .int .i64 (d : Int)
 h3 : Ld 3 = true → u3 = .pointer (some ⟨cb, 2, none⟩)
 h4 : Ld 4 = true → u4 = .int .i64 (m : Int)
 h5 : Ld 5 = true → u5 = .int .i64 (n : Int)
 h6 : Ld 6 = true → u6 = .int .i64 (v : Int)
 h7 : GN Ld 7 u7 (Na.bin n v) Ls
 h8 : GL Ld 8 u8 [X, Na.bin n v] 2 (L ++ [(⟨D, nD, cD, nats (Na.dig X)⟩ : Ob)]) Ls
 h9 : GN Ld 9 u9 (X * Na.bin n v) Ls
 h11 : Ld 11 = true → u11 = .int .i64 0
 v0 : Ld 10 = false → va = .slice none 0 0
 v1 : GV Ld 10 va (X * Na.bin n v) Ls
def DxI (w0 : World) (g : Option Nat) (M : List (Nat × Value)) (L : List Ob) (O1 : List Rw) (cb rb pb qb sb bb nb db : Nat) (vp vq vs vb vn : Value) (D : Option Addr) (nD cD d m n v X : Nat) (A0 : Act) (Ld : Nat → Bool) (a : Act) (W : World) : Prop :=
 ∃ (u0 u1 u2 u3 u4 u5 u6 u7 u8 u9 u11 : Value) (va : Value) (Ls : List Ob), a = (((((((((((A0.put (some 88) u0).put (some 89) u1).put (some 90) u2).put (some 91) u3).put (some 92) u4).put (some 93) u5).put (some 94) u6).put (some 95) u7).put (some 96) u8).put (some 97) u9).put (some 5) u11) ∧ DxK w0 g M L O1 cb rb pb qb sb bb nb db vp vq vs vb vn D nD cD d m n v X Ld u0 u1 u2 u3 u4 u5 u6 u7 u8 u9 u11 va Ls W
structure WwE (n m v X Y Z : Nat) : Prop where
 xt : X < Na.top
 le : Y ≤ X
 zt : Z < Na.top
 bt : Na.bin n v < Na.top
 zb : Z * Na.bin n v < Na.top
 wd : Z * Na.bin n v = Ch.wd n m v
theorem WwE.of {n m v : Nat} (hv : v ≤ 40) (hn : n ≤ 40) (hvn : v ≤ n) (hm : m ≤ 8) : WwE n m v (Ch.dp m v (v + 1)) (Ch.dm m v (v + 1)) (Ch.dp m v (v + 1) - Ch.dm m v (v + 1)) := by
 have h1 := Ch.dp_two (m := m) hv (v + 1) (by omega)
 have h2 := Ch.doc_le m v (by omega)
 have h3 := Ch.wd_doc n m v (by omega)
 have h5 : (v + 1) * Ch.K370 ≤ 41 * Ch.K370 := Nat.mul_le_mul_right _ (by omega)
 have h6 : Na.bin n v ≤ 2 ^ 40 := Ch.bin40 hn
 have k1 : 41 * Ch.K370 ≤ Ch.K410 := by decide +kernel
 have hx : Ch.dp m v (v + 1) ≤ Ch.K410 := Nat.le_trans h1.1 (Nat.le_trans h5 k1)
 have k2 : Ch.K410 * 2 ^ 40 < Na.top := by decide +kernel
 refine ⟨Ch.two366 hx, h2, Ch.two366 (Nat.le_trans (Nat.sub_le _ _) hx), Nat.lt_of_le_of_lt h6 (by decide +kernel), ?_, h3⟩
 exact Nat.lt_of_le_of_lt (Nat.mul_le_mul (Nat.le_trans (Nat.sub_le _ _) hx) h6) k2
theorem Ow.m6 {a b c e k q : Nat × Value} {l : List (Nat × Value)} (h : Ow w0 w g (M ++ a :: b :: c :: e :: k :: q :: l) L O) : Ow w0 w g (M ++ [a, b, c, e, k, q]) L O := by
 have h2 : Ow w0 w g ((M ++ [a, b, c, e, k, q]) ++ l) L O := by rw [List.append_assoc]; exact h
 exact h2.fewM
def RWw (w0 : World) (g : Option Nat) (M : List (Nat × Value)) (L : List Ob) (O1 : List Rw) (rb pb qb sb bb nb : Nat) (B : Option Addr) (nB cB v m : Nat) (x : Value) (wr : World) : Prop :=
 ∃ (i : Nat) (P : Option Addr) (np cp : Nat) (Q : Option Addr) (nq cq : Nat) (S : Option Addr) (ns cs : Nat) (E : Option Addr) (nE cE : Nat), i ≤ v + 1 ∧ x = .int .i64 (i : Int) ∧
  Hid (Ow w0 wr g (M ++ [(rb, .slice none 0 0), (pb, .slice P np cp), (qb, .slice Q nq cq), (sb, .slice S ns cs), (bb, .slice B nB cB), (nb, .slice E nE cE)]) (L ++ [⟨P, np, cp, nats (Na.dig (Ch.dp m v i))⟩, ⟨Q, nq, cq, nats (Na.dig (Ch.dm m v i))⟩, ⟨S, ns, cs, nats (Na.dig (Na.bin v i))⟩, ⟨B, nB, cB, nats (Na.dig 256)⟩, ⟨E, nE, cE, nats (Na.dig (Ch.cw m (i - 1)))⟩]) O1)
theorem WwK.of {v m i : Nat} (hv : v ≤ 40) (hi : i ≤ v) : WwK v m i (Ch.dp m v i) (Ch.dm m v i) (Na.bin v i) (Ch.cw m i) (v - i) (i + 1) := by
 have h1 := Ch.dp_two (m := m) hv i (by omega)
 have h2 : Ch.cw m i * Na.bin v i ≤ Ch.K370 := Ch.dt_two (m := m) (i := i) hv (by omega)
 have h3 : Na.bin v i ≤ 2 ^ 40 := Ch.bin40 hv
 have h4 := Ch.cw_two (m := m) (i := i) (by omega)
 have h5 : i * Ch.K370 ≤ 40 * Ch.K370 := Nat.mul_le_mul_right _ (by omega)
 have h6 : Na.bin v i * (v - i) ≤ 2 ^ 40 * 40 := Nat.mul_le_mul h3 (by omega)
 have k1 : 41 * Ch.K370 ≤ Ch.K410 := by decide +kernel
 have k2 : 256 ^ 41 ≤ Ch.K410 := by decide +kernel
 have k3 : 2 ^ 40 * 40 ≤ Ch.K410 := by decide +kernel
 have k4 : 2 ^ 40 ≤ Ch.K410 := by decide +kernel
 have k5 : 41 ≤ Ch.K410 := by decide +kernel
 obtain ⟨K, hK⟩ : ∃ K, Ch.K410 = K := ⟨_, rfl⟩
 have key : ∀ {x : Nat}, x ≤ K → x < Na.top := fun hx => Ch.two366 (by rw [hK]; exact hx)
 rw [hK] at k1 k2 k3 k4 k5
 exact ⟨key (Nat.le_trans h4 k2), key (Nat.le_trans h3 k4), key (by omega), key (by omega), key (by omega), key (by omega), key (by omega), key (by omega), key (Nat.le_trans h6 k3), key (by omega), by omega, rfl, rfl, rfl, rfl, rfl, rfl⟩
set_option maxHeartbeats 16000000 in
theorem r_Words (h : Ow w0 w g M L O) (hc : Cv d m f n) (hv : v ≤ n) :
  Calls Tryz.prog 62 #[.agg #[.int .i64 2, .int .i64 (d : Int), .int .i64 (m : Int), .int .i64 (f : Int)], .int .i64 (v : Int)] w (GotO w0 g M L O (Na.dig (Ch.wd n m v)) 0) := by
 have HCv := Lib.hid hc
 have H0 := (h.code d m f).boxed (.slice none 0 0) 25
 obtain ⟨k0, k1, k2, k3⟩ := H0.cdc (O.length + 0) (by rw [get_r]; rfl)
 have HW := Lib.hid (r_checkI H0 2 d m f v)
 rw [eI_ok hc hv] at HW
 unfold cdI at HW
 have hni := hc.ni
 have hn40 := hc.n40
 have hvn : v ≤ 40 := by omega
 have HVn := Lib.hid hv
 have hm8 : m ≤ 8 := hc.cd.m2
 clear h H0 hv hc
 go_enter Tryz.func62, Tryz.ntmps62
 go_wp2_with fail
 refine HW.out.mono ?_
 rintro en w1 ⟨rfl, G⟩
 have H1 := (((G.boxed (.slice none 0 0) 25).boxed (.slice none 0 0) 25).nil').nil'
 have hci : (O ++ [(⟨some ⟨w.heap.size, 0, none⟩, 4, 4, 57, (cdv d m f).toList⟩ : Rw)])[O.length + 0]? = some ⟨some ⟨w.heap.size, 0, none⟩, 4, 4, 57, (cdv d m f).toList⟩ := by rw [get_r]; rfl
 try simp only [World.size_alloc] at H1
 try simp only [List.append_assoc] at H1
 try simp only [List.cons_append] at H1
 try simp only [List.nil_append] at H1
 obtain ⟨O1, hO1⟩ : ∃ O1, O ++ [(⟨some ⟨w.heap.size, 0, none⟩, 4, 4, 57, (cdv d m f).toList⟩ : Rw)] = O1 := ⟨_, rfl⟩
 try rw [hO1] at H1
 rw [hO1] at hci
 have HCI := Lib.hid hci
 have HO1 := Lib.hid hO1
 have HC := Lib.hid (r8_power H1 1 1 (by omega) (by omega) (by decide +kernel))
 clear HW G H1 hci hO1 k0 k1 k2 k3
 go_wp2_with fail
 refine HC.out.mono ?_
 rintro en w2 ⟨B1, m1, d1, rfl, G⟩
 have HC2 := Lib.hid (r8_power G 256 1 (by omega) (by omega) (by decide +kernel))
 clear HC G
 go_wp2_with fail
 refine HC2.out.mono ?_
 rintro en w3 ⟨B, nB, cB, rfl, G⟩
 have H3 := (G.boxed (.slice B1 m1 d1) 25).boxed (.slice B nB cB) 25
 try simp only [World.size_alloc] at H3
 try simp only [List.append_assoc] at H3
 try simp only [List.cons_append] at H3
 try simp only [List.nil_append] at H3
 have HC3 := Lib.hid (r8_power H3 1 1 (by omega) (by omega) (by decide +kernel))
 clear HC2 G H3
 go_wp2_with fail
 refine HC3.out.mono ?_
 rintro en w4 ⟨B3, m3, d3, rfl, G⟩
 have H4 := G.boxed (.slice B3 m3 d3) 25
 try simp only [World.size_alloc] at H4
 try simp only [List.append_assoc] at H4
 try simp only [List.cons_append] at H4
 try simp only [List.nil_append] at H4
 have HO := Lib.hid H4
 clear HC3 G H4
 go_wp2_with fail
 go_loopw [12] (fun x wr => RWw w0 g M L O1 (w.heap.size + 1) w1.heap.size (w1.heap.size + 1) w3.heap.size (w3.heap.size + 1) w4.heap.size B nB cB v m x wr) (fun x _ => 43 - (intOf x).toNat)
 case atStart =>
  refine ⟨0, none, 0, 0, none, 0, 0, B1, m1, d1, B3, m3, d3, by omega, rfl, ?_⟩
  unfold Hid
  rw [Na.bin_zero, show Ch.cw m (0 - 1) = 1 from if_pos (Nat.zero_le _)]
  exact HO.out
 case round =>
  clear HO
  obtain ⟨i, P, np, cp, Q, nq, cq, S, ns, cs, E, nE, cE, hi, rfl, HO⟩ := hrel
  obtain ⟨k0, k1, k2, k3⟩ := HO.out.cdc (O.length + 0) HCI.out
  rcases Nat.lt_or_ge i (v + 1) with hlt | hge
  ·have hd : decide ((i : Int) ≤ (v : Int)) = true := decide_eq_true (by omega)
   have hd2 : decide (i ≤ v) = true := decide_eq_true (by omega)
   have HB0 := Lib.hid (WwK.of (m := m) hvn (show i ≤ v by omega))
   have HB : Hid (WwK v m i (Ch.dp m v i) (Ch.dm m v i) (Na.bin v i) (Ch.cw m i) (v - i) (i + 1)) := HB0
   obtain ⟨X, hX⟩ : ∃ z, Ch.dp m v i = z := ⟨_, rfl⟩
   obtain ⟨Y, hY⟩ : ∃ z, Ch.dm m v i = z := ⟨_, rfl⟩
   obtain ⟨T, hT⟩ : ∃ z, Na.bin v i = z := ⟨_, rfl⟩
   obtain ⟨N, hN⟩ : ∃ z, Ch.cw m i = z := ⟨_, rfl⟩
   obtain ⟨u, hu⟩ : ∃ z, v - i = z := ⟨_, rfl⟩
   obtain ⟨i2, hi2⟩ : ∃ z, i + 1 = z := ⟨_, rfl⟩
   rw [hX, hY, hT, hN, hu, hi2] at HB
   rw [hX, hY, hT] at HO
   have hui : IntKind.i64.wrap ((v : Int) - (i : Int)) = (u : Int) := by rw [IntWalk.i64_in _ (by omega)]; omega
   have hi2w : IntKind.i64.wrap ((i : Int) + 1) = (i2 : Int) := by rw [IntWalk.i64_in _ (by omega)]; omega
   clear HB0 hX hY hT
   have hu40 : u ≤ 40 := by omega
   have hi41 : i2 ≤ 41 := by omega
   have HI := Lib.hid (show i2 ≤ v + 1 ∧ i + 1 = i2 by omega)
   go_upto_if 37 with (fail)
   go_cut [] from 29 to 81 (fun wx => ∃ (E2 : Option Addr) (nE2 cE2 : Nat), Hid (Ow w0 wx g (M ++ [(w.heap.size + 1, .slice none 0 0), (w1.heap.size, .slice P np cp), (w1.heap.size + 1, .slice Q nq cq), (w3.heap.size, .slice S ns cs), (w3.heap.size + 1, .slice B nB cB), (w4.heap.size, .slice E2 nE2 cE2)]) (L ++ [⟨P, np, cp, nats (Na.dig X)⟩, ⟨Q, nq, cq, nats (Na.dig Y)⟩, ⟨S, ns, cs, nats (Na.dig T)⟩, ⟨B, nB, cB, nats (Na.dig 256)⟩, ⟨E2, nE2, cE2, nats (Na.dig N)⟩]) O1))
   case first =>
    rcases Nat.lt_or_ge m i with hmi | hmi
    ·have hg : decide ((m : Int) < (i : Int)) = true := decide_eq_true (by omega)
     have hg2 : decide (m < i) = true := decide_eq_true hmi
     have HNw : Hid (Ch.cw m (i - 1) * 256 = N) := by unfold Hid; rw [Ch.cw_more hmi, hN]
     have HNt : Hid (Ch.cw m (i - 1) < Na.top) := Nat.lt_of_le_of_lt (Ch.cw_two (by omega)) (by decide +kernel)
     have c5 := HO.out.cell (M.length + 5) (by rw [get_r]; rfl)
     have c4 := HO.out.cell (M.length + 4) (by rw [get_r]; rfl)
     have G3 := HO.out.push (World.ownsRow_lit (base := wr.heap.size) (e := 25) (size := 1) wr #[.slice E nE cE, .slice B nB cB] 2 (Nat.le_refl _) (by decide) rfl) (by omega) (own_box1 _ _)
     simp only [List.append_assoc, List.cons_append, List.nil_append] at G3
     have HC := Lib.hid (r8_mul2 G3 (L.length + 5) (by rw [get_r]; rfl) (Nums.two (t1 := L.length + 4) (t2 := L.length + 3) (by rw [get_r]; rfl) (by rw [get_r]; rfl)) HNt.out (byte_top (by omega)) (by rw [HNw.out]; exact HB.out.nt))
     rw [HNw.out] at HC
     clear G3 hN hlt
     go_wp2_with fail
     refine HC.out.mono ?_
     rintro en w5 ⟨E2, nE2, cE2, rfl, G⟩
     have f5 := G.free (M.length + 5) (by rw [get_r]; rfl)
     have g5 := G.cell (M.length + 5) (by rw [get_r]; rfl)
     have Z := G.setv (M.length + 5) (by rw [get_r]; rfl) (.slice E2 nE2 cE2)
     rw [set_r] at Z
     simp only [List.set_cons_succ, List.set_cons_zero] at Z
     simp only [List.append_assoc, List.cons_append, List.nil_append] at Z
     have HOn := Lib.hid (Z.less (L' := L ++ [⟨P, np, cp, nats (Na.dig X)⟩, ⟨Q, nq, cq, nats (Na.dig Y)⟩, ⟨S, ns, cs, nats (Na.dig T)⟩, ⟨B, nB, cB, nats (Na.dig 256)⟩, ⟨E2, nE2, cE2, nats (Na.dig N)⟩]) (fun o ho => by
      rcases List.mem_append.1 ho with h | h
      ·exact List.mem_append_left _ h
      ·simp only [List.mem_cons, List.mem_nil_iff, or_false] at h
       rcases h with rfl | rfl | rfl | rfl | rfl
       ·exact List.mem_append_right _ (List.mem_of_getElem? (i := 0) rfl)
       ·exact List.mem_append_right _ (List.mem_of_getElem? (i := 1) rfl)
       ·exact List.mem_append_right _ (List.mem_of_getElem? (i := 2) rfl)
       ·exact List.mem_append_right _ (List.mem_of_getElem? (i := 3) rfl)
       ·exact List.mem_append_right _ (List.mem_of_getElem? (i := 6) rfl)))
     clear HC HO G Z c4 c5 k0 k1 k2 k3
     go_wp2_with fail
     go_meet
     exact ⟨E2, nE2, cE2, HOn⟩
    ·have hg : decide ((m : Int) < (i : Int)) = false := decide_eq_false (by omega)
     have hg2 : decide (m < i) = false := decide_eq_false (by omega)
     rw [Ch.cw_one hmi, hN] at HO
     have HOn := HO
     clear HO hN hlt
     go_wp2_with fail
     go_meet
     exact ⟨E, nE, cE, HOn⟩
   case rest =>
    clear HO k0 k1 k2 k3 hN hlt
    obtain ⟨E2, nE2, cE2, HOn⟩ := hcut
    rcases Nat.mod_two_eq_zero_or_one u with hpar | hpar
    ·have p1 : (u : Int) % 2 = 0 := by omega
     have p2 : (u : Int).tmod 2 = 0 := by rw [Int.tmod_eq_emod_of_nonneg (by omega)]; exact p1
     have HS := Lib.hid (Ch.dp_even (m := m) (v := v) (i := i) (by rw [hu]; exact hpar))
     clear hpar hu hi2
     go_wp2_with fail
     refine reg_inv34 (DpI w0 g M L O1 (w.heap.size + 1) w1.heap.size (w1.heap.size + 1) w3.heap.size (w3.heap.size + 1) w4.heap.size P np cp Q nq cq S ns cs B nB cB E2 nE2 cE2 v i X Y T N) (by kernel_rfl) (by kernel_rfl) ?_ ?_ ?_
     ·refine ⟨u47, u48, u49, u50, u51, u52, .slice P np cp, [], ?_, ⟨by rw [List.append_nil]; exact HOn.out.drew, ?_, ?_, ?_, ?_, ?_, ?_, fun _ => rfl, ?_⟩⟩
      ·simp only [Act.put, zT, zZ, zS]
      all_goals (intro h; cases h)
     ·rintro jj Ld b W hj hf hcl hd ⟨u0, u1, u2, u3, u4, u5, va, Ls, rfl, hC⟩
      have hj' : jj < 7 := hj
      have hcase : jj = 0 ∨ jj = 1 ∨ jj = 2 ∨ jj = 3 ∨ jj = 4 ∨ jj = 5 ∨ jj = 6 := by omega
      have qa := hC.ow.cell (M.length + 1) (by rw [get_r]; rfl)
      have qz := hC.ow.free (M.length + 1) (by rw [get_r]; rfl)
      have qs := hC.ow.cell (M.length + 3) (by rw [get_r]; rfl)
      have qn := hC.ow.cell (M.length + 5) (by rw [get_r]; rfl)
      clear hj hj'
      simp only [Act.put, zT, zZ, zS]
      rcases hcase with rfl | rfl | rfl | rfl | rfl | rfl | rfl
      ·have g5 : Ld 5 = false := by cases e : Ld 5 with | false => rfl | true => (rw [hcl 5 0 e (by kernel_rfl)] at hf; cases hf)
       have g6 : Ld 6 = false := by cases e : Ld 6 with | false => rfl | true => (rw [hcl 6 5 e (by kernel_rfl)] at g5; cases g5)
       obtain rfl := hC.v0 g6
       clear hd hcl
       refine wpOp_step rfl (fun K hK => ?_)
       go_simp
       refine hK _ _ ⟨_, u1, u2, u3, u4, u5, _, Ls, ?_, ⟨hC.ow, fun _ => rfl, hC.h1, hC.h2, hC.h3, hC.h4, hC.h5, hC.v0, hC.v1⟩⟩
       simp only [Act.put, zT, zZ, zS]
      ·clear hd hcl
       refine wpOp_step rfl (fun K hK => ?_)
       go_simp
       refine hK _ _ ⟨u0, _, u2, u3, u4, u5, va, Ls, ?_, ⟨hC.ow, hC.h0, fun _ => rfl, hC.h2, hC.h3, hC.h4, hC.h5, hC.v0, hC.v1⟩⟩
       simp only [Act.put, zT, zZ, zS]
      ·clear hd hcl
       refine wpOp_step rfl (fun K hK => ?_)
       go_simp
       refine hK _ _ ⟨u0, u1, _, u3, u4, u5, va, Ls, ?_, ⟨hC.ow, hC.h0, hC.h1, fun _ => rfl, hC.h3, hC.h4, hC.h5, hC.v0, hC.v1⟩⟩
       simp only [Act.put, zT, zZ, zS]
      ·obtain rfl := hC.h1 (hd 1 (by kernel_rfl))
       obtain rfl := hC.h2 (hd 2 (by kernel_rfl))
       clear hd hcl
       refine wpOp_step rfl (fun K hK => ?_)
       go_simp
       have ho := hC.ow.push (World.ownsRow_lit (base := W.heap.size) (e := 25) (size := 1) W #[.slice E2 nE2 cE2, .slice S ns cs] 2 (Nat.le_refl _) (by decide) rfl) (by omega) (own_box1 _ _)
       rw [List.append_assoc _ Ls] at ho
       refine hK _ _ ⟨u0, _, _, _, u4, u5, va, _, ?_, ⟨ho, hC.h0, hC.h1, hC.h2, GL.new _ _ _ _ _ _ _ (Nums.two (t1 := L.length + 4) (t2 := L.length + 2) ((get_l _ _ (by simp)).trans ((get_r _ _ 4).trans rfl)) ((get_l _ _ (by simp)).trans ((get_r _ _ 2).trans rfl))), hC.h4.more, hC.h5.more, hC.v0, hC.v1.more⟩⟩
       simp only [Act.put, zT, zZ, zS]
      ·obtain ⟨t3, A3, vs3, rfl, r3, m3⟩ := hC.h3 (hd 3 (by kernel_rfl))
       have R3 := hC.ow.got r3
       clear hd hcl
       refine wpOp_step rfl (fun K hK => ?_)
       go_simp
       refine (r8_mul2 hC.ow _ R3 m3 HB.out.nt HB.out.st HB.out.tt).mono ?_
       rintro e W' ⟨Az, nz, cz, rfl, ho⟩
       rw [List.append_assoc _ Ls] at ho
       refine hK _ _ ⟨u0, u1, u2, _, _, u5, va, _, ?_, ⟨ho, hC.h0, hC.h1, hC.h2, hC.h3.more, GN.new _ _ _ _ _ _ _, hC.h5.more, hC.v0, hC.v1.more⟩⟩
       simp only [Act.put, zT, zZ, zS]
      ·obtain rfl := hC.h0 (hd 0 (by kernel_rfl))
       obtain ⟨t4, A4, n4, c4, rfl, r4⟩ := hC.h4 (hd 4 (by kernel_rfl))
       have R4 := hC.ow.got r4
       clear hd hcl
       refine wpOp_step rfl (fun K hK => ?_)
       go_simp
       refine (r8_add hC.ow (L.length + 0) _ ((get_l _ _ (by simp)).trans ((get_r _ _ 0).trans rfl)) R4 HB.out.pt HB.out.tt HB.out.ps).mono ?_
       rintro e W' ⟨Az, nz, cz, rfl, ho⟩
       rw [List.append_assoc _ Ls] at ho
       refine hK _ _ ⟨_, u1, u2, u3, _, _, va, _, ?_, ⟨ho, hC.h0, hC.h1, hC.h2, hC.h3.more, hC.h4.more, GN.new _ _ _ _ _ _ _, hC.v0, hC.v1.more⟩⟩
       simp only [Act.put, zT, zZ, zS]
      ·obtain ⟨t5, A5, n5, c5, rfl, r5⟩ := hC.h5 (hd 5 (by kernel_rfl))
       have R5 := hC.ow.got r5
       clear hd hcl
       refine wpOp_step rfl (fun K hK => ?_)
       go_simp
       have ho := hC.ow.setv (M.length + 1) (by rw [get_r]; rfl) (.slice A5 n5 c5)
       rw [set_r, List.set_cons_succ, List.set_cons_zero] at ho
       refine hK _ _ ⟨u0, u1, u2, u3, u4, _, _, Ls, ?_, ⟨ho, hC.h0, hC.h1, hC.h2, hC.h3, hC.h4, hC.h5, fun e => absurd (show true = false from e) (by decide), fun _ => ⟨t5, A5, n5, c5, rfl, r5⟩⟩⟩
       simp only [Act.put, zT, zZ, zS]
     ·rintro Ld b W hL ⟨u0, u1, u2, u3, u4, u5, va, Ls, rfl, hC⟩
      obtain ⟨tp, Ap, np2, cp2, rfl, rp⟩ := hC.v1 (hL 6 (by show 6 < 7; decide))
      have G0 := hC.ow
      have HC1 := Lib.hid (rof_z G0 u (by omega))
      simp only [Act.put, zT, zZ, zS]
      clear hC HOn
      go_wp2_with fail
      refine HC1.out.mono ?_
      rintro en w6 ⟨U, nU, cU, rfl, G⟩
      have G1 := G.boxed (.slice U nU cU) 25
      have HC2 := Lib.hid (rof_z G1 i2 (by omega))
      clear HC1 G G1
      go_wp2_with fail
      refine HC2.out.mono ?_
      rintro en w7 ⟨D, nD, cD, rfl, G⟩
      have G2 := G.boxed (.slice D nD cD) 25
      simp only [List.append_assoc, List.cons_append, List.nil_append] at G2
      have HOd := Lib.hid (G2.less (L' := L ++ [⟨Ap, np2, cp2, nats (Na.dig (X + N * T))⟩, ⟨Q, nq, cq, nats (Na.dig Y)⟩, ⟨S, ns, cs, nats (Na.dig T)⟩, ⟨B, nB, cB, nats (Na.dig 256)⟩, ⟨E2, nE2, cE2, nats (Na.dig N)⟩, ⟨U, nU, cU, nats (Na.dig u)⟩, ⟨D, nD, cD, nats (Na.dig i2)⟩]) (fun o ho => by
       rcases List.mem_append.1 ho with h | h
       ·exact List.mem_append_left _ h
       ·simp only [List.mem_cons, List.mem_nil_iff, or_false] at h
        rcases h with rfl | rfl | rfl | rfl | rfl | rfl | rfl
        ·exact List.mem_append_right _ (List.mem_cons_of_mem _ (List.mem_cons_of_mem _ (List.mem_cons_of_mem _ (List.mem_cons_of_mem _ (List.mem_cons_of_mem _ (List.mem_append_left _ (List.mem_of_getElem? rp)))))))
        ·exact List.mem_append_right _ (List.mem_of_getElem? (i := 1) rfl)
        ·exact List.mem_append_right _ (List.mem_of_getElem? (i := 2) rfl)
        ·exact List.mem_append_right _ (List.mem_of_getElem? (i := 3) rfl)
        ·exact List.mem_append_right _ (List.mem_of_getElem? (i := 4) rfl)
        ·exact List.mem_append_right _ (List.mem_cons_of_mem _ (List.mem_cons_of_mem _ (List.mem_cons_of_mem _ (List.mem_cons_of_mem _ (List.mem_cons_of_mem _ (List.mem_append_right _ (List.mem_of_getElem? (i := 0) rfl)))))))
        ·exact List.mem_append_right _ (List.mem_cons_of_mem _ (List.mem_cons_of_mem _ (List.mem_cons_of_mem _ (List.mem_cons_of_mem _ (List.mem_cons_of_mem _ (List.mem_append_right _ (List.mem_of_getElem? (i := 1) rfl)))))))))
      clear HC2 G G2
      go_wp2_with fail
      refine reg_inv34 (DvI w0 g M L O1 (w.heap.size + 1) w1.heap.size (w1.heap.size + 1) w3.heap.size (w3.heap.size + 1) w4.heap.size w6.heap.size w7.heap.size Ap np2 cp2 Q nq cq S ns cs B nB cB E2 nE2 cE2 U nU cU D nD cD v i (X + N * T) Y T N u i2) (by kernel_rfl) (by kernel_rfl) ?_ ?_ ?_
      ·refine ⟨u73, u74, u75, u76, u77, u78, u72, u79, u80, u81, .slice S ns cs, [], ?_, ⟨by rw [List.append_nil]; exact HOd.out.drew, ?_, ?_, ?_, ?_, ?_, ?_, ?_, ?_, ?_, ?_, fun _ => rfl, ?_⟩⟩
       ·simp only [Act.put, zT, zZ, zS]
       all_goals (intro h; cases h)
      ·rintro jj Ld b W hj hf hcl hd ⟨u0, u1, u2, u3, u4, u5, u6, u7, u8, u9, va, Ls, rfl, hC⟩
       have hj' : jj < 11 := hj
       have hcase : jj = 0 ∨ jj = 1 ∨ jj = 2 ∨ jj = 3 ∨ jj = 4 ∨ jj = 5 ∨ jj = 6 ∨ jj = 7 ∨ jj = 8 ∨ jj = 9 ∨ jj = 10 := by omega
       have qa := hC.ow.cell (M.length + 3) (by rw [get_r]; rfl)
       have qz := hC.ow.free (M.length + 3) (by rw [get_r]; rfl)
       have qu := hC.ow.cell (M.length + 6) (by rw [get_r]; rfl)
       have qd := hC.ow.cell (M.length + 7) (by rw [get_r]; rfl)
       clear hj hj'
       simp only [Act.put, zT, zZ, zS]
       rcases hcase with rfl | rfl | rfl | rfl | rfl | rfl | rfl | rfl | rfl | rfl | rfl
       ·have g2 : Ld 2 = false := by cases e : Ld 2 with | false => rfl | true => (rw [hcl 2 0 e (by kernel_rfl)] at hf; cases hf)
        have g3 : Ld 3 = false := by cases e : Ld 3 with | false => rfl | true => (rw [hcl 3 2 e (by kernel_rfl)] at g2; cases g2)
        have g5 : Ld 5 = false := by cases e : Ld 5 with | false => rfl | true => (rw [hcl 5 3 e (by kernel_rfl)] at g3; cases g3)
        have g6 : Ld 6 = false := by cases e : Ld 6 with | false => rfl | true => (rw [hcl 6 5 e (by kernel_rfl)] at g5; cases g5)
        have g7 : Ld 7 = false := by cases e : Ld 7 with | false => rfl | true => (rw [hcl 7 6 e (by kernel_rfl)] at g6; cases g6)
        have g10 : Ld 10 = false := by cases e : Ld 10 with | false => rfl | true => (rw [hcl 10 7 e (by kernel_rfl)] at g7; cases g7)
        obtain rfl := hC.v0 g10
        clear hd hcl
        refine wpOp_step rfl (fun K hK => ?_)
        go_simp
        refine hK _ _ ⟨_, u1, u2, u3, u4, u5, u6, u7, u8, u9, _, Ls, ?_, ⟨hC.ow, fun _ => rfl, hC.h1, hC.h2, hC.h3, hC.h4, hC.h5, hC.h6, hC.h7, fun _ => trivial, hC.h9, hC.v0, hC.v1⟩⟩
        simp only [Act.put, zT, zZ, zS]
       ·clear hd hcl
        refine wpOp_step rfl (fun K hK => ?_)
        go_simp
        refine hK _ _ ⟨u0, _, u2, u3, u4, u5, u6, u7, u8, u9, va, Ls, ?_, ⟨hC.ow, hC.h0, fun _ => rfl, hC.h2, hC.h3, hC.h4, hC.h5, hC.h6, hC.h7, fun _ => trivial, hC.h9, hC.v0, hC.v1⟩⟩
        simp only [Act.put, zT, zZ, zS]
       ·obtain rfl := hC.h0 (hd 0 (by kernel_rfl))
        obtain rfl := hC.h1 (hd 1 (by kernel_rfl))
        clear hd hcl
        refine wpOp_step rfl (fun K hK => ?_)
        go_simp
        have ho := hC.ow.push (World.ownsRow_lit (base := W.heap.size) (e := 25) (size := 1) W #[.slice S ns cs, .slice U nU cU] 2 (Nat.le_refl _) (by decide) rfl) (by omega) (own_box1 _ _)
        rw [List.append_assoc _ Ls] at ho
        refine hK _ _ ⟨_, _, _, u3, u4, u5, u6, u7, u8, u9, va, _, ?_, ⟨ho, hC.h0, hC.h1, GL.new _ _ _ _ _ _ _ (Nums.two (t1 := L.length + 2) (t2 := L.length + 5) ((get_l _ _ (by simp)).trans ((get_r _ _ 2).trans rfl)) ((get_l _ _ (by simp)).trans ((get_r _ _ 5).trans rfl))), hC.h3.more, hC.h4, hC.h5.more, hC.h6.more, hC.h7.more, fun _ => trivial, hC.h9, hC.v0, hC.v1.more⟩⟩
        simp only [Act.put, zT, zZ, zS]
       ·obtain ⟨t2, A2, vs2, rfl, r2, m2⟩ := hC.h2 (hd 2 (by kernel_rfl))
        have R2 := hC.ow.got r2
        clear hd hcl
        refine wpOp_step rfl (fun K hK => ?_)
        go_simp
        refine (r8_mul2 hC.ow _ R2 m2 HB.out.st HB.out.ut HB.out.su).mono ?_
        rintro e W' ⟨Az, nz, cz, rfl, ho⟩
        rw [List.append_assoc _ Ls] at ho
        refine hK _ _ ⟨u0, u1, _, _, u4, u5, u6, u7, u8, u9, va, _, ?_, ⟨ho, hC.h0, hC.h1, hC.h2.more, GN.new _ _ _ _ _ _ _, hC.h4, hC.h5.more, hC.h6.more, hC.h7.more, fun _ => trivial, hC.h9, hC.v0, hC.v1.more⟩⟩
        simp only [Act.put, zT, zZ, zS]
       ·clear hd hcl
        refine wpOp_step rfl (fun K hK => ?_)
        go_simp
        refine hK _ _ ⟨u0, u1, u2, u3, _, u5, u6, u7, u8, u9, va, Ls, ?_, ⟨hC.ow, hC.h0, hC.h1, hC.h2, hC.h3, fun _ => rfl, hC.h5, hC.h6, hC.h7, fun _ => trivial, hC.h9, hC.v0, hC.v1⟩⟩
        simp only [Act.put, zT, zZ, zS]
       ·obtain ⟨t3, A3, n3, c3, rfl, r3⟩ := hC.h3 (hd 3 (by kernel_rfl))
        have R3 := hC.ow.got r3
        obtain rfl := hC.h4 (hd 4 (by kernel_rfl))
        clear hd hcl
        refine wpOp_step rfl (fun K hK => ?_)
        go_simp
        refine (rdiv_z hC.ow _ (L.length + 6) R3 ((get_l _ _ (by simp)).trans ((get_r _ _ 6).trans rfl)) HB.out.su HB.out.it HB.out.i0).mono ?_
        rintro e W' ⟨Az, nz, cz, Bz, mz, dz, rfl, ho⟩
        rw [List.append_assoc (L ++ [(⟨Ap, np2, cp2, nats (Na.dig (X + N * T))⟩ : Ob), (⟨Q, nq, cq, nats (Na.dig Y)⟩ : Ob), (⟨S, ns, cs, nats (Na.dig T)⟩ : Ob), (⟨B, nB, cB, nats (Na.dig 256)⟩ : Ob), (⟨E2, nE2, cE2, nats (Na.dig N)⟩ : Ob), (⟨U, nU, cU, nats (Na.dig u)⟩ : Ob), (⟨D, nD, cD, nats (Na.dig i2)⟩ : Ob)] ++ Ls), List.append_assoc (L ++ [(⟨Ap, np2, cp2, nats (Na.dig (X + N * T))⟩ : Ob), (⟨Q, nq, cq, nats (Na.dig Y)⟩ : Ob), (⟨S, ns, cs, nats (Na.dig T)⟩ : Ob), (⟨B, nB, cB, nats (Na.dig 256)⟩ : Ob), (⟨E2, nE2, cE2, nats (Na.dig N)⟩ : Ob), (⟨U, nU, cU, nats (Na.dig u)⟩ : Ob), (⟨D, nD, cD, nats (Na.dig i2)⟩ : Ob)]) Ls, List.singleton_append] at ho
        refine hK _ _ ⟨u0, u1, u2, _, _, (.tuple #[.agg #[.slice Az nz cz], .agg #[.slice Bz mz dz], .int .i64 0]), u6, u7, u8, u9, va, _, ?_, ⟨ho, hC.h0, hC.h1, hC.h2.more, hC.h3.more, hC.h4, GD.new _ _ Az nz cz Bz mz dz _ _ _, hC.h6.more, hC.h7.more, fun _ => trivial, hC.h9, hC.v0, hC.v1.more⟩⟩
        simp only [Act.put, zT, zZ, zS]
       ·obtain ⟨t5, A5, n5, c5, B5, m5, d5, rfl, r5⟩ := hC.h5 (hd 5 (by kernel_rfl))
        clear hd hcl
        refine wpOp_step rfl (fun K hK => ?_)
        go_simp
        refine hK _ _ ⟨u0, u1, u2, u3, u4, _, _, u7, u8, u9, va, Ls, ?_, ⟨hC.ow, hC.h0, hC.h1, hC.h2, hC.h3, hC.h4, hC.h5, fun _ => ⟨t5, A5, n5, c5, B5, m5, d5, rfl, r5⟩, hC.h7, fun _ => trivial, hC.h9, hC.v0, hC.v1⟩⟩
        simp only [Act.put, zT, zZ, zS]
       ·obtain ⟨t6, A6, n6, c6, B6, m6, d6, rfl, r6⟩ := hC.h6 (hd 6 (by kernel_rfl))
        clear hd hcl
        refine wpOp_step rfl (fun K hK => ?_)
        go_simp
        refine hK _ _ ⟨u0, u1, u2, u3, u4, u5, _, _, u8, u9, va, Ls, ?_, ⟨hC.ow, hC.h0, hC.h1, hC.h2, hC.h3, hC.h4, hC.h5, hC.h6, fun _ => ⟨t6, A6, n6, c6, rfl, r6⟩, fun _ => trivial, hC.h9, hC.v0, hC.v1⟩⟩
        simp only [Act.put, zT, zZ, zS]
       ·obtain ⟨t6, A6, n6, c6, B6, m6, d6, rfl, r6⟩ := hC.h6 (hd 6 (by kernel_rfl))
        clear hd hcl
        refine wpOp_step rfl (fun K hK => ?_)
        go_simp
        refine hK _ _ ⟨u0, u1, u2, u3, u4, u5, _, u7, (.agg #[.slice B6 m6 d6]), u9, va, Ls, ?_, ⟨hC.ow, hC.h0, hC.h1, hC.h2, hC.h3, hC.h4, hC.h5, hC.h6, hC.h7, fun _ => trivial, hC.h9, hC.v0, hC.v1⟩⟩
        simp only [Act.put, zT, zZ, zS]
       ·obtain ⟨t6, A6, n6, c6, B6, m6, d6, rfl, r6⟩ := hC.h6 (hd 6 (by kernel_rfl))
        clear hd hcl
        refine wpOp_step rfl (fun K hK => ?_)
        go_simp
        refine hK _ _ ⟨u0, u1, u2, u3, u4, u5, _, u7, u8, _, va, Ls, ?_, ⟨hC.ow, hC.h0, hC.h1, hC.h2, hC.h3, hC.h4, hC.h5, hC.h6, hC.h7, fun _ => trivial, fun _ => rfl, hC.v0, hC.v1⟩⟩
        simp only [Act.put, zT, zZ, zS]
       ·obtain ⟨t7, A7, n7, c7, rfl, r7⟩ := hC.h7 (hd 7 (by kernel_rfl))
        clear hd hcl
        refine wpOp_step rfl (fun K hK => ?_)
        go_simp
        have ho := hC.ow.setv (M.length + 3) (by rw [get_r]; rfl) (.slice A7 n7 c7)
        rw [set_r, List.set_cons_succ, List.set_cons_succ, List.set_cons_succ, List.set_cons_zero] at ho
        refine hK _ _ ⟨u0, u1, u2, u3, u4, u5, u6, _, u8, u9, _, Ls, ?_, ⟨ho, hC.h0, hC.h1, hC.h2, hC.h3, hC.h4, hC.h5, hC.h6, hC.h7, fun _ => trivial, hC.h9, fun e => absurd (show true = false from e) (by decide), fun _ => ⟨t7, A7, n7, c7, rfl, r7⟩⟩⟩
        simp only [Act.put, zT, zZ, zS]
      ·rintro Ld b W hL ⟨u0, u1, u2, u3, u4, u5, u6, u7, u8, u9, va, Ls, rfl, hC⟩
       obtain ⟨tz, Az, nz, cz, rfl, rz⟩ := hC.v1 (hL 10 (by show 10 < 11; decide))
       have HG : Hid (Ow w0 W g (M ++ [(w.heap.size + 1, .slice none 0 0), (w1.heap.size, .slice Ap np2 cp2), (w1.heap.size + 1, .slice Q nq cq), (w3.heap.size, .slice Az nz cz), (w3.heap.size + 1, .slice B nB cB), (w4.heap.size, .slice E2 nE2 cE2)]) (L ++ [⟨Ap, np2, cp2, nats (Na.dig (Ch.dp m v i2))⟩, ⟨Q, nq, cq, nats (Na.dig (Ch.dm m v i2))⟩, ⟨Az, nz, cz, nats (Na.dig (Na.bin v i2))⟩, ⟨B, nB, cB, nats (Na.dig 256)⟩, ⟨E2, nE2, cE2, nats (Na.dig (Ch.cw m (i2 - 1)))⟩]) O1) := by
        have q0 : Ch.dt m v i = N * T := by show Ch.cw m i * Na.bin v i = _; rw [← HB.out.eN, ← HB.out.eT]
        have q1 : Ch.dp m v i2 = X + N * T := by rw [← HB.out.i1, HS.out.1, ← HB.out.eX, q0]
        have q2 : Ch.dm m v i2 = Y := by rw [← HB.out.i1, HS.out.2, ← HB.out.eY]
        have q3 : Na.bin v i2 = T * u / i2 := by
         have := bin_fall v i
         rw [HB.out.i1, HB.out.un, ← HB.out.eT] at this
         rw [← this, Nat.mul_div_cancel _ HB.out.i0]
        have q4 : Ch.cw m (i2 - 1) = N := by rw [← HB.out.i1, Nat.add_sub_cancel, ← HB.out.eN]
        unfold Hid
        rw [q1, q2, q3, q4]
        refine hC.ow.m6.less (fun ob ho => ?_)
        rcases List.mem_append.1 ho with h | h
        ·exact List.mem_append_left _ (List.mem_append_left _ h)
        ·simp only [List.mem_cons, List.mem_nil_iff, or_false] at h
         rcases h with rfl | rfl | rfl | rfl | rfl
         ·exact List.mem_append_left _ (List.mem_append_right _ (List.mem_of_getElem? (i := 0) rfl))
         ·exact List.mem_append_left _ (List.mem_append_right _ (List.mem_of_getElem? (i := 1) rfl))
         ·exact List.mem_append_right _ (List.mem_of_getElem? rz)
         ·exact List.mem_append_left _ (List.mem_append_right _ (List.mem_of_getElem? (i := 3) rfl))
         ·exact List.mem_append_left _ (List.mem_append_right _ (List.mem_of_getElem? (i := 4) rfl))
       clear hC HOd
       simp only [Act.put, zT, zZ, zS]
       go_wp2_with fail
       go_roundw
       case rel => exact ⟨i2, Ap, np2, cp2, Q, nq, cq, Az, nz, cz, E2, nE2, cE2, HI.out.1, rfl, HG⟩
       case measure => have := HI.out; simp [intOf]; omega
    ·have p1 : (u : Int) % 2 = 1 := by omega
     have p2 : (u : Int).tmod 2 = 1 := by rw [Int.tmod_eq_emod_of_nonneg (by omega)]; exact p1
     have HS := Lib.hid (Ch.dp_odd (m := m) (v := v) (i := i) (by rw [hu]; exact hpar))
     clear hpar hu hi2
     go_wp2_with fail
     refine reg_inv34 (DqI w0 g M L O1 (w.heap.size + 1) w1.heap.size (w1.heap.size + 1) w3.heap.size (w3.heap.size + 1) w4.heap.size P np cp Q nq cq S ns cs B nB cB E2 nE2 cE2 v i X Y T N) (by kernel_rfl) (by kernel_rfl) ?_ ?_ ?_
     ·refine ⟨u53, u54, u55, u56, u57, u58, .slice Q nq cq, [], ?_, ⟨by rw [List.append_nil]; exact HOn.out.drew, ?_, ?_, ?_, ?_, ?_, ?_, fun _ => rfl, ?_⟩⟩
      ·simp only [Act.put, zT, zZ, zS]
      all_goals (intro h; cases h)
     ·rintro jj Ld b W hj hf hcl hd ⟨u0, u1, u2, u3, u4, u5, va, Ls, rfl, hC⟩
      have hj' : jj < 7 := hj
      have hcase : jj = 0 ∨ jj = 1 ∨ jj = 2 ∨ jj = 3 ∨ jj = 4 ∨ jj = 5 ∨ jj = 6 := by omega
      have qa := hC.ow.cell (M.length + 2) (by rw [get_r]; rfl)
      have qz := hC.ow.free (M.length + 2) (by rw [get_r]; rfl)
      have qs := hC.ow.cell (M.length + 3) (by rw [get_r]; rfl)
      have qn := hC.ow.cell (M.length + 5) (by rw [get_r]; rfl)
      clear hj hj'
      simp only [Act.put, zT, zZ, zS]
      rcases hcase with rfl | rfl | rfl | rfl | rfl | rfl | rfl
      ·have g5 : Ld 5 = false := by cases e : Ld 5 with | false => rfl | true => (rw [hcl 5 0 e (by kernel_rfl)] at hf; cases hf)
       have g6 : Ld 6 = false := by cases e : Ld 6 with | false => rfl | true => (rw [hcl 6 5 e (by kernel_rfl)] at g5; cases g5)
       obtain rfl := hC.v0 g6
       clear hd hcl
       refine wpOp_step rfl (fun K hK => ?_)
       go_simp
       refine hK _ _ ⟨_, u1, u2, u3, u4, u5, _, Ls, ?_, ⟨hC.ow, fun _ => rfl, hC.h1, hC.h2, hC.h3, hC.h4, hC.h5, hC.v0, hC.v1⟩⟩
       simp only [Act.put, zT, zZ, zS]
      ·clear hd hcl
       refine wpOp_step rfl (fun K hK => ?_)
       go_simp
       refine hK _ _ ⟨u0, _, u2, u3, u4, u5, va, Ls, ?_, ⟨hC.ow, hC.h0, fun _ => rfl, hC.h2, hC.h3, hC.h4, hC.h5, hC.v0, hC.v1⟩⟩
       simp only [Act.put, zT, zZ, zS]
      ·clear hd hcl
       refine wpOp_step rfl (fun K hK => ?_)
       go_simp
       refine hK _ _ ⟨u0, u1, _, u3, u4, u5, va, Ls, ?_, ⟨hC.ow, hC.h0, hC.h1, fun _ => rfl, hC.h3, hC.h4, hC.h5, hC.v0, hC.v1⟩⟩
       simp only [Act.put, zT, zZ, zS]
      ·obtain rfl := hC.h1 (hd 1 (by kernel_rfl))
       obtain rfl := hC.h2 (hd 2 (by kernel_rfl))
       clear hd hcl
       refine wpOp_step rfl (fun K hK => ?_)
       go_simp
       have ho := hC.ow.push (World.ownsRow_lit (base := W.heap.size) (e := 25) (size := 1) W #[.slice E2 nE2 cE2, .slice S ns cs] 2 (Nat.le_refl _) (by decide) rfl) (by omega) (own_box1 _ _)
       rw [List.append_assoc _ Ls] at ho
       refine hK _ _ ⟨u0, _, _, _, u4, u5, va, _, ?_, ⟨ho, hC.h0, hC.h1, hC.h2, GL.new _ _ _ _ _ _ _ (Nums.two (t1 := L.length + 4) (t2 := L.length + 2) ((get_l _ _ (by simp)).trans ((get_r _ _ 4).trans rfl)) ((get_l _ _ (by simp)).trans ((get_r _ _ 2).trans rfl))), hC.h4.more, hC.h5.more, hC.v0, hC.v1.more⟩⟩
       simp only [Act.put, zT, zZ, zS]
      ·obtain ⟨t3, A3, vs3, rfl, r3, m3⟩ := hC.h3 (hd 3 (by kernel_rfl))
       have R3 := hC.ow.got r3
       clear hd hcl
       refine wpOp_step rfl (fun K hK => ?_)
       go_simp
       refine (r8_mul2 hC.ow _ R3 m3 HB.out.nt HB.out.st HB.out.tt).mono ?_
       rintro e W' ⟨Az, nz, cz, rfl, ho⟩
       rw [List.append_assoc _ Ls] at ho
       refine hK _ _ ⟨u0, u1, u2, _, _, u5, va, _, ?_, ⟨ho, hC.h0, hC.h1, hC.h2, hC.h3.more, GN.new _ _ _ _ _ _ _, hC.h5.more, hC.v0, hC.v1.more⟩⟩
       simp only [Act.put, zT, zZ, zS]
      ·obtain rfl := hC.h0 (hd 0 (by kernel_rfl))
       obtain ⟨t4, A4, n4, c4, rfl, r4⟩ := hC.h4 (hd 4 (by kernel_rfl))
       have R4 := hC.ow.got r4
       clear hd hcl
       refine wpOp_step rfl (fun K hK => ?_)
       go_simp
       refine (r8_add hC.ow (L.length + 1) _ ((get_l _ _ (by simp)).trans ((get_r _ _ 1).trans rfl)) R4 HB.out.qt HB.out.tt HB.out.qs).mono ?_
       rintro e W' ⟨Az, nz, cz, rfl, ho⟩
       rw [List.append_assoc _ Ls] at ho
       refine hK _ _ ⟨_, u1, u2, u3, _, _, va, _, ?_, ⟨ho, hC.h0, hC.h1, hC.h2, hC.h3.more, hC.h4.more, GN.new _ _ _ _ _ _ _, hC.v0, hC.v1.more⟩⟩
       simp only [Act.put, zT, zZ, zS]
      ·obtain ⟨t5, A5, n5, c5, rfl, r5⟩ := hC.h5 (hd 5 (by kernel_rfl))
       have R5 := hC.ow.got r5
       clear hd hcl
       refine wpOp_step rfl (fun K hK => ?_)
       go_simp
       have ho := hC.ow.setv (M.length + 2) (by rw [get_r]; rfl) (.slice A5 n5 c5)
       rw [set_r, List.set_cons_succ, List.set_cons_succ, List.set_cons_zero] at ho
       refine hK _ _ ⟨u0, u1, u2, u3, u4, _, _, Ls, ?_, ⟨ho, hC.h0, hC.h1, hC.h2, hC.h3, hC.h4, hC.h5, fun e => absurd (show true = false from e) (by decide), fun _ => ⟨t5, A5, n5, c5, rfl, r5⟩⟩⟩
       simp only [Act.put, zT, zZ, zS]
     ·rintro Ld b W hL ⟨u0, u1, u2, u3, u4, u5, va, Ls, rfl, hC⟩
      obtain ⟨tp, Ap, np2, cp2, rfl, rp⟩ := hC.v1 (hL 6 (by show 6 < 7; decide))
      have G0 := hC.ow
      have HC1 := Lib.hid (rof_z G0 u (by omega))
      simp only [Act.put, zT, zZ, zS]
      clear hC HOn
      go_wp2_with fail
      refine HC1.out.mono ?_
      rintro en w6 ⟨U, nU, cU, rfl, G⟩
      have G1 := G.boxed (.slice U nU cU) 25
      have HC2 := Lib.hid (rof_z G1 i2 (by omega))
      clear HC1 G G1
      go_wp2_with fail
      refine HC2.out.mono ?_
      rintro en w7 ⟨D, nD, cD, rfl, G⟩
      have G2 := G.boxed (.slice D nD cD) 25
      simp only [List.append_assoc, List.cons_append, List.nil_append] at G2
      have HOd := Lib.hid (G2.less (L' := L ++ [⟨P, np, cp, nats (Na.dig X)⟩, ⟨Ap, np2, cp2, nats (Na.dig (Y + N * T))⟩, ⟨S, ns, cs, nats (Na.dig T)⟩, ⟨B, nB, cB, nats (Na.dig 256)⟩, ⟨E2, nE2, cE2, nats (Na.dig N)⟩, ⟨U, nU, cU, nats (Na.dig u)⟩, ⟨D, nD, cD, nats (Na.dig i2)⟩]) (fun o ho => by
       rcases List.mem_append.1 ho with h | h
       ·exact List.mem_append_left _ h
       ·simp only [List.mem_cons, List.mem_nil_iff, or_false] at h
        rcases h with rfl | rfl | rfl | rfl | rfl | rfl | rfl
        ·exact List.mem_append_right _ (List.mem_of_getElem? (i := 0) rfl)
        ·exact List.mem_append_right _ (List.mem_cons_of_mem _ (List.mem_cons_of_mem _ (List.mem_cons_of_mem _ (List.mem_cons_of_mem _ (List.mem_cons_of_mem _ (List.mem_append_left _ (List.mem_of_getElem? rp)))))))
        ·exact List.mem_append_right _ (List.mem_of_getElem? (i := 2) rfl)
        ·exact List.mem_append_right _ (List.mem_of_getElem? (i := 3) rfl)
        ·exact List.mem_append_right _ (List.mem_of_getElem? (i := 4) rfl)
        ·exact List.mem_append_right _ (List.mem_cons_of_mem _ (List.mem_cons_of_mem _ (List.mem_cons_of_mem _ (List.mem_cons_of_mem _ (List.mem_cons_of_mem _ (List.mem_append_right _ (List.mem_of_getElem? (i := 0) rfl)))))))
        ·exact List.mem_append_right _ (List.mem_cons_of_mem _ (List.mem_cons_of_mem _ (List.mem_cons_of_mem _ (List.mem_cons_of_mem _ (List.mem_cons_of_mem _ (List.mem_append_right _ (List.mem_of_getElem? (i := 1) rfl)))))))))
      clear HC2 G G2
      go_wp2_with fail
      refine reg_inv34 (DvI w0 g M L O1 (w.heap.size + 1) w1.heap.size (w1.heap.size + 1) w3.heap.size (w3.heap.size + 1) w4.heap.size w6.heap.size w7.heap.size P np cp Ap np2 cp2 S ns cs B nB cB E2 nE2 cE2 U nU cU D nD cD v i X (Y + N * T) T N u i2) (by kernel_rfl) (by kernel_rfl) ?_ ?_ ?_
      ·refine ⟨u73, u74, u75, u76, u77, u78, u72, u79, u80, u81, .slice S ns cs, [], ?_, ⟨by rw [List.append_nil]; exact HOd.out.drew, ?_, ?_, ?_, ?_, ?_, ?_, ?_, ?_, ?_, ?_, fun _ => rfl, ?_⟩⟩
       ·simp only [Act.put, zT, zZ, zS]
       all_goals (intro h; cases h)
      ·rintro jj Ld b W hj hf hcl hd ⟨u0, u1, u2, u3, u4, u5, u6, u7, u8, u9, va, Ls, rfl, hC⟩
       have hj' : jj < 11 := hj
       have hcase : jj = 0 ∨ jj = 1 ∨ jj = 2 ∨ jj = 3 ∨ jj = 4 ∨ jj = 5 ∨ jj = 6 ∨ jj = 7 ∨ jj = 8 ∨ jj = 9 ∨ jj = 10 := by omega
       have qa := hC.ow.cell (M.length + 3) (by rw [get_r]; rfl)
       have qz := hC.ow.free (M.length + 3) (by rw [get_r]; rfl)
       have qu := hC.ow.cell (M.length + 6) (by rw [get_r]; rfl)
       have qd := hC.ow.cell (M.length + 7) (by rw [get_r]; rfl)
       clear hj hj'
       simp only [Act.put, zT, zZ, zS]
       rcases hcase with rfl | rfl | rfl | rfl | rfl | rfl | rfl | rfl | rfl | rfl | rfl
       ·have g2 : Ld 2 = false := by cases e : Ld 2 with | false => rfl | true => (rw [hcl 2 0 e (by kernel_rfl)] at hf; cases hf)
        have g3 : Ld 3 = false := by cases e : Ld 3 with | false => rfl | true => (rw [hcl 3 2 e (by kernel_rfl)] at g2; cases g2)
        have g5 : Ld 5 = false := by cases e : Ld 5 with | false => rfl | true => (rw [hcl 5 3 e (by kernel_rfl)] at g3; cases g3)
        have g6 : Ld 6 = false := by cases e : Ld 6 with | false => rfl | true => (rw [hcl 6 5 e (by kernel_rfl)] at g5; cases g5)
        have g7 : Ld 7 = false := by cases e : Ld 7 with | false => rfl | true => (rw [hcl 7 6 e (by kernel_rfl)] at g6; cases g6)
        have g10 : Ld 10 = false := by cases e : Ld 10 with | false => rfl | true => (rw [hcl 10 7 e (by kernel_rfl)] at g7; cases g7)
        obtain rfl := hC.v0 g10
        clear hd hcl
        refine wpOp_step rfl (fun K hK => ?_)
        go_simp
        refine hK _ _ ⟨_, u1, u2, u3, u4, u5, u6, u7, u8, u9, _, Ls, ?_, ⟨hC.ow, fun _ => rfl, hC.h1, hC.h2, hC.h3, hC.h4, hC.h5, hC.h6, hC.h7, fun _ => trivial, hC.h9, hC.v0, hC.v1⟩⟩
        simp only [Act.put, zT, zZ, zS]
       ·clear hd hcl
        refine wpOp_step rfl (fun K hK => ?_)
        go_simp
        refine hK _ _ ⟨u0, _, u2, u3, u4, u5, u6, u7, u8, u9, va, Ls, ?_, ⟨hC.ow, hC.h0, fun _ => rfl, hC.h2, hC.h3, hC.h4, hC.h5, hC.h6, hC.h7, fun _ => trivial, hC.h9, hC.v0, hC.v1⟩⟩
        simp only [Act.put, zT, zZ, zS]
       ·obtain rfl := hC.h0 (hd 0 (by kernel_rfl))
        obtain rfl := hC.h1 (hd 1 (by kernel_rfl))
        clear hd hcl
        refine wpOp_step rfl (fun K hK => ?_)
        go_simp
        have ho := hC.ow.push (World.ownsRow_lit (base := W.heap.size) (e := 25) (size := 1) W #[.slice S ns cs, .slice U nU cU] 2 (Nat.le_refl _) (by decide) rfl) (by omega) (own_box1 _ _)
        rw [List.append_assoc _ Ls] at ho
        refine hK _ _ ⟨_, _, _, u3, u4, u5, u6, u7, u8, u9, va, _, ?_, ⟨ho, hC.h0, hC.h1, GL.new _ _ _ _ _ _ _ (Nums.two (t1 := L.length + 2) (t2 := L.length + 5) ((get_l _ _ (by simp)).trans ((get_r _ _ 2).trans rfl)) ((get_l _ _ (by simp)).trans ((get_r _ _ 5).trans rfl))), hC.h3.more, hC.h4, hC.h5.more, hC.h6.more, hC.h7.more, fun _ => trivial, hC.h9, hC.v0, hC.v1.more⟩⟩
        simp only [Act.put, zT, zZ, zS]
       ·obtain ⟨t2, A2, vs2, rfl, r2, m2⟩ := hC.h2 (hd 2 (by kernel_rfl))
        have R2 := hC.ow.got r2
        clear hd hcl
        refine wpOp_step rfl (fun K hK => ?_)
        go_simp
        refine (r8_mul2 hC.ow _ R2 m2 HB.out.st HB.out.ut HB.out.su).mono ?_
        rintro e W' ⟨Az, nz, cz, rfl, ho⟩
        rw [List.append_assoc _ Ls] at ho
        refine hK _ _ ⟨u0, u1, _, _, u4, u5, u6, u7, u8, u9, va, _, ?_, ⟨ho, hC.h0, hC.h1, hC.h2.more, GN.new _ _ _ _ _ _ _, hC.h4, hC.h5.more, hC.h6.more, hC.h7.more, fun _ => trivial, hC.h9, hC.v0, hC.v1.more⟩⟩
        simp only [Act.put, zT, zZ, zS]
       ·clear hd hcl
        refine wpOp_step rfl (fun K hK => ?_)
        go_simp
        refine hK _ _ ⟨u0, u1, u2, u3, _, u5, u6, u7, u8, u9, va, Ls, ?_, ⟨hC.ow, hC.h0, hC.h1, hC.h2, hC.h3, fun _ => rfl, hC.h5, hC.h6, hC.h7, fun _ => trivial, hC.h9, hC.v0, hC.v1⟩⟩
        simp only [Act.put, zT, zZ, zS]
       ·obtain ⟨t3, A3, n3, c3, rfl, r3⟩ := hC.h3 (hd 3 (by kernel_rfl))
        have R3 := hC.ow.got r3
        obtain rfl := hC.h4 (hd 4 (by kernel_rfl))
        clear hd hcl
        refine wpOp_step rfl (fun K hK => ?_)
        go_simp
        refine (rdiv_z hC.ow _ (L.length + 6) R3 ((get_l _ _ (by simp)).trans ((get_r _ _ 6).trans rfl)) HB.out.su HB.out.it HB.out.i0).mono ?_
        rintro e W' ⟨Az, nz, cz, Bz, mz, dz, rfl, ho⟩
        rw [List.append_assoc (L ++ [(⟨P, np, cp, nats (Na.dig X)⟩ : Ob), (⟨Ap, np2, cp2, nats (Na.dig (Y + N * T))⟩ : Ob), (⟨S, ns, cs, nats (Na.dig T)⟩ : Ob), (⟨B, nB, cB, nats (Na.dig 256)⟩ : Ob), (⟨E2, nE2, cE2, nats (Na.dig N)⟩ : Ob), (⟨U, nU, cU, nats (Na.dig u)⟩ : Ob), (⟨D, nD, cD, nats (Na.dig i2)⟩ : Ob)] ++ Ls), List.append_assoc (L ++ [(⟨P, np, cp, nats (Na.dig X)⟩ : Ob), (⟨Ap, np2, cp2, nats (Na.dig (Y + N * T))⟩ : Ob), (⟨S, ns, cs, nats (Na.dig T)⟩ : Ob), (⟨B, nB, cB, nats (Na.dig 256)⟩ : Ob), (⟨E2, nE2, cE2, nats (Na.dig N)⟩ : Ob), (⟨U, nU, cU, nats (Na.dig u)⟩ : Ob), (⟨D, nD, cD, nats (Na.dig i2)⟩ : Ob)]) Ls, List.singleton_append] at ho
        refine hK _ _ ⟨u0, u1, u2, _, _, (.tuple #[.agg #[.slice Az nz cz], .agg #[.slice Bz mz dz], .int .i64 0]), u6, u7, u8, u9, va, _, ?_, ⟨ho, hC.h0, hC.h1, hC.h2.more, hC.h3.more, hC.h4, GD.new _ _ Az nz cz Bz mz dz _ _ _, hC.h6.more, hC.h7.more, fun _ => trivial, hC.h9, hC.v0, hC.v1.more⟩⟩
        simp only [Act.put, zT, zZ, zS]
       ·obtain ⟨t5, A5, n5, c5, B5, m5, d5, rfl, r5⟩ := hC.h5 (hd 5 (by kernel_rfl))
        clear hd hcl
        refine wpOp_step rfl (fun K hK => ?_)
        go_simp
        refine hK _ _ ⟨u0, u1, u2, u3, u4, _, _, u7, u8, u9, va, Ls, ?_, ⟨hC.ow, hC.h0, hC.h1, hC.h2, hC.h3, hC.h4, hC.h5, fun _ => ⟨t5, A5, n5, c5, B5, m5, d5, rfl, r5⟩, hC.h7, fun _ => trivial, hC.h9, hC.v0, hC.v1⟩⟩
        simp only [Act.put, zT, zZ, zS]
       ·obtain ⟨t6, A6, n6, c6, B6, m6, d6, rfl, r6⟩ := hC.h6 (hd 6 (by kernel_rfl))
        clear hd hcl
        refine wpOp_step rfl (fun K hK => ?_)
        go_simp
        refine hK _ _ ⟨u0, u1, u2, u3, u4, u5, _, _, u8, u9, va, Ls, ?_, ⟨hC.ow, hC.h0, hC.h1, hC.h2, hC.h3, hC.h4, hC.h5, hC.h6, fun _ => ⟨t6, A6, n6, c6, rfl, r6⟩, fun _ => trivial, hC.h9, hC.v0, hC.v1⟩⟩
        simp only [Act.put, zT, zZ, zS]
       ·obtain ⟨t6, A6, n6, c6, B6, m6, d6, rfl, r6⟩ := hC.h6 (hd 6 (by kernel_rfl))
        clear hd hcl
        refine wpOp_step rfl (fun K hK => ?_)
        go_simp
        refine hK _ _ ⟨u0, u1, u2, u3, u4, u5, _, u7, (.agg #[.slice B6 m6 d6]), u9, va, Ls, ?_, ⟨hC.ow, hC.h0, hC.h1, hC.h2, hC.h3, hC.h4, hC.h5, hC.h6, hC.h7, fun _ => trivial, hC.h9, hC.v0, hC.v1⟩⟩
        simp only [Act.put, zT, zZ, zS]
       ·obtain ⟨t6, A6, n6, c6, B6, m6, d6, rfl, r6⟩ := hC.h6 (hd 6 (by kernel_rfl))
        clear hd hcl
        refine wpOp_step rfl (fun K hK => ?_)
        go_simp
        refine hK _ _ ⟨u0, u1, u2, u3, u4, u5, _, u7, u8, _, va, Ls, ?_, ⟨hC.ow, hC.h0, hC.h1, hC.h2, hC.h3, hC.h4, hC.h5, hC.h6, hC.h7, fun _ => trivial, fun _ => rfl, hC.v0, hC.v1⟩⟩
        simp only [Act.put, zT, zZ, zS]
       ·obtain ⟨t7, A7, n7, c7, rfl, r7⟩ := hC.h7 (hd 7 (by kernel_rfl))
        clear hd hcl
        refine wpOp_step rfl (fun K hK => ?_)
        go_simp
        have ho := hC.ow.setv (M.length + 3) (by rw [get_r]; rfl) (.slice A7 n7 c7)
        rw [set_r, List.set_cons_succ, List.set_cons_succ, List.set_cons_succ, List.set_cons_zero] at ho
        refine hK _ _ ⟨u0, u1, u2, u3, u4, u5, u6, _, u8, u9, _, Ls, ?_, ⟨ho, hC.h0, hC.h1, hC.h2, hC.h3, hC.h4, hC.h5, hC.h6, hC.h7, fun _ => trivial, hC.h9, fun e => absurd (show true = false from e) (by decide), fun _ => ⟨t7, A7, n7, c7, rfl, r7⟩⟩⟩
        simp only [Act.put, zT, zZ, zS]
      ·rintro Ld b W hL ⟨u0, u1, u2, u3, u4, u5, u6, u7, u8, u9, va, Ls, rfl, hC⟩
       obtain ⟨tz, Az, nz, cz, rfl, rz⟩ := hC.v1 (hL 10 (by show 10 < 11; decide))
       have HG : Hid (Ow w0 W g (M ++ [(w.heap.size + 1, .slice none 0 0), (w1.heap.size, .slice P np cp), (w1.heap.size + 1, .slice Ap np2 cp2), (w3.heap.size, .slice Az nz cz), (w3.heap.size + 1, .slice B nB cB), (w4.heap.size, .slice E2 nE2 cE2)]) (L ++ [⟨P, np, cp, nats (Na.dig (Ch.dp m v i2))⟩, ⟨Ap, np2, cp2, nats (Na.dig (Ch.dm m v i2))⟩, ⟨Az, nz, cz, nats (Na.dig (Na.bin v i2))⟩, ⟨B, nB, cB, nats (Na.dig 256)⟩, ⟨E2, nE2, cE2, nats (Na.dig (Ch.cw m (i2 - 1)))⟩]) O1) := by
        have q0 : Ch.dt m v i = N * T := by show Ch.cw m i * Na.bin v i = _; rw [← HB.out.eN, ← HB.out.eT]
        have q1 : Ch.dp m v i2 = X := by rw [← HB.out.i1, HS.out.1, ← HB.out.eX]
        have q2 : Ch.dm m v i2 = Y + N * T := by rw [← HB.out.i1, HS.out.2, ← HB.out.eY, q0]
        have q3 : Na.bin v i2 = T * u / i2 := by
         have := bin_fall v i
         rw [HB.out.i1, HB.out.un, ← HB.out.eT] at this
         rw [← this, Nat.mul_div_cancel _ HB.out.i0]
        have q4 : Ch.cw m (i2 - 1) = N := by rw [← HB.out.i1, Nat.add_sub_cancel, ← HB.out.eN]
        unfold Hid
        rw [q1, q2, q3, q4]
        refine hC.ow.m6.less (fun ob ho => ?_)
        rcases List.mem_append.1 ho with h | h
        ·exact List.mem_append_left _ (List.mem_append_left _ h)
        ·simp only [List.mem_cons, List.mem_nil_iff, or_false] at h
         rcases h with rfl | rfl | rfl | rfl | rfl
         ·exact List.mem_append_left _ (List.mem_append_right _ (List.mem_of_getElem? (i := 0) rfl))
         ·exact List.mem_append_left _ (List.mem_append_right _ (List.mem_of_getElem? (i := 1) rfl))
         ·exact List.mem_append_right _ (List.mem_of_getElem? rz)
         ·exact List.mem_append_left _ (List.mem_append_right _ (List.mem_of_getElem? (i := 3) rfl))
         ·exact List.mem_append_left _ (List.mem_append_right _ (List.mem_of_getElem? (i := 4) rfl))
       clear hC HOd
       simp only [Act.put, zT, zZ, zS]
       go_wp2_with fail
       go_roundw
       case rel => exact ⟨i2, P, np, cp, Ap, np2, cp2, Az, nz, cz, E2, nE2, cE2, HI.out.1, rfl, HG⟩
       case measure => have := HI.out; simp [intOf]; omega
  ·have hd : decide ((i : Int) ≤ (v : Int)) = false := decide_eq_false (by omega)
   have hd2 : decide (i ≤ v) = false := decide_eq_false (by omega)
   have HE : Hid (i = v + 1) := by unfold Hid; omega
   rw [HE.out] at HO
   have HB := Lib.hid (WwE.of (m := m) hvn hn40 HVn.out hm8)
   obtain ⟨X, hX⟩ : ∃ z, Ch.dp m v (v + 1) = z := ⟨_, rfl⟩
   obtain ⟨Y, hY⟩ : ∃ z, Ch.dm m v (v + 1) = z := ⟨_, rfl⟩
   obtain ⟨T, hT⟩ : ∃ z, Na.bin v (v + 1) = z := ⟨_, rfl⟩
   obtain ⟨N, hN⟩ : ∃ z, Ch.cw m (v + 1 - 1) = z := ⟨_, rfl⟩
   rw [hX, hY] at HB
   rw [hX, hY, hT, hN] at HO
   have HC := Lib.hid (rsub_z HO.out (L.length + 0) (L.length + 1) (by rw [get_r]; rfl) (by rw [get_r]; rfl) HB.out.xt HB.out.le)
   obtain ⟨Z, hZ⟩ : ∃ z, X - Y = z := ⟨_, rfl⟩
   rw [hZ] at HC HB
   have c1 := HO.out.cell (M.length + 1) (by rw [get_r]; rfl)
   have c2 := HO.out.cell (M.length + 2) (by rw [get_r]; rfl)
   clear HO hX hY hT hN hZ
   go_wp2_with fail
   refine HC.out.mono ?_
   rintro en w5 ⟨D, nD, cD, rfl, G⟩
   have G1 := G.boxed (.slice D nD cD) 25
   simp only [List.append_assoc, List.cons_append, List.nil_append] at G1
   have HO := Lib.hid (G1.less (L' := L ++ [⟨D, nD, cD, nats (Na.dig Z)⟩]) (fun o ho => by
    rcases List.mem_append.1 ho with h | h
    ·exact List.mem_append_left _ h
    ·rw [List.mem_singleton] at h
     subst h
     exact List.mem_append_right _ (List.mem_of_getElem? (i := 5) rfl)))
   have HX : Hid (Z < Na.top ∧ Na.bin n v < Na.top ∧ Z * Na.bin n v < Na.top) := ⟨HB.out.zt, HB.out.bt, HB.out.zb⟩
   clear HC G G1 c1 c2 k0 k1 k2 k3 hge hd hd2
   go_wp2_with fail
   refine reg_inv34 (DxI w0 g M L O1 w.heap.size (w.heap.size + 1) w1.heap.size (w1.heap.size + 1) w3.heap.size (w3.heap.size + 1) w4.heap.size w5.heap.size (.slice P np cp) (.slice Q nq cq) (.slice S ns cs) (.slice B nB cB) (.slice E nE cE) D nD cD d m n v Z) (by kernel_rfl) (by kernel_rfl) ?_ ?_ ?_
   ·refine ⟨undef, undef, undef, undef, undef, undef, undef, undef, undef, undef, (.int .i64 0), .slice none 0 0, [], ?_, ⟨by rw [List.append_nil]; exact HO.out.drew, ?_, ?_, ?_, ?_, ?_, ?_, ?_, ?_, ?_, ?_, ?_, fun _ => rfl, ?_⟩⟩
    ·simp only [Act.put, zT, zZ, zS]
    all_goals (intro h; cases h)
   ·rintro jj Ld b W hj hf hcl hd ⟨u0, u1, u2, u3, u4, u5, u6, u7, u8, u9, u11, va, Ls, rfl, hC⟩
    have hj' : jj < 12 := hj
    have hcase : jj = 0 ∨ jj = 1 ∨ jj = 2 ∨ jj = 3 ∨ jj = 4 ∨ jj = 5 ∨ jj = 6 ∨ jj = 7 ∨ jj = 8 ∨ jj = 9 ∨ jj = 10 ∨ jj = 11 := by omega
    obtain ⟨k0, k1, k2, k3⟩ := hC.ow.cdc (O.length + 0) HCI.out
    have qd := hC.ow.cell (M.length + 6) (by rw [get_r]; rfl)
    have qz := hC.ow.free (M.length + 0) (by rw [get_r]; rfl)
    have qr := hC.ow.cell (M.length + 0) (by rw [get_r]; rfl)
    have hwn : IntKind.i64.wrap (n : Int) = (n : Int) := IntWalk.i64_in _ (by omega)
    clear hj hj'
    simp only [Act.put, zT, zZ, zS]
    rcases hcase with rfl | rfl | rfl | rfl | rfl | rfl | rfl | rfl | rfl | rfl | rfl | rfl
    ·clear hd hcl
     refine wpOp_step rfl (fun K hK => ?_)
     go_simp
     refine hK _ _ ⟨_, u1, u2, u3, u4, u5, u6, u7, u8, u9, u11, va, Ls, ?_, ⟨hC.ow, fun _ => rfl, hC.h1, hC.h2, hC.h3, hC.h4, hC.h5, hC.h6, hC.h7, hC.h8, hC.h9, hC.h11, hC.v0, hC.v1⟩⟩
     simp only [Act.put, zT, zZ, zS]
    ·clear hd hcl
     refine wpOp_step rfl (fun K hK => ?_)
     go_simp
     refine hK _ _ ⟨u0, _, u2, u3, u4, u5, u6, u7, u8, u9, u11, va, Ls, ?_, ⟨hC.ow, hC.h0, fun _ => rfl, hC.h2, hC.h3, hC.h4, hC.h5, hC.h6, hC.h7, hC.h8, hC.h9, hC.h11, hC.v0, hC.v1⟩⟩
     simp only [Act.put, zT, zZ, zS]
    ·obtain rfl := hC.h1 (hd 1 (by kernel_rfl))
     clear hd hcl
     refine wpOp_step rfl (fun K hK => ?_)
     go_simp
     refine hK _ _ ⟨u0, _, _, u3, u4, u5, u6, u7, u8, u9, u11, va, Ls, ?_, ⟨hC.ow, hC.h0, hC.h1, fun _ => rfl, hC.h3, hC.h4, hC.h5, hC.h6, hC.h7, hC.h8, hC.h9, hC.h11, hC.v0, hC.v1⟩⟩
     simp only [Act.put, zT, zZ, zS]
    ·clear hd hcl
     refine wpOp_step rfl (fun K hK => ?_)
     go_simp
     refine hK _ _ ⟨u0, u1, u2, _, u4, u5, u6, u7, u8, u9, u11, va, Ls, ?_, ⟨hC.ow, hC.h0, hC.h1, hC.h2, fun _ => rfl, hC.h4, hC.h5, hC.h6, hC.h7, hC.h8, hC.h9, hC.h11, hC.v0, hC.v1⟩⟩
     simp only [Act.put, zT, zZ, zS]
    ·obtain rfl := hC.h3 (hd 3 (by kernel_rfl))
     clear hd hcl
     refine wpOp_step rfl (fun K hK => ?_)
     go_simp
     refine hK _ _ ⟨u0, u1, u2, _, _, u5, u6, u7, u8, u9, u11, va, Ls, ?_, ⟨hC.ow, hC.h0, hC.h1, hC.h2, hC.h3, fun _ => rfl, hC.h5, hC.h6, hC.h7, hC.h8, hC.h9, hC.h11, hC.v0, hC.v1⟩⟩
     simp only [Act.put, zT, zZ, zS]
    ·obtain rfl := hC.h2 (hd 2 (by kernel_rfl))
     obtain rfl := hC.h4 (hd 4 (by kernel_rfl))
     clear hd hcl
     refine wpOp_step rfl (fun K hK => ?_)
     go_simp
     refine hK _ _ ⟨u0, u1, _, u3, _, _, u6, u7, u8, u9, u11, va, Ls, ?_, ⟨hC.ow, hC.h0, hC.h1, hC.h2, hC.h3, hC.h4, fun _ => rfl, hC.h6, hC.h7, hC.h8, hC.h9, hC.h11, hC.v0, hC.v1⟩⟩
     simp only [Act.put, zT, zZ, zS]
    ·clear hd hcl
     refine wpOp_step rfl (fun K hK => ?_)
     go_simp
     refine hK _ _ ⟨u0, u1, u2, u3, u4, u5, _, u7, u8, u9, u11, va, Ls, ?_, ⟨hC.ow, hC.h0, hC.h1, hC.h2, hC.h3, hC.h4, hC.h5, fun _ => rfl, hC.h7, hC.h8, hC.h9, hC.h11, hC.v0, hC.v1⟩⟩
     simp only [Act.put, zT, zZ, zS]
    ·obtain rfl := hC.h5 (hd 5 (by kernel_rfl))
     obtain rfl := hC.h6 (hd 6 (by kernel_rfl))
     clear hd hcl
     refine wpOp_step rfl (fun K hK => ?_)
     go_simp
     refine (r8_choose hC.ow n v (by omega)).mono ?_
     rintro e W' ⟨Az, nz, cz, rfl, ho⟩
     rw [List.append_assoc _ Ls] at ho
     refine hK _ _ ⟨u0, u1, u2, u3, u4, _, _, _, u8, u9, u11, va, _, ?_, ⟨ho, hC.h0, hC.h1, hC.h2, hC.h3, hC.h4, hC.h5, hC.h6, GN.new _ _ _ _ _ _ _, hC.h8.more, hC.h9.more, hC.h11, hC.v0, hC.v1.more⟩⟩
     simp only [Act.put, zT, zZ, zS]
    ·obtain rfl := hC.h0 (hd 0 (by kernel_rfl))
     obtain ⟨t7, A7, n7, c7, rfl, r7⟩ := hC.h7 (hd 7 (by kernel_rfl))
     have R7 := hC.ow.got r7
     clear hd hcl
     refine wpOp_step rfl (fun K hK => ?_)
     go_simp
     have ho := hC.ow.push (World.ownsRow_lit (base := W.heap.size) (e := 25) (size := 1) W #[.slice D nD cD, .slice A7 n7 c7] 2 (Nat.le_refl _) (by decide) rfl) (by omega) (own_box1 _ _)
     rw [List.append_assoc _ Ls] at ho
     refine hK _ _ ⟨_, u1, u2, u3, u4, u5, u6, _, _, u9, u11, va, _, ?_, ⟨ho, hC.h0, hC.h1, hC.h2, hC.h3, hC.h4, hC.h5, hC.h6, hC.h7.more, GL.new _ _ _ _ _ _ _ (Nums.two (t1 := L.length + 0) ((get_l _ _ (by simp)).trans ((get_r _ _ 0).trans rfl)) R7), hC.h9.more, hC.h11, hC.v0, hC.v1.more⟩⟩
     simp only [Act.put, zT, zZ, zS]
    ·obtain ⟨t8, A8, vs8, rfl, r8, m8⟩ := hC.h8 (hd 8 (by kernel_rfl))
     have R8 := hC.ow.got r8
     clear hd hcl
     refine wpOp_step rfl (fun K hK => ?_)
     go_simp
     refine (r8_mul2 hC.ow _ R8 m8 HX.out.1 HX.out.2.1 HX.out.2.2).mono ?_
     rintro e W' ⟨Az, nz, cz, rfl, ho⟩
     rw [List.append_assoc _ Ls] at ho
     refine hK _ _ ⟨u0, u1, u2, u3, u4, u5, u6, u7, _, _, u11, va, _, ?_, ⟨ho, hC.h0, hC.h1, hC.h2, hC.h3, hC.h4, hC.h5, hC.h6, hC.h7.more, hC.h8.more, GN.new _ _ _ _ _ _ _, hC.h11, hC.v0, hC.v1.more⟩⟩
     simp only [Act.put, zT, zZ, zS]
    ·obtain ⟨t9, A9, n9, c9, rfl, r9⟩ := hC.h9 (hd 9 (by kernel_rfl))
     have R9 := hC.ow.got r9
     clear hd hcl
     refine wpOp_step rfl (fun K hK => ?_)
     go_simp
     have ho := hC.ow.setv (M.length + 0) (by rw [get_r]; rfl) (.slice A9 n9 c9)
     rw [set_r, List.set_cons_zero] at ho
     refine hK _ _ ⟨u0, u1, u2, u3, u4, u5, u6, u7, u8, _, u11, _, Ls, ?_, ⟨ho, hC.h0, hC.h1, hC.h2, hC.h3, hC.h4, hC.h5, hC.h6, hC.h7, hC.h8, hC.h9, hC.h11, fun e => absurd (show true = false from e) (by decide), fun _ => ⟨t9, A9, n9, c9, rfl, r9⟩⟩⟩
     simp only [Act.put, zT, zZ, zS]
    ·clear hd hcl
     refine wpOp_step rfl (fun K hK => ?_)
     go_simp
     refine hK _ _ ⟨u0, u1, u2, u3, u4, u5, u6, u7, u8, u9, _, va, Ls, ?_, ⟨hC.ow, hC.h0, hC.h1, hC.h2, hC.h3, hC.h4, hC.h5, hC.h6, hC.h7, hC.h8, hC.h9, fun _ => rfl, hC.v0, hC.v1⟩⟩
     simp only [Act.put, zT, zZ, zS]
   ·rintro Ld b W hL ⟨u0, u1, u2, u3, u4, u5, u6, u7, u8, u9, u11, va, Ls, rfl, hC⟩
    obtain ⟨tz, Az, nz, cz, rfl, rz⟩ := hC.v1 (hL 10 (by show 10 < 12; decide))
    obtain rfl := hC.h11 (hL 11 (by show 11 < 12; decide))
    have s0 := hC.ow.cell (M.length + 0) (by rw [get_r]; rfl)
    have h7 := hC.ow.fewM
    rw [← HO1.out] at h7
    have HF := Lib.hid (h7.fewO.less (L' := L ++ [⟨Az, nz, cz, nats (Na.dig (Ch.wd n m v))⟩]) (fun o ho => by
     rw [← HB.out.wd] at ho
     rcases List.mem_append.1 ho with h | h
     ·exact List.mem_append_left _ (List.mem_append_left _ h)
     ·rw [List.mem_singleton] at h
      subst h
      exact List.mem_append_right _ (List.mem_of_getElem? rz)))
    clear hC h7 HO
    simp only [Act.put, zT, zZ, zS]
    go_wp2_with fail
    refine bodyPost_ret (v := .tuple #[.agg #[.slice Az nz cz], .int .i64 0]) (by simp [results, Tryz.results62, go_sem, s0]) rfl ?_
    exact ⟨Az, nz, cz, rfl, HF.out⟩
end
end Go.Proofs.YtenokdhldngkgaaGreatDoor
