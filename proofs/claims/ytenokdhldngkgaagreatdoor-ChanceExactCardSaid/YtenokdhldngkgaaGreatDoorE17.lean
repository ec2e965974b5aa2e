/- Co Cr Dl Dn Eb Ec Ek El Em -/
import Derived.Test.YtenokdhldngkgaaGreatDoorE12
import Derived.Test.YtenokdhldngkgaaGreatDoorE13
import Derived.Test.YtenokdhldngkgaaGreatDoorE15
import Derived.Test.YtenokdhldngkgaaGreatDoorE16
namespace Go.Proofs.YtenokdhldngkgaaGreatDoor
open Go.RowKit Go.Shelf
set_option linter.unusedVariables false
set_option maxRecDepth 100000
theorem low_or (h l k : Nat) (hh : h < 18446744073709551616) (hl : l < 18446744073709551616) (hk : k ≤ 64) : bits .or .u64 ((l / 2 ^ k : Nat) : Int) ((h * 2 ^ (64 - k) % 18446744073709551616 : Nat) : Int) = (((h * 18446744073709551616 + l) / 2 ^ k % 18446744073709551616 : Nat) : Int) := by
 have hp : 0 < 2 ^ k := Nat.pow_pos (by omega)
 obtain ⟨h1, h2⟩ := Wo.back_or l h 0 k (2 ^ (64 - k)) hl hh hk rfl
 have hlow : l / 2 ^ k < 18446744073709551616 := Nat.lt_of_le_of_lt (Nat.div_le_self _ _) hl
 rw [u64_or_nat _ _ hlow (Nat.mod_lt _ (by omega)), h2]
 have hB : 18446744073709551616 = 2 ^ (64 - k) * 2 ^ k := by rw [← Nat.pow_add, Nat.sub_add_cancel hk]
 have e : (h * 18446744073709551616 + l) / 2 ^ k = h * 2 ^ (64 - k) + l / 2 ^ k := by
  rw [hB, ← Nat.mul_assoc, Nat.add_comm, Nat.add_mul_div_right _ _ hp, Nat.add_comm]
 rw [e]
 have h3 : l / 2 ^ k < 2 ^ (64 - k) := by rw [Nat.div_lt_iff_lt_mul hp, ← hB]; exact hl
 have h4 : h * 2 ^ (64 - k) % 18446744073709551616 = 2 ^ (64 - k) * (h % 2 ^ k) := by
  rw [Nat.mul_comm h]
  conv => lhs; rw [hB, Nat.mul_mod_mul_left]
 have h5 : h % 2 ^ k < 2 ^ k := Nat.mod_lt _ hp
 have h6 : 2 ^ (64 - k) * (h % 2 ^ k) + l / 2 ^ k < 18446744073709551616 := by
  have h7 : 2 ^ (64 - k) * (h % 2 ^ k + 1) ≤ 2 ^ (64 - k) * 2 ^ k := Nat.mul_le_mul_left _ h5
  rw [← hB, Nat.mul_add, Nat.mul_one] at h7
  omega
 rw [Nat.add_mod, h4, Nat.mod_eq_of_lt (show l / 2 ^ k < 18446744073709551616 from hlow), Nat.mod_eq_of_lt h6, Nat.add_comm]
theorem high_div (h l k : Nat) (hl : l < 18446744073709551616) : (h * 18446744073709551616 + l) / 2 ^ k / 18446744073709551616 = h / 2 ^ k := by
 rw [Nat.div_div_eq_div_mul, Nat.mul_comm (2 ^ k), ← Nat.div_div_eq_div_mul]
 congr 1
 omega
theorem dig_snoc {X y : Nat} {l : List Nat} (h : Na.dig X = l ++ Na.dig y) (h0 : 0 < y) : Na.dig X = (l ++ [y % 16777216]) ++ Na.dig (y / 16777216) := by
 rw [h, Na.dig_pos y h0, List.append_assoc]
 rfl
theorem shr_int (a k : Nat) (K : Int) (hK : K = ((2 ^ k : Nat) : Int)) : (a : Int) / K = ((a / 2 ^ k : Nat) : Int) := by rw [hK]; simp
theorem shl_int (a k : Nat) (K : Int) (hK : K = ((2 ^ k : Nat) : Int)) : IntKind.u64.wrap ((a : Int) * K) = ((a * 2 ^ k % 18446744073709551616 : Nat) : Int) := by
 rw [hK, ← Int.natCast_mul, IntKind.wrap_u64]
 rfl
theorem and_24 (a : Nat) (ha : a < 18446744073709551616) : bits .and .u64 (a : Int) 16777215 = ((a % 16777216 : Nat) : Int) := by
 have := u64_and_nat a 16777215 ha (by omega)
 rw [show ((16777215 : Int)) = ((16777215 : Nat) : Int) from rfl, this, show (16777215 : Nat) = 2 ^ 24 - 1 from rfl, Nat.and_two_pow_sub_one_eq_mod]
def RNt (w0 : World) (X : Nat) (b r v : Nat) (y : Nat) (wr : World) : Prop :=
 ∃ (l : List Nat) (A : Option Addr) (n c : Nat), y * 16777216 ^ n ≤ X ∧ Hid (y < 340282366920938463463374607431768211456 ∧ Na.dig X = l ++ Na.dig y ∧ l.length = n) ∧
  Hid (Ow w0 wr none [(r, .slice none 0 0), (v, .slice A n c)] [] [Rw.pair b 127 (.int .u64 ((y / 18446744073709551616 : Nat) : Int)) (.int .u64 ((y % 18446744073709551616 : Nat) : Int)), ⟨A, n, c, 3, nats l⟩])
set_option maxHeartbeats 2000000 in
theorem lnat_any (x : Nat) (hx : x < 340282366920938463463374607431768211456) (w : World) :
  Calls Tryz.prog 106 #[lg x, .int .i64 8] w fun e w' => ∃ (A : Option Addr) (n c : Nat), e = .returned (.agg #[.slice A n c]) ∧ n ≤ 6 ∧ w'.ownsRow w.heap.size 3 1 (.slice A n c) n (nats (Na.dig (x / 256))) ∧ Below w.heap.size w w' := by
 unfold lg
 obtain ⟨h, hh⟩ : ∃ h, x / 18446744073709551616 = h := ⟨_, rfl⟩
 obtain ⟨l, hl⟩ : ∃ l, x % 18446744073709551616 = l := ⟨_, rfl⟩
 rw [hh, hl]
 have H0 := ((Ow.of (St.refl w)).arr #[.int .u64 (h : Int), .int .u64 (l : Int)] 2 rfl (by omega) 127).boxed (.slice none 0 0) 25
 simp only [List.nil_append, World.size_alloc] at H0
 have k0 := (H0.row 0 rfl).cellAt 0 (by decide)
 have k1 := (H0.row 0 rfl).cellAt 1 (by decide)
 have HO := Lib.hid H0
 go_enter Tryz.func106, Tryz.ntmps106
 go_upto_region 1 with (fail)
 obtain ⟨w1, hw1⟩ : ∃ z, (w.alloc (.cells #[.int .u64 (h : Int), .int .u64 (l : Int)] 127)).alloc (.cells #[.slice none 0 0] 25) = z := ⟨_, rfl⟩
 rw [hw1] at k0 k1 HO ⊢
 clear hw1 H0
 have j0 := cell_regrown k0
 have j1 := cell_regrown k1
 refine region_below_tail 15 (by kernel_rfl) (by kernel_rfl) ?_
 simp only [List.take_succ_cons, List.take_zero, List.drop_succ_cons, List.drop_zero]
 have hw56 : IntKind.i64.wrap 56 = 56 := rfl
 obtain ⟨y, hy⟩ : ∃ y, x / 256 = y := ⟨_, rfl⟩
 have hxl : x = h * 18446744073709551616 + l := by omega
 have hl64 : l < 18446744073709551616 := by omega
 have hh64 : h < 18446744073709551616 := by omega
 obtain ⟨h8, hh8⟩ : ∃ z, h / 2 ^ 8 = z := ⟨_, rfl⟩
 obtain ⟨l8, hl8⟩ : ∃ z, l / 2 ^ 8 = z := ⟨_, rfl⟩
 obtain ⟨p, hp⟩ : ∃ z, h * 2 ^ 56 % 18446744073709551616 = z := ⟨_, rfl⟩
 obtain ⟨r, hr⟩ : ∃ z, (h * 18446744073709551616 + l) / 2 ^ 8 % 18446744073709551616 = z := ⟨_, rfl⟩
 have e1 : (h : Int) / 256 = (h8 : Int) := by rw [← hh8]; exact shr_int h 8 256 rfl
 have e2 : (l : Int) / 256 = (l8 : Int) := by rw [← hl8]; exact shr_int l 8 256 rfl
 have e3 : IntKind.u64.wrap ((h : Int) * 72057594037927936) = (p : Int) := by rw [← hp]; exact shl_int h 56 72057594037927936 rfl
 have e4 : bits .or .u64 (l8 : Int) (p : Int) = (r : Int) := by rw [← hl8, ← hp, ← hr]; exact low_or h l 8 hh64 hl64 (by omega)
 have HY : Hid (y / 18446744073709551616 = h8 ∧ y % 18446744073709551616 = r ∧ x / 256 = y ∧ y < 340282366920938463463374607431768211456) := by
  have hy2 : y = (h * 18446744073709551616 + l) / 2 ^ 8 := by rw [← hy, hxl]
  refine ⟨?_, ?_, hy, by omega⟩
  ·rw [hy2, high_div h l 8 hl64, hh8]
  ·rw [hy2, hr]
 clear hh8 hl8 hp hr hxl hy hl64 hh64 hh hl hx
 repeat (quiet_step (fail))
 refine wpQuiet_nil ?_
 intro W hW
 have hbl := regrown_below hW
 clear hW j0 j1 e1 e2 e3 e4 hw56
 have H2 := HO.out.go hbl
 have f0 := H2.pf 0 rfl 0
 have f1 := H2.pf 0 rfl 1
 have q0 := H2.p0 0 rfl
 have q1 := H2.p1 0 rfl
 have H3 := (((H2.set0 0 rfl (.int .u64 (h8 : Int))).set1 0 rfl (.int .u64 (r : Int))).boxed (.slice none 0 0) 25).nil 3
 simp only [List.cons_append, List.nil_append, List.set_cons_zero, World.size_setCell] at H3
 have HO3 := Lib.hid H3
 clear HO hbl H2 H3 k0 k1
 go_wp2_with fail
 go_loopg [21] y (fun k _ wr => RNt w y w.heap.size (w.heap.size + 1) W.heap.size k wr)
 case atStart =>
  refine ⟨[], none, 0, 0, by omega, ⟨HY.out.2.2.2, rfl, rfl⟩, ?_⟩
  have h5 := HO3.out
  unfold Hid
  rw [HY.out.1, HY.out.2.1]
  exact h5
 case round =>
  clear HO3
  obtain ⟨l0, A, n, c, hyX, HL, HO⟩ := hrel
  obtain ⟨vh, hvh⟩ : ∃ z, gk / 18446744073709551616 = z := ⟨_, rfl⟩
  obtain ⟨vl, hvl⟩ : ∃ z, gk % 18446744073709551616 = z := ⟨_, rfl⟩
  rw [hvh, hvl] at HO
  have q0 := HO.out.p0 0 rfl
  have q1 := HO.out.p1 0 rfl
  have m0 := HO.out.cell 0 rfl
  have m1 := HO.out.cell 1 rfl
  have f0 := HO.out.free 0 rfl
  rcases (show gk = 0 ∨ (0 < gk ∧ 0 < vh) ∨ (0 < gk ∧ vh = 0 ∧ 0 < vl) by omega) with hg | ⟨hg, hvh0⟩ | ⟨hg, hvh0, hvl0⟩
  ·have hv0 : vh = 0 := by omega
   have hv1 : vl = 0 := by omega
   subst hv0 hv1
   have HLf : Hid (Na.dig y = l0 ∧ l0.length = n ∧ n ≤ 6) := by
    have h5 := HL.out.2.1
    rw [hg, Na.dig_zero, List.append_nil] at h5
    refine ⟨h5, HL.out.2.2, ?_⟩
    rw [← HL.out.2.2, ← h5]
    exact Na.dig_len_le (Nat.lt_of_lt_of_le HY.out.2.2.2 (by decide))
   clear hvh hvl hg hyX
   go_wp2_with fail
   have Z := (HO.out.setv 0 rfl (.slice A n c))
   simp only [List.set_cons_zero] at Z
   have s0 := Z.cell 0 rfl
   have HF := Lib.hid (And.intro (Z.row 1 rfl) Z.below)
   refine bodyPost_ret (v := .agg #[.slice A n c]) (by simp [results, Tryz.results106, go_sem, s0]) rfl ?_
   refine ⟨A, n, c, rfl, HLf.out.2.2, ?_, HF.out.2⟩
   rw [HY.out.2.2.1, HLf.out.1]
   exact HF.out.1
  ·have hA : ((vh : Int) == 0) = false := by rw [beq_eq_false_iff_ne]; omega
   obtain ⟨v2, hv2⟩ : ∃ z, vh / 2 ^ 24 = z := ⟨_, rfl⟩
   obtain ⟨l2, hl2⟩ : ∃ z, vl / 2 ^ 24 = z := ⟨_, rfl⟩
   obtain ⟨p2, hp2⟩ : ∃ z, vh * 2 ^ 40 % 18446744073709551616 = z := ⟨_, rfl⟩
   obtain ⟨r2, hr2⟩ : ∃ z, (vh * 18446744073709551616 + vl) / 2 ^ 24 % 18446744073709551616 = z := ⟨_, rfl⟩
   obtain ⟨d, hd⟩ : ∃ z, vl % 16777216 = z := ⟨_, rfl⟩
   have hlt := HL.out.1
   have hvl64 : vl < 18446744073709551616 := by omega
   have hvh64 : vh < 18446744073709551616 := by omega
   have e1 : (vh : Int) / 16777216 = (v2 : Int) := by rw [← hv2]; exact shr_int vh 24 16777216 rfl
   have e2 : (vl : Int) / 16777216 = (l2 : Int) := by rw [← hl2]; exact shr_int vl 24 16777216 rfl
   have e3 : IntKind.u64.wrap ((vh : Int) * 1099511627776) = (p2 : Int) := by rw [← hp2]; exact shl_int vh 40 1099511627776 rfl
   have e4 : bits .or .u64 (l2 : Int) (p2 : Int) = (r2 : Int) := by rw [← hl2, ← hp2, ← hr2]; exact low_or vh vl 24 hvh64 hvl64 (by omega)
   have e5 : bits .and .u64 (vl : Int) 16777215 = (d : Int) := by rw [← hd]; exact and_24 vl hvl64
   have e6 : IntKind.i64.wrap (d : Int) = (d : Int) := IntWalk.i64_in _ (by omega)
   have HN : Hid (gk / 16777216 / 18446744073709551616 = v2 ∧ gk / 16777216 % 18446744073709551616 = r2 ∧ gk % 16777216 = d ∧ gk / 16777216 < gk ∧ gk / 16777216 < 340282366920938463463374607431768211456 ∧ gk / 16777216 * 16777216 ^ (n + 1) ≤ y) := by
    have hgk : gk = vh * 18446744073709551616 + vl := by omega
    refine ⟨?_, ?_, by omega, by omega, by omega, ?_⟩
    ·rw [hgk]
     have := high_div vh vl 24 hvl64
     rw [hv2] at this
     exact this
    ·rw [hgk]; exact hr2
    ·refine Nat.le_trans ?_ hyX
     rw [Nat.pow_succ, Nat.mul_comm (16777216 ^ n), ← Nat.mul_assoc]
     exact Nat.mul_le_mul_right _ (Nat.div_mul_le_self _ _)
   have hn6 : n ≤ 6 := by
    rcases Nat.lt_or_ge 6 n with h7 | h7
    ·exfalso
     have h8 : 16777216 ^ 7 ≤ 16777216 ^ n := Nat.pow_le_pow_right (by omega) h7
     have h9 : 1 * 16777216 ^ n ≤ gk * 16777216 ^ n := Nat.mul_le_mul_right _ hg
     have := HY.out.2.2.2
     omega
    ·exact h7
   have HG := Lib.hid hg
   clear hvh hvl hyX hv2 hl2 hp2 hr2 hd hlt hvl64 hvh64 hg
   go_wp2_with (at_builtin; refine ow_append1 elemI HO.out 1 (.tmp 25) (.tmp 30) _ _ rfl rfl (by unfold maxLen; omega) (by omega) rfl rfl rfl rfl ?_; intro A' c' w8 how; have gm := how.cell 1 rfl; have gmf := how.free 1 rfl; have how2 := how.setv 1 rfl (.slice A' (n + 1) c'); have HW8 := Lib.hid how2; have g0 := how2.p0 0 rfl; have g1 := how2.p1 0 rfl; have gf0 := how2.pf 0 rfl 0; have gf1 := how2.pf 0 rfl 1; clear how how2)
   have H9 := (HW8.out.set0 0 rfl (.int .u64 (v2 : Int))).set1 0 rfl (.int .u64 (r2 : Int))
   simp only [List.set_cons_zero, List.set_cons_succ] at H9
   have HO9 := Lib.hid H9
   clear HW8 H9 g0 g1 gf0 gf1 gm gmf q0 q1 m0 m1 f0 e1 e2 e3 e4 e5 e6
   go_roundg (gk / 16777216)
   case measure => exact HN.out.2.2.2.1
   case rel =>
    refine ⟨l0 ++ [d], A', n + 1, c', HN.out.2.2.2.2.2, ⟨HN.out.2.2.2.2.1, ?_, ?_⟩, ?_⟩
    ·rw [dig_snoc HL.out.2.1 HG.out, HN.out.2.2.1]
    ·rw [List.length_append, HL.out.2.2]; rfl
    ·have h5 := HO9.out
     unfold Hid
     rw [HN.out.1, HN.out.2.1]
     have e7 : nats (l0 ++ [d]) = nats l0 ++ [.int .i64 (d : Int)] := by unfold nats; rw [List.map_append]; rfl
     rw [e7]
     exact h5
  ·have hA : ((vh : Int) == 0) = true := by rw [beq_iff_eq]; omega
   have hB : ((vl : Int) == 0) = false := by rw [beq_eq_false_iff_ne]; omega
   obtain ⟨v2, hv2⟩ : ∃ z, vh / 2 ^ 24 = z := ⟨_, rfl⟩
   obtain ⟨l2, hl2⟩ : ∃ z, vl / 2 ^ 24 = z := ⟨_, rfl⟩
   obtain ⟨p2, hp2⟩ : ∃ z, vh * 2 ^ 40 % 18446744073709551616 = z := ⟨_, rfl⟩
   obtain ⟨r2, hr2⟩ : ∃ z, (vh * 18446744073709551616 + vl) / 2 ^ 24 % 18446744073709551616 = z := ⟨_, rfl⟩
   obtain ⟨d, hd⟩ : ∃ z, vl % 16777216 = z := ⟨_, rfl⟩
   have hlt := HL.out.1
   have hvl64 : vl < 18446744073709551616 := by omega
   have hvh64 : vh < 18446744073709551616 := by omega
   have e1 : (vh : Int) / 16777216 = (v2 : Int) := by rw [← hv2]; exact shr_int vh 24 16777216 rfl
   have e2 : (vl : Int) / 16777216 = (l2 : Int) := by rw [← hl2]; exact shr_int vl 24 16777216 rfl
   have e3 : IntKind.u64.wrap ((vh : Int) * 1099511627776) = (p2 : Int) := by rw [← hp2]; exact shl_int vh 40 1099511627776 rfl
   have e4 : bits .or .u64 (l2 : Int) (p2 : Int) = (r2 : Int) := by rw [← hl2, ← hp2, ← hr2]; exact low_or vh vl 24 hvh64 hvl64 (by omega)
   have HZ : Hid ((v2 : Int) = 0 ∧ bits .or .u64 (l2 : Int) 0 = (r2 : Int)) := by
    have z1 : v2 = 0 := by rw [← hv2, hvh0]
    have z2 : p2 = 0 := by rw [← hp2, hvh0]
    refine ⟨by rw [z1]; rfl, ?_⟩
    rw [z2] at e4
    exact e4
   have e5 : bits .and .u64 (vl : Int) 16777215 = (d : Int) := by rw [← hd]; exact and_24 vl hvl64
   have e6 : IntKind.i64.wrap (d : Int) = (d : Int) := IntWalk.i64_in _ (by omega)
   have HN : Hid (gk / 16777216 / 18446744073709551616 = v2 ∧ gk / 16777216 % 18446744073709551616 = r2 ∧ gk % 16777216 = d ∧ gk / 16777216 < gk ∧ gk / 16777216 < 340282366920938463463374607431768211456 ∧ gk / 16777216 * 16777216 ^ (n + 1) ≤ y) := by
    have hgk : gk = vh * 18446744073709551616 + vl := by omega
    refine ⟨?_, ?_, by omega, by omega, by omega, ?_⟩
    ·rw [hgk]
     have := high_div vh vl 24 hvl64
     rw [hv2] at this
     exact this
    ·rw [hgk]; exact hr2
    ·refine Nat.le_trans ?_ hyX
     rw [Nat.pow_succ, Nat.mul_comm (16777216 ^ n), ← Nat.mul_assoc]
     exact Nat.mul_le_mul_right _ (Nat.div_mul_le_self _ _)
   have hn6 : n ≤ 6 := by
    rcases Nat.lt_or_ge 6 n with h7 | h7
    ·exfalso
     have h8 : 16777216 ^ 7 ≤ 16777216 ^ n := Nat.pow_le_pow_right (by omega) h7
     have h9 : 1 * 16777216 ^ n ≤ gk * 16777216 ^ n := Nat.mul_le_mul_right _ hg
     have := HY.out.2.2.2
     omega
    ·exact h7
   have HG := Lib.hid hg
   clear hvh hvl hyX hv2 hl2 hp2 hr2 hd hlt hvl64 hvh64 hg
   go_wp2_with (at_builtin; refine ow_append1 elemI HO.out 1 (.tmp 25) (.tmp 30) _ _ rfl rfl (by unfold maxLen; omega) (by omega) rfl rfl rfl rfl ?_; intro A' c' w8 how; have gm := how.cell 1 rfl; have gmf := how.free 1 rfl; have how2 := how.setv 1 rfl (.slice A' (n + 1) c'); have HW8 := Lib.hid how2; have g0 := how2.p0 0 rfl; have g1 := how2.p1 0 rfl; have gf0 := how2.pf 0 rfl 0; have gf1 := how2.pf 0 rfl 1; clear how how2)
   have H9 := (HW8.out.set0 0 rfl (.int .u64 (v2 : Int))).set1 0 rfl (.int .u64 (r2 : Int))
   simp only [List.set_cons_zero, List.set_cons_succ] at H9
   have HO9 := Lib.hid H9
   clear HW8 H9 g0 g1 gf0 gf1 gm gmf q0 q1 m0 m1 f0 e1 e2 e3 e4 e5 e6
   go_roundg (gk / 16777216)
   case measure => exact HN.out.2.2.2.1
   case rel =>
    refine ⟨l0 ++ [d], A', n + 1, c', HN.out.2.2.2.2.2, ⟨HN.out.2.2.2.2.1, ?_, ?_⟩, ?_⟩
    ·rw [dig_snoc HL.out.2.1 HG.out, HN.out.2.2.1]
    ·rw [List.length_append, HL.out.2.2]; rfl
    ·have h5 := HO9.out
     unfold Hid
     rw [HN.out.1, HN.out.2.1]
     have e7 : nats (l0 ++ [d]) = nats l0 ++ [.int .i64 (d : Int)] := by unfold nats; rw [List.map_append]; rfl
     rw [e7]
     have e8 := HZ.out.1
     rw [HZ.out.2]
     rw [e8] at h5 ⊢
     exact h5
namespace Ch
theorem cnt_le : ∀ (l : List Nat) (w s : Nat), cnt l w s ≤ 2 ^ l.length
 | [], 0, s => by unfold cnt; split <;> simp
 | [], w + 1, s => Nat.zero_le _
 | c :: l, 0, s => by
  rw [cnt_zero]
  have := Nat.one_le_two_pow (n := (c :: l).length)
  split <;> omega
 | c :: l, w + 1, s => by
  have h1 := cnt_le l (w + 1) s
  have h2 := cnt_le l w (s ^^^ c)
  show cnt l (w + 1) s + cnt l w (s ^^^ c) ≤ 2 ^ (l.length + 1)
  rw [Nat.pow_succ]
  omega
theorem nl_le (m : Nat) : ∀ (l : List Nat), (∀ x ∈ l, x ≤ m) → nl l ≤ l.length * m
 | [], _ => Nat.zero_le _
 | x :: l, h => by
  have h1 := nl_le m l fun y hy => h y (List.mem_cons_of_mem _ hy)
  have h2 := h x List.mem_cons_self
  show x + nl l ≤ (l.length + 1) * m
  rw [Nat.succ_mul]
  omega
theorem all_le (w : Nat) : all w ≤ 73 * 2 ^ 72 := by
 have h1 := cnt_le cols w 0
 have h2 := nl_le (2 ^ 72) (cols.map (cnt cols w)) (fun x hx => by
  obtain ⟨s, -, rfl⟩ := List.mem_map.1 hx
  have := cnt_le cols w s
  rw [cols_len] at this
  exact this)
 rw [cols_len] at h1
 rw [List.length_map, cols_len] at h2
 unfold all
 omega
theorem pass_le (w : Nat) : 256 * pass w < 340282366920938463463374607431768211456 := by
 have := all_le w
 unfold pass
 omega
def Vp (w o : Nat) : Int := sm (fun i => E (sl i 72) w * ((chn i : Int) * (73 - 2 * (i : Int)))) o
theorem Vp_all (w : Nat) : Vp w 73 = V w := rfl
theorem Vp_succ (w o : Nat) : Vp w (o + 1) = Vp w o + E (sl o 72) w * ((chn o : Int) * (73 - 2 * (o : Int))) := rfl
theorem chn_le (o : Nat) : chn o ≤ 256 := chu_le 256 o
theorem tw_pass (w : Nat) : tw (V w + -(256 * (right w : Int))) = 256 * pass w := by
 have h1 := pass_eq w
 have h2 : V w + -(256 * (right w : Int)) = ((256 * pass w : Nat) : Int) := by omega
 rw [h2, tw_nat _ (pass_le w)]
end Ch
theorem ltimesZ (X : Int) (z : Int) (hz : -4611686018427387904 < z ∧ z < 4611686018427387904) (w : World) :
  Calls Tryz.prog 104 #[lg (Ch.tw X), .int .i64 z] w fun e w' => e = .returned (lg (Ch.tw (X * z))) ∧ Below w.heap.size w w' := by
 rcases Int.lt_or_le z 0 with h | h
 ·obtain ⟨n, rfl⟩ : ∃ n : Nat, z = -(n : Int) := ⟨(-z).toNat, by omega⟩
  have := ltimes_neg (Ch.tw X) n (Ch.tw_lt X) (by omega) (by omega) w
  rw [Ch.tw_neg, Ch.tw_mul, Int.neg_mul, ← Int.mul_neg] at this
  exact this
 ·obtain ⟨n, rfl⟩ := Int.eq_ofNat_of_zero_le h
  have := ltimes (Ch.tw X) n (Ch.tw_lt X) (by omega) w
  rw [Ch.tw_mul] at this
  exact this
def RWb (w0 : World) (b rb v : Nat) (x : Value) (wr : World) : Prop := ∃ o : Nat, o ≤ 73 ∧ x = .int .i64 (o : Int) ∧ Hid (Ow w0 wr none [(rb, .slice none 0 0)] [] [Rw.pair b 127 (.int .u64 ((Ch.tw (Ch.Vp v o) / 18446744073709551616 : Nat) : Int)) (.int .u64 ((Ch.tw (Ch.Vp v o) % 18446744073709551616 : Nat) : Int))])
set_option maxHeartbeats 8000000 in
theorem wrongbits_ok (v : Nat) (hv : v ≤ 72) (w : World) : Calls Tryz.prog 56 #[.int .i64 (v : Int)] w (ResN w (Na.dig (Ch.pass v)) 0) := by
 have t1 : decide ((v : Int) < 0) = false := decide_eq_false (by omega)
 have t2 : decide (72 < (v : Int)) = false := decide_eq_false (by omega)
 have HO := Lib.hid (((Ow.of (St.refl w)).boxed (.slice none 0 0) 25).pair (.int .u64 0) (.int .u64 0) 127)
 have HCh := Lib.hid (fun W => characters_any W)
 obtain ⟨xs, hxs⟩ : ∃ xs, cna 256 = xs := ⟨_, rfl⟩
 rw [hxs] at HCh
 have HX := Lib.hid hxs
 clear hxs
 go_enter Tryz.func56, Tryz.ntmps56
 go_wp2_with (go_at_call 101; refine (HCh.out _).mono ?_; rintro e w1 ⟨rfl, hb⟩; have HO1 := Lib.hid (HO.out.go hb); clear hb)
 clear HO HCh
 go_loopw [16] (fun x wr => RWb w (w.heap.size + 1) w.heap.size v x wr) (fun x _ => 74 - (intOf x).toNat)
 case atStart =>
  refine ⟨0, by omega, rfl, ?_⟩
  have h5 := HO1.out
  simp only [List.nil_append, World.size_alloc] at h5
  have e : Ch.tw (Ch.Vp v 0) = 0 := rfl
  unfold Hid
  rw [e]
  exact h5
 case round =>
  clear HO1
  obtain ⟨o, ho, rfl, HO⟩ := hrel
  rcases Nat.lt_or_ge o 73 with hlt | hge
  ·have hd : decide ((o : Int) < 73) = true := decide_eq_true (by omega)
   obtain ⟨n, hn⟩ : ∃ n, Ch.chn o = n := ⟨_, rfl⟩
   have hn256 : n ≤ 256 := by rw [← hn]; exact Ch.chn_le o
   have hxo : xs[o]? = some (.int .i64 (n : Int)) := by rw [← HX.out, cna_get hlt, ← hn]; rfl
   have hidx := fun W => index_counts xs o _ hlt hxo W
   have HVs := Lib.hid (Ch.Vp_succ v o)
   rw [hn] at HVs
   clear hxo
   rcases Nat.eq_zero_or_pos n with hn0 | hn0
   ·have hdn : decide ((0 : Int) < (n : Int)) = false := decide_eq_false (by omega)
    have hdn2 : decide (0 < n) = false := decide_eq_false (by omega)
    have HV2 : Hid (Ch.Vp v (o + 1) = Ch.Vp v o) := by
     unfold Hid
     rw [HVs.out, hn0]
     simp
    clear hn hn0
    go_wp2_with fail
    go_roundw
    case rel => exact ⟨o + 1, by omega, by go_num, by rw [HV2.out]; exact HO⟩
    case measure => simp [intOf]; omega
   ·have hdn : decide ((0 : Int) < (n : Int)) = true := decide_eq_true (by omega)
    have hdn2 : decide (0 < n) = true := decide_eq_true hn0
    clear hn hn0
    go_upto_region 8 with (fail)
    obtain ⟨q, hq⟩ : ∃ q : Int, 73 - 2 * (o : Int) = q := ⟨_, rfl⟩
    have hqb : -100 ≤ q ∧ q ≤ 100 := by omega
    obtain ⟨z, hz⟩ : ∃ z : Int, (n : Int) * q = z := ⟨_, rfl⟩
    have hzb : -25600 ≤ z ∧ z ≤ 25600 := by
     have h1 : (n : Int) * q ≤ (n : Int) * 100 := Int.mul_le_mul_of_nonneg_left hqb.2 (by omega)
     have h2 : (n : Int) * (-100) ≤ (n : Int) * q := Int.mul_le_mul_of_nonneg_left hqb.1 (by omega)
     omega
    have m1 : IntKind.i64.wrap (2 * (o : Int)) = 2 * (o : Int) := IntWalk.i64_in _ (by omega)
    have m2 : IntKind.i64.wrap (73 - 2 * (o : Int)) = q := by rw [hq]; exact IntWalk.i64_in _ (by omega)
    have m3 : IntKind.i64.wrap ((n : Int) * q) = z := by rw [hz]; exact IntWalk.i64_in _ (by omega)
    obtain ⟨ys, hys⟩ : ∃ ys, lgs (Ch.sgA o 72 72) = ys := ⟨_, rfl⟩
    obtain ⟨x0, hx0⟩ : ∃ x, Ch.tw (Ch.E (Ch.sl o 72) v) = x := ⟨_, rfl⟩
    obtain ⟨xh, hxh⟩ : ∃ x, x0 / 18446744073709551616 = x := ⟨_, rfl⟩
    obtain ⟨xl, hxl⟩ : ∃ x, x0 % 18446744073709551616 = x := ⟨_, rfl⟩
    obtain ⟨p0, hp0⟩ : ∃ x, Ch.tw (Ch.E (Ch.sl o 72) v * z) = x := ⟨_, rfl⟩
    obtain ⟨ph, hph⟩ : ∃ x, p0 / 18446744073709551616 = x := ⟨_, rfl⟩
    obtain ⟨pl, hpl⟩ : ∃ x, p0 % 18446744073709551616 = x := ⟨_, rfl⟩
    obtain ⟨s0, hs0⟩ : ∃ x, Ch.tw (Ch.Vp v o) = x := ⟨_, rfl⟩
    obtain ⟨sh, hsh⟩ : ∃ x, s0 / 18446744073709551616 = x := ⟨_, rfl⟩
    obtain ⟨sl, hsl⟩ : ∃ x, s0 % 18446744073709551616 = x := ⟨_, rfl⟩
    obtain ⟨r0, hr0⟩ : ∃ x, Ch.tw (Ch.Vp v (o + 1)) = x := ⟨_, rfl⟩
    obtain ⟨rh, hrh⟩ : ∃ x, r0 / 18446744073709551616 = x := ⟨_, rfl⟩
    obtain ⟨rl, hrl⟩ : ∃ x, r0 % 18446744073709551616 = x := ⟨_, rfl⟩
    have hsum : (s0 + p0) % 340282366920938463463374607431768211456 = r0 := by rw [← hs0, ← hp0, ← hr0, Ch.tw_add, HVs.out, ← hz, ← hq]
    have hgA := lgs_at (A := Ch.sgA o 72 72) (k := v) (x := x0) (by rw [Ch.sgA_at (by omega), if_neg (by omega), hx0])
    rw [hys, hxh, hxl] at hgA
    have hidl := fun W => index_long ys v _ _ (by omega) hgA.1 hgA.2 W
    rw [hs0, hsh, hsl] at HO
    have c0 := cell_regrown (HO.out.p0 0 rfl)
    have c1 := cell_regrown (HO.out.p1 0 rfl)
    have cS := regrown_call (P := Tryz.prog) (w := wr) (f := 103) (args := #[.int .i64 (o : Int)]) (v := .agg ys.toArray) (fun W hW => by rw [← hys]; exact signs_any o (by omega) W)
    have cT := regrown_call (P := Tryz.prog) (w := wr) (f := 104) (args := #[.agg #[.int .u64 (xh : Int), .int .u64 (xl : Int)], .int .i64 z]) (v := .agg #[.int .u64 (ph : Int), .int .u64 (pl : Int)]) (fun W hW => by
     have := ltimesZ (Ch.E (Ch.sl o 72) v) z (by omega) W
     unfold lg at this
     rw [hx0, hp0, hxh, hxl, hph, hpl] at this
     exact this)
    have cA := regrown_call (P := Tryz.prog) (w := wr) (f := 102) (args := #[.agg #[.int .u64 (sh : Int), .int .u64 (sl : Int)], .agg #[.int .u64 (ph : Int), .int .u64 (pl : Int)]]) (v := .agg #[.int .u64 (rh : Int), .int .u64 (rl : Int)]) (fun W hW => by
     have := ladd s0 p0 (by rw [← hs0]; exact Ch.tw_lt _) (by rw [← hp0]; exact Ch.tw_lt _) W
     unfold lg at this
     rw [hsum, hsh, hsl, hph, hpl, hrh, hrl] at this
     exact this)
    have HR : Hid (Ch.tw (Ch.Vp v (o + 1)) / 18446744073709551616 = rh ∧ Ch.tw (Ch.Vp v (o + 1)) % 18446744073709551616 = rl) := ⟨by rw [hr0, hrh], by rw [hr0, hrl]⟩
    clear hys hx0 hxh hxl hp0 hph hpl hs0 hsh hsl hr0 hrh hrl hsum hgA hq hz hidx
    refine region_below_tail 12 (by kernel_rfl) (by kernel_rfl) ?_
    simp only [List.take_succ_cons, List.take_zero, List.drop_succ_cons, List.drop_zero]
    repeat (quiet_step (first | (with_reducible exact cS _ _) | (with_reducible exact cT _ _) | (with_reducible exact cA _ _)))
    refine wpQuiet_nil ?_
    intro W hW
    have hbl := regrown_below hW
    clear hW c0 c1 cS cT cA m1 m2 m3 hidl
    have H2 := HO.out.go hbl
    have f0 := H2.pf 0 rfl 0
    have f1 := H2.pf 0 rfl 1
    have q0 := H2.p0 0 rfl
    have q1 := H2.p1 0 rfl
    have H3 := (H2.set0 0 rfl (.int .u64 (rh : Int))).set1 0 rfl (.int .u64 (rl : Int))
    simp only [List.set_cons_zero] at H3
    have HO3 := Lib.hid H3
    clear HO hbl H2 H3
    go_wp2_with fail
    go_roundw
    case rel => exact ⟨o + 1, by omega, by go_num, by rw [HR.out.1, HR.out.2]; exact HO3⟩
    case measure => simp [intOf]; omega
  ·have hd : decide ((o : Int) < 73) = false := decide_eq_false (by omega)
   obtain rfl : o = 73 := by omega
   rw [Ch.Vp_all] at HO
   obtain ⟨s0, hs0⟩ : ∃ x, Ch.tw (Ch.V v) = x := ⟨_, rfl⟩
   obtain ⟨sh, hsh⟩ : ∃ x, s0 / 18446744073709551616 = x := ⟨_, rfl⟩
   obtain ⟨sl, hsl⟩ : ∃ x, s0 % 18446744073709551616 = x := ⟨_, rfl⟩
   rw [hs0, hsh, hsl] at HO
   rcases (show v = 0 ∨ v = 1 ∨ 2 ≤ v by omega) with hv0 | hv1 | hv2
   ·have hA : ((v : Int) == 0) = true := by rw [beq_iff_eq]; omega
    have hright : Ch.right v = 1 := by rw [hv0]; rfl
    obtain ⟨m0, hm0⟩ : ∃ x, Ch.tw (-(256 : Int)) = x := ⟨_, rfl⟩
    obtain ⟨mh, hmh⟩ : ∃ x, m0 / 18446744073709551616 = x := ⟨_, rfl⟩
    obtain ⟨ml, hml⟩ : ∃ x, m0 % 18446744073709551616 = x := ⟨_, rfl⟩
    obtain ⟨r0, hr0⟩ : ∃ x, 256 * Ch.pass v = x := ⟨_, rfl⟩
    obtain ⟨rh, hrh⟩ : ∃ x, r0 / 18446744073709551616 = x := ⟨_, rfl⟩
    obtain ⟨rl, hrl⟩ : ∃ x, r0 % 18446744073709551616 = x := ⟨_, rfl⟩
    have hsum : (s0 + m0) % 340282366920938463463374607431768211456 = r0 := by
     rw [← hs0, ← hm0, ← hr0, Ch.tw_add, ← Ch.tw_pass, hright]
     rfl
    have c0 := cell_regrown (HO.out.p0 0 rfl)
    have c1 := cell_regrown (HO.out.p1 0 rfl)
    have cM := regrown_call (P := Tryz.prog) (w := wr) (f := 105) (args := #[.agg #[.int .u64 0, .int .u64 256]]) (v := .agg #[.int .u64 (mh : Int), .int .u64 (ml : Int)]) (fun W hW => by
     have := lminus 256 (by omega) W
     unfold lg at this
     have e5 : (340282366920938463463374607431768211456 - 256) % 340282366920938463463374607431768211456 = m0 := hm0
     rw [← hmh, ← hml, ← e5]
     exact this)
    have cA := regrown_call (P := Tryz.prog) (w := wr) (f := 102) (args := #[.agg #[.int .u64 (sh : Int), .int .u64 (sl : Int)], .agg #[.int .u64 (mh : Int), .int .u64 (ml : Int)]]) (v := .agg #[.int .u64 (rh : Int), .int .u64 (rl : Int)]) (fun W hW => by
     have := ladd s0 m0 (by rw [← hs0]; exact Ch.tw_lt _) (by rw [← hm0]; exact Ch.tw_lt _) W
     unfold lg at this
     rw [hsum, hsh, hsl, hmh, hml, hrh, hrl] at this
     exact this)
    have HN : Hid (∀ W, Calls Tryz.prog 106 #[.agg #[.int .u64 (rh : Int), .int .u64 (rl : Int)], .int .i64 8] W fun e w' => ∃ (A : Option Addr) (n c : Nat), e = .returned (.agg #[.slice A n c]) ∧ n ≤ 6 ∧ w'.ownsRow W.heap.size 3 1 (.slice A n c) n (nats (Na.dig (Ch.pass v))) ∧ Below W.heap.size W w') := fun W => by
     have := lnat_any r0 (by rw [← hr0]; exact Ch.pass_le v) W
     unfold lg at this
     rw [hrh, hrl, ← hr0, Nat.mul_div_cancel_left _ (by omega)] at this
     exact this
    clear hm0 hmh hml hr0 hrh hrl hsum hright hv0 hs0 hsh hsl
    have w1' : IntKind.i64.wrap 256 = 256 := rfl
    have w2' : IntKind.u64.wrap 256 = 256 := rfl
    go_upto_region 16 with (fail)
    refine region_below_tail 7 (by kernel_rfl) (by kernel_rfl) ?_
    simp only [List.take_succ_cons, List.take_zero, List.drop_succ_cons, List.drop_zero]
    repeat (quiet_step (first | (with_reducible exact cM _ _) | (with_reducible exact cA _ _)))
    refine wpQuiet_nil ?_
    intro W hW
    have hbl := regrown_below hW
    clear hW c0 c1 cM cA
    have HO2 := Lib.hid (HO.out.go hbl)
    clear HO hbl
    go_wp2_with fail
    refine (HN.out _).mono ?_
    rintro e w2 ⟨A, n, c, rfl, hn6, ho, hb⟩
    have H4 := HO2.out.add ho hb
    simp only [List.cons_append, List.nil_append] at H4
    have r0 := H4.cell 0 rfl
    have f0 := H4.free 0 rfl
    have Z := H4.setv 0 rfl (.slice A n c)
    simp only [List.set_cons_zero] at Z
    have s0 := Z.cell 0 rfl
    have HF := Lib.hid (resN_of Z 1 rfl 0)
    clear HN HO2 ho hb H4 Z
    go_wp2_with fail
    refine bodyPost_ret (v := .tuple #[.agg #[.slice A n c], .int .i64 0]) (by simp [results, Tryz.results56, go_sem, s0]) rfl ?_
    exact HF.out
   ·have hA : ((v : Int) == 0) = false := by rw [beq_eq_false_iff_ne]; omega
    have hB : ((v : Int) == 1) = true := by rw [beq_iff_eq]; omega
    have hright : Ch.right v = 72 := by rw [hv1]; rfl
    obtain ⟨m0, hm0⟩ : ∃ x, Ch.tw (-(18432 : Int)) = x := ⟨_, rfl⟩
    obtain ⟨mh, hmh⟩ : ∃ x, m0 / 18446744073709551616 = x := ⟨_, rfl⟩
    obtain ⟨ml, hml⟩ : ∃ x, m0 % 18446744073709551616 = x := ⟨_, rfl⟩
    obtain ⟨r0, hr0⟩ : ∃ x, 256 * Ch.pass v = x := ⟨_, rfl⟩
    obtain ⟨rh, hrh⟩ : ∃ x, r0 / 18446744073709551616 = x := ⟨_, rfl⟩
    obtain ⟨rl, hrl⟩ : ∃ x, r0 % 18446744073709551616 = x := ⟨_, rfl⟩
    have hsum : (s0 + m0) % 340282366920938463463374607431768211456 = r0 := by
     rw [← hs0, ← hm0, ← hr0, Ch.tw_add, ← Ch.tw_pass, hright]
     rfl
    have c0 := cell_regrown (HO.out.p0 0 rfl)
    have c1 := cell_regrown (HO.out.p1 0 rfl)
    have cM := regrown_call (P := Tryz.prog) (w := wr) (f := 105) (args := #[.agg #[.int .u64 0, .int .u64 18432]]) (v := .agg #[.int .u64 (mh : Int), .int .u64 (ml : Int)]) (fun W hW => by
     have := lminus 18432 (by omega) W
     unfold lg at this
     have e5 : (340282366920938463463374607431768211456 - 18432) % 340282366920938463463374607431768211456 = m0 := hm0
     rw [← hmh, ← hml, ← e5]
     exact this)
    have cA := regrown_call (P := Tryz.prog) (w := wr) (f := 102) (args := #[.agg #[.int .u64 (sh : Int), .int .u64 (sl : Int)], .agg #[.int .u64 (mh : Int), .int .u64 (ml : Int)]]) (v := .agg #[.int .u64 (rh : Int), .int .u64 (rl : Int)]) (fun W hW => by
     have := ladd s0 m0 (by rw [← hs0]; exact Ch.tw_lt _) (by rw [← hm0]; exact Ch.tw_lt _) W
     unfold lg at this
     rw [hsum, hsh, hsl, hmh, hml, hrh, hrl] at this
     exact this)
    have HN : Hid (∀ W, Calls Tryz.prog 106 #[.agg #[.int .u64 (rh : Int), .int .u64 (rl : Int)], .int .i64 8] W fun e w' => ∃ (A : Option Addr) (n c : Nat), e = .returned (.agg #[.slice A n c]) ∧ n ≤ 6 ∧ w'.ownsRow W.heap.size 3 1 (.slice A n c) n (nats (Na.dig (Ch.pass v))) ∧ Below W.heap.size W w') := fun W => by
     have := lnat_any r0 (by rw [← hr0]; exact Ch.pass_le v) W
     unfold lg at this
     rw [hrh, hrl, ← hr0, Nat.mul_div_cancel_left _ (by omega)] at this
     exact this
    clear hm0 hmh hml hr0 hrh hrl hsum hright hv1 hs0 hsh hsl
    have w1' : IntKind.i64.wrap 18432 = 18432 := rfl
    have w2' : IntKind.u64.wrap 18432 = 18432 := rfl
    go_upto_region 16 with (fail)
    refine region_below_tail 7 (by kernel_rfl) (by kernel_rfl) ?_
    simp only [List.take_succ_cons, List.take_zero, List.drop_succ_cons, List.drop_zero]
    repeat (quiet_step (first | (with_reducible exact cM _ _) | (with_reducible exact cA _ _)))
    refine wpQuiet_nil ?_
    intro W hW
    have hbl := regrown_below hW
    clear hW c0 c1 cM cA
    have HO2 := Lib.hid (HO.out.go hbl)
    clear HO hbl
    go_wp2_with fail
    refine (HN.out _).mono ?_
    rintro e w2 ⟨A, n, c, rfl, hn6, ho, hb⟩
    have H4 := HO2.out.add ho hb
    simp only [List.cons_append, List.nil_append] at H4
    have r0 := H4.cell 0 rfl
    have f0 := H4.free 0 rfl
    have Z := H4.setv 0 rfl (.slice A n c)
    simp only [List.set_cons_zero] at Z
    have s0 := Z.cell 0 rfl
    have HF := Lib.hid (resN_of Z 1 rfl 0)
    clear HN HO2 ho hb H4 Z
    go_wp2_with fail
    refine bodyPost_ret (v := .tuple #[.agg #[.slice A n c], .int .i64 0]) (by simp [results, Tryz.results56, go_sem, s0]) rfl ?_
    exact HF.out
   ·have hA : ((v : Int) == 0) = false := by rw [beq_eq_false_iff_ne]; omega
    have hB : ((v : Int) == 1) = false := by rw [beq_eq_false_iff_ne]; omega
    have hright : Ch.right v = 0 := by unfold Ch.right; rw [if_neg (by omega), if_neg (by omega)]
    obtain ⟨m0, hm0⟩ : ∃ x, Ch.tw (-(0 : Int)) = x := ⟨_, rfl⟩
    obtain ⟨mh, hmh⟩ : ∃ x, m0 / 18446744073709551616 = x := ⟨_, rfl⟩
    obtain ⟨ml, hml⟩ : ∃ x, m0 % 18446744073709551616 = x := ⟨_, rfl⟩
    obtain ⟨r0, hr0⟩ : ∃ x, 256 * Ch.pass v = x := ⟨_, rfl⟩
    obtain ⟨rh, hrh⟩ : ∃ x, r0 / 18446744073709551616 = x := ⟨_, rfl⟩
    obtain ⟨rl, hrl⟩ : ∃ x, r0 % 18446744073709551616 = x := ⟨_, rfl⟩
    have hsum : (s0 + m0) % 340282366920938463463374607431768211456 = r0 := by
     rw [← hs0, ← hm0, ← hr0, Ch.tw_add, ← Ch.tw_pass, hright]
     rfl
    have c0 := cell_regrown (HO.out.p0 0 rfl)
    have c1 := cell_regrown (HO.out.p1 0 rfl)
    have cM := regrown_call (P := Tryz.prog) (w := wr) (f := 105) (args := #[.agg #[.int .u64 0, .int .u64 0]]) (v := .agg #[.int .u64 (mh : Int), .int .u64 (ml : Int)]) (fun W hW => by
     have := lminus 0 (by omega) W
     unfold lg at this
     have e5 : (340282366920938463463374607431768211456 - 0) % 340282366920938463463374607431768211456 = m0 := hm0
     rw [← hmh, ← hml, ← e5]
     exact this)
    have cA := regrown_call (P := Tryz.prog) (w := wr) (f := 102) (args := #[.agg #[.int .u64 (sh : Int), .int .u64 (sl : Int)], .agg #[.int .u64 (mh : Int), .int .u64 (ml : Int)]]) (v := .agg #[.int .u64 (rh : Int), .int .u64 (rl : Int)]) (fun W hW => by
     have := ladd s0 m0 (by rw [← hs0]; exact Ch.tw_lt _) (by rw [← hm0]; exact Ch.tw_lt _) W
     unfold lg at this
     rw [hsum, hsh, hsl, hmh, hml, hrh, hrl] at this
     exact this)
    have HN : Hid (∀ W, Calls Tryz.prog 106 #[.agg #[.int .u64 (rh : Int), .int .u64 (rl : Int)], .int .i64 8] W fun e w' => ∃ (A : Option Addr) (n c : Nat), e = .returned (.agg #[.slice A n c]) ∧ n ≤ 6 ∧ w'.ownsRow W.heap.size 3 1 (.slice A n c) n (nats (Na.dig (Ch.pass v))) ∧ Below W.heap.size W w') := fun W => by
     have := lnat_any r0 (by rw [← hr0]; exact Ch.pass_le v) W
     unfold lg at this
     rw [hrh, hrl, ← hr0, Nat.mul_div_cancel_left _ (by omega)] at this
     exact this
    clear hm0 hmh hml hr0 hrh hrl hsum hright hv2 hs0 hsh hsl
    have w1' : IntKind.i64.wrap 0 = 0 := rfl
    have w2' : IntKind.u64.wrap 0 = 0 := rfl
    go_upto_region 16 with (fail)
    refine region_below_tail 7 (by kernel_rfl) (by kernel_rfl) ?_
    simp only [List.take_succ_cons, List.take_zero, List.drop_succ_cons, List.drop_zero]
    repeat (quiet_step (first | (with_reducible exact cM _ _) | (with_reducible exact cA _ _)))
    refine wpQuiet_nil ?_
    intro W hW
    have hbl := regrown_below hW
    clear hW c0 c1 cM cA
    have HO2 := Lib.hid (HO.out.go hbl)
    clear HO hbl
    go_wp2_with fail
    refine (HN.out _).mono ?_
    rintro e w2 ⟨A, n, c, rfl, hn6, ho, hb⟩
    have H4 := HO2.out.add ho hb
    simp only [List.cons_append, List.nil_append] at H4
    have r0 := H4.cell 0 rfl
    have f0 := H4.free 0 rfl
    have Z := H4.setv 0 rfl (.slice A n c)
    simp only [List.set_cons_zero] at Z
    have s0 := Z.cell 0 rfl
    have HF := Lib.hid (resN_of Z 1 rfl 0)
    clear HN HO2 ho hb H4 Z
    go_wp2_with fail
    refine bodyPost_ret (v := .tuple #[.agg #[.slice A n c], .int .i64 0]) (by simp [results, Tryz.results56, go_sem, s0]) rfl ?_
    exact HF.out
end Go.Proofs.YtenokdhldngkgaaGreatDoor
namespace Go.Proofs.YtenokdhldngkgaaGreatDoor
open Go.RowKit Go.Sort
set_option linter.unusedVariables false
set_option maxRecDepth 100000
theorem aw_wd : Ch.wd 2 1 2 = 255 := by decide +kernel
theorem aw_wr : Ch.wr 2 1 0 2 = 255 := by decide +kernel
theorem aw_er : Na.bin 2 2 * 255 ^ 2 = 65025 := by decide +kernel
theorem aw_fr : frM 255 65025 = (1, 255, 0) := by decide +kernel
theorem aw_ps : Ch.pass 2 = 0 := Ch.pass_few 2 (by omega)
theorem aw_t1 : str (De.text 255) = ⟨#[50, 53, 53]⟩ := by decide +kernel
theorem aw_t2 : str (De.text 1 ++ 47 :: De.text 255) = ⟨#[49, 47, 50, 53, 53]⟩ := by decide +kernel
theorem aw_t3 : str (De.text 0) = ⟨#[48]⟩ := by decide +kernel
theorem prt_dig {x : Nat} (hx : x < Na.top) : prtL (Na.up (Na.dig x)) = De.text x := by unfold prtL; rw [Na.vld_dig hx, num_dig]; rfl
section
variable {w0 w w' : World} {g : Option Nat} {M M2 : List (Nat × Value)} {L : List Ob} {O : List Rw} {A A2 A3 A4 : Option Addr} {b n c m c2 n3 c3 n4 c4 x y : Nat}
theorem wrongbits_ow (h : Ow w0 w g M L O) (v : Nat) (hv : v ≤ 72) : Calls Tryz.prog 56 #[.int .i64 (v : Int)] w (GotO w0 g M L O (Na.dig (Ch.pass v)) 0) :=
 (wrongbits_ok v hv w).mono fun e w' hr => got_o h (dig_1000 (by
  have := Ch.pass_le v
  exact Nat.lt_of_le_of_lt (show Ch.pass v ≤ 340282366920938463463374607431768211456 by omega) (by decide +kernel))) hr
theorem nprint_fr (h : Ow w0 w g M L O) (i : Nat) (hi : L[i]? = some ⟨A, n, c, nats (Na.dig x)⟩) (hx : x < Na.top) :
  Calls Tryz.prog 57 #[.agg #[.slice A n c]] w fun e w' => e = .returned (.string (str (De.text x))) ∧ Ow w0 w' g M L O := by
 have := ag_prt (zs := Na.up (Na.dig x)) h i (by rw [nats_up]; exact hi)
 rwa [prt_dig hx] at this
end
set_option maxHeartbeats 8000000 in
theorem awake08 (w : World) (ht : Tab w) : Calls Tryz.prog 26 #[] w fun e w' => e = .returned (.bool true) ∧ Below w.heap.size w w' := by
 have HT := Lib.hid ht
 have H0 := (Ow.of (St.refl w)).code 1 1 0
 simp only [List.nil_append] at H0
 obtain ⟨k0, k1, k2, k3⟩ := H0.cdc 0 rfl
 have hcv : Cv 1 1 0 2 := Cv.of ⟨by omega, by omega, by omega, by omega, by omega⟩ (by omega)
 have HC := Lib.hid (c_Words H0 hcv (v := 2) (by omega))
 rw [aw_wd] at HC
 have HV := Lib.hid hcv
 clear H0 ht hcv
 go_enter Tryz.func26, Tryz.ntmps26
 go_wp2_with fail
 refine HC.out.mono ?_
 rintro e w1 ⟨A1, n1, c1, rfl, G1⟩
 have H1 := G1.boxed (.slice A1 n1 c1) 25
 simp only [List.nil_append] at H1
 obtain ⟨q0, q1, q2, q3⟩ := H1.cdc 0 rfl
 have HD := Lib.hid (c_Chance (tF := (1, 255, 0)) H1 HV.out (v := 2) (by omega) HT.out (by rw [aw_wr, aw_er]; exact aw_fr))
 clear HC G1 H1 k0 k1 k2 k3
 go_wp2_with fail
 refine HD.out.mono ?_
 rintro e w2 ⟨A2, n2, c2, A3, n3, c3, rfl, G2⟩
 have H2 := G2.pair (.slice A2 n2 c2) (.slice A3 n3 c3) 27
 simp only [List.nil_append, List.cons_append] at H2
 have HE := Lib.hid (wrongbits_ow H2 2 (by omega))
 rw [aw_ps] at HE
 clear HD G2 H2 q0 q1 q2 q3
 go_wp2_with fail
 refine HE.out.mono ?_
 rintro e w3 ⟨A4, n4, c4, rfl, G3⟩
 have H3 := G3.boxed (.slice A4 n4 c4) 25
 simp only [List.nil_append, List.cons_append] at H3
 have m0 := H3.cell 0 rfl
 have HF := Lib.hid (nprint_fr (x := 255) H3 0 rfl (tiny_top (by omega)))
 rw [aw_t1] at HF
 clear HE G3 H3
 go_wp2_with fail
 refine HF.out.mono ?_
 rintro e w4 ⟨rfl, H4⟩
 have a0 := H4.p0 1 rfl
 have a1 := H4.p1 1 rfl
 have HG := Lib.hid (qprint_ok (x := 1) (y := 255) H4 1 2 rfl rfl HT.out (tiny_top (by omega)) (tiny_top (by omega)) (rv_low (tiny_top (by omega)) (tiny_top (by omega)) (by omega) (by decide)))
 rw [aw_t2] at HG
 clear HF H4 m0
 go_wp2_with fail
 refine HG.out.mono ?_
 rintro e w5 ⟨rfl, H5⟩
 have m1 := H5.cell 1 rfl
 have HI := Lib.hid (nprint_fr (x := 0) H5 3 rfl (tiny_top (by omega)))
 rw [aw_t3] at HI
 clear HG H5 a0 a1
 go_wp2_with fail
 refine HI.out.mono ?_
 rintro e w6 ⟨rfl, H6⟩
 have HB := Lib.hid H6.below
 clear HI H6 m1
 go_wp2_with fail
 go_ret
 exact ⟨rfl, HB.out⟩
section
variable {w0 w w' : World} {g : Option Nat} {M M2 : List (Nat × Value)} {L : List Ob} {O : List Rw} {A A2 A3 A4 : Option Addr} {b n c m c2 n3 c3 n4 c4 x y : Nat}
theorem rof_z (h : Ow w0 w g M L O) (k : Nat) (hk : k ≤ 9223372036854775807) : Calls Tryz.prog 73 #[.int .i64 (k : Int)] w (GotO w0 g M L O (Na.dig k) 0) := by
 have := ag_rof h (k : Int) (by omega)
 rwa [ofL_nat, ofE_nat] at this
theorem rpow_z (h : Ow w0 w g M L O) (i : Nat) (hi : L[i]? = some ⟨A, n, c, nats (Na.dig x)⟩) (hx : x < Na.top) (k : Nat) (hk : k ≤ 4800) (hp : x ^ k < Na.top) : Calls Tryz.prog 90 #[.agg #[.slice A n c], .int .i64 (k : Int)] w (GotO w0 g M L O (Na.dig (x ^ k)) 0) := by
 have := ag_rpow h i hi hx (k : Int)
 rwa [powL_nat hk hp, powE_nat hk hp] at this
theorem rmul_z (h : Ow w0 w g M L O) (i j : Nat) (hi : L[i]? = some ⟨A, n, c, nats (Na.dig x)⟩) (hj : L[j]? = some ⟨A2, m, c2, nats (Na.dig y)⟩) (hx : x < Na.top) (hy : y < Na.top) (hs : x * y < Na.top) : Calls Tryz.prog 50 #[.agg #[.slice A n c], .agg #[.slice A2 m c2]] w (GotO w0 g M L O (Na.dig (x * y)) 0) := by
 have := nrmul_fr h i j hi hj hx hy
 rwa [resL_ok hs, resE_ok hs] at this
theorem rsub_z (h : Ow w0 w g M L O) (i j : Nat) (hi : L[i]? = some ⟨A, n, c, nats (Na.dig x)⟩) (hj : L[j]? = some ⟨A2, m, c2, nats (Na.dig y)⟩) (hx : x < Na.top) (hy : y ≤ x) : Calls Tryz.prog 47 #[.agg #[.slice A n c], .agg #[.slice A2 m c2]] w (GotO w0 g M L O (Na.dig (x - y)) 0) := by
 have := ag_rsub (zs := Na.up (Na.dig x)) (ys := Na.up (Na.dig y)) h i j (by rw [nats_up]; exact hi) (by rw [nats_up]; exact hj)
 unfold subL subE at this
 rw [Na.vld_dig hx, Na.vld_dig (Nat.lt_of_le_of_lt hy hx), num_dig, num_dig] at this
 simpa [Nat.not_lt.2 hy] using this
end
section
variable {w0 w w' : World} {g : Option Nat} {M M2 : List (Nat × Value)} {L : List Ob} {O : List Rw} {A A2 A3 A4 : Option Addr} {b n c m c2 n3 c3 n4 c4 x y : Nat} {p q r s : List Int}
structure DmK (w0 : World) (g : Option Nat) (M : List (Nat × Value)) (L : List Ob) (O : List Rw) (r0 x0 : Nat) (A1 : Option Addr) (n1 c1 i : Nat) (ad : Addr) (n c k : Nat) (Ak : Option Addr) (nk ck P x : Nat) (Ld : Nat → Bool) (u0 u1 u2 u3 u4 u5 u6 u7 u8 : Value) (va : Value) (Ls : List Ob) (W : World) : Prop where
 ow : Ow w0 W g (M ++ [(r0, .slice none 0 0), (x0, va)]) (L ++ [(⟨A1, n1, c1, nats (Na.dig P)⟩ : Ob)] ++ Ls) O
 h0 : Ld 0 = true → u0 = .agg #[.slice A1 n1 c1]
 h1 : Ld 1 = true → u1 = .slice (some ad) n c
 h2 : Ld 2 = true → u2 = .int .i64 (k : Int)
 h3 : Ld 3 = true → u3 = .pointer (some (ad.add k))
 h4 : Ld 4 = true → u4 = .agg #[.slice Ak nk ck]
 h5 : GT Ld 5 u5 (P * x) 0 Ls
 h6 : GT Ld 6 u6 (P * x) 0 Ls
 h7 : GN Ld 7 u7 (P * x) Ls
 h8 : Ld 8 = true → u8 = .int .i64 0
 v0 : Ld 9 = false → va = .slice A1 n1 c1
 v1 : GV Ld 9 va (P * x) Ls
def DmI (w0 : World) (g : Option Nat) (M : List (Nat × Value)) (L : List Ob) (O : List Rw) (r0 x0 : Nat) (A1 : Option Addr) (n1 c1 i : Nat) (ad : Addr) (n c k : Nat) (Ak : Option Addr) (nk ck P x : Nat) (A0 : Act) (Ld : Nat → Bool) (a : Act) (W : World) : Prop :=
 ∃ (u0 u1 u2 u3 u4 u5 u6 u7 u8 : Value) (va : Value) (Ls : List Ob), a = (((((((((A0.put (some 17) u0).put (some 18) u1).put (some 19) u2).put (some 20) u3).put (some 21) u4).put (some 22) u5).put (some 16) u6).put (some 23) u7).put (some 24) u8) ∧ DmK w0 g M L O r0 x0 A1 n1 c1 i ad n c k Ak nk ck P x Ld u0 u1 u2 u3 u4 u5 u6 u7 u8 va Ls W
set_option maxHeartbeats 4000000 in
theorem r8_mul (h : Ow w0 w g M L O) (i : Nat) {vs : List Value} (hi : L[i]? = some ⟨A, n, c, vs⟩) (xs : List Nat) (hlen : xs.length = n) (hx : Nums L vs xs) (ht : ∀ x ∈ xs, x < Na.top) (hp : ∀ k, k ≤ n → pr (xs.take k) < Na.top) :
  Calls Tryz.prog 114 #[.slice A n c] w (GotU w0 g M L O (Na.dig (pr xs))) := by
 have hn : n ≤ 1000 := (h.sl hi).2.2.1
 have H0 := h.boxed (.slice none 0 0) 25
 have HC := Lib.hid (rof_z H0 1 (by omega))
 have HI := Lib.hid (And.intro hi (And.intro hlen (And.intro hx (And.intro ht hp))))
 obtain ⟨r0, hr0⟩ : ∃ b, w.heap.size = b := ⟨_, rfl⟩
 clear h H0 hi hlen hx ht hp
 go_enter Tryz.func114, Tryz.ntmps114
 go_wp2_with fail
 refine HC.out.mono ?_
 rintro e w1 ⟨B1, m1, d1, rfl, G⟩
 have H := G.boxed (.slice B1 m1 d1) 25
 simp only [List.append_assoc, List.cons_append, List.nil_append] at H
 rw [hr0] at H
 have HO := Lib.hid H
 clear HC G H
 go_wp2_with fail
 try rw [hr0]
 go_loopw [5] (fun i wr => RTm w0 g M L O r0 w1.heap.size n xs i wr) (fun i _ => n + 1 - (intOf i).toNat)
 case atStart => exact ⟨0, B1, m1, d1, Nat.zero_le _, rfl, HO⟩
 case round =>
  clear HO
  obtain ⟨k, A1, n1, c1, hk, rfl, HO⟩ := hrel
  rcases Nat.eq_or_lt_of_le hk with he | hlt
  ·have hd : decide ((k : Int) < (n : Int)) = false := decide_eq_false (by omega)
   have hd2 : decide (k < n) = false := decide_eq_false (by omega)
   have x0 := HO.out.cell (M.length + 1) (by rw [get_r]; rfl)
   have rc := HO.out.cell (M.length + 0) (by rw [get_r]; rfl)
   have rf := HO.out.free (M.length + 0) (by rw [get_r]; rfl)
   have Z := HO.out.setv (M.length + 0) (by rw [get_r]; rfl) (.slice A1 n1 c1)
   rw [set_r, List.set_cons_zero] at Z
   have s0 := Z.cell (M.length + 0) (by rw [get_r]; rfl)
   have e1 : pr (xs.take k) = pr xs := by rw [List.take_of_length_le (by have := HI.out.2.1; omega)]
   have HF := Lib.hid Z.fewM
   rw [e1] at HF
   clear HO Z e1 he hk
   go_wp2_with fail
   refine bodyPost_ret (v := .agg #[.slice A1 n1 c1]) (by simp [results, Tryz.results114, go_sem, s0]) rfl ?_
   exact ⟨A1, n1, c1, rfl, HF.out⟩
  ·have hd : decide ((k : Int) < (n : Int)) = true := decide_eq_true (by omega)
   have hd2 : decide (k < n) = true := decide_eq_true hlt
   obtain ⟨x, hxk⟩ : ∃ x, xs[k]? = some x := ⟨xs[k]'(by have := HI.out.2.1; omega), List.getElem?_eq_getElem _⟩
   obtain ⟨Ak, nk, ck, t, hv, hl⟩ := HI.out.2.2.1 k x hxk
   obtain ⟨hvl, hkv⟩ := List.getElem?_eq_some_iff.1 hv
   have hsl := (HO.out.sl (i := i) (by rw [get_l _ _ (get_lt HI.out.1)]; exact HI.out.1)).2.2.2
   obtain ⟨ad, rfl, had, hcell0⟩ := hsl.at_ hvl
   have hkm : k ≤ 1000 := by omega
   have hxt : x < Na.top := HI.out.2.2.2.1 x (List.mem_of_getElem? hxk)
   have hpk := HI.out.2.2.2.2 (k + 1) hlt
   have hpk0 := HI.out.2.2.2.2 k hk
   rw [pr_take hxk] at hpk
   obtain ⟨P, hP⟩ : ∃ P, pr (xs.take k) = P := ⟨_, rfl⟩
   have HE : Hid (pr (xs.take (k + 1)) = P * x) := by unfold Hid; rw [pr_take hxk, hP]
   rw [hP] at hpk hpk0 HO
   have HK : Hid (k < n ∧ k ≤ 1000) := ⟨hlt, hkm⟩
   have HL : Hid (∀ {M' : List (Nat × Value)} {Ls : List Ob} {W : World}, Ow w0 W g M' ((L ++ [(⟨A1, n1, c1, nats (Na.dig P)⟩ : Ob)]) ++ Ls) O → W.cell? (ad.add k) = some (.slice Ak nk ck)) := by
    intro M' Ls W ho
    have hsl := (ho.sl (i := i) (by rw [List.append_assoc, get_l _ _ (get_lt HI.out.1)]; exact HI.out.1)).2.2.2
    obtain ⟨ad', e', -, hc⟩ := hsl.at_ hvl
    obtain rfl := Option.some.inj e'
    rw [hkv] at hc
    exact hc
   have HMl : Hid (∀ {M' : List (Nat × Value)} {Ls : List Ob} {W : World}, Ow w0 W g M' ((L ++ [(⟨A1, n1, c1, nats (Na.dig P)⟩ : Ob)]) ++ Ls) O → Calls Tryz.prog 50 #[.agg #[.slice A1 n1 c1], .agg #[.slice Ak nk ck]] W (GotO w0 g M' ((L ++ [(⟨A1, n1, c1, nats (Na.dig P)⟩ : Ob)]) ++ Ls) O (Na.dig (P * x)) 0)) := by
    intro M' Ls W ho
    exact rmul_z ho (L.length + 0) t (by rw [List.append_assoc, get_r]; rfl) (by rw [List.append_assoc, get_l _ _ (get_lt hl)]; exact hl) hpk0 hxt hpk
   clear hsl hpk hpk0 hxt hl hv hkv hvl hxk hP hcell0 hk had
   go_wp2_with fail
   refine reg_inv34 (DmI w0 g M L O r0 w1.heap.size A1 n1 c1 i ad n c k Ak nk ck P x) (by kernel_rfl) (by kernel_rfl) ?_ ?_ ?_
   ·refine ⟨u17, u18, u19, u20, u21, u22, u16, u23, u24, .slice A1 n1 c1, [], ?_, ⟨by rw [List.append_nil]; exact HO.out.drew, ?_, ?_, ?_, ?_, ?_, ?_, ?_, ?_, ?_, fun _ => rfl, ?_⟩⟩
    ·simp only [Act.put, zT, zZ, zS]
    all_goals (intro h; cases h)
   ·rintro jj Ld b W hj hf hcl hd ⟨u0, u1, u2, u3, u4, u5, u6, u7, u8, va, Ls, rfl, hC⟩
    have hj' : jj < 10 := hj
    have hcase : jj = 0 ∨ jj = 1 ∨ jj = 2 ∨ jj = 3 ∨ jj = 4 ∨ jj = 5 ∨ jj = 6 ∨ jj = 7 ∨ jj = 8 ∨ jj = 9 := by omega
    have qa := hC.ow.cell (M.length + 1) (by rw [get_r]; rfl)
    have qz := hC.ow.free (M.length + 1) (by rw [get_r]; rfl)
    clear hj hj'
    simp only [Act.put, zT, zZ, zS]
    rcases hcase with rfl | rfl | rfl | rfl | rfl | rfl | rfl | rfl | rfl | rfl
    ·have g5 : Ld 5 = false := by cases e : Ld 5 with | false => rfl | true => (rw [hcl 5 0 e (by kernel_rfl)] at hf; cases hf)
     have g6 : Ld 6 = false := by cases e : Ld 6 with | false => rfl | true => (rw [hcl 6 5 e (by kernel_rfl)] at g5; cases g5)
     have g7 : Ld 7 = false := by cases e : Ld 7 with | false => rfl | true => (rw [hcl 7 6 e (by kernel_rfl)] at g6; cases g6)
     have g9 : Ld 9 = false := by cases e : Ld 9 with | false => rfl | true => (rw [hcl 9 7 e (by kernel_rfl)] at g7; cases g7)
     obtain rfl := hC.v0 g9
     clear hd hcl
     refine wpOp_step rfl (fun K hK => ?_)
     go_simp
     refine hK _ _ ⟨_, u1, u2, u3, u4, u5, u6, u7, u8, _, Ls, ?_, ⟨hC.ow, fun _ => rfl, hC.h1, hC.h2, hC.h3, hC.h4, hC.h5, hC.h6, hC.h7, hC.h8, hC.v0, hC.v1⟩⟩
     simp only [Act.put, zT, zZ, zS]
    ·clear hd hcl
     refine wpOp_step rfl (fun K hK => ?_)
     go_simp
     refine hK _ _ ⟨u0, _, u2, u3, u4, u5, u6, u7, u8, va, Ls, ?_, ⟨hC.ow, hC.h0, fun _ => rfl, hC.h2, hC.h3, hC.h4, hC.h5, hC.h6, hC.h7, hC.h8, hC.v0, hC.v1⟩⟩
     simp only [Act.put, zT, zZ, zS]
    ·clear hd hcl
     refine wpOp_step rfl (fun K hK => ?_)
     go_simp
     refine hK _ _ ⟨u0, u1, _, u3, u4, u5, u6, u7, u8, va, Ls, ?_, ⟨hC.ow, hC.h0, hC.h1, fun _ => rfl, hC.h3, hC.h4, hC.h5, hC.h6, hC.h7, hC.h8, hC.v0, hC.v1⟩⟩
     simp only [Act.put, zT, zZ, zS]
    ·obtain rfl := hC.h1 (hd 1 (by kernel_rfl))
     obtain rfl := hC.h2 (hd 2 (by kernel_rfl))
     have hkI : (k : Int) < (n : Int) := by have := HK.out.1; omega
     have hk0 : k < n := HK.out.1
     have hk1 : k ≤ 1000 := HK.out.2
     clear hd hcl
     refine wpOp_step rfl (fun K hK => ?_)
     go_simp
     refine hK _ _ ⟨u0, _, _, _, u4, u5, u6, u7, u8, va, Ls, ?_, ⟨hC.ow, hC.h0, hC.h1, hC.h2, fun _ => rfl, hC.h4, hC.h5, hC.h6, hC.h7, hC.h8, hC.v0, hC.v1⟩⟩
     simp only [Act.put, zT, zZ, zS]
    ·obtain rfl := hC.h3 (hd 3 (by kernel_rfl))
     have hcell := HL.out (hC.ow)
     clear hd hcl
     refine wpOp_step rfl (fun K hK => ?_)
     go_simp
     refine hK _ _ ⟨u0, u1, u2, _, _, u5, u6, u7, u8, va, Ls, ?_, ⟨hC.ow, hC.h0, hC.h1, hC.h2, hC.h3, fun _ => rfl, hC.h5, hC.h6, hC.h7, hC.h8, hC.v0, hC.v1⟩⟩
     simp only [Act.put, zT, zZ, zS]
    ·obtain rfl := hC.h0 (hd 0 (by kernel_rfl))
     obtain rfl := hC.h4 (hd 4 (by kernel_rfl))
     clear hd hcl
     refine wpOp_step rfl (fun K hK => ?_)
     go_simp
     refine (HMl.out hC.ow).mono ?_
     rintro e W' ⟨Az, nz, cz, rfl, ho⟩
     rw [List.append_assoc _ Ls] at ho
     refine hK _ _ ⟨_, u1, u2, u3, _, _, u6, u7, u8, va, _, ?_, ⟨ho, hC.h0, hC.h1, hC.h2, hC.h3, hC.h4, GT.new _ _ _ _ _ _ _ _, hC.h6.more, hC.h7.more, hC.h8, hC.v0, hC.v1.more⟩⟩
     simp only [Act.put, zT, zZ, zS]
    ·obtain ⟨t5, A5, n5, c5, rfl, r5⟩ := hC.h5 (hd 5 (by kernel_rfl))
     clear hd hcl
     refine wpOp_step rfl (fun K hK => ?_)
     go_simp
     refine hK _ _ ⟨u0, u1, u2, u3, u4, _, _, u7, u8, va, Ls, ?_, ⟨hC.ow, hC.h0, hC.h1, hC.h2, hC.h3, hC.h4, hC.h5, fun _ => ⟨t5, A5, n5, c5, rfl, r5⟩, hC.h7, hC.h8, hC.v0, hC.v1⟩⟩
     simp only [Act.put, zT, zZ, zS]
    ·obtain ⟨t6, A6, n6, c6, rfl, r6⟩ := hC.h6 (hd 6 (by kernel_rfl))
     clear hd hcl
     refine wpOp_step rfl (fun K hK => ?_)
     go_simp
     refine hK _ _ ⟨u0, u1, u2, u3, u4, u5, _, _, u8, va, Ls, ?_, ⟨hC.ow, hC.h0, hC.h1, hC.h2, hC.h3, hC.h4, hC.h5, hC.h6, fun _ => ⟨t6, A6, n6, c6, rfl, r6⟩, hC.h8, hC.v0, hC.v1⟩⟩
     simp only [Act.put, zT, zZ, zS]
    ·obtain ⟨t6, A6, n6, c6, rfl, r6⟩ := hC.h6 (hd 6 (by kernel_rfl))
     clear hd hcl
     refine wpOp_step rfl (fun K hK => ?_)
     go_simp
     refine hK _ _ ⟨u0, u1, u2, u3, u4, u5, _, u7, _, va, Ls, ?_, ⟨hC.ow, hC.h0, hC.h1, hC.h2, hC.h3, hC.h4, hC.h5, hC.h6, hC.h7, fun _ => rfl, hC.v0, hC.v1⟩⟩
     simp only [Act.put, zT, zZ, zS]
    ·obtain ⟨t7, A7, n7, c7, rfl, r7⟩ := hC.h7 (hd 7 (by kernel_rfl))
     have R7 := hC.ow.got r7
     clear hd hcl
     refine wpOp_step rfl (fun K hK => ?_)
     go_simp
     have ho := hC.ow.setv (M.length + 1) (by rw [get_r]; rfl) (.slice A7 n7 c7)
     rw [set_r, List.set_cons_succ, List.set_cons_zero] at ho
     refine hK _ _ ⟨u0, u1, u2, u3, u4, u5, u6, _, u8, _, Ls, ?_, ⟨ho, hC.h0, hC.h1, hC.h2, hC.h3, hC.h4, hC.h5, hC.h6, hC.h7, hC.h8, fun e => absurd (show true = false from e) (by decide), fun _ => ⟨t7, A7, n7, c7, rfl, r7⟩⟩⟩
     simp only [Act.put, zT, zZ, zS]
   ·rintro Ld b W hL ⟨u0, u1, u2, u3, u4, u5, u6, u7, u8, va, Ls, rfl, hC⟩
    obtain ⟨tz, Az, nz, cz, rfl, rz⟩ := hC.v1 (hL 9 (by show 9 < 10; decide))
    have HG := Lib.hid (hC.ow.m2.less (L' := L ++ [⟨Az, nz, cz, nats (Na.dig (pr (xs.take (k + 1))))⟩]) (fun o ho => by
     rw [HE.out] at ho
     rcases List.mem_append.1 ho with h | h
     ·exact List.mem_append_left _ (List.mem_append_left _ h)
     ·rw [List.mem_singleton] at h
      subst h
      exact List.mem_append_right _ (List.mem_of_getElem? rz)))
    clear hC HO
    simp only [Act.put, zT, zZ, zS]
    go_wp2_with fail
    go_roundw
    case rel => exact ⟨k + 1, Az, nz, cz, HK.out.1, int_eqv (by omega), HG⟩
    case measure => have := HK.out.1; simp [intOf]; omega
end
section
variable {w0 w w' : World} {g : Option Nat} {M M2 : List (Nat × Value)} {L : List Ob} {O : List Rw} {A A2 A3 A4 : Option Addr} {b n c m c2 n3 c3 n4 c4 x y : Nat} {p q r s : List Int}
theorem r8_mul2 {vs : List Value} {a b : Nat} (h : Ow w0 w g M L O) (i : Nat) (hi : L[i]? = some ⟨A, 2, 2, vs⟩) (hN : Nums L vs [a, b]) (ha : a < Na.top) (hb : b < Na.top) (h1 : a * b < Na.top) :
  Calls Tryz.prog 114 #[.slice A 2 2] w (GotU w0 g M L O (Na.dig (a * b))) := by
 have := r8_mul h i hi [a, b] rfl hN (fun x hx => by
  simp only [List.mem_cons, List.mem_nil_iff, or_false] at hx
  rcases hx with rfl | rfl <;> assumption) (fun k hk => by
  have hk' : k = 0 ∨ k = 1 ∨ k = 2 := by omega
  have ht : 1 < Na.top := byte_top (by omega)
  rcases hk' with rfl | rfl | rfl
  ·exact ht
  ·show a * 1 < Na.top
   rwa [Nat.mul_one]
  ·show a * (b * 1) < Na.top
   rwa [Nat.mul_one])
 rwa [show pr [a, b] = a * b by show a * (b * 1) = _; rw [Nat.mul_one]] at this
theorem r8_mul5 {vs : List Value} {a b d e q : Nat} (h : Ow w0 w g M L O) (i : Nat) (hi : L[i]? = some ⟨A, 5, 5, vs⟩) (hN : Nums L vs [a, b, d, e, q]) (ha : a < Na.top) (hb : b < Na.top) (hd : d < Na.top) (he : e < Na.top) (hq : q < Na.top) (h2 : a * b < Na.top) (h3 : a * (b * d) < Na.top) (h4 : a * (b * (d * e)) < Na.top) (h5 : a * (b * (d * (e * q))) < Na.top) :
  Calls Tryz.prog 114 #[.slice A 5 5] w (GotU w0 g M L O (Na.dig (a * (b * (d * (e * q)))))) := by
 have := r8_mul h i hi [a, b, d, e, q] rfl hN (fun x hx => by
  simp only [List.mem_cons, List.mem_nil_iff, or_false] at hx
  rcases hx with rfl | rfl | rfl | rfl | rfl <;> assumption) (fun k hk => by
  have hk' : k = 0 ∨ k = 1 ∨ k = 2 ∨ k = 3 ∨ k = 4 ∨ k = 5 := by omega
  have ht : 1 < Na.top := byte_top (by omega)
  rcases hk' with rfl | rfl | rfl | rfl | rfl | rfl
  ·exact ht
  ·show a * 1 < Na.top
   rwa [Nat.mul_one]
  ·show a * (b * 1) < Na.top
   rwa [Nat.mul_one]
  ·show a * (b * (d * 1)) < Na.top
   rwa [Nat.mul_one]
  ·show a * (b * (d * (e * 1))) < Na.top
   rwa [Nat.mul_one]
  ·show a * (b * (d * (e * (q * 1)))) < Na.top
   rwa [Nat.mul_one])
 rwa [show pr [a, b, d, e, q] = a * (b * (d * (e * q))) by show a * (b * (d * (e * (q * 1)))) = _; rw [Nat.mul_one]] at this
set_option maxHeartbeats 4000000 in
theorem r8_power (h : Ow w0 w g M L O) (x k : Nat) (hx : x ≤ 9223372036854775807) (hk : k ≤ 4800) (hp : x ^ k < Na.top) :
  Calls Tryz.prog 116 #[.int .i64 (x : Int), .int .i64 (k : Int)] w (GotU w0 g M L O (Na.dig (x ^ k))) := by
 have H0 := h.boxed (.slice none 0 0) 25
 have HC := Lib.hid (rof_z H0 x hx)
 have HT : Hid (x < Na.top ∧ k ≤ 4800 ∧ x ^ k < Na.top) := ⟨Nat.lt_of_le_of_lt hx (by decide +kernel), hk, hp⟩
 clear h H0 hx hk hp
 go_enter Tryz.func116, Tryz.ntmps116
 go_wp2_with fail
 refine HC.out.mono ?_
 rintro e w1 ⟨B1, m1, d1, rfl, G⟩
 have H := G.boxed (.slice B1 m1 d1) 25
 try simp only [World.size_alloc] at H
 try simp only [List.append_assoc] at H
 try simp only [List.cons_append] at H
 try simp only [List.nil_append] at H
 have HC2 := Lib.hid (rpow_z H (L.length + 0) (by rw [get_r]; rfl) HT.out.1 k HT.out.2.1 HT.out.2.2)
 have x0 := H.cell (M.length + 1) (by rw [get_r]; rfl)
 clear HC G H
 go_wp2_with fail
 refine HC2.out.mono ?_
 rintro e w2 ⟨B2, m2, d2, rfl, G⟩
 have x1 := G.cell (M.length + 1) (by rw [get_r]; rfl)
 have f1 := G.free (M.length + 1) (by rw [get_r]; rfl)
 have Z := G.setv (M.length + 1) (by rw [get_r]; rfl) (.slice B2 m2 d2)
 rw [set_r] at Z
 try simp only [List.set_cons_succ] at Z
 try simp only [List.set_cons_zero] at Z
 have s1 := Z.cell (M.length + 1) (by rw [get_r]; rfl)
 have r0 := Z.cell (M.length + 0) (by rw [get_r]; rfl)
 have f0 := Z.free (M.length + 0) (by rw [get_r]; rfl)
 have Z2 := Z.setv (M.length + 0) (by rw [get_r]; rfl) (.slice B2 m2 d2)
 rw [set_r] at Z2
 try simp only [List.set_cons_zero] at Z2
 have s0 := Z2.cell (M.length + 0) (by rw [get_r]; rfl)
 try simp only [World.size_alloc] at Z2
 try simp only [List.append_assoc] at Z2
 try simp only [List.cons_append] at Z2
 try simp only [List.nil_append] at Z2
 have HF := Lib.hid (Z2.fewM.less (L' := L ++ [⟨B2, m2, d2, nats (Na.dig (x ^ k))⟩]) (fun o ho => by
  rcases List.mem_append.1 ho with h | h
  ·exact List.mem_append_left _ h
  ·rw [List.mem_singleton] at h
   subst h
   exact List.mem_append_right _ (List.mem_of_getElem? (i := 1) rfl)))
 clear HC2 G Z Z2 x0
 go_wp2_with fail
 refine bodyPost_ret (v := .agg #[.slice B2 m2 d2]) (by simp [results, Tryz.results116, go_sem, s0]) rfl ?_
 exact ⟨B2, m2, d2, rfl, HF.out⟩
end
section
variable {w0 w w' : World} {g : Option Nat} {M M2 : List (Nat × Value)} {L : List Ob} {O : List Rw} {A A2 A3 A4 : Option Addr} {b n c m c2 n3 c3 n4 c4 x y d v f : Nat} {p q r s : List Int}
theorem eI_ok {d m f n v : Nat} (hc : Cv d m f n) (hv : v ≤ n) : eI 2 d m f v = 0 := by
 have h1 := hc.cd.d1
 have h2 := hc.cd.d2
 have h3 := hc.cd.m1
 have h4 := hc.cd.m2
 have h5 := hc.fm
 have h6 := hc.ni
 unfold eI
 rw [if_pos ⟨rfl, by unfold vI; omega⟩, if_neg (by omega)]
set_option maxHeartbeats 4000000 in
theorem r_Errors (h : Ow w0 w g M L O) (hc : Cv d m f n) (hv : v ≤ n) :
  Calls Tryz.prog 61 #[.agg #[.int .i64 2, .int .i64 (d : Int), .int .i64 (m : Int), .int .i64 (f : Int)], .int .i64 (v : Int)] w (GotO w0 g M L O (Na.dig (Na.bin n v * 255 ^ v)) 0) := by
 have H0 := (h.code d m f).boxed (.slice none 0 0) 25
 obtain ⟨k0, k1, k2, k3⟩ := H0.cdc (O.length + 0) (by rw [get_r]; rfl)
 have HW := Lib.hid (r_checkI H0 2 d m f v)
 rw [eI_ok hc hv] at HW
 unfold cdI at HW
 have hni := hc.ni
 have hn40 := hc.n40
 have HB : Hid (Na.bin n v < Na.top ∧ 255 ^ v < Na.top ∧ Na.bin n v * 255 ^ v < Na.top) := ⟨(Na.bin_top n v (by omega)).1, num_top (by omega) (by omega), er_top (by omega) (by omega)⟩
 have hvn : v ≤ 40 := by omega
 clear h H0 hv hc
 go_enter Tryz.func61, Tryz.ntmps61
 go_wp2_with fail
 refine HW.out.mono ?_
 rintro en w1 ⟨rfl, G⟩
 clear HW k0 k1 k2 k3
 obtain ⟨k0, k1, k2, k3⟩ := G.cdc (O.length + 0) (by rw [get_r]; rfl)
 have HC := Lib.hid (r8_choose G n v (by omega))
 clear G
 go_wp2_with fail
 refine HC.out.mono ?_
 rintro en w2 ⟨B1, m1, d1, rfl, G⟩
 have HC2 := Lib.hid (r8_power G 255 v (by omega) (by omega) HB.out.2.1)
 clear HC G k0 k1 k2 k3
 go_wp2_with fail
 refine HC2.out.mono ?_
 rintro en w3 ⟨B2, m2, d2, rfl, G⟩
 have G3 := G.push (World.ownsRow_lit (base := w3.heap.size) (e := 25) (size := 1) w3 #[.slice B1 m1 d1, .slice B2 m2 d2] 2 (Nat.le_refl _) (by decide) rfl) (by omega) (own_box1 _ _)
 try simp only [World.size_alloc] at G3
 try simp only [List.append_assoc] at G3
 try simp only [List.cons_append] at G3
 try simp only [List.nil_append] at G3
 have HC3 := Lib.hid (r8_mul2 G3 (L.length + 2) (by rw [get_r]; rfl) (Nums.two (t1 := L.length + 0) (t2 := L.length + 1) (by rw [get_r]; rfl) (by rw [get_r]; rfl)) HB.out.1 HB.out.2.1 HB.out.2.2)
 clear HC2 G G3
 go_wp2_with fail
 refine HC3.out.mono ?_
 rintro en w4 ⟨B3, m3, d3, rfl, G⟩
 have r0 := G.cell (M.length + 0) (by rw [get_r]; rfl)
 have f0 := G.free (M.length + 0) (by rw [get_r]; rfl)
 have Z := G.setv (M.length + 0) (by rw [get_r]; rfl) (.slice B3 m3 d3)
 rw [set_r] at Z
 try simp only [List.set_cons_zero] at Z
 have s0 := Z.cell (M.length + 0) (by rw [get_r]; rfl)
 try simp only [World.size_alloc] at Z
 try simp only [List.append_assoc] at Z
 try simp only [List.cons_append] at Z
 try simp only [List.nil_append] at Z
 have HF := Lib.hid (Z.fewM.fewO.less (L' := L ++ [⟨B3, m3, d3, nats (Na.dig (Na.bin n v * 255 ^ v))⟩]) (fun o ho => by
  rcases List.mem_append.1 ho with h | h
  ·exact List.mem_append_left _ h
  ·rw [List.mem_singleton] at h
   subst h
   exact List.mem_append_right _ (List.mem_of_getElem? (i := 3) rfl)))
 clear HC3 G Z
 go_wp2_with fail
 refine bodyPost_ret (v := .tuple #[.agg #[.slice B3 m3 d3], .int .i64 0]) (by simp [results, Tryz.results61, go_sem, s0]) rfl ?_
 exact ⟨B3, m3, d3, rfl, HF.out⟩
end
namespace Ch
def K370 : Nat := 2 ^ 370
theorem cw_more {m i : Nat} (h : m < i) : cw m (i - 1) * 256 = cw m i := by
 unfold cw
 rw [if_neg (show ¬ i ≤ m by omega)]
 split
 ·next h2 =>
  rw [show i - m = 1 by omega]
 ·next h2 =>
  rw [← Nat.pow_succ, show (i - 1 - m).succ = i - m by omega]
theorem cw_one {m i : Nat} (h : i ≤ m) : cw m (i - 1) = cw m i := by
 unfold cw
 rw [if_pos h, if_pos (by omega)]
theorem cw_two {m i : Nat} (hi : i ≤ 41) : cw m i ≤ 256 ^ 41 := by
 unfold cw
 split
 ·exact Nat.one_le_pow _ _ (by omega)
 ·exact Nat.pow_le_pow_right (by omega) (by omega)
theorem dt_two {m v i : Nat} (hv : v ≤ 40) (hi : i ≤ 41) : dt m v i ≤ K370 := by
 unfold dt
 have h1 : Na.bin v i ≤ 2 ^ 40 := bin40 hv
 exact Nat.le_trans (Nat.mul_le_mul (cw_two hi) h1) (by decide +kernel)
theorem dp_two {m v : Nat} (hv : v ≤ 40) : ∀ i, i ≤ 41 → dp m v i ≤ i * K370 ∧ dm m v i ≤ i * K370
 | 0, _ => ⟨Nat.zero_le _, Nat.zero_le _⟩
 | i + 1, h => by
  obtain ⟨h1, h2⟩ := dp_two (m := m) hv i (by omega)
  have h3 := dt_two (m := m) (i := i) hv (by omega)
  rw [Nat.succ_mul]
  constructor
  ·show (if (v - i) % 2 = 0 then dp m v i + dt m v i else dp m v i) ≤ _
   split <;> omega
  ·show (if (v - i) % 2 = 0 then dm m v i else dm m v i + dt m v i) ≤ _
   split <;> omega
theorem dp_even {m v i : Nat} (h : (v - i) % 2 = 0) : dp m v (i + 1) = dp m v i + dt m v i ∧ dm m v (i + 1) = dm m v i := ⟨if_pos h, if_pos h⟩
theorem dp_odd {m v i : Nat} (h : (v - i) % 2 = 1) : dp m v (i + 1) = dp m v i ∧ dm m v (i + 1) = dm m v i + dt m v i := ⟨if_neg (by omega), if_neg (by omega)⟩
end Ch
theorem bin_fall : ∀ (w i : Nat), Na.bin w (i + 1) * (i + 1) = Na.bin w i * (w - i)
 | 0, i => by
  rw [Na.bin_more (show 0 < i + 1 by omega)]; simp
 | w + 1, 0 => by
  have h := bin_fall w 0
  rw [Na.bin_zero] at h
  rw [Na.bin_succ, Na.bin_zero, Na.bin_zero]
  omega
 | w + 1, i + 1 => by
  have h1 := bin_fall w i
  have h2 := bin_fall w (i + 1)
  rw [Na.bin_succ, Na.bin_succ w i]
  rcases Nat.lt_or_ge w (i + 1) with h | h
  ·rw [Na.bin_more (show w < i + 1 by omega), Na.bin_more (show w < i + 1 + 1 by omega)]
   have : w + 1 - (i + 1) = 0 := by omega
   rw [this]; simp
  ·rw [show w + 1 - (i + 1) = w - i by omega]
   obtain ⟨q, hq⟩ : ∃ q, w - i = q + 1 := ⟨w - i - 1, by omega⟩
   rw [hq] at h1
   rw [show w - (i + 1) = q by omega] at h2
   rw [hq]
   grind
section
variable {w0 w w' : World} {g : Option Nat} {M : List (Nat × Value)} {L : List Ob} {O : List Rw} {A A2 : Option Addr} {n c m c2 x y : Nat}
theorem rdiv_z (h : Ow w0 w g M L O) (i j : Nat) (hi : L[i]? = some ⟨A, n, c, nats (Na.dig x)⟩) (hj : L[j]? = some ⟨A2, m, c2, nats (Na.dig y)⟩) (hx : x < Na.top) (hy : y < Na.top) (h0 : 0 < y) :
  Calls Tryz.prog 95 #[.agg #[.slice A n c], .agg #[.slice A2 m c2]] w (GotO2 w0 g M L O (Na.dig (x / y)) (Na.dig (x % y)) 0) := by
 have := ag_rdiv (zs := Na.up (Na.dig x)) (ys := Na.up (Na.dig y)) h i j (by rw [nats_up]; exact hi) (by rw [nats_up]; exact hj)
 unfold divQ divR divE at this
 rw [Na.vld_dig hx, Na.vld_dig hy, num_dig, num_dig] at this
 simp only [Bool.and_self, if_true] at this
 rw [if_neg (by omega), if_neg (by omega), if_neg (by omega)] at this
 exact this
end
def GD (L : Nat → Bool) (k : Nat) (u : Value) (X : Nat) (Ls : List Ob) : Prop :=
 L k = true → ∃ (t : Nat) (A : Option Addr) (n c : Nat) (B : Option Addr) (m d : Nat), u = .tuple #[.agg #[.slice A n c], .agg #[.slice B m d], .int .i64 0] ∧ Ls[t]? = some ⟨A, n, c, nats (Na.dig X)⟩
theorem GD.more {L : Nat → Bool} {k : Nat} {u : Value} {X : Nat} {Ls l : List Ob} (h : GD L k u X Ls) : GD L k u X (Ls ++ l) := fun e => by
 obtain ⟨t, A, n, c, B, m, d, h1, h2⟩ := h e
 exact ⟨t, A, n, c, B, m, d, h1, by rw [List.getElem?_append_left (get_lt h2)]; exact h2⟩
theorem GD.new (L : Nat → Bool) (k : Nat) (A : Option Addr) (n c : Nat) (B : Option Addr) (m d X : Nat) (Ls : List Ob) (o : Ob) : GD L k (.tuple #[.agg #[.slice A n c], .agg #[.slice B m d], .int .i64 0]) X (Ls ++ [⟨A, n, c, nats (Na.dig X)⟩, o]) := fun _ => ⟨Ls.length, A, n, c, B, m, d, rfl, by simp⟩
structure WwK (v m i X Y T N u i2 : Nat) : Prop where
 nt : N < Na.top
 st : T < Na.top
 tt : N * T < Na.top
 pt : X < Na.top
 qt : Y < Na.top
 ps : X + N * T < Na.top
 qs : Y + N * T < Na.top
 ut : u < Na.top
 su : T * u < Na.top
 it : i2 < Na.top
 i0 : 0 < i2
 un : v - i = u
 i1 : i + 1 = i2
 eX : X = Ch.dp m v i
 eY : Y = Ch.dm m v i
 eT : T = Na.bin v i
 eN : N = Ch.cw m i
section
variable {w0 w w' : World} {g : Option Nat} {M M2 : List (Nat × Value)} {L : List Ob} {O : List Rw} {A A2 A3 A4 : Option Addr} {b n c m c2 n3 c3 n4 c4 x y : Nat} {p q r s : List Int}
structure DpK (w0 : World) (g : Option Nat) (M : List (Nat × Value)) (L : List Ob) (O1 : List Rw) (rb pb qb sb bb nb : Nat) (P : Option Addr) (np cp : Nat) (Q : Option Addr) (nq cq : Nat) (S : Option Addr) (ns cs : Nat) (B : Option Addr) (nB cB : Nat) (E : Option Addr) (nE cE : Nat) (v i X Y T N : Nat) (Ld : Nat → Bool) (u0 u1 u2 u3 u4 u5 : Value) (va : Value) (Ls : List Ob) (W : World) : Prop where
 ow : Ow w0 W g (M ++ [(rb, .slice none 0 0), (pb, va), (qb, .slice Q nq cq), (sb, .slice S ns cs), (bb, .slice B nB cB), (nb, .slice E nE cE)]) (L ++ [(⟨P, np, cp, nats (Na.dig X)⟩ : Ob), (⟨Q, nq, cq, nats (Na.dig Y)⟩ : Ob), (⟨S, ns, cs, nats (Na.dig T)⟩ : Ob), (⟨B, nB, cB, nats (Na.dig 256)⟩ : Ob), (⟨E, nE, cE, nats (Na.dig N)⟩ : Ob)] ++ Ls) O1
 h0 : Ld 0 = true → u0 = .agg #[.slice P np cp]
 h1 : Ld 1 = true → u1 = .agg #[.slice E nE cE]
 h2 : Ld 2 = true → u2 = .agg #[.slice S ns cs]
 h3 : GL Ld 3 u3 [N, T] 2 (L ++ [(⟨P, np, cp, nats (Na.dig X)⟩ : Ob), (⟨Q, nq, cq, nats (Na.dig Y)⟩ : Ob), (⟨S, ns, cs, nats (Na.dig T)⟩ : Ob), (⟨B, nB, cB, nats (Na.dig 256)⟩ : Ob), (⟨E, nE, cE, nats (Na.dig N)⟩ : Ob)]) Ls
 h4 : GN Ld 4 u4 (N * T) Ls
 h5 : GN Ld 5 u5 (X + N * T) Ls
 v0 : Ld 6 = false → va = .slice P np cp
 v1 : GV Ld 6 va (X + N * T) Ls
def DpI (w0 : World) (g : Option Nat) (M : List (Nat × Value)) (L : List Ob) (O1 : List Rw) (rb pb qb sb bb nb : Nat) (P : Option Addr) (np cp : Nat) (Q : Option Addr) (nq cq : Nat) (S : Option Addr) (ns cs : Nat) (B : Option Addr) (nB cB : Nat) (E : Option Addr) (nE cE : Nat) (v i X Y T N : Nat) (A0 : Act) (Ld : Nat → Bool) (a : Act) (W : World) : Prop :=
 ∃ (u0 u1 u2 u3 u4 u5 : Value) (va : Value) (Ls : List Ob), a = ((((((A0.put (some 47) u0).put (some 48) u1).put (some 49) u2).put (some 50) u3).put (some 51) u4).put (some 52) u5) ∧ DpK w0 g M L O1 rb pb qb sb bb nb P np cp Q nq cq S ns cs B nB cB E nE cE v i X Y T N Ld u0 u1 u2 u3 u4 u5 va Ls W
structure DqK (w0 : World) (g : Option Nat) (M : List (Nat × Value)) (L : List Ob) (O1 : List Rw) (rb pb qb sb bb nb : Nat) (P : Option Addr) (np cp : Nat) (Q : Option Addr) (nq cq : Nat) (S : Option Addr) (ns cs : Nat) (B : Option Addr) (nB cB : Nat) (E : Option Addr) (nE cE : Nat) (v i X Y T N : Nat) (Ld : Nat → Bool) (u0 u1 u2 u3 u4 u5 : Value) (va : Value) (Ls : List Ob) (W : World) : Prop where
 ow : Ow w0 W g (M ++ [(rb, .slice none 0 0), (pb, .slice P np cp), (qb, va), (sb, .slice S ns cs), (bb, .slice B nB cB), (nb, .slice E nE cE)]) (L ++ [(⟨P, np, cp, nats (Na.dig X)⟩ : Ob), (⟨Q, nq, cq, nats (Na.dig Y)⟩ : Ob), (⟨S, ns, cs, nats (Na.dig T)⟩ : Ob), (⟨B, nB, cB, nats (Na.dig 256)⟩ : Ob), (⟨E, nE, cE, nats (Na.dig N)⟩ : Ob)] ++ Ls) O1
 h0 : Ld 0 = true → u0 = .agg #[.slice Q nq cq]
 h1 : Ld 1 = true → u1 = .agg #[.slice E nE cE]
 h2 : Ld 2 = true → u2 = .agg #[.slice S ns cs]
 h3 : GL Ld 3 u3 [N, T] 2 (L ++ [(⟨P, np, cp, nats (Na.dig X)⟩ : Ob), (⟨Q, nq, cq, nats (Na.dig Y)⟩ : Ob), (⟨S, ns, cs, nats (Na.dig T)⟩ : Ob), (⟨B, nB, cB, nats (Na.dig 256)⟩ : Ob), (⟨E, nE, cE, nats (Na.dig N)⟩ : Ob)]) Ls
 h4 : GN Ld 4 u4 (N * T) Ls
 h5 : GN Ld 5 u5 (Y + N * T) Ls
 v0 : Ld 6 = false → va = .slice Q nq cq
 v1 : GV Ld 6 va (Y + N * T) Ls
def DqI (w0 : World) (g : Option Nat) (M : List (Nat × Value)) (L : List Ob) (O1 : List Rw) (rb pb qb sb bb nb : Nat) (P : Option Addr) (np cp : Nat) (Q : Option Addr) (nq cq : Nat) (S : Option Addr) (ns cs : Nat) (B : Option Addr) (nB cB : Nat) (E : Option Addr) (nE cE : Nat) (v i X Y T N : Nat) (A0 : Act) (Ld : Nat → Bool) (a : Act) (W : World) : Prop :=
 ∃ (u0 u1 u2 u3 u4 u5 : Value) (va : Value) (Ls : List Ob), a = ((((((A0.put (some 53) u0).put (some 54) u1).put (some 55) u2).put (some 56) u3).put (some 57) u4).put (some 58) u5) ∧ DqK w0 g M L O1 rb pb qb sb bb nb P np cp Q nq cq S ns cs B nB cB E nE cE v i X Y T N Ld u0 u1 u2 u3 u4 u5 va Ls W
structure DvK (w0 : World) (g : Option Nat) (M : List (Nat × Value)) (L : List Ob) (O1 : List Rw) (rb pb qb sb bb nb ub db : Nat) (P : Option Addr) (np cp : Nat) (Q : Option Addr) (nq cq : Nat) (S : Option Addr) (ns cs : Nat) (B : Option Addr) (nB cB : Nat) (E : Option Addr) (nE cE : Nat) (U : Option Addr) (nU cU : Nat) (D : Option Addr) (nD cD : Nat) (v i X Y T N u i2 : Nat) (Ld : Nat → Bool) (u0 u1 u2 u3 u4 u5 u6 u7 u8 u9 : Value) (va : Value) (Ls : List Ob) (W : World) : Prop where
 ow : Ow w0 W g (M ++ [(rb, .slice none 0 0), (pb, .slice P np cp), (qb, .slice Q nq cq), (sb, va), (bb, .slice B nB cB), (nb, .slice E nE cE), (ub, .slice U nU cU), (db, .slice D nD cD)]) (L ++ [(⟨P, np, cp, nats (Na.dig X)⟩ : Ob), (⟨Q, nq, cq, nats (Na.dig Y)⟩ : Ob), (⟨S, ns, cs, nats (Na.dig T)⟩ : Ob), (⟨B, nB, cB, nats (Na.dig 256)⟩ : Ob), (⟨E, nE, cE, nats (Na.dig N)⟩ : Ob), (⟨U, nU, cU, nats (Na.dig u)⟩ : Ob), (⟨D, nD, cD, nats (Na.dig i2)⟩ : Ob)] ++ Ls) O1
 h0 : Ld 0 = true → u0 = .agg #[.slice S ns cs]
 h1 : Ld 1 = true → u1 = .agg #[.slice U nU cU]
 h2 : GL Ld 2 u2 [T, u] 2 (L ++ [(⟨P, np, cp, nats (Na.dig X)⟩ : Ob), (⟨Q, nq, cq, nats (Na.dig Y)⟩ : Ob), (⟨S, ns, cs, nats (Na.dig T)⟩ : Ob), (⟨B, nB, cB, nats (Na.dig 256)⟩ : Ob), (⟨E, nE, cE, nats (Na.dig N)⟩ : Ob), (⟨U, nU, cU, nats (Na.dig u)⟩ : Ob), (⟨D, nD, cD, nats (Na.dig i2)⟩ : Ob)]) Ls
 h3 : GN Ld 3 u3 (T * u) Ls
 h4 : Ld 4 = true → u4 = .agg #[.slice D nD cD]
 h5 : GD Ld 5 u5 (T * u / i2) Ls
 h6 : GD Ld 6 u6 (T * u / i2) Ls
 h7 : GN Ld 7 u7 (T * u / i2) Ls
 h8 : Ld 8 = true → True
 h9 : Ld 9 = true → u9 = .int .i64 0
 v0 : Ld 10 = false → va = .slice S ns cs
 v1 : GV Ld 10 va (T * u / i2) Ls
def DvI (w0 : World) (g : Option Nat) (M : List (Nat × Value)) (L : List Ob) (O1 : List Rw) (rb pb qb sb bb nb ub db : Nat) (P : Option Addr) (np cp : Nat) (Q : Option Addr) (nq cq : Nat) (S : Option Addr) (ns cs : Nat) (B : Option Addr) (nB cB : Nat) (E : Option Addr) (nE cE : Nat) (U : Option Addr) (nU cU : Nat) (D : Option Addr) (nD cD : Nat) (v i X Y T N u i2 : Nat) (A0 : Act) (Ld : Nat → Bool) (a : Act) (W : World) : Prop :=
 ∃ (u0 u1 u2 u3 u4 u5 u6 u7 u8 u9 : Value) (va : Value) (Ls : List Ob), a = ((((((((((A0.put (some 73) u0).put (some 74) u1).put (some 75) u2).put (some 76) u3).put (some 77) u4).put (some 78) u5).put (some 72) u6).put (some 79) u7).put (some 80) u8).put (some 81) u9) ∧ DvK w0 g M L O1 rb pb qb sb bb nb ub db P np cp Q nq cq S ns cs B nB cB E nE cE U nU cU D nD cD v i X Y T N u i2 Ld u0 u1 u2 u3 u4 u5 u6 u7 u8 u9 va Ls W
end
end Go.Proofs.YtenokdhldngkgaaGreatDoor
