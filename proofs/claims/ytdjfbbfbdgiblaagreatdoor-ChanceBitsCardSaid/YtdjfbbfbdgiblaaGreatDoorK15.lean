/- Co Cr Dl Dn ChanceAddsW ChanceBallsW CTab LawSl -/
import Derived.Test.YtdjfbbfbdgiblaaGreatDoorK01
import Derived.Test.YtdjfbbfbdgiblaaGreatDoorK03
import Derived.Test.YtdjfbbfbdgiblaaGreatDoorK08
import Derived.Test.YtdjfbbfbdgiblaaGreatDoorK10
import Derived.Test.YtdjfbbfbdgiblaaGreatDoorK11
import Derived.Test.YtdjfbbfbdgiblaaGreatDoorK12
import Derived.Test.YtdjfbbfbdgiblaaGreatDoorK14
import Derived.Deep.RegionWith
import Derived.BigRegion
import Derived.BigQuiet
import Derived.RegionTactic
import Derived.ChangeAlike
import Derived.Test.YtdjfbbfbdgiblaaGreatDoorRows
import Derived.WalkKit
import Derived.ProofKit
import Derived.OpenShut
import Derived.LaidMore
import Derived.Lay
import Derived.SevenTiedAt
import Derived.Stop.Joined
import Derived.Lib.SmallJoins
import Derived.Below
import Derived.Carry
namespace Go.Proofs.YtdjfbbfbdgiblaaGreatDoor
open Go.RowKit Go.Shelf
set_option linter.unusedVariables false
set_option maxRecDepth 100000
/-- a long that is shifted: the low word -/
theorem low_or (h l k : Nat) (hh : h < 18446744073709551616) (hl : l < 18446744073709551616) (hk : k ≤ 64) : bits .or .u64 ((l / 2 ^ k : Nat) : Int) ((h * 2 ^ (64 - k) % 18446744073709551616 : Nat) : Int) = (((h * 18446744073709551616 + l) / 2 ^ k % 18446744073709551616 : Nat) : Int) := by
  have hp : 0 < 2 ^ k := Nat.pow_pos (by omega)
  obtain ⟨h1, h2⟩ := Wo.back_or l h 0 k (2 ^ (64 - k)) hl hh hk rfl
  have hlow : l / 2 ^ k < 18446744073709551616 := Nat.lt_of_le_of_lt (Nat.div_le_self _ _) hl
  rw [u64_or_nat _ _ hlow (Nat.mod_lt _ (by omega)), h2]
  have hB : 18446744073709551616 = 2 ^ (64 - k) * 2 ^ k := by rw [← Nat.pow_add, Nat.sub_add_cancel hk]
  have e : (h * 18446744073709551616 + l) / 2 ^ k = h * 2 ^ (64 - k) + l / 2 ^ k := by
    rw [hB, ← Nat.mul_assoc, Nat.add_comm, Nat.add_mul_div_right _ _ hp, Nat.add_comm]
  rw [e]
  have h3 : l / 2 ^ k < 2 ^ (64 - k) := by rw [Nat.div_lt_iff_lt_mul hp, ← hB]; exact hl
  have h4 : h * 2 ^ (64 - k) % 18446744073709551616 = 2 ^ (64 - k) * (h % 2 ^ k) := by
    rw [Nat.mul_comm h]
    conv => lhs; rw [hB, Nat.mul_mod_mul_left]
  have h5 : h % 2 ^ k < 2 ^ k := Nat.mod_lt _ hp
  have h6 : 2 ^ (64 - k) * (h % 2 ^ k) + l / 2 ^ k < 18446744073709551616 := by
    have h7 : 2 ^ (64 - k) * (h % 2 ^ k + 1) ≤ 2 ^ (64 - k) * 2 ^ k := Nat.mul_le_mul_left _ h5
    rw [← hB, Nat.mul_add, Nat.mul_one] at h7
    omega
  rw [Nat.add_mod, h4, Nat.mod_eq_of_lt (show l / 2 ^ k < 18446744073709551616 from hlow), Nat.mod_eq_of_lt h6, Nat.add_comm]
theorem high_div (h l k : Nat) (hl : l < 18446744073709551616) : (h * 18446744073709551616 + l) / 2 ^ k / 18446744073709551616 = h / 2 ^ k := by
  rw [Nat.div_div_eq_div_mul, Nat.mul_comm (2 ^ k), ← Nat.div_div_eq_div_mul]
  congr 1
  omega
theorem dig_snoc {X y : Nat} {l : List Nat} (h : Na.dig X = l ++ Na.dig y) (h0 : 0 < y) : Na.dig X = (l ++ [y % 16777216]) ++ Na.dig (y / 16777216) := by
  rw [h, Na.dig_pos y h0, List.append_assoc]
  rfl
/-- what a shift by k does, as the walk asks it -/
theorem shr_int (a k : Nat) (K : Int) (hK : K = ((2 ^ k : Nat) : Int)) : (a : Int) / K = ((a / 2 ^ k : Nat) : Int) := by rw [hK]; simp
theorem shl_int (a k : Nat) (K : Int) (hK : K = ((2 ^ k : Nat) : Int)) : IntKind.u64.wrap ((a : Int) * K) = ((a * 2 ^ k % 18446744073709551616 : Nat) : Int) := by
  rw [hK, ← Int.natCast_mul, IntKind.wrap_u64]
  rfl
theorem and_24 (a : Nat) (ha : a < 18446744073709551616) : bits .and .u64 (a : Int) 16777215 = ((a % 16777216 : Nat) : Int) := by
  have := u64_and_nat a 16777215 ha (by omega)
  rw [show ((16777215 : Int)) = ((16777215 : Nat) : Int) from rfl, this, show (16777215 : Nat) = 2 ^ 24 - 1 from rfl, Nat.and_two_pow_sub_one_eq_mod]
def RNt (w0 : World) (X : Nat) (b r v : Nat) (y : Nat) (wr : World) : Prop :=
  ∃ (l : List Nat) (A : Option Addr) (n c : Nat), y * 16777216 ^ n ≤ X ∧ Hid (y < 340282366920938463463374607431768211456 ∧ Na.dig X = l ++ Na.dig y ∧ l.length = n) ∧
    Hid (Ow w0 wr none [(r, .slice none 0 0), (v, .slice A n c)] [] [Rw.pair b 79 (.int .u64 ((y / 18446744073709551616 : Nat) : Int)) (.int .u64 ((y % 18446744073709551616 : Nat) : Int)), ⟨A, n, c, 3, nats l⟩])
set_option maxHeartbeats 2000000 in
theorem lnat_any (x : Nat) (hx : x < 340282366920938463463374607431768211456) (w : World) :
    Calls Tryz.prog 54 #[lg x, .int .i64 8] w fun e w' => ∃ (A : Option Addr) (n c : Nat), e = .returned (.agg #[.slice A n c]) ∧ n ≤ 6 ∧ w'.ownsRow w.heap.size 3 1 (.slice A n c) n (nats (Na.dig (x / 256))) ∧ Below w.heap.size w w' := by
  unfold lg
  obtain ⟨h, hh⟩ : ∃ h, x / 18446744073709551616 = h := ⟨_, rfl⟩
  obtain ⟨l, hl⟩ : ∃ l, x % 18446744073709551616 = l := ⟨_, rfl⟩
  rw [hh, hl]
  have H0 := ((Ow.of (St.refl w)).arr #[.int .u64 (h : Int), .int .u64 (l : Int)] 2 rfl (by omega) 79).boxed (.slice none 0 0) 31
  simp only [List.nil_append, World.size_alloc] at H0
  have k0 := (H0.row 0 rfl).cellAt 0 (by decide)
  have k1 := (H0.row 0 rfl).cellAt 1 (by decide)
  have HO := Lib.hid H0
  go_enter Tryz.func54, Tryz.ntmps54
  go_upto_region 1 with (fail)
  obtain ⟨w1, hw1⟩ : ∃ z, (w.alloc (.cells #[.int .u64 (h : Int), .int .u64 (l : Int)] 79)).alloc (.cells #[.slice none 0 0] 31) = z := ⟨_, rfl⟩
  rw [hw1] at k0 k1 HO ⊢
  clear hw1 H0
  have j0 := cell_regrown k0
  have j1 := cell_regrown k1
  refine region_below_tail 15 (by kernel_rfl) (by kernel_rfl) ?_
  simp only [List.take_succ_cons, List.take_zero, List.drop_succ_cons, List.drop_zero]
  have hw56 : IntKind.i64.wrap 56 = 56 := rfl
  obtain ⟨y, hy⟩ : ∃ y, x / 256 = y := ⟨_, rfl⟩
  have hxl : x = h * 18446744073709551616 + l := by omega
  have hl64 : l < 18446744073709551616 := by omega
  have hh64 : h < 18446744073709551616 := by omega
  obtain ⟨h8, hh8⟩ : ∃ z, h / 2 ^ 8 = z := ⟨_, rfl⟩
  obtain ⟨l8, hl8⟩ : ∃ z, l / 2 ^ 8 = z := ⟨_, rfl⟩
  obtain ⟨p, hp⟩ : ∃ z, h * 2 ^ 56 % 18446744073709551616 = z := ⟨_, rfl⟩
  obtain ⟨r, hr⟩ : ∃ z, (h * 18446744073709551616 + l) / 2 ^ 8 % 18446744073709551616 = z := ⟨_, rfl⟩
  have e1 : (h : Int) / 256 = (h8 : Int) := by rw [← hh8]; exact shr_int h 8 256 rfl
  have e2 : (l : Int) / 256 = (l8 : Int) := by rw [← hl8]; exact shr_int l 8 256 rfl
  have e3 : IntKind.u64.wrap ((h : Int) * 72057594037927936) = (p : Int) := by rw [← hp]; exact shl_int h 56 72057594037927936 rfl
  have e4 : bits .or .u64 (l8 : Int) (p : Int) = (r : Int) := by rw [← hl8, ← hp, ← hr]; exact low_or h l 8 hh64 hl64 (by omega)
  have HY : Hid (y / 18446744073709551616 = h8 ∧ y % 18446744073709551616 = r ∧ x / 256 = y ∧ y < 340282366920938463463374607431768211456) := by
    have hy2 : y = (h * 18446744073709551616 + l) / 2 ^ 8 := by rw [← hy, hxl]
    refine ⟨?_, ?_, hy, by omega⟩
    · rw [hy2, high_div h l 8 hl64, hh8]
    · rw [hy2, hr]
  clear hh8 hl8 hp hr hxl hy hl64 hh64 hh hl hx
  repeat (quiet_step (fail))
  refine wpQuiet_nil ?_
  intro W hW
  have hbl := regrown_below hW
  clear hW j0 j1 e1 e2 e3 e4 hw56
  have H2 := HO.out.go hbl
  have f0 := H2.pf 0 rfl 0
  have f1 := H2.pf 0 rfl 1
  have q0 := H2.p0 0 rfl
  have q1 := H2.p1 0 rfl
  have H3 := (((H2.set0 0 rfl (.int .u64 (h8 : Int))).set1 0 rfl (.int .u64 (r : Int))).boxed (.slice none 0 0) 31).nil 3
  simp only [List.cons_append, List.nil_append, List.set_cons_zero, World.size_setCell] at H3
  have HO3 := Lib.hid H3
  clear HO hbl H2 H3 k0 k1
  go_wp2_with fail
  go_loopg [21] y (fun k _ wr => RNt w y w.heap.size (w.heap.size + 1) W.heap.size k wr)
  case atStart =>
    refine ⟨[], none, 0, 0, by omega, ⟨HY.out.2.2.2, rfl, rfl⟩, ?_⟩
    have h5 := HO3.out
    unfold Hid
    rw [HY.out.1, HY.out.2.1]
    exact h5
  case round =>
    clear HO3
    obtain ⟨l0, A, n, c, hyX, HL, HO⟩ := hrel
    obtain ⟨vh, hvh⟩ : ∃ z, gk / 18446744073709551616 = z := ⟨_, rfl⟩
    obtain ⟨vl, hvl⟩ : ∃ z, gk % 18446744073709551616 = z := ⟨_, rfl⟩
    rw [hvh, hvl] at HO
    have q0 := HO.out.p0 0 rfl
    have q1 := HO.out.p1 0 rfl
    have m0 := HO.out.cell 0 rfl
    have m1 := HO.out.cell 1 rfl
    have f0 := HO.out.free 0 rfl
    rcases (show gk = 0 ∨ (0 < gk ∧ 0 < vh) ∨ (0 < gk ∧ vh = 0 ∧ 0 < vl) by omega) with hg | ⟨hg, hvh0⟩ | ⟨hg, hvh0, hvl0⟩
    · have hv0 : vh = 0 := by omega
      have hv1 : vl = 0 := by omega
      subst hv0 hv1
      have HLf : Hid (Na.dig y = l0 ∧ l0.length = n ∧ n ≤ 6) := by
        have h5 := HL.out.2.1
        rw [hg, Na.dig_zero, List.append_nil] at h5
        refine ⟨h5, HL.out.2.2, ?_⟩
        rw [← HL.out.2.2, ← h5]
        exact Na.dig_len_le (Nat.lt_of_lt_of_le HY.out.2.2.2 (by decide))
      clear hvh hvl hg hyX
      go_wp2_with fail
      have Z := (HO.out.setv 0 rfl (.slice A n c))
      simp only [List.set_cons_zero] at Z
      have s0 := Z.cell 0 rfl
      have HF := Lib.hid (And.intro (Z.row 1 rfl) Z.below)
      refine bodyPost_ret (v := .agg #[.slice A n c]) (by simp [results, Tryz.results54, go_sem, s0]) rfl ?_
      refine ⟨A, n, c, rfl, HLf.out.2.2, ?_, HF.out.2⟩
      rw [HY.out.2.2.1, HLf.out.1]
      exact HF.out.1
    · have hA : ((vh : Int) == 0) = false := by rw [beq_eq_false_iff_ne]; omega
      obtain ⟨v2, hv2⟩ : ∃ z, vh / 2 ^ 24 = z := ⟨_, rfl⟩
      obtain ⟨l2, hl2⟩ : ∃ z, vl / 2 ^ 24 = z := ⟨_, rfl⟩
      obtain ⟨p2, hp2⟩ : ∃ z, vh * 2 ^ 40 % 18446744073709551616 = z := ⟨_, rfl⟩
      obtain ⟨r2, hr2⟩ : ∃ z, (vh * 18446744073709551616 + vl) / 2 ^ 24 % 18446744073709551616 = z := ⟨_, rfl⟩
      obtain ⟨d, hd⟩ : ∃ z, vl % 16777216 = z := ⟨_, rfl⟩
      have hlt := HL.out.1
      have hvl64 : vl < 18446744073709551616 := by omega
      have hvh64 : vh < 18446744073709551616 := by omega
      have e1 : (vh : Int) / 16777216 = (v2 : Int) := by rw [← hv2]; exact shr_int vh 24 16777216 rfl
      have e2 : (vl : Int) / 16777216 = (l2 : Int) := by rw [← hl2]; exact shr_int vl 24 16777216 rfl
      have e3 : IntKind.u64.wrap ((vh : Int) * 1099511627776) = (p2 : Int) := by rw [← hp2]; exact shl_int vh 40 1099511627776 rfl
      have e4 : bits .or .u64 (l2 : Int) (p2 : Int) = (r2 : Int) := by rw [← hl2, ← hp2, ← hr2]; exact low_or vh vl 24 hvh64 hvl64 (by omega)
      have e5 : bits .and .u64 (vl : Int) 16777215 = (d : Int) := by rw [← hd]; exact and_24 vl hvl64
      have e6 : IntKind.i64.wrap (d : Int) = (d : Int) := IntWalk.i64_in _ (by omega)
      have HN : Hid (gk / 16777216 / 18446744073709551616 = v2 ∧ gk / 16777216 % 18446744073709551616 = r2 ∧ gk % 16777216 = d ∧ gk / 16777216 < gk ∧ gk / 16777216 < 340282366920938463463374607431768211456 ∧ gk / 16777216 * 16777216 ^ (n + 1) ≤ y) := by
        have hgk : gk = vh * 18446744073709551616 + vl := by omega
        refine ⟨?_, ?_, by omega, by omega, by omega, ?_⟩
        · rw [hgk]
          have := high_div vh vl 24 hvl64
          rw [hv2] at this
          exact this
        · rw [hgk]; exact hr2
        · refine Nat.le_trans ?_ hyX
          rw [Nat.pow_succ, Nat.mul_comm (16777216 ^ n), ← Nat.mul_assoc]
          exact Nat.mul_le_mul_right _ (Nat.div_mul_le_self _ _)
      have hn6 : n ≤ 6 := by
        rcases Nat.lt_or_ge 6 n with h7 | h7
        · exfalso
          have h8 : 16777216 ^ 7 ≤ 16777216 ^ n := Nat.pow_le_pow_right (by omega) h7
          have h9 : 1 * 16777216 ^ n ≤ gk * 16777216 ^ n := Nat.mul_le_mul_right _ hg
          have := HY.out.2.2.2
          omega
        · exact h7
      have HG := Lib.hid hg
      clear hvh hvl hyX hv2 hl2 hp2 hr2 hd hlt hvl64 hvh64 hg
      go_wp2_with (at_builtin; refine ow_append1 elemI HO.out 1 (.tmp 25) (.tmp 30) _ _ rfl rfl (by unfold maxLen; omega) (by omega) rfl rfl rfl rfl ?_; intro A' c' w8 how; have gm := how.cell 1 rfl; have gmf := how.free 1 rfl; have how2 := how.setv 1 rfl (.slice A' (n + 1) c'); have HW8 := Lib.hid how2; have g0 := how2.p0 0 rfl; have g1 := how2.p1 0 rfl; have gf0 := how2.pf 0 rfl 0; have gf1 := how2.pf 0 rfl 1; clear how how2)
      have H9 := (HW8.out.set0 0 rfl (.int .u64 (v2 : Int))).set1 0 rfl (.int .u64 (r2 : Int))
      simp only [List.set_cons_zero, List.set_cons_succ] at H9
      have HO9 := Lib.hid H9
      clear HW8 H9 g0 g1 gf0 gf1 gm gmf q0 q1 m0 m1 f0 e1 e2 e3 e4 e5 e6
      go_roundg (gk / 16777216)
      case measure => exact HN.out.2.2.2.1
      case rel =>
        refine ⟨l0 ++ [d], A', n + 1, c', HN.out.2.2.2.2.2, ⟨HN.out.2.2.2.2.1, ?_, ?_⟩, ?_⟩
        · rw [dig_snoc HL.out.2.1 HG.out, HN.out.2.2.1]
        · rw [List.length_append, HL.out.2.2]; rfl
        · have h5 := HO9.out
          unfold Hid
          rw [HN.out.1, HN.out.2.1]
          have e7 : nats (l0 ++ [d]) = nats l0 ++ [.int .i64 (d : Int)] := by unfold nats; rw [List.map_append]; rfl
          rw [e7]
          exact h5
    · have hA : ((vh : Int) == 0) = true := by rw [beq_iff_eq]; omega
      have hB : ((vl : Int) == 0) = false := by rw [beq_eq_false_iff_ne]; omega
      obtain ⟨v2, hv2⟩ : ∃ z, vh / 2 ^ 24 = z := ⟨_, rfl⟩
      obtain ⟨l2, hl2⟩ : ∃ z, vl / 2 ^ 24 = z := ⟨_, rfl⟩
      obtain ⟨p2, hp2⟩ : ∃ z, vh * 2 ^ 40 % 18446744073709551616 = z := ⟨_, rfl⟩
      obtain ⟨r2, hr2⟩ : ∃ z, (vh * 18446744073709551616 + vl) / 2 ^ 24 % 18446744073709551616 = z := ⟨_, rfl⟩
      obtain ⟨d, hd⟩ : ∃ z, vl % 16777216 = z := ⟨_, rfl⟩
      have hlt := HL.out.1
      have hvl64 : vl < 18446744073709551616 := by omega
      have hvh64 : vh < 18446744073709551616 := by omega
      have e1 : (vh : Int) / 16777216 = (v2 : Int) := by rw [← hv2]; exact shr_int vh 24 16777216 rfl
      have e2 : (vl : Int) / 16777216 = (l2 : Int) := by rw [← hl2]; exact shr_int vl 24 16777216 rfl
      have e3 : IntKind.u64.wrap ((vh : Int) * 1099511627776) = (p2 : Int) := by rw [← hp2]; exact shl_int vh 40 1099511627776 rfl
      have e4 : bits .or .u64 (l2 : Int) (p2 : Int) = (r2 : Int) := by rw [← hl2, ← hp2, ← hr2]; exact low_or vh vl 24 hvh64 hvl64 (by omega)
      have HZ : Hid ((v2 : Int) = 0 ∧ bits .or .u64 (l2 : Int) 0 = (r2 : Int)) := by
        have z1 : v2 = 0 := by rw [← hv2, hvh0]
        have z2 : p2 = 0 := by rw [← hp2, hvh0]
        refine ⟨by rw [z1]; rfl, ?_⟩
        rw [z2] at e4
        exact e4
      have e5 : bits .and .u64 (vl : Int) 16777215 = (d : Int) := by rw [← hd]; exact and_24 vl hvl64
      have e6 : IntKind.i64.wrap (d : Int) = (d : Int) := IntWalk.i64_in _ (by omega)
      have HN : Hid (gk / 16777216 / 18446744073709551616 = v2 ∧ gk / 16777216 % 18446744073709551616 = r2 ∧ gk % 16777216 = d ∧ gk / 16777216 < gk ∧ gk / 16777216 < 340282366920938463463374607431768211456 ∧ gk / 16777216 * 16777216 ^ (n + 1) ≤ y) := by
        have hgk : gk = vh * 18446744073709551616 + vl := by omega
        refine ⟨?_, ?_, by omega, by omega, by omega, ?_⟩
        · rw [hgk]
          have := high_div vh vl 24 hvl64
          rw [hv2] at this
          exact this
        · rw [hgk]; exact hr2
        · refine Nat.le_trans ?_ hyX
          rw [Nat.pow_succ, Nat.mul_comm (16777216 ^ n), ← Nat.mul_assoc]
          exact Nat.mul_le_mul_right _ (Nat.div_mul_le_self _ _)
      have hn6 : n ≤ 6 := by
        rcases Nat.lt_or_ge 6 n with h7 | h7
        · exfalso
          have h8 : 16777216 ^ 7 ≤ 16777216 ^ n := Nat.pow_le_pow_right (by omega) h7
          have h9 : 1 * 16777216 ^ n ≤ gk * 16777216 ^ n := Nat.mul_le_mul_right _ hg
          have := HY.out.2.2.2
          omega
        · exact h7
      have HG := Lib.hid hg
      clear hvh hvl hyX hv2 hl2 hp2 hr2 hd hlt hvl64 hvh64 hg
      go_wp2_with (at_builtin; refine ow_append1 elemI HO.out 1 (.tmp 25) (.tmp 30) _ _ rfl rfl (by unfold maxLen; omega) (by omega) rfl rfl rfl rfl ?_; intro A' c' w8 how; have gm := how.cell 1 rfl; have gmf := how.free 1 rfl; have how2 := how.setv 1 rfl (.slice A' (n + 1) c'); have HW8 := Lib.hid how2; have g0 := how2.p0 0 rfl; have g1 := how2.p1 0 rfl; have gf0 := how2.pf 0 rfl 0; have gf1 := how2.pf 0 rfl 1; clear how how2)
      have H9 := (HW8.out.set0 0 rfl (.int .u64 (v2 : Int))).set1 0 rfl (.int .u64 (r2 : Int))
      simp only [List.set_cons_zero, List.set_cons_succ] at H9
      have HO9 := Lib.hid H9
      clear HW8 H9 g0 g1 gf0 gf1 gm gmf q0 q1 m0 m1 f0 e1 e2 e3 e4 e5 e6
      go_roundg (gk / 16777216)
      case measure => exact HN.out.2.2.2.1
      case rel =>
        refine ⟨l0 ++ [d], A', n + 1, c', HN.out.2.2.2.2.2, ⟨HN.out.2.2.2.2.1, ?_, ?_⟩, ?_⟩
        · rw [dig_snoc HL.out.2.1 HG.out, HN.out.2.2.1]
        · rw [List.length_append, HL.out.2.2]; rfl
        · have h5 := HO9.out
          unfold Hid
          rw [HN.out.1, HN.out.2.1]
          have e7 : nats (l0 ++ [d]) = nats l0 ++ [.int .i64 (d : Int)] := by unfold nats; rw [List.map_append]; rfl
          rw [e7]
          have e8 := HZ.out.1
          rw [HZ.out.2]
          rw [e8] at h5 ⊢
          exact h5
end Go.Proofs.YtdjfbbfbdgiblaaGreatDoor

namespace Go.Proofs.YtdjfbbfbdgiblaaGreatDoor
open Go.RowKit Go.Shelf
set_option linter.unusedVariables false
set_option maxRecDepth 100000
namespace Ch
theorem cnt_le : ∀ (l : List Nat) (w s : Nat), cnt l w s ≤ 2 ^ l.length
  | [], 0, s => by unfold cnt; split <;> simp
  | [], w + 1, s => Nat.zero_le _
  | c :: l, 0, s => by
    rw [cnt_zero]
    have := Nat.one_le_two_pow (n := (c :: l).length)
    split <;> omega
  | c :: l, w + 1, s => by
    have h1 := cnt_le l (w + 1) s
    have h2 := cnt_le l w (s ^^^ c)
    show cnt l (w + 1) s + cnt l w (s ^^^ c) ≤ 2 ^ (l.length + 1)
    rw [Nat.pow_succ]
    omega
theorem nl_le (m : Nat) : ∀ (l : List Nat), (∀ x ∈ l, x ≤ m) → nl l ≤ l.length * m
  | [], _ => Nat.zero_le _
  | x :: l, h => by
    have h1 := nl_le m l fun y hy => h y (List.mem_cons_of_mem _ hy)
    have h2 := h x List.mem_cons_self
    show x + nl l ≤ (l.length + 1) * m
    rw [Nat.succ_mul]
    omega
theorem all_le (w : Nat) : all w ≤ 73 * 2 ^ 72 := by
  have h1 := cnt_le cols w 0
  have h2 := nl_le (2 ^ 72) (cols.map (cnt cols w)) (fun x hx => by
    obtain ⟨s, -, rfl⟩ := List.mem_map.1 hx
    have := cnt_le cols w s
    rw [cols_len] at this
    exact this)
  rw [cols_len] at h1
  rw [List.length_map, cols_len] at h2
  unfold all
  omega
theorem pass_le (w : Nat) : 256 * pass w < 340282366920938463463374607431768211456 := by
  have := all_le w
  unfold pass
  omega
/-- the program's sum up to some character count -/
def Vp (w o : Nat) : Int := sm (fun i => E (sl i 72) w * ((chn i : Int) * (73 - 2 * (i : Int)))) o
theorem Vp_all (w : Nat) : Vp w 73 = V w := rfl
theorem Vp_succ (w o : Nat) : Vp w (o + 1) = Vp w o + E (sl o 72) w * ((chn o : Int) * (73 - 2 * (o : Int))) := rfl
theorem chn_le (o : Nat) : chn o ≤ 256 := chu_le 256 o
/-- the rest is what passes -/
theorem tw_pass (w : Nat) : tw (V w + -(256 * (right w : Int))) = 256 * pass w := by
  have h1 := pass_eq w
  have h2 : V w + -(256 * (right w : Int)) = ((256 * pass w : Nat) : Int) := by omega
  rw [h2, tw_nat _ (pass_le w)]
end Ch
/-- the product with any int -/
theorem ltimesZ (X : Int) (z : Int) (hz : -4611686018427387904 < z ∧ z < 4611686018427387904) (w : World) :
    Calls Tryz.prog 52 #[lg (Ch.tw X), .int .i64 z] w fun e w' => e = .returned (lg (Ch.tw (X * z))) ∧ Below w.heap.size w w' := by
  rcases Int.lt_or_le z 0 with h | h
  · obtain ⟨n, rfl⟩ : ∃ n : Nat, z = -(n : Int) := ⟨(-z).toNat, by omega⟩
    have := ltimes_neg (Ch.tw X) n (Ch.tw_lt X) (by omega) (by omega) w
    rw [Ch.tw_neg, Ch.tw_mul, Int.neg_mul, ← Int.mul_neg] at this
    exact this
  · obtain ⟨n, rfl⟩ := Int.eq_ofNat_of_zero_le h
    have := ltimes (Ch.tw X) n (Ch.tw_lt X) (by omega) w
    rw [Ch.tw_mul] at this
    exact this
def RWb (w0 : World) (b rb v : Nat) (x : Value) (wr : World) : Prop := ∃ o : Nat, o ≤ 73 ∧ x = .int .i64 (o : Int) ∧ Hid (Ow w0 wr none [(rb, .slice none 0 0)] [] [Rw.pair b 79 (.int .u64 ((Ch.tw (Ch.Vp v o) / 18446744073709551616 : Nat) : Int)) (.int .u64 ((Ch.tw (Ch.Vp v o) % 18446744073709551616 : Nat) : Int))])
set_option maxHeartbeats 8000000 in
theorem wrongbits_ok (v : Nat) (hv : v ≤ 72) (w : World) : Calls Tryz.prog 25 #[.int .i64 (v : Int)] w (ResN w (Na.dig (Ch.pass v)) 0) := by
  have t1 : decide ((v : Int) < 0) = false := decide_eq_false (by omega)
  have t2 : decide (72 < (v : Int)) = false := decide_eq_false (by omega)
  have HO := Lib.hid (((Ow.of (St.refl w)).boxed (.slice none 0 0) 31).pair (.int .u64 0) (.int .u64 0) 79)
  have HCh := Lib.hid (fun W => characters_any W)
  obtain ⟨xs, hxs⟩ : ∃ xs, cna 256 = xs := ⟨_, rfl⟩
  rw [hxs] at HCh
  have HX := Lib.hid hxs
  clear hxs
  go_enter Tryz.func25, Tryz.ntmps25
  go_wp2_with (go_at_call 49; refine (HCh.out _).mono ?_; rintro e w1 ⟨rfl, hb⟩; have HO1 := Lib.hid (HO.out.go hb); clear hb)
  clear HO HCh
  go_loopw [16] (fun x wr => RWb w (w.heap.size + 1) w.heap.size v x wr) (fun x _ => 74 - (intOf x).toNat)
  case atStart =>
    refine ⟨0, by omega, rfl, ?_⟩
    have h5 := HO1.out
    simp only [List.nil_append, World.size_alloc] at h5
    have e : Ch.tw (Ch.Vp v 0) = 0 := rfl
    unfold Hid
    rw [e]
    exact h5
  case round =>
    clear HO1
    obtain ⟨o, ho, rfl, HO⟩ := hrel
    rcases Nat.lt_or_ge o 73 with hlt | hge
    · have hd : decide ((o : Int) < 73) = true := decide_eq_true (by omega)
      obtain ⟨n, hn⟩ : ∃ n, Ch.chn o = n := ⟨_, rfl⟩
      have hn256 : n ≤ 256 := by rw [← hn]; exact Ch.chn_le o
      have hxo : xs[o]? = some (.int .i64 (n : Int)) := by rw [← HX.out, cna_get hlt, ← hn]; rfl
      have hidx := fun W => index_counts xs o _ hlt hxo W
      have HVs := Lib.hid (Ch.Vp_succ v o)
      rw [hn] at HVs
      clear hxo
      rcases Nat.eq_zero_or_pos n with hn0 | hn0
      · have hdn : decide ((0 : Int) < (n : Int)) = false := decide_eq_false (by omega)
        have hdn2 : decide (0 < n) = false := decide_eq_false (by omega)
        have HV2 : Hid (Ch.Vp v (o + 1) = Ch.Vp v o) := by
          unfold Hid
          rw [HVs.out, hn0]
          simp
        clear hn hn0
        go_wp2_with fail
        go_roundw
        case rel => exact ⟨o + 1, by omega, by go_num, by rw [HV2.out]; exact HO⟩
        case measure => simp [intOf]; omega
      · have hdn : decide ((0 : Int) < (n : Int)) = true := decide_eq_true (by omega)
        have hdn2 : decide (0 < n) = true := decide_eq_true hn0
        clear hn hn0
        go_upto_region 8 with (fail)
        obtain ⟨q, hq⟩ : ∃ q : Int, 73 - 2 * (o : Int) = q := ⟨_, rfl⟩
        have hqb : -100 ≤ q ∧ q ≤ 100 := by omega
        obtain ⟨z, hz⟩ : ∃ z : Int, (n : Int) * q = z := ⟨_, rfl⟩
        have hzb : -25600 ≤ z ∧ z ≤ 25600 := by
          have h1 : (n : Int) * q ≤ (n : Int) * 100 := Int.mul_le_mul_of_nonneg_left hqb.2 (by omega)
          have h2 : (n : Int) * (-100) ≤ (n : Int) * q := Int.mul_le_mul_of_nonneg_left hqb.1 (by omega)
          omega
        have m1 : IntKind.i64.wrap (2 * (o : Int)) = 2 * (o : Int) := IntWalk.i64_in _ (by omega)
        have m2 : IntKind.i64.wrap (73 - 2 * (o : Int)) = q := by rw [hq]; exact IntWalk.i64_in _ (by omega)
        have m3 : IntKind.i64.wrap ((n : Int) * q) = z := by rw [hz]; exact IntWalk.i64_in _ (by omega)
        obtain ⟨ys, hys⟩ : ∃ ys, lgs (Ch.sgA o 72 72) = ys := ⟨_, rfl⟩
        obtain ⟨x0, hx0⟩ : ∃ x, Ch.tw (Ch.E (Ch.sl o 72) v) = x := ⟨_, rfl⟩
        obtain ⟨xh, hxh⟩ : ∃ x, x0 / 18446744073709551616 = x := ⟨_, rfl⟩
        obtain ⟨xl, hxl⟩ : ∃ x, x0 % 18446744073709551616 = x := ⟨_, rfl⟩
        obtain ⟨p0, hp0⟩ : ∃ x, Ch.tw (Ch.E (Ch.sl o 72) v * z) = x := ⟨_, rfl⟩
        obtain ⟨ph, hph⟩ : ∃ x, p0 / 18446744073709551616 = x := ⟨_, rfl⟩
        obtain ⟨pl, hpl⟩ : ∃ x, p0 % 18446744073709551616 = x := ⟨_, rfl⟩
        obtain ⟨s0, hs0⟩ : ∃ x, Ch.tw (Ch.Vp v o) = x := ⟨_, rfl⟩
        obtain ⟨sh, hsh⟩ : ∃ x, s0 / 18446744073709551616 = x := ⟨_, rfl⟩
        obtain ⟨sl, hsl⟩ : ∃ x, s0 % 18446744073709551616 = x := ⟨_, rfl⟩
        obtain ⟨r0, hr0⟩ : ∃ x, Ch.tw (Ch.Vp v (o + 1)) = x := ⟨_, rfl⟩
        obtain ⟨rh, hrh⟩ : ∃ x, r0 / 18446744073709551616 = x := ⟨_, rfl⟩
        obtain ⟨rl, hrl⟩ : ∃ x, r0 % 18446744073709551616 = x := ⟨_, rfl⟩
        have hsum : (s0 + p0) % 340282366920938463463374607431768211456 = r0 := by rw [← hs0, ← hp0, ← hr0, Ch.tw_add, HVs.out, ← hz, ← hq]
        have hgA := lgs_at (A := Ch.sgA o 72 72) (k := v) (x := x0) (by rw [Ch.sgA_at (by omega), if_neg (by omega), hx0])
        rw [hys, hxh, hxl] at hgA
        have hidl := fun W => index_long ys v _ _ (by omega) hgA.1 hgA.2 W
        rw [hs0, hsh, hsl] at HO
        have c0 := cell_regrown (HO.out.p0 0 rfl)
        have c1 := cell_regrown (HO.out.p1 0 rfl)
        have cS := regrown_call (P := Tryz.prog) (w := wr) (f := 51) (args := #[.int .i64 (o : Int)]) (v := .agg ys.toArray) (fun W hW => by rw [← hys]; exact signs_any o (by omega) W)
        have cT := regrown_call (P := Tryz.prog) (w := wr) (f := 52) (args := #[.agg #[.int .u64 (xh : Int), .int .u64 (xl : Int)], .int .i64 z]) (v := .agg #[.int .u64 (ph : Int), .int .u64 (pl : Int)]) (fun W hW => by
          have := ltimesZ (Ch.E (Ch.sl o 72) v) z (by omega) W
          unfold lg at this
          rw [hx0, hp0, hxh, hxl, hph, hpl] at this
          exact this)
        have cA := regrown_call (P := Tryz.prog) (w := wr) (f := 50) (args := #[.agg #[.int .u64 (sh : Int), .int .u64 (sl : Int)], .agg #[.int .u64 (ph : Int), .int .u64 (pl : Int)]]) (v := .agg #[.int .u64 (rh : Int), .int .u64 (rl : Int)]) (fun W hW => by
          have := ladd s0 p0 (by rw [← hs0]; exact Ch.tw_lt _) (by rw [← hp0]; exact Ch.tw_lt _) W
          unfold lg at this
          rw [hsum, hsh, hsl, hph, hpl, hrh, hrl] at this
          exact this)
        have HR : Hid (Ch.tw (Ch.Vp v (o + 1)) / 18446744073709551616 = rh ∧ Ch.tw (Ch.Vp v (o + 1)) % 18446744073709551616 = rl) := ⟨by rw [hr0, hrh], by rw [hr0, hrl]⟩
        clear hys hx0 hxh hxl hp0 hph hpl hs0 hsh hsl hr0 hrh hrl hsum hgA hq hz hidx
        refine region_below_tail 12 (by kernel_rfl) (by kernel_rfl) ?_
        simp only [List.take_succ_cons, List.take_zero, List.drop_succ_cons, List.drop_zero]
        repeat (quiet_step (first | (with_reducible exact cS _ _) | (with_reducible exact cT _ _) | (with_reducible exact cA _ _)))
        refine wpQuiet_nil ?_
        intro W hW
        have hbl := regrown_below hW
        clear hW c0 c1 cS cT cA m1 m2 m3 hidl
        have H2 := HO.out.go hbl
        have f0 := H2.pf 0 rfl 0
        have f1 := H2.pf 0 rfl 1
        have q0 := H2.p0 0 rfl
        have q1 := H2.p1 0 rfl
        have H3 := (H2.set0 0 rfl (.int .u64 (rh : Int))).set1 0 rfl (.int .u64 (rl : Int))
        simp only [List.set_cons_zero] at H3
        have HO3 := Lib.hid H3
        clear HO hbl H2 H3
        go_wp2_with fail
        go_roundw
        case rel => exact ⟨o + 1, by omega, by go_num, by rw [HR.out.1, HR.out.2]; exact HO3⟩
        case measure => simp [intOf]; omega
    · have hd : decide ((o : Int) < 73) = false := decide_eq_false (by omega)
      obtain rfl : o = 73 := by omega
      rw [Ch.Vp_all] at HO
      obtain ⟨s0, hs0⟩ : ∃ x, Ch.tw (Ch.V v) = x := ⟨_, rfl⟩
      obtain ⟨sh, hsh⟩ : ∃ x, s0 / 18446744073709551616 = x := ⟨_, rfl⟩
      obtain ⟨sl, hsl⟩ : ∃ x, s0 % 18446744073709551616 = x := ⟨_, rfl⟩
      rw [hs0, hsh, hsl] at HO
      rcases (show v = 0 ∨ v = 1 ∨ 2 ≤ v by omega) with hv0 | hv1 | hv2
      · have hA : ((v : Int) == 0) = true := by rw [beq_iff_eq]; omega
        have hright : Ch.right v = 1 := by rw [hv0]; rfl
        obtain ⟨m0, hm0⟩ : ∃ x, Ch.tw (-(256 : Int)) = x := ⟨_, rfl⟩
        obtain ⟨mh, hmh⟩ : ∃ x, m0 / 18446744073709551616 = x := ⟨_, rfl⟩
        obtain ⟨ml, hml⟩ : ∃ x, m0 % 18446744073709551616 = x := ⟨_, rfl⟩
        obtain ⟨r0, hr0⟩ : ∃ x, 256 * Ch.pass v = x := ⟨_, rfl⟩
        obtain ⟨rh, hrh⟩ : ∃ x, r0 / 18446744073709551616 = x := ⟨_, rfl⟩
        obtain ⟨rl, hrl⟩ : ∃ x, r0 % 18446744073709551616 = x := ⟨_, rfl⟩
        have hsum : (s0 + m0) % 340282366920938463463374607431768211456 = r0 := by
          rw [← hs0, ← hm0, ← hr0, Ch.tw_add, ← Ch.tw_pass, hright]
          rfl
        have c0 := cell_regrown (HO.out.p0 0 rfl)
        have c1 := cell_regrown (HO.out.p1 0 rfl)
        have cM := regrown_call (P := Tryz.prog) (w := wr) (f := 53) (args := #[.agg #[.int .u64 0, .int .u64 256]]) (v := .agg #[.int .u64 (mh : Int), .int .u64 (ml : Int)]) (fun W hW => by
          have := lminus 256 (by omega) W
          unfold lg at this
          have e5 : (340282366920938463463374607431768211456 - 256) % 340282366920938463463374607431768211456 = m0 := hm0
          rw [← hmh, ← hml, ← e5]
          exact this)
        have cA := regrown_call (P := Tryz.prog) (w := wr) (f := 50) (args := #[.agg #[.int .u64 (sh : Int), .int .u64 (sl : Int)], .agg #[.int .u64 (mh : Int), .int .u64 (ml : Int)]]) (v := .agg #[.int .u64 (rh : Int), .int .u64 (rl : Int)]) (fun W hW => by
          have := ladd s0 m0 (by rw [← hs0]; exact Ch.tw_lt _) (by rw [← hm0]; exact Ch.tw_lt _) W
          unfold lg at this
          rw [hsum, hsh, hsl, hmh, hml, hrh, hrl] at this
          exact this)
        have HN : Hid (∀ W, Calls Tryz.prog 54 #[.agg #[.int .u64 (rh : Int), .int .u64 (rl : Int)], .int .i64 8] W fun e w' => ∃ (A : Option Addr) (n c : Nat), e = .returned (.agg #[.slice A n c]) ∧ n ≤ 6 ∧ w'.ownsRow W.heap.size 3 1 (.slice A n c) n (nats (Na.dig (Ch.pass v))) ∧ Below W.heap.size W w') := fun W => by
          have := lnat_any r0 (by rw [← hr0]; exact Ch.pass_le v) W
          unfold lg at this
          rw [hrh, hrl, ← hr0, Nat.mul_div_cancel_left _ (by omega)] at this
          exact this
        clear hm0 hmh hml hr0 hrh hrl hsum hright hv0 hs0 hsh hsl
        have w1' : IntKind.i64.wrap 256 = 256 := rfl
        have w2' : IntKind.u64.wrap 256 = 256 := rfl
        go_upto_region 16 with (fail)
        refine region_below_tail 7 (by kernel_rfl) (by kernel_rfl) ?_
        simp only [List.take_succ_cons, List.take_zero, List.drop_succ_cons, List.drop_zero]
        repeat (quiet_step (first | (with_reducible exact cM _ _) | (with_reducible exact cA _ _)))
        refine wpQuiet_nil ?_
        intro W hW
        have hbl := regrown_below hW
        clear hW c0 c1 cM cA
        have HO2 := Lib.hid (HO.out.go hbl)
        clear HO hbl
        go_wp2_with fail
        refine (HN.out _).mono ?_
        rintro e w2 ⟨A, n, c, rfl, hn6, ho, hb⟩
        have H4 := HO2.out.add ho hb
        simp only [List.cons_append, List.nil_append] at H4
        have r0 := H4.cell 0 rfl
        have f0 := H4.free 0 rfl
        have Z := H4.setv 0 rfl (.slice A n c)
        simp only [List.set_cons_zero] at Z
        have s0 := Z.cell 0 rfl
        have HF := Lib.hid (resN_of Z 1 rfl 0)
        clear HN HO2 ho hb H4 Z
        go_wp2_with fail
        refine bodyPost_ret (v := .tuple #[.agg #[.slice A n c], .int .i64 0]) (by simp [results, Tryz.results25, go_sem, s0]) rfl ?_
        exact HF.out
      · have hA : ((v : Int) == 0) = false := by rw [beq_eq_false_iff_ne]; omega
        have hB : ((v : Int) == 1) = true := by rw [beq_iff_eq]; omega
        have hright : Ch.right v = 72 := by rw [hv1]; rfl
        obtain ⟨m0, hm0⟩ : ∃ x, Ch.tw (-(18432 : Int)) = x := ⟨_, rfl⟩
        obtain ⟨mh, hmh⟩ : ∃ x, m0 / 18446744073709551616 = x := ⟨_, rfl⟩
        obtain ⟨ml, hml⟩ : ∃ x, m0 % 18446744073709551616 = x := ⟨_, rfl⟩
        obtain ⟨r0, hr0⟩ : ∃ x, 256 * Ch.pass v = x := ⟨_, rfl⟩
        obtain ⟨rh, hrh⟩ : ∃ x, r0 / 18446744073709551616 = x := ⟨_, rfl⟩
        obtain ⟨rl, hrl⟩ : ∃ x, r0 % 18446744073709551616 = x := ⟨_, rfl⟩
        have hsum : (s0 + m0) % 340282366920938463463374607431768211456 = r0 := by
          rw [← hs0, ← hm0, ← hr0, Ch.tw_add, ← Ch.tw_pass, hright]
          rfl
        have c0 := cell_regrown (HO.out.p0 0 rfl)
        have c1 := cell_regrown (HO.out.p1 0 rfl)
        have cM := regrown_call (P := Tryz.prog) (w := wr) (f := 53) (args := #[.agg #[.int .u64 0, .int .u64 18432]]) (v := .agg #[.int .u64 (mh : Int), .int .u64 (ml : Int)]) (fun W hW => by
          have := lminus 18432 (by omega) W
          unfold lg at this
          have e5 : (340282366920938463463374607431768211456 - 18432) % 340282366920938463463374607431768211456 = m0 := hm0
          rw [← hmh, ← hml, ← e5]
          exact this)
        have cA := regrown_call (P := Tryz.prog) (w := wr) (f := 50) (args := #[.agg #[.int .u64 (sh : Int), .int .u64 (sl : Int)], .agg #[.int .u64 (mh : Int), .int .u64 (ml : Int)]]) (v := .agg #[.int .u64 (rh : Int), .int .u64 (rl : Int)]) (fun W hW => by
          have := ladd s0 m0 (by rw [← hs0]; exact Ch.tw_lt _) (by rw [← hm0]; exact Ch.tw_lt _) W
          unfold lg at this
          rw [hsum, hsh, hsl, hmh, hml, hrh, hrl] at this
          exact this)
        have HN : Hid (∀ W, Calls Tryz.prog 54 #[.agg #[.int .u64 (rh : Int), .int .u64 (rl : Int)], .int .i64 8] W fun e w' => ∃ (A : Option Addr) (n c : Nat), e = .returned (.agg #[.slice A n c]) ∧ n ≤ 6 ∧ w'.ownsRow W.heap.size 3 1 (.slice A n c) n (nats (Na.dig (Ch.pass v))) ∧ Below W.heap.size W w') := fun W => by
          have := lnat_any r0 (by rw [← hr0]; exact Ch.pass_le v) W
          unfold lg at this
          rw [hrh, hrl, ← hr0, Nat.mul_div_cancel_left _ (by omega)] at this
          exact this
        clear hm0 hmh hml hr0 hrh hrl hsum hright hv1 hs0 hsh hsl
        have w1' : IntKind.i64.wrap 18432 = 18432 := rfl
        have w2' : IntKind.u64.wrap 18432 = 18432 := rfl
        go_upto_region 16 with (fail)
        refine region_below_tail 7 (by kernel_rfl) (by kernel_rfl) ?_
        simp only [List.take_succ_cons, List.take_zero, List.drop_succ_cons, List.drop_zero]
        repeat (quiet_step (first | (with_reducible exact cM _ _) | (with_reducible exact cA _ _)))
        refine wpQuiet_nil ?_
        intro W hW
        have hbl := regrown_below hW
        clear hW c0 c1 cM cA
        have HO2 := Lib.hid (HO.out.go hbl)
        clear HO hbl
        go_wp2_with fail
        refine (HN.out _).mono ?_
        rintro e w2 ⟨A, n, c, rfl, hn6, ho, hb⟩
        have H4 := HO2.out.add ho hb
        simp only [List.cons_append, List.nil_append] at H4
        have r0 := H4.cell 0 rfl
        have f0 := H4.free 0 rfl
        have Z := H4.setv 0 rfl (.slice A n c)
        simp only [List.set_cons_zero] at Z
        have s0 := Z.cell 0 rfl
        have HF := Lib.hid (resN_of Z 1 rfl 0)
        clear HN HO2 ho hb H4 Z
        go_wp2_with fail
        refine bodyPost_ret (v := .tuple #[.agg #[.slice A n c], .int .i64 0]) (by simp [results, Tryz.results25, go_sem, s0]) rfl ?_
        exact HF.out
      · have hA : ((v : Int) == 0) = false := by rw [beq_eq_false_iff_ne]; omega
        have hB : ((v : Int) == 1) = false := by rw [beq_eq_false_iff_ne]; omega
        have hright : Ch.right v = 0 := by unfold Ch.right; rw [if_neg (by omega), if_neg (by omega)]
        obtain ⟨m0, hm0⟩ : ∃ x, Ch.tw (-(0 : Int)) = x := ⟨_, rfl⟩
        obtain ⟨mh, hmh⟩ : ∃ x, m0 / 18446744073709551616 = x := ⟨_, rfl⟩
        obtain ⟨ml, hml⟩ : ∃ x, m0 % 18446744073709551616 = x := ⟨_, rfl⟩
        obtain ⟨r0, hr0⟩ : ∃ x, 256 * Ch.pass v = x := ⟨_, rfl⟩
        obtain ⟨rh, hrh⟩ : ∃ x, r0 / 18446744073709551616 = x := ⟨_, rfl⟩
        obtain ⟨rl, hrl⟩ : ∃ x, r0 % 18446744073709551616 = x := ⟨_, rfl⟩
        have hsum : (s0 + m0) % 340282366920938463463374607431768211456 = r0 := by
          rw [← hs0, ← hm0, ← hr0, Ch.tw_add, ← Ch.tw_pass, hright]
          rfl
        have c0 := cell_regrown (HO.out.p0 0 rfl)
        have c1 := cell_regrown (HO.out.p1 0 rfl)
        have cM := regrown_call (P := Tryz.prog) (w := wr) (f := 53) (args := #[.agg #[.int .u64 0, .int .u64 0]]) (v := .agg #[.int .u64 (mh : Int), .int .u64 (ml : Int)]) (fun W hW => by
          have := lminus 0 (by omega) W
          unfold lg at this
          have e5 : (340282366920938463463374607431768211456 - 0) % 340282366920938463463374607431768211456 = m0 := hm0
          rw [← hmh, ← hml, ← e5]
          exact this)
        have cA := regrown_call (P := Tryz.prog) (w := wr) (f := 50) (args := #[.agg #[.int .u64 (sh : Int), .int .u64 (sl : Int)], .agg #[.int .u64 (mh : Int), .int .u64 (ml : Int)]]) (v := .agg #[.int .u64 (rh : Int), .int .u64 (rl : Int)]) (fun W hW => by
          have := ladd s0 m0 (by rw [← hs0]; exact Ch.tw_lt _) (by rw [← hm0]; exact Ch.tw_lt _) W
          unfold lg at this
          rw [hsum, hsh, hsl, hmh, hml, hrh, hrl] at this
          exact this)
        have HN : Hid (∀ W, Calls Tryz.prog 54 #[.agg #[.int .u64 (rh : Int), .int .u64 (rl : Int)], .int .i64 8] W fun e w' => ∃ (A : Option Addr) (n c : Nat), e = .returned (.agg #[.slice A n c]) ∧ n ≤ 6 ∧ w'.ownsRow W.heap.size 3 1 (.slice A n c) n (nats (Na.dig (Ch.pass v))) ∧ Below W.heap.size W w') := fun W => by
          have := lnat_any r0 (by rw [← hr0]; exact Ch.pass_le v) W
          unfold lg at this
          rw [hrh, hrl, ← hr0, Nat.mul_div_cancel_left _ (by omega)] at this
          exact this
        clear hm0 hmh hml hr0 hrh hrl hsum hright hv2 hs0 hsh hsl
        have w1' : IntKind.i64.wrap 0 = 0 := rfl
        have w2' : IntKind.u64.wrap 0 = 0 := rfl
        go_upto_region 16 with (fail)
        refine region_below_tail 7 (by kernel_rfl) (by kernel_rfl) ?_
        simp only [List.take_succ_cons, List.take_zero, List.drop_succ_cons, List.drop_zero]
        repeat (quiet_step (first | (with_reducible exact cM _ _) | (with_reducible exact cA _ _)))
        refine wpQuiet_nil ?_
        intro W hW
        have hbl := regrown_below hW
        clear hW c0 c1 cM cA
        have HO2 := Lib.hid (HO.out.go hbl)
        clear HO hbl
        go_wp2_with fail
        refine (HN.out _).mono ?_
        rintro e w2 ⟨A, n, c, rfl, hn6, ho, hb⟩
        have H4 := HO2.out.add ho hb
        simp only [List.cons_append, List.nil_append] at H4
        have r0 := H4.cell 0 rfl
        have f0 := H4.free 0 rfl
        have Z := H4.setv 0 rfl (.slice A n c)
        simp only [List.set_cons_zero] at Z
        have s0 := Z.cell 0 rfl
        have HF := Lib.hid (resN_of Z 1 rfl 0)
        clear HN HO2 ho hb H4 Z
        go_wp2_with fail
        refine bodyPost_ret (v := .tuple #[.agg #[.slice A n c], .int .i64 0]) (by simp [results, Tryz.results25, go_sem, s0]) rfl ?_
        exact HF.out
end Go.Proofs.YtdjfbbfbdgiblaaGreatDoor

namespace Go.Proofs.YtdjfbbfbdgiblaaGreatDoor
open Go.RowKit Go.Sort
set_option linter.unusedVariables false
set_option maxRecDepth 100000
theorem aw_wd : Ch.wd 2 1 2 = 255 := by decide +kernel
theorem aw_wr : Ch.wr 2 1 0 2 = 255 := by decide +kernel
theorem aw_er : Na.bin 2 2 * 255 ^ 2 = 65025 := by decide +kernel
theorem aw_fr : frM 255 65025 = (1, 255, 0) := by decide +kernel
theorem aw_ps : Ch.pass 2 = 0 := Ch.pass_few 2 (by omega)
theorem aw_t1 : str (De.text 255) = ⟨#[50, 53, 53]⟩ := by decide +kernel
theorem aw_t2 : str (De.text 1 ++ 47 :: De.text 255) = ⟨#[49, 47, 50, 53, 53]⟩ := by decide +kernel
theorem aw_t3 : str (De.text 0) = ⟨#[48]⟩ := by decide +kernel
theorem prt_dig {x : Nat} (hx : x < Na.top) : prtL (Na.up (Na.dig x)) = De.text x := by unfold prtL; rw [Na.vld_dig hx, num_dig]; rfl
section
variable {w0 w w' : World} {g : Option Nat} {M M2 : List (Nat × Value)} {L : List Ob} {O : List Rw} {A A2 A3 A4 : Option Addr} {b n c m c2 n3 c3 n4 c4 x y : Nat}
/-- WrongBits beside what is held -/
theorem wrongbits_ow (h : Ow w0 w g M L O) (v : Nat) (hv : v ≤ 72) : Calls Tryz.prog 25 #[.int .i64 (v : Int)] w (GotO w0 g M L O (Na.dig (Ch.pass v)) 0) :=
  (wrongbits_ok v hv w).mono fun e w' hr => got_o h (dig_1000 (by
    have := Ch.pass_le v
    exact Nat.lt_of_le_of_lt (show Ch.pass v ≤ 340282366920938463463374607431768211456 by omega) (by decide +kernel))) hr
theorem nprint_fr (h : Ow w0 w g M L O) (i : Nat) (hi : L[i]? = some ⟨A, n, c, nats (Na.dig x)⟩) (hx : x < Na.top) :
    Calls Tryz.prog 35 #[.agg #[.slice A n c]] w fun e w' => e = .returned (.string (str (De.text x))) ∧ Ow w0 w' g M L O := by
  have := ag_prt (zs := Na.up (Na.dig x)) h i (by rw [nats_up]; exact hi)
  rwa [prt_dig hx] at this
end
set_option maxHeartbeats 8000000 in
theorem awake08 (w : World) (ht : Tab w) : Calls Tryz.prog 12 #[] w fun e w' => e = .returned (.bool true) ∧ Below w.heap.size w w' := by
  have HT := Lib.hid ht
  have H0 := (Ow.of (St.refl w)).code 1 1 0
  simp only [List.nil_append] at H0
  obtain ⟨k0, k1, k2, k3⟩ := H0.cdc 0 rfl
  have hcv : Cv 1 1 0 2 := Cv.of ⟨by omega, by omega, by omega, by omega, by omega⟩ (by omega)
  have HC := Lib.hid (c_Words H0 hcv (v := 2) (by omega))
  rw [aw_wd] at HC
  have HV := Lib.hid hcv
  clear H0 ht hcv
  go_enter Tryz.func12, Tryz.ntmps12
  go_wp2_with fail
  refine HC.out.mono ?_
  rintro e w1 ⟨A1, n1, c1, rfl, G1⟩
  have H1 := G1.boxed (.slice A1 n1 c1) 31
  simp only [List.nil_append] at H1
  obtain ⟨q0, q1, q2, q3⟩ := H1.cdc 0 rfl
  have HD := Lib.hid (c_Chance (tF := (1, 255, 0)) H1 HV.out (v := 2) (by omega) HT.out (by rw [aw_wr, aw_er]; exact aw_fr))
  clear HC G1 H1 k0 k1 k2 k3
  go_wp2_with fail
  refine HD.out.mono ?_
  rintro e w2 ⟨A2, n2, c2, A3, n3, c3, rfl, G2⟩
  have H2 := G2.pair (.slice A2 n2 c2) (.slice A3 n3 c3) 58
  simp only [List.nil_append, List.cons_append] at H2
  have HE := Lib.hid (wrongbits_ow H2 2 (by omega))
  rw [aw_ps] at HE
  clear HD G2 H2 q0 q1 q2 q3
  go_wp2_with fail
  refine HE.out.mono ?_
  rintro e w3 ⟨A4, n4, c4, rfl, G3⟩
  have H3 := G3.boxed (.slice A4 n4 c4) 31
  simp only [List.nil_append, List.cons_append] at H3
  have m0 := H3.cell 0 rfl
  have HF := Lib.hid (nprint_fr (x := 255) H3 0 rfl (tiny_top (by omega)))
  rw [aw_t1] at HF
  clear HE G3 H3
  go_wp2_with fail
  refine HF.out.mono ?_
  rintro e w4 ⟨rfl, H4⟩
  have a0 := H4.p0 1 rfl
  have a1 := H4.p1 1 rfl
  have HG := Lib.hid (qprint_ok (x := 1) (y := 255) H4 1 2 rfl rfl HT.out (tiny_top (by omega)) (tiny_top (by omega)) (rv_low (tiny_top (by omega)) (tiny_top (by omega)) (by omega) (by decide)))
  rw [aw_t2] at HG
  clear HF H4 m0
  go_wp2_with fail
  refine HG.out.mono ?_
  rintro e w5 ⟨rfl, H5⟩
  have m1 := H5.cell 1 rfl
  have HI := Lib.hid (nprint_fr (x := 0) H5 3 rfl (tiny_top (by omega)))
  rw [aw_t3] at HI
  clear HG H5 a0 a1
  go_wp2_with fail
  refine HI.out.mono ?_
  rintro e w6 ⟨rfl, H6⟩
  have HB := Lib.hid H6.below
  clear HI H6 m1
  go_wp2_with fail
  go_ret
  exact ⟨rfl, HB.out⟩
end Go.Proofs.YtdjfbbfbdgiblaaGreatDoor

namespace Go.Proofs.YtdjfbbfbdgiblaaGreatDoor
open Go.RowKit Go.Sort
set_option linter.unusedVariables false
set_option maxRecDepth 100000
section
variable {w0 w w' : World} {g : Option Nat} {M M2 : List (Nat × Value)} {L : List Ob} {O : List Rw} {A A2 A3 A4 : Option Addr} {b n c m c2 n3 c3 n4 c4 x y : Nat}
theorem rof_z (h : Ow w0 w g M L O) (k : Nat) (hk : k ≤ 9223372036854775807) : Calls Tryz.prog 15 #[.int .i64 (k : Int)] w (GotO w0 g M L O (Na.dig k) 0) := by
  have := ag_rof h (k : Int) (by omega)
  rwa [ofL_nat, ofE_nat] at this
theorem rpow_z (h : Ow w0 w g M L O) (i : Nat) (hi : L[i]? = some ⟨A, n, c, nats (Na.dig x)⟩) (hx : x < Na.top) (k : Nat) (hk : k ≤ 4800) (hp : x ^ k < Na.top) : Calls Tryz.prog 16 #[.agg #[.slice A n c], .int .i64 (k : Int)] w (GotO w0 g M L O (Na.dig (x ^ k)) 0) := by
  have := ag_rpow h i hi hx (k : Int)
  rwa [powL_nat hk hp, powE_nat hk hp] at this
theorem radd_z (h : Ow w0 w g M L O) (i j : Nat) (hi : L[i]? = some ⟨A, n, c, nats (Na.dig x)⟩) (hj : L[j]? = some ⟨A2, m, c2, nats (Na.dig y)⟩) (hx : x < Na.top) (hy : y < Na.top) (hs : x + y < Na.top) : Calls Tryz.prog 19 #[.agg #[.slice A n c], .agg #[.slice A2 m c2]] w (GotO w0 g M L O (Na.dig (x + y)) 0) := by
  have := nradd_fr h i j hi hj hx hy
  rwa [resL_ok hs, resE_ok hs] at this
theorem rmul_z (h : Ow w0 w g M L O) (i j : Nat) (hi : L[i]? = some ⟨A, n, c, nats (Na.dig x)⟩) (hj : L[j]? = some ⟨A2, m, c2, nats (Na.dig y)⟩) (hx : x < Na.top) (hy : y < Na.top) (hs : x * y < Na.top) : Calls Tryz.prog 24 #[.agg #[.slice A n c], .agg #[.slice A2 m c2]] w (GotO w0 g M L O (Na.dig (x * y)) 0) := by
  have := nrmul_fr h i j hi hj hx hy
  rwa [resL_ok hs, resE_ok hs] at this
theorem rsub_z (h : Ow w0 w g M L O) (i j : Nat) (hi : L[i]? = some ⟨A, n, c, nats (Na.dig x)⟩) (hj : L[j]? = some ⟨A2, m, c2, nats (Na.dig y)⟩) (hx : x < Na.top) (hy : y ≤ x) : Calls Tryz.prog 23 #[.agg #[.slice A n c], .agg #[.slice A2 m c2]] w (GotO w0 g M L O (Na.dig (x - y)) 0) := by
  have := ag_rsub (zs := Na.up (Na.dig x)) (ys := Na.up (Na.dig y)) h i j (by rw [nats_up]; exact hi) (by rw [nats_up]; exact hj)
  unfold subL subE at this
  rw [Na.vld_dig hx, Na.vld_dig (Nat.lt_of_le_of_lt hy hx), num_dig, num_dig] at this
  simpa [Nat.not_lt.2 hy] using this
theorem awake08_ow (h : Ow w0 w g M L O) (ht : Tab w0) : Calls Tryz.prog 12 #[] w fun e w' => e = .returned (.bool true) ∧ Ow w0 w' g M L O :=
  (awake08 w (ht.below h.below)).mono fun e w' hr => ⟨hr.1, h.go hr.2⟩
/-- how long a held number is -/
theorem Ow.digs (h : Ow w0 w g M L O) {i : Nat} (hi : L[i]? = some ⟨A, n, c, nats (Na.dig x)⟩) : (Na.dig x).length = n := by
  have := (h.sl hi).1
  rwa [nats_length] at this
end
end Go.Proofs.YtdjfbbfbdgiblaaGreatDoor

namespace Go.Proofs.YtdjfbbfbdgiblaaGreatDoor
open Go.RowKit Go.Sort
set_option linter.unusedVariables false
set_option maxRecDepth 100000
theorem Ch.ns_part (t : Nat → Nat) {k n : Nat} (hk : k ≤ n) : Ch.ns t k ≤ Ch.ns t n := by
  have h := Ch.ns_split t k (n - k)
  rw [show k + (n - k) = n by omega] at h
  rw [h]
  exact Nat.le_add_right _ _
/-- the errors of so many bytes -/
def Ch.er (n v : Nat) : Nat := Na.bin n v * 255 ^ v
theorem Ch.er_all (n : Nat) : Ch.ns (Ch.er n) (n + 1) = 256 ^ n := Ch.bin_pow 255 n
theorem pow256_dig {k x : Nat} (hk : k ≤ 40) (h : x ≤ 256 ^ k) : (Na.dig x).length ≤ 100 := by
  refine Na.dig_len_le (Nat.lt_of_le_of_lt (Nat.le_trans h (Nat.pow_le_pow_right (by omega) hk)) (by decide +kernel))
/-- the sums and their bounds -/
structure AdK (d m n k : Nat) : Prop where
  p : Ch.ns (Ch.wd n m) k < Na.top
  q : Ch.ns (Ch.er n) k < Na.top
  a : Ch.wd n m k < Na.top
  b : Ch.er n k < Na.top
  s : Ch.ns (Ch.wd n m) k + Ch.wd n m k < Na.top
  t : Ch.ns (Ch.er n) k + Ch.er n k < Na.top
theorem AdK.of {d m n k : Nat} (hn : n ≤ 40) (hs : d + m = n) (hd : 1 ≤ d) (hk : k ≤ n) : AdK d m n k := by
  have a1 := Ch.wd_all n m (by omega) (by omega)
  have a2 := Ch.er_all n
  have a3 := Ch.ns_part (Ch.wd n m) (show k + 1 ≤ n + 1 by omega)
  have a4 := Ch.ns_part (Ch.er n) (show k + 1 ≤ n + 1 by omega)
  rw [a1] at a3
  rw [a2] at a4
  have b1 : 256 ^ (n - m) < Na.top := num_top (by omega) (by omega)
  have b2 : 256 ^ n < Na.top := num_top (by omega) (by omega)
  have c1 : Ch.ns (Ch.wd n m) (k + 1) = Ch.ns (Ch.wd n m) k + Ch.wd n m k := rfl
  have c2 : Ch.ns (Ch.er n) (k + 1) = Ch.ns (Ch.er n) k + Ch.er n k := rfl
  rw [c1] at a3
  rw [c2] at a4
  exact ⟨by omega, by omega, by omega, by omega, by omega, by omega⟩
end Go.Proofs.YtdjfbbfbdgiblaaGreatDoor

namespace Go.Proofs.YtdjfbbfbdgiblaaGreatDoor
open Go.RowKit Go.Sort
set_option linter.unusedVariables false
set_option maxRecDepth 100000
theorem Ch.wr_le {n m f v d : Nat} (hc : Cv d m f n) (hv : v ≤ n) : Ch.wr n m f v ≤ Ch.K607 := by
  rw [← Ch.wr_range n m f v hv]
  have h1 : Ch.ns (fun i => Ch.wt n m f v (max 1 (v - f) + i)) (min n (v + f) + 1 - max 1 (v - f)) ≤ (min n (v + f) + 1 - max 1 (v - f)) * (Ch.K406 * 2 ^ 195) := Ch.ns_le_mul _ fun j hj => Ch.wt_two hc.n40 (by omega) hc.f4
  obtain ⟨B, hB⟩ : ∃ b, Ch.K406 * 2 ^ 195 = b := ⟨_, rfl⟩
  have hk := Ch.k607
  rw [hB] at h1 hk
  have := hc.n40
  have h4 : (min n (v + f) + 1 - max 1 (v - f)) * B ≤ 41 * B := Nat.mul_le_mul_right _ (by omega)
  refine Nat.le_trans ?_ hk
  have h5 : 41 * B ≤ 42 * B := Nat.mul_le_mul_right _ (by omega)
  exact Nat.le_trans h1 (Nat.le_trans h4 h5)
theorem wr_dig {n m f v d : Nat} (hc : Cv d m f n) (hv : v ≤ n) : (Na.dig (Ch.wr n m f v)).length ≤ 100 :=
  Na.dig_len_le (Nat.lt_of_le_of_lt (Ch.wr_le hc hv) (by decide +kernel))
theorem Ch.bl_all {n f : Nat} (h : f ≤ n) : Ch.bl n f ≤ 256 ^ n := by
  rw [← Ch.er_all n]
  exact Ch.ns_part (Ch.er n) (by omega)
/-- the sums and their bounds -/
structure BaK (d m f n k : Nat) : Prop where
  p : Ch.ns (Ch.wr n m f) k < Na.top
  a : Ch.wr n m f k < Na.top
  s : Ch.ns (Ch.wr n m f) k + Ch.wr n m f k < Na.top
  q : Ch.ns (Ch.er n) (min k (f + 1)) < Na.top
  b : Ch.er n k < Na.top
  t : k ≤ f → Ch.ns (Ch.er n) (min k (f + 1)) + Ch.er n k < Na.top
theorem all_top {d n f : Nat} (hn : n ≤ 40) (hd : d ≤ 32) (hf : f ≤ n) : (256 ^ d - 1) * Ch.bl n f < Na.top := by
  have h1 : 256 ^ d ≤ 256 ^ 32 := Nat.pow_le_pow_right (by omega) hd
  have h2 := Ch.bl_all hf
  have h3 : 256 ^ n ≤ 256 ^ 40 := Nat.pow_le_pow_right (by omega) hn
  exact Nat.lt_of_le_of_lt (Nat.mul_le_mul (Nat.le_trans (Nat.sub_le _ _) h1) (Nat.le_trans h2 h3)) (by decide +kernel)
theorem BaK.of {d m f n k : Nat} (hc : Cv d m f n) (hk : k ≤ n) : BaK d m f n k := by
  have hn := hc.n40
  have hs := hc.sum
  have hd := hc.cd.d1
  have hd2 := hc.cd.d2
  have hfm := hc.fm
  have a1 := Ch.wr_all n m f (by omega) (by omega)
  rw [show n - m = d by omega] at a1
  have a2 := Ch.er_all n
  have a3 := Ch.ns_part (Ch.wr n m f) (show k + 1 ≤ n + 1 by omega)
  have a4 := Ch.ns_part (Ch.er n) (show k + 1 ≤ n + 1 by omega)
  have a5 := Ch.ns_part (Ch.er n) (show min k (f + 1) ≤ n + 1 by omega)
  rw [a1] at a3
  rw [a2] at a4 a5
  have b1 := all_top (d := d) (n := n) (f := f) hn hd2 (by omega)
  have b2 : 256 ^ n < Na.top := num_top (by omega) (by omega)
  have c1 : Ch.ns (Ch.wr n m f) (k + 1) = Ch.ns (Ch.wr n m f) k + Ch.wr n m f k := rfl
  have c2 : Ch.ns (Ch.er n) (k + 1) = Ch.ns (Ch.er n) k + Ch.er n k := rfl
  rw [c1] at a3
  rw [c2] at a4
  refine ⟨by omega, by omega, by omega, by omega, by omega, fun hf => ?_⟩
  rw [show min k (f + 1) = k by omega]
  omega
def RBa (w0 : World) (g : Nat) (Ob : List Rw) (b0 b1 d m f n : Nat) (x : Value) (wr : World) : Prop :=
  ∃ (k : Nat) (P : Option Addr) (np cp : Nat) (Q : Option Addr) (nq cq : Nat), k ≤ n + 1 ∧ x = .int .i64 (k : Int) ∧
    Hid (Ow w0 wr (some g) [(b0, .slice P np cp), (b1, .slice Q nq cq)] [⟨P, np, cp, nats (Na.dig (Ch.ns (Ch.wr n m f) k))⟩, ⟨Q, nq, cq, nats (Na.dig (Ch.ns (Ch.er n) (min k (f + 1))))⟩] Ob)
set_option maxHeartbeats 16000000 in
theorem chanceBalls_any (A0 : Option Addr) (n0 c0 : Nat) (ts : List Int) (w : World) (hn : ts.length = n0) (hl : n0 ≤ 9223372036854775807) (hs : Sl w w.heap.size A0 (ints ts)) (ht : Tab w) :
    Calls Tryz.prog 4 #[.slice A0 n0 c0] w fun e w' => e = .returned (.bool true) ∧ Below w.heap.size w w' := by
  have HT := Lib.hid ht
  rcases Nat.lt_or_ge 400 n0 with hbig | hsm
  · have HLi := Lib.hid (light_no A0 n0 c0 w hbig hl)
    have HAw := Lib.hid (awake08 w ht)
    clear hs ht
    go_enter Tryz.func4, Tryz.ntmps4
    go_wp2_with (first | (go_at_call 11; refine HLi.out.mono ?_; rintro e w1 ⟨rfl, rfl⟩) | (go_at_call 12; refine HAw.out.mono ?_; rintro e w2 ⟨rfl, hb⟩))
    go_ret
    exact ⟨rfl, hb⟩
  have HLi := Lib.hid (light_yes A0 n0 c0 w hsm)
  have HR := Lib.hid (roll_at (St.refl w) A0 n0 c0 w.heap.size ts hn (by omega) (Nat.le_refl _) hs)
  clear hs hn hl hsm ht
  go_enter Tryz.func4, Tryz.ntmps4
  go_wp2_with fail
  refine HLi.out.mono ?_
  rintro e w1 ⟨rfl, rfl⟩
  go_wp2_with fail
  refine HR.out.mono ?_
  rintro e w1 ⟨g, rfl, hd1, hst1⟩
  have h0 := Ow.of hst1
  have HN := Lib.hid (next_ow h0 hd1 4 (by omega) (by omega))
  clear HR HLi hd1 hst1 h0
  go_wp2_with fail
  refine HN.out.mono ?_
  rintro e w2 ⟨r1, rfl, hr1, hd2, h2, -⟩
  obtain ⟨d, hdd⟩ : ∃ d, 1 + r1 = d := ⟨_, rfl⟩
  have hdi : (1 : Int) + (r1 : Int) = (d : Int) := by omega
  have HN2 := Lib.hid (next_ow h2 hd2 5 (by omega) (by omega))
  clear HN hd2 h2
  go_wp2_with fail
  refine HN2.out.mono ?_
  rintro e w3 ⟨r2, rfl, hr2, hd3, h3, -⟩
  obtain ⟨m, hmm⟩ : ∃ m, 1 + r2 = m := ⟨_, rfl⟩
  have hmi : (1 : Int) + (r2 : Int) = (m : Int) := by omega
  have h4 := h3.code d m 0
  try simp only [List.nil_append] at h4
  have hd4 : Dice (w3.alloc (.cells #[.int .i64 2, .int .i64 (d : Int), .int .i64 (m : Int), .int .i64 0] 26)) g w.heap.size := hd3.grown (row := none) (World.grownBy_alloc _ _ _) (fun _ e => by cases e)
  have H4 : Ow w (w3.alloc (.cells #[.int .i64 2, .int .i64 (d : Int), .int .i64 (m : Int), .int .i64 0] 26)) (some g) [] [] [⟨some ⟨w3.heap.size, 0, none⟩, 4, 4, 26, (cdv d m 0).toList⟩] := h4
  obtain ⟨q, hq⟩ : ∃ q, m / 2 + 1 = q := ⟨_, rfl⟩
  have hqi : (m : Int) / 2 + 1 = (q : Int) := by omega
  have HN3 := Lib.hid (next_ow H4 hd4 q (by omega) (by omega))
  have HO4 := Lib.hid H4
  obtain ⟨k0, k1, k2, k3⟩ := H4.cdc 0 rfl
  clear HN2 hd3 h3 h4 hd4 H4
  go_wp2_with fail
  refine HN3.out.mono ?_
  rintro e w4 ⟨f, rfl, hf, -, h5, -⟩
  clear HN3 HO4 k0 k1 k2 k3
  obtain ⟨n, hdm⟩ : ∃ n, d + m = n := ⟨_, rfl⟩
  have hc : Cv d m f n := by rw [← hdm]; exact Cv.of ⟨by omega, by omega, by omega, by omega, by omega⟩ (by omega)
  have HK := Lib.hid hc
  have hn40 := hc.n40
  have hni := hc.ni
  have hd32 := hc.cd.d2
  have hm8 := hc.cd.m2
  have HD := Lib.hid (show d + m = n ∧ 1 ≤ d ∧ 1 ≤ m ∧ f ≤ n from ⟨hdm, hc.cd.d1, hc.cd.m1, by omega⟩)
  obtain ⟨j0, j1, j2, j3⟩ := h5.cdc 0 rfl
  have jf := (h5.row 0 rfl).frozenAt 3
  have h6 := h5.put 0 rfl 3 (.int .i64 (f : Int))
  have H6 : Ow w (w4.setCell ⟨w3.heap.size, 3, none⟩ (.int .i64 (f : Int))) (some g) [] [] [⟨some ⟨w3.heap.size, 0, none⟩, 4, 4, 26, (cdv d m f).toList⟩] := h6
  obtain ⟨k0, k1, k2, k3⟩ := H6.cdc 0 rfl
  have H7 := ((H6.boxed (.slice none 0 0) 31).boxed (.slice none 0 0) 31).nil'.nil'
  try simp only [World.size_alloc] at H7
  try simp only [World.size_setCell] at H7
  try simp only [List.cons_append] at H7
  try simp only [List.nil_append] at H7
  have HO := Lib.hid H7
  clear hdm hc h5 h6 H6 H7 hr1 hdd hr2 hmm hq hf
  go_wp2_with fail
  clear j0 j1 j2 j3 jf k0 k1 k2 k3 hdi hmi hqi
  go_loopw [8] (fun x wr => RBa w g [⟨some ⟨w3.heap.size, 0, none⟩, 4, 4, 26, (cdv d m f).toList⟩] w4.heap.size (w4.heap.size + 1) d m f n x wr) (fun x _ => 42 - (intOf x).toNat)
  case atStart => exact ⟨0, none, 0, 0, none, 0, 0, by omega, rfl, HO.out⟩
  case round =>
    clear HO
    obtain ⟨k, P, np, cp, Q, nq, cq, hk, rfl, HO⟩ := hrel
    have H5 := HO.out
    clear HO
    rcases Nat.lt_or_ge k (n + 1) with hlt | hge
    · have hd : decide ((k : Int) ≤ (n : Int)) = true := decide_eq_true (by omega)
      have hd' : decide (k ≤ n) = true := decide_eq_true (by omega)
      have HB : Hid (BaK d m f n k) := BaK.of HK.out (by omega)
      obtain ⟨k0, k1, k2, k3⟩ := H5.cdc 0 rfl
      have HC := Lib.hid (c_Wrong H5 HK.out (v := k) (by omega))
      clear H5
      go_wp2_with fail
      refine HC.out.mono ?_
      rintro e w31 ⟨B31, m31, d31, rfl, G⟩
      clear k0 k1 k2 k3 HC
      have H31 := G.boxed (.slice B31 m31 d31) 31
      try simp only [List.cons_append] at H31
      try simp only [List.nil_append] at H31
      clear G
      obtain ⟨k0, k1, k2, k3⟩ := H31.cdc 0 rfl
      have HC := Lib.hid (c_Errors H31 HK.out (v := k) (by omega))
      clear H31
      go_wp2_with fail
      refine HC.out.mono ?_
      rintro e w32 ⟨B32, m32, d32, rfl, G⟩
      clear k0 k1 k2 k3 HC
      have H32 := G.boxed (.slice B32 m32 d32) 31
      try simp only [List.cons_append] at H32
      try simp only [List.nil_append] at H32
      clear G
      have l1 : m31 ≤ 100 := by rw [← H32.digs (i := 2) rfl]; exact wr_dig HK.out (by omega)
      have l2 : m32 ≤ 100 := by rw [← H32.digs (i := 3) rfl]; exact pow256_dig (k := n) hn40 (by rw [← Ch.er_all n]; exact Ch.ns_in (f := Ch.er n) (k := k) _ (by omega))
      have t1 : decide ((100 : Int) < (m31 : Int)) = false := decide_eq_false (by omega)
      have t2 : decide (100 < m31) = false := decide_eq_false (by omega)
      have t3 : decide ((100 : Int) < (m32 : Int)) = false := decide_eq_false (by omega)
      have t4 : decide (100 < m32) = false := decide_eq_false (by omega)
      clear l1 l2
      have c0 := H32.cell 0 rfl
      have c2 := H32.cell 2 rfl
      have c3 := H32.cell 3 rfl
      have HC := Lib.hid (radd_z H32 0 2 rfl rfl HB.out.p HB.out.a HB.out.s)
      clear H32
      go_wp2_with fail
      refine HC.out.mono ?_
      rintro e w33 ⟨B33, m33, d33, rfl, G⟩
      clear c0 c2 c3 HC
      have H33 := G
      try simp only [List.cons_append] at H33
      try simp only [List.nil_append] at H33
      clear G
      have v0 := H33.cell 0 rfl
      have f0 := H33.free 0 rfl
      have Z := H33.setv 0 rfl (.slice B33 m33 d33)
      simp only [List.set_cons_zero] at Z
      clear H33
      obtain ⟨k0, k1, k2, k3⟩ := Z.cdc 0 rfl
      have HZ := Lib.hid Z
      clear Z
      rcases Nat.lt_or_ge f k with hfk | hfk
      · have hx : decide ((k : Int) ≤ (f : Int)) = false := decide_eq_false (by omega)
        have hx' : decide (k ≤ f) = false := decide_eq_false (by omega)
        have HE : Hid (min (k + 1) (f + 1) = min k (f + 1)) := by unfold Hid; omega
        clear hfk
        go_wp2_with fail
        go_roundw
        case rel =>
          refine ⟨k + 1, B33, m33, d33, Q, nq, cq, by omega, by go_num, ?_⟩
          rw [HE.out]
          refine HZ.out.few2 rfl (fun o ho => ?_)
          simp only [List.mem_cons, List.mem_nil_iff, or_false] at ho ⊢
          rcases ho with h | h
          · exact .inr (.inr (.inr (.inr h)))
          · exact .inr (.inl h)
        case measure => simp [intOf]; omega
      · have hx : decide ((k : Int) ≤ (f : Int)) = true := decide_eq_true (by omega)
        have hx' : decide (k ≤ f) = true := decide_eq_true (by omega)
        have HE : Hid (Ch.ns (Ch.er n) (min (k + 1) (f + 1)) = Ch.ns (Ch.er n) (min k (f + 1)) + Ch.er n k) := by unfold Hid; rw [show min (k + 1) (f + 1) = k + 1 by omega, show min k (f + 1) = k by omega]; rfl
        have HT2 := Lib.hid (HB.out.t hfk)
        clear hfk
        have Z := HZ.out
        have z1 := Z.cell 1 rfl
        have z3 := Z.cell 3 rfl
        have HC := Lib.hid (radd_z Z 1 3 rfl rfl HB.out.q HB.out.b HT2.out)
        clear Z
        go_wp2_with fail
        refine HC.out.mono ?_
        rintro e w71 ⟨B71, m71, d71, rfl, G⟩
        clear HC
        have H71 := G
        try simp only [List.cons_append] at H71
        try simp only [List.nil_append] at H71
        clear G
        have v1 := H71.cell 1 rfl
        have f1 := H71.free 1 rfl
        have Z := H71.setv 1 rfl (.slice B71 m71 d71)
        simp only [List.set_cons_succ, List.set_cons_zero] at Z
        clear H71
        have HG := Lib.hid Z
        clear Z
        go_wp2_with fail
        go_roundw
        case rel =>
          refine ⟨k + 1, B33, m33, d33, B71, m71, d71, by omega, by go_num, ?_⟩
          rw [HE.out]
          refine HG.out.few2 rfl (fun o ho => ?_)
          simp only [List.mem_cons, List.mem_nil_iff, or_false] at ho ⊢
          rcases ho with h | h
          · exact .inr (.inr (.inr (.inr (.inl h))))
          · exact .inr (.inr (.inr (.inr (.inr h))))
        case measure => simp [intOf]; omega
    · have hd : decide ((k : Int) ≤ (n : Int)) = false := decide_eq_false (by omega)
      have hd' : decide (k ≤ n) = false := decide_eq_false (by omega)
      obtain rfl : k = n + 1 := by omega
      have e1 := Ch.wr_all n m f (by have := HD.out; omega) (by omega)
      rw [show n - m = d by have := HD.out; omega] at e1
      have e2 : Ch.ns (Ch.er n) (min (n + 1) (f + 1)) = Ch.bl n f := by rw [show min (n + 1) (f + 1) = f + 1 by have := HD.out; omega]; rfl
      rw [e1, e2] at H5
      clear e1 e2
      have HB : Hid ((256 ^ d - 1) * Ch.bl n f < Na.top ∧ Ch.bl n f < Na.top) := ⟨all_top hn40 hd32 HD.out.2.2.2, Nat.lt_of_le_of_lt (Ch.bl_all HD.out.2.2.2) (num_top (by omega) hn40)⟩
      have HC := Lib.hid (rof_z H5 256 (by omega))
      clear H5
      go_wp2_with fail
      refine HC.out.mono ?_
      rintro e w91 ⟨B91, m91, d91, rfl, G⟩
      clear HC
      have H91 := G.boxed (.slice B91 m91 d91) 31
      try simp only [List.cons_append] at H91
      try simp only [List.nil_append] at H91
      clear G
      have HC := Lib.hid (rof_z H91 1 (by omega))
      clear H91
      go_wp2_with fail
      refine HC.out.mono ?_
      rintro e w92 ⟨B92, m92, d92, rfl, G⟩
      clear HC
      have H92 := G.boxed (.slice B92 m92 d92) 31
      try simp only [List.cons_append] at H92
      try simp only [List.nil_append] at H92
      clear G
      have c2 := H92.cell 2 rfl
      obtain ⟨k0, k1, k2, k3⟩ := H92.cdc 0 rfl
      have HC := Lib.hid (rpow_z H92 2 rfl (byte_top (by omega)) d (by omega) (num_top (by omega) (by omega)))
      clear H92
      go_wp2_with fail
      refine HC.out.mono ?_
      rintro e w93 ⟨B93, m93, d93, rfl, G⟩
      clear c2 k0 k1 k2 k3 HC
      have H93 := G.boxed (.slice B93 m93 d93) 31
      try simp only [List.cons_append] at H93
      try simp only [List.nil_append] at H93
      clear G
      have c3 := H93.cell 3 rfl
      have c4 := H93.cell 4 rfl
      have HC := Lib.hid (rsub_z H93 4 3 rfl rfl (num_top (by omega) (by omega)) (Nat.one_le_pow _ _ (by omega)))
      clear H93
      go_wp2_with fail
      refine HC.out.mono ?_
      rintro e w94 ⟨B94, m94, d94, rfl, G⟩
      clear c3 c4 HC
      have H94 := G
      try simp only [List.cons_append] at H94
      try simp only [List.nil_append] at H94
      clear G
      have v4 := H94.cell 4 rfl
      have f4 := H94.free 4 rfl
      have Z := H94.setv 4 rfl (.slice B94 m94 d94)
      simp only [List.set_cons_succ, List.set_cons_zero] at Z
      clear H94
      have c1 := Z.cell 1 rfl
      have z4 := Z.cell 4 rfl
      have HC := Lib.hid (rmul_z Z 5 1 rfl rfl (Nat.lt_of_le_of_lt (Nat.sub_le _ _) (num_top (by omega) (by omega))) HB.out.2 HB.out.1)
      clear Z
      go_wp2_with fail
      refine HC.out.mono ?_
      rintro e w95 ⟨B95, m95, d95, rfl, G⟩
      clear v4 f4 c1 z4 HC
      have H95 := G.boxed (.slice B95 m95 d95) 31
      try simp only [List.cons_append] at H95
      try simp only [List.nil_append] at H95
      clear G
      have HC := Lib.hid (awake08_ow H95 HT.out)
      clear H95
      go_wp2_with fail
      refine HC.out.mono ?_
      rintro e w96 ⟨rfl, H96⟩
      clear HC
      have c0 := H96.cell 0 rfl
      have c5 := H96.cell 5 rfl
      have HC := Lib.hid (ag_same (l := Na.dig ((256 ^ d - 1) * Ch.bl n f)) H96 0 6 rfl rfl)
      clear H96
      go_wp2_with fail
      refine HC.out.mono ?_
      rintro e w97 ⟨rfl, H97⟩
      clear c0 c5 HC
      have HB := Lib.hid H97.below
      clear H97
      go_wp2_with fail
      go_ret
      exact ⟨rfl, HB.out⟩
end Go.Proofs.YtdjfbbfbdgiblaaGreatDoor

namespace Go.Proofs.YtdjfbbfbdgiblaaGreatDoor
open Go.ChangeShapes Go.WideShapes Go.ChangeAt Go.RowKit
set_option linter.unusedVariables false
set_option maxRecDepth 100000
theorem tab_of {W : World} (h : laidMetH Tryz.prog Rows.chanceWholeRow.laid W) : Tab W := by
  rw [MakeChecks.laidMetH_plain _ _ _ (by kernel_rfl)] at h
  obtain ⟨ps, ⟨g, t, cs, fuel, p, q, hg, ht, hv, hd, _, _⟩, _, _⟩ := h
  obtain rfl := Option.some.inj ((show Tryz.prog.globalNamed "math/bits.deBruijn64tab" = some 2 by kernel_rfl).symm.trans hg)
  obtain rfl := Option.some.inj ((show (Tryz.prog.globals[2]?).map (·.type) = some 210 by kernel_rfl).symm.trans ht)
  obtain ⟨xs, m, _, ex, _, hl, hel⟩ := DataW.trod_array Tryz.underlying210 hd
  have c5 : Tryz.prog.cellsOf 5 = 1 := by kernel_rfl
  have hlen : Lib.deBruijn64tab.length = 64 := by kernel_rfl
  have e3 : (xs.map (·.1)) = Lib.deBruijn64tab.map fun n : Nat => .lit (.int .u8 (n : Int)) := (DataW.agg.inj (Prod.mk.inj ex).1).symm
  have hcell : ∀ k v : Nat, Lib.deBruijn64tab[k]? = some v → W.cell? ⟨2, k, none⟩ = some (.int .u8 (v : Int)) := by
    intro r v hr
    have hr64 : r < 64 := by
      rcases Nat.lt_or_ge r 64 with h | h
      · exact h
      · rw [List.getElem?_eq_none (by omega)] at hr; cases hr
    have hE := hel r hr64
    rw [c5, Nat.mul_one, List.getElem?_eq_getElem (by omega)] at hE
    obtain ⟨z, e1, e2, _⟩ := DataW.trod_int Tryz.underlying5 hE
    have e4 : (xs.map (·.1))[r]? = (Lib.deBruijn64tab.map fun n : Nat => (DataW.lit (.int .u8 (n : Int)) : DataW Unit))[r]? := by rw [e3]
    rw [List.getElem?_map, List.getElem?_map, List.getElem?_eq_getElem (by omega : r < xs.length), hr, e2] at e4
    have hz : z = (v : Int) := by
      simp only [Option.map_some, Option.some.injEq, DataW.lit.injEq, Lit.int.injEq, true_and] at e4
      exact e4
    rw [World.var?_cell hg hv r, ← hz]
    have : cs.toList[r]? = some (.int .u8 z) := by
      have h0 : ((cs.toList.drop r).take 1)[0]? = some (.int .u8 z) := by rw [e1]; rfl
      simpa using h0
    simpa using this
  refine ⟨?_, hcell⟩
  have h0 := hcell 0 0 (by kernel_rfl)
  rcases Nat.lt_or_ge 2 W.heap.size with h | h
  · exact h
  · exfalso
    unfold World.cell? at h0
    rw [Array.getElem?_eq_none (by simp only; omega)] at h0
    cases h0
end Go.Proofs.YtdjfbbfbdgiblaaGreatDoor

namespace Go.Proofs.YtdjfbbfbdgiblaaGreatDoor
open Go.ChangeShapes Go.WideShapes Go.ChangeAt Go.RowKit

section
variable {H : Type} {enc : TypeId × Value → H} {P : Program}
/-- arguments read behind the call as before it, if nothing below the old heap's size has turned -/
theorem args_stay (hl : laidOutB P = true) {W W' : World} (hb : Below W.heap.size W W') {sp : Nat → Bool} : ∀ {ts : List TypeId} {vs : List Value} {ds : List (DataW H)} {ps : List MemPlace},
    (∀ t ∈ ts, P.readableRec t = true ∧ t < P.types.size) → DataW.TrodAll enc P W 0 (fun _ => true) true ts vs ds ps → (∀ x ∈ ps, x.block < W.heap.size) → (∀ p ∈ ps, sp p.block = true) →
    DataW.TrodAll enc P W' 0 sp true ts vs ds ps := by
  intro ts
  induction ts with
  | nil =>
    intro vs ds ps _ h _ _
    cases vs <;> cases ds <;> simp [DataW.TrodAll] at h ⊢
    exact h
  | cons t ts ih =>
    intro vs ds ps ht h hlt hs
    obtain ⟨v, vs', d, ds', p, q, rfl, rfl, rfl, h0, h1⟩ := trodAll_cons h
    refine ⟨p, q, ?_, ?_, rfl⟩
    · exact WideElems.Trod_stays hl (ht t (by simp)).1 (ht t (by simp)).2 h0 (fun x hx => hb.same (hlt x (by simp [hx]))) (fun x hx => hs x (by simp [hx]))
    · exact ih (fun u hu => ht u (by simp [hu])) h1 (fun x hx => hlt x (by simp [hx])) (fun x hx => hs x (by simp [hx]))

theorem post_law (hl : laidOutB P = true) {f : Func} {s : ChangeSpec} {W W' : World} {args : Array Value} {ds gs : List (DataW H)} {before : List MemPlace} {tb : TypeId} (hb : Below W.heap.size W W')
    (hvars : s.vars = []) (hW : DataW.Whole enc P f.params.toList s.vars false W args.toList ds gs before)
    (hfn : s.fn H (ds ++ gs) = { results := [.lit (.bool true)], args := ds, vars := [] }) (hres : f.resultTypes = #[tb]) (htb : P.underlying tb = some .bool)
    (hts : ∀ t ∈ f.params.toList, P.readableRec t = true ∧ t < P.types.size) :
    s.post enc P f false true false false W args (.bool true) W' := by
  have hlt : ∀ p ∈ before, p.block < W.heap.size := fun p hp => hW.lt p hp
  have hW' := hW
  obtain ⟨p, q, hA, hV, rfl, hz, hn⟩ := hW
  rw [hvars] at hV
  have hq : q = [] := by
    cases gs with
    | nil => exact hV
    | cons g r => exact absurd hV (by intro h; cases h)
  subst hq
  refine ⟨ds, gs, _, [], p, [], hW', ?_, ?_, ?_, hb.frame _, fun h => by cases h⟩
  · rw [hfn, hres]
    exact trodAll_mk1 (shut_bool htb true)
  · rw [hfn]
    exact args_stay hl hb hts hA (fun x hx => hlt x (by simp [hx])) (fun x hx => by simpa using hlt x (by simp [hx]))
  · rw [hfn, hvars]
    rfl
end
end Go.Proofs.YtdjfbbfbdgiblaaGreatDoor

namespace Go.Proofs.YtdjfbbfbdgiblaaGreatDoor
open Go.ChangeShapes Go.WideShapes Go.ChangeAt Go.RowKit
set_option linter.unusedVariables false

theorem block_lt {W : World} {a : Addr} {v : Value} (h : W.cell? a = some v) : a.block < W.heap.size := by
  rcases Nat.lt_or_ge a.block W.heap.size with h1 | h1
  · exact h1
  · have h2 : W.heap[a.block]? = none := Array.getElem?_eq_none h1
    simp [World.cell?, h2] at h
section
variable {H : Type} {enc : TypeId × Value → H} {P : Program} {W : World}
theorem open_sl {t e : TypeId} {k : IntKind} (ht : P.underlying t = some (.slice e)) (he : P.underlying e = some (.int k)) (hc : P.cellsOf e = 1) {r : Reach} {b0 : Nat} {v : Value} {d : DataW H} {ps : List MemPlace}
    (hval : Value.okWide P W r b0 t v) (h : DataW.Trod enc P W 0 (fun _ => true) true t v d ps) :
    ∃ (A : Option Addr) (n c : Nat) (zs : List Int), v = .slice A n c ∧ zs.length = n ∧ n ≤ c ∧ c ≤ maxLen ∧ Sl W W.heap.size A (zs.map (Value.int k)) ∧ ∀ z ∈ zs, (Lit.int k z).wf = true := by
  obtain ⟨a0, n, c, rfl⟩ := okWide_slice ht hval
  obtain ⟨fuel, hf⟩ := h
  rcases Go.ChangeShapes.open_ints ht he hc hf with ⟨hcs, _⟩ | ⟨a, len, cap, zs, hcs, _, hle, hmx, hall, _, hcell, hwf⟩
  · have e1 : (Value.slice a0 n c) = .slice none 0 0 := (List.cons.inj (show [Value.slice a0 n c] = _ from hcs)).1
    injection e1 with h1 h2 h3
    subst h1 h2 h3
    exact ⟨none, 0, 0, [], rfl, rfl, Nat.le_refl _, Nat.zero_le _, Sl.nil _ _ _, fun z hz => by cases hz⟩
  · have e1 : (Value.slice a0 n c) = .slice (some a) len cap := (List.cons.inj (show [Value.slice a0 n c] = _ from hcs)).1
    injection e1 with h1 h2 h3
    subst h1 h2 h3
    have hz : zs.length = c := by simpa using hall
    refine ⟨some a, n, c, zs.take n, rfl, by rw [List.length_take]; omega, hle, hmx, fun hn => ?_, fun z hz => hwf z (List.mem_of_mem_take hz)⟩
    rw [List.length_map, List.length_take] at hn
    refine ⟨a, rfl, ?_, fun j u hu => ?_⟩
    · have h0 := hcell 0 (by omega)
      have := block_lt h0
      rwa [add_block] at this
    · rw [List.getElem?_map, List.getElem?_take] at hu
      by_cases hj : j < n
      · rw [if_pos hj, List.getElem?_eq_getElem (by omega)] at hu
        rw [hcell j (by omega), List.getD_eq_getElem?_getD, List.getElem?_eq_getElem (by omega)]
        exact hu
      · rw [if_neg hj] at hu
        cases hu
end
end Go.Proofs.YtdjfbbfbdgiblaaGreatDoor
