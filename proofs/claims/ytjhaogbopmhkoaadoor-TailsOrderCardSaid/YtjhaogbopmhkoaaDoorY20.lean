/- Th -/
import Derived.Test.YtjhaogbopmhkoaaDoorY19
namespace Go.Proofs.YtjhaogbopmhkoaaDoor
open Go.RowKit Go.Sort
set_option linter.unusedVariables false
set_option maxRecDepth 100000
theorem bin_pow (n k : Nat) : Na.bin n k ≤ n ^ k := by
  induction n generalizing k with
  | zero =>
    cases k with
    | zero => exact Nat.le_refl _
    | succ k => exact Nat.zero_le _
  | succ n ih =>
    cases k with
    | zero => rw [Na.bin_zero]; exact Nat.le_refl _
    | succ k =>
      rw [Na.bin_succ]
      have h1 := ih k
      have h2 := ih (k + 1)
      have h3 : n ^ (k + 1) = n ^ k * n := Nat.pow_succ n k
      have h4 : n ^ k ≤ (n + 1) ^ k := Nat.pow_le_pow_left (by omega) k
      have h5 : n ^ k * (n + 1) ≤ (n + 1) ^ k * (n + 1) := Nat.mul_le_mul_right _ h4
      have h6 : (n + 1) ^ (k + 1) = (n + 1) ^ k * (n + 1) := Nat.pow_succ _ _
      have h7 : n ^ k * (n + 1) = n ^ k * n + n ^ k := by rw [Nat.mul_add, Nat.mul_one]
      omega
theorem bin_4096 {n k : Nat} (hn : n ≤ 4096) : Na.bin n k ≤ 2 ^ (12 * k) := Nat.le_trans (bin_pow n k) (pow_two (a := 12) hn k)
def termH (tt mm dd j : Nat) : Nat := Na.bin mm j * Na.bin (tt - mm) (dd - j)
def sumH (tt mm dd lo : Nat) : Nat → Nat
  | 0 => 0
  | c + 1 => sumH tt mm dd lo c + termH tt mm dd (lo + c)
theorem termH_two {tt mm dd j : Nat} (ht : tt ≤ 4096) (hm : mm ≤ 4096) (hj : j ≤ dd) : termH tt mm dd j ≤ 2 ^ (12 * dd) := by
  have h1 := mul_two (bin_4096 (k := j) hm) (bin_4096 (n := tt - mm) (k := dd - j) (by omega))
  rwa [show 12 * j + 12 * (dd - j) = 12 * dd by omega] at h1
theorem sumH_two {tt mm dd lo : Nat} (ht : tt ≤ 4096) (hm : mm ≤ 4096) : ∀ c : Nat, lo + c ≤ dd + 1 → sumH tt mm dd lo c ≤ c * 2 ^ (12 * dd)
  | 0, _ => by rw [Nat.zero_mul]; exact Nat.le_refl _
  | c + 1, h => by
    have h1 := sumH_two (tt := tt) (mm := mm) (dd := dd) (lo := lo) ht hm c (by omega)
    have h2 := termH_two (tt := tt) (mm := mm) (dd := dd) (j := lo + c) ht hm (by omega)
    show sumH tt mm dd lo c + termH tt mm dd (lo + c) ≤ _
    rw [Nat.succ_mul]
    omega
structure HypK (tt mm dd j s : Nat) : Prop where
  m4096 : mm ≤ 4096
  t4096 : tt ≤ 4096
  d4096 : dd ≤ 4096
  jmax : j ≤ 9223372036854775807
  mt : mm ≤ tt
  jd : j ≤ dd
  st : s < Na.top
  b1 : Na.bin mm j < Na.top
  b2 : Na.bin (tt - mm) (dd - j) < Na.top
  b3 : Na.bin mm j * Na.bin (tt - mm) (dd - j) < Na.top
  bs : s + Na.bin mm j * Na.bin (tt - mm) (dd - j) < Na.top
theorem hypK_of {tt mm dd lo c : Nat} (ht : tt ≤ 4096) (hm : mm ≤ tt) (hd : dd ≤ 40) (hc : lo + c ≤ dd) : HypK tt mm dd (lo + c) (sumH tt mm dd lo c) := by
  have h1 := sumH_two (tt := tt) (mm := mm) (dd := dd) (lo := lo) ht (by omega) (c + 1) (by omega)
  have h0 : sumH tt mm dd lo (c + 1) = sumH tt mm dd lo c + termH tt mm dd (lo + c) := rfl
  have h2 : sumH tt mm dd lo (c + 1) ≤ 2 ^ (6 + 12 * dd) := by
    rw [Nat.pow_add]
    exact Nat.le_trans h1 (Nat.mul_le_mul_right _ (by show c + 1 ≤ 64; omega))
  have h3 : sumH tt mm dd lo (c + 1) < Na.top := le_top h2 (by omega)
  have h4 := termH_two (tt := tt) (mm := mm) (dd := dd) (j := lo + c) ht (by omega) hc
  exact ⟨by omega, by omega, by omega, by omega, hm, hc, by omega, le_top (bin_4096 (by omega)) (by omega), le_top (bin_4096 (by omega)) (by omega), le_top h4 (by omega), by rw [h0] at h3; exact h3⟩
def RtHyp (w0 : World) (g : Option Nat) (M : List (Nat × Value)) (L : List Ob) (O : List Rw) (rb ab : Nat) (tt mm dd lo : Nat) (v : Value) (wr : World) : Prop :=
  ∃ (k j s : Nat) (AS : Option Addr) (nS cS : Nat), Hid ((lo + k ≤ dd + 1 ∨ k = 0) ∧ j = lo + k ∧ s = sumH tt mm dd lo k ∧ j ≤ 9223372036854775807) ∧ v = .int .i64 (j : Int) ∧ Hid (Ow w0 wr g (M ++ [(ab, .slice AS nS cS)]) (L ++ [⟨AS, nS, cS, nats (Na.dig s)⟩]) (O ++ [Rw.pair rb 26 (.slice none 0 0) (.slice none 0 0)]))
structure HtK (w0 : World) (g : Option Nat) (M : List (Nat × Value)) (L : List Ob) (O : List Rw) (rb ab : Nat) (AS : Option Addr) (nS cS : Nat) (tt mm dd j s : Nat) (Ld : Nat → Bool) (u0 u1 u2 u3 u4 u5 u6 u7 u8 u9 u10 u11 u12 u13 : Value) (va : Value) (Ls : List Ob) (W : World) : Prop where
  ow : Ow w0 W g (M ++ [(ab, va)]) (L ++ [(⟨AS, nS, cS, nats (Na.dig s)⟩ : Ob)] ++ Ls) (O ++ [Rw.pair rb 26 (.slice none 0 0) (.slice none 0 0)])
  h0 : Ld 0 = true → u0 = .agg #[.slice AS nS cS]
  h1 : Ld 1 = true → u1 = .int .i64 (mm : Int)
  h2 : Ld 2 = true → u2 = .int .i64 (j : Int)
  h3 : GN Ld 3 u3 (Na.bin mm j) Ls
  h4 : Ld 4 = true → u4 = .int .i64 (tt : Int)
  h5 : Ld 5 = true → u5 = .int .i64 (mm : Int)
  h6 : Ld 6 = true → u6 = .int .i64 ((tt : Int) - (mm : Int))
  h7 : Ld 7 = true → u7 = .int .i64 (dd : Int)
  h8 : Ld 8 = true → u8 = .int .i64 (j : Int)
  h9 : Ld 9 = true → u9 = .int .i64 ((dd : Int) - (j : Int))
  h10 : GN Ld 10 u10 (Na.bin (tt - mm) (dd - j)) Ls
  h11 : GL Ld 11 u11 [Na.bin mm j, Na.bin (tt - mm) (dd - j)] 2 (L ++ [(⟨AS, nS, cS, nats (Na.dig s)⟩ : Ob)]) Ls
  h12 : GN Ld 12 u12 (Na.bin mm j * Na.bin (tt - mm) (dd - j)) Ls
  h13 : GN Ld 13 u13 (s + Na.bin mm j * Na.bin (tt - mm) (dd - j)) Ls
  v0 : Ld 14 = false → va = .slice AS nS cS
  v1 : GV Ld 14 va (s + Na.bin mm j * Na.bin (tt - mm) (dd - j)) Ls
def HtI (w0 : World) (g : Option Nat) (M : List (Nat × Value)) (L : List Ob) (O : List Rw) (rb ab : Nat) (AS : Option Addr) (nS cS : Nat) (tt mm dd j s : Nat) (A0 : Act) (Ld : Nat → Bool) (a : Act) (W : World) : Prop :=
  ∃ (u0 u1 u2 u3 u4 u5 u6 u7 u8 u9 u10 u11 u12 u13 : Value) (va : Value) (Ls : List Ob), a = ((((((((((((((A0.put (some 46) u0).put (some 47) u1).put (some 48) u2).put (some 49) u3).put (some 50) u4).put (some 51) u5).put (some 52) u6).put (some 53) u7).put (some 54) u8).put (some 55) u9).put (some 56) u10).put (some 57) u11).put (some 58) u12).put (some 59) u13) ∧ HtK w0 g M L O rb ab AS nS cS tt mm dd j s Ld u0 u1 u2 u3 u4 u5 u6 u7 u8 u9 u10 u11 u12 u13 va Ls W
section
variable {w0 w w' : World} {g : Option Nat} {M M2 : List (Nat × Value)} {L : List Ob} {O : List Rw} {A A2 A3 A4 : Option Addr} {b n c m c2 n3 c3 n4 c4 x y : Nat} {p q r s : List Int}
theorem t_choose_sub (h : Ow w0 w g M L O) (tt mm dd j : Nat) (hm : mm ≤ tt) (hj : j ≤ dd) (ht : tt ≤ 4096) (hd : dd ≤ 4096) :
    Calls Tryd.prog 61 #[.int .i64 ((tt : Int) - (mm : Int)), .int .i64 ((dd : Int) - (j : Int))] w (GotU w0 g M L O (Na.dig (Na.bin (tt - mm) (dd - j)))) := by
  rw [show (tt : Int) - (mm : Int) = ((tt - mm : Nat) : Int) by omega, show (dd : Int) - (j : Int) = ((dd - j : Nat) : Int) by omega]
  exact t_choose h (tt - mm) (dd - j) (by omega) (by omega)
set_option maxHeartbeats 8000000 in
theorem t_hyper_range (h : Ow w0 w g M L O) (a b d e : Int) (hn : a < 0 ∨ 4096 < a ∨ b < 0 ∨ a < b ∨ d < 0 ∨ a < d ∨ 40 < d) : Calls Tryd.prog 24 #[.int .i64 a, .int .i64 b, .int .i64 d, .int .i64 e] w (GotF w0 g M L O (frE 2)) := by
  have H := h.pair (.slice none 0 0) (.slice none 0 0) 26
  clear h
  rcases Int.lt_or_le (a) (0) with h0 | h1
  · have t : decide (a < 0) = true := decide_eq_true (by omega)
    clear hn
    go_enter Tryd.func24, Tryd.ntmps24
    have HF := Lib.hid H.fewO
    clear H
    go_wp2_with fail
    refine bodyPost_ret (v := .tuple #[.agg #[.slice none 0 0, .slice none 0 0], .int .i64 2]) (by simp [results, Tryd.results24, go_sem]) rfl ?_
    exact gotF_nil HF.out 2
  rcases Int.lt_or_le (4096) (a) with h0 | h2
  · have t : decide (4096 < a) = true := decide_eq_true (by omega)
    have t0 : decide (a < 0) = false := decide_eq_false (by omega)
    clear hn
    go_enter Tryd.func24, Tryd.ntmps24
    have HF := Lib.hid H.fewO
    clear H
    go_wp2_with fail
    refine bodyPost_ret (v := .tuple #[.agg #[.slice none 0 0, .slice none 0 0], .int .i64 2]) (by simp [results, Tryd.results24, go_sem]) rfl ?_
    exact gotF_nil HF.out 2
  rcases Int.lt_or_le (b) (0) with h0 | h3
  · have t : decide (b < 0) = true := decide_eq_true (by omega)
    have t0 : decide (a < 0) = false := decide_eq_false (by omega)
    have t1 : decide (4096 < a) = false := decide_eq_false (by omega)
    clear hn
    go_enter Tryd.func24, Tryd.ntmps24
    have HF := Lib.hid H.fewO
    clear H
    go_wp2_with fail
    refine bodyPost_ret (v := .tuple #[.agg #[.slice none 0 0, .slice none 0 0], .int .i64 2]) (by simp [results, Tryd.results24, go_sem]) rfl ?_
    exact gotF_nil HF.out 2
  rcases Int.lt_or_le (a) (b) with h0 | h4
  · have t : decide (a < b) = true := decide_eq_true (by omega)
    have t0 : decide (a < 0) = false := decide_eq_false (by omega)
    have t1 : decide (4096 < a) = false := decide_eq_false (by omega)
    have t2 : decide (b < 0) = false := decide_eq_false (by omega)
    clear hn
    go_enter Tryd.func24, Tryd.ntmps24
    have HF := Lib.hid H.fewO
    clear H
    go_wp2_with fail
    refine bodyPost_ret (v := .tuple #[.agg #[.slice none 0 0, .slice none 0 0], .int .i64 2]) (by simp [results, Tryd.results24, go_sem]) rfl ?_
    exact gotF_nil HF.out 2
  rcases Int.lt_or_le (d) (0) with h0 | h5
  · have t : decide (d < 0) = true := decide_eq_true (by omega)
    have t0 : decide (a < 0) = false := decide_eq_false (by omega)
    have t1 : decide (4096 < a) = false := decide_eq_false (by omega)
    have t2 : decide (b < 0) = false := decide_eq_false (by omega)
    have t3 : decide (a < b) = false := decide_eq_false (by omega)
    clear hn
    go_enter Tryd.func24, Tryd.ntmps24
    have HF := Lib.hid H.fewO
    clear H
    go_wp2_with fail
    refine bodyPost_ret (v := .tuple #[.agg #[.slice none 0 0, .slice none 0 0], .int .i64 2]) (by simp [results, Tryd.results24, go_sem]) rfl ?_
    exact gotF_nil HF.out 2
  rcases Int.lt_or_le 40 a with h0 | h6
  · have t : decide (40 < d) = true := decide_eq_true (by omega)
    have t0 : decide (a < 0) = false := decide_eq_false (by omega)
    have t1 : decide (4096 < a) = false := decide_eq_false (by omega)
    have t2 : decide (b < 0) = false := decide_eq_false (by omega)
    have t3 : decide (a < b) = false := decide_eq_false (by omega)
    have t4 : decide (d < 0) = false := decide_eq_false (by omega)
    clear hn
    go_enter Tryd.func24, Tryd.ntmps24
    have HF := Lib.hid H.fewO
    clear H
    go_wp2_with fail
    refine bodyPost_ret (v := .tuple #[.agg #[.slice none 0 0, .slice none 0 0], .int .i64 2]) (by simp [results, Tryd.results24, go_sem]) rfl ?_
    exact gotF_nil HF.out 2
  · have t : decide (a < d) = true := decide_eq_true (by omega)
    have t0 : decide (a < 0) = false := decide_eq_false (by omega)
    have t1 : decide (4096 < a) = false := decide_eq_false (by omega)
    have t2 : decide (b < 0) = false := decide_eq_false (by omega)
    have t3 : decide (a < b) = false := decide_eq_false (by omega)
    have t4 : decide (d < 0) = false := decide_eq_false (by omega)
    clear hn
    go_enter Tryd.func24, Tryd.ntmps24
    have HF := Lib.hid H.fewO
    clear H
    go_wp2_with fail
    refine bodyPost_ret (v := .tuple #[.agg #[.slice none 0 0, .slice none 0 0], .int .i64 2]) (by simp [results, Tryd.results24, go_sem]) rfl ?_
    exact gotF_nil HF.out 2
set_option maxHeartbeats 16000000 in
theorem t_hyper_sum (h : Ow w0 w g M L O) (tt mm dd : Nat) (hits : Int) (ht : Tab w0) (htt : tt ≤ 4096) (hmt : mm ≤ tt) (hdt : dd ≤ tt) (hd40 : dd ≤ 40) (hh : hits ≤ 9223372036854775807) : Calls Tryd.prog 24 #[.int .i64 (tt : Int), .int .i64 (mm : Int), .int .i64 (dd : Int), .int .i64 hits] w (GotF w0 g M L O (frM (sumH tt mm dd hits.toNat (dd + 1 - hits.toNat)) (Na.bin tt dd))) := by
  have H := h.pair (.slice none 0 0) (.slice none 0 0) 26
  have t1 : decide ((tt : Int) < 0) = false := decide_eq_false (by omega)
  have t2 : decide (4096 < (tt : Int)) = false := decide_eq_false (by omega)
  have t2b : decide (4096 < tt) = false := decide_eq_false (by omega)
  have t3 : decide ((mm : Int) < 0) = false := decide_eq_false (by omega)
  have t4 : decide ((tt : Int) < (mm : Int)) = false := decide_eq_false (by omega)
  have t4b : decide (tt < mm) = false := decide_eq_false (by omega)
  have t5 : decide ((dd : Int) < 0) = false := decide_eq_false (by omega)
  have t6 : decide ((tt : Int) < (dd : Int)) = false := decide_eq_false (by omega)
  have t6b : decide (tt < dd) = false := decide_eq_false (by omega)
  have t7 : decide (40 < (dd : Int)) = false := decide_eq_false (by omega)
  have t7b : decide (40 < dd) = false := decide_eq_false (by omega)
  have HT := Lib.hid ht
  have HY : Hid (tt ≤ 4096 ∧ mm ≤ tt ∧ dd ≤ 40) := ⟨htt, hmt, hd40⟩
  obtain ⟨lo, hlo⟩ : ∃ z, hits.toNat = z := ⟨_, rfl⟩
  have hlo9 : lo ≤ 9223372036854775807 := by omega
  obtain ⟨t, hmk⟩ : ∃ z, frM (sumH tt mm dd lo (dd + 1 - lo)) (Na.bin tt dd) = z := ⟨_, rfl⟩
  rw [hlo, hmk]
  have HMk := Lib.hid hmk
  have hmx : (0 < hits ∧ hits = (lo : Int)) ∨ (hits ≤ 0 ∧ lo = 0) := by omega
  have hmn : 40 < (tt : Int) ∨ (tt : Int) ≤ 40 := by omega
  have HC := Lib.hid (t_of H 0 (by omega))
  clear h H hlo hmk hh hmt hdt hd40 htt ht
  rcases hmx with ⟨h0, rfl⟩ | ⟨h0, rfl⟩
  · rcases hmn with hmn | hmn
    · go_enter Tryd.func24, Tryd.ntmps24
      go_wp2_with fail
      refine HC.out.mono ?_
      rintro e w1 ⟨AS, nS, cS, rfl, G⟩
      have H := G.boxed (.slice AS nS cS) 24
      try simp only [List.append_assoc, List.cons_append, List.nil_append] at H
      have HO := Lib.hid H
      clear HC G H hmn
      go_wp2_with fail
      go_loopw [11] (fun v wr => RtHyp w0 g M L O w.heap.size w1.heap.size tt mm dd lo v wr) (fun v _ => dd + 1 - (intOf v).toNat)
      case atStart => exact ⟨0, lo, 0, AS, nS, cS, ⟨.inr rfl, rfl, rfl, by omega⟩, rfl, HO⟩
      case round =>
        clear HO
        obtain ⟨k, j, s, AS, nS, cS, HK, rfl, HO⟩ := hrel
        have cS0 := HO.out.cell (M.length + 0) (by rw [get_r]; rfl)
        have hj9 := HK.out.2.2.2
        rcases Nat.lt_or_ge dd j with hlt | hle
        · have hd : decide ((j : Int) ≤ (dd : Int)) = false := decide_eq_false (by omega)
          have hd2 : decide (j ≤ dd) = false := decide_eq_false (by omega)
          have HD := Lib.hid HO.out.drew
          have HM10 : Hid (frM s (Na.bin tt dd) = t ∧ Na.bin tt dd < Na.top ∧ s < Na.top) := by
            have ek : k = dd + 1 - lo := by have := HK.out.1; have := HK.out.2.1; omega
            have hyn : Na.bin tt dd < Na.top := le_top (bin_4096 HY.out.1) (by have := HY.out.2.2; omega)
            have hsn : sumH tt mm dd lo k < Na.top := by
              rcases HK.out.1 with hk | hk
              · have h1 := sumH_two (tt := tt) (mm := mm) (dd := dd) (lo := lo) HY.out.1 (Nat.le_trans HY.out.2.1 HY.out.1) k hk
                have h2 : sumH tt mm dd lo k ≤ 2 ^ (6 + 12 * dd) := by
                  rw [Nat.pow_add]
                  exact Nat.le_trans h1 (Nat.mul_le_mul_right _ (by have := HY.out.2.2; show k ≤ 64; omega))
                exact le_top h2 (by have := HY.out.2.2; omega)
              · rw [hk]
                exact le_top (k := 0) (Nat.zero_le _) (by omega)
            refine ⟨?_, hyn, by rw [HK.out.2.2.1]; exact hsn⟩
            rw [HK.out.2.2.1, ek]
            exact HMk.out
          have HA1 := Lib.hid (t_choose HD.out tt dd HY.out.1 (by have := HY.out.2.2; omega))
          clear HO hlt hj9 cS0
          go_upto_region 8 with (fail)
          have s0 := HD.out.cell (M.length + 0) (by rw [get_r]; rfl)
          go_region_held3 (fun W => W.cell? ⟨w1.heap.size, 0, none⟩ = some (.slice AS nS cS)) (first | exact s0 | exact how4.cell (M.length + 0) (by rw [get_r]; rfl) | exact how3.cell (M.length + 0) (by rw [get_r]; rfl) | exact how.cell (M.length + 0) (by rw [get_r]; rfl)) ((first | (go_at_call 61; (with_reducible refine HA1.out.mono ?_); rintro e v2 ⟨B1, m1, d1, rfl, how⟩; rw [List.append_assoc] at how; have HA3 := Lib.hid (qmake_fr how (L.length + 0) (L.length + 1) (by rw [get_r]; rfl) (by rw [get_r]; rfl) HT.out HM10.out.2.2 HM10.out.2.1 HM10.out.1)) | (go_at_call 46; (with_reducible refine HA3.out.mono ?_); rintro e v4 ⟨C1, k1, e1, C2, k2, e2, rfl, how3⟩; have z0 := how3.p0 (O.length + 0) (by rw [get_r]; rfl); have z1 := how3.p1 (O.length + 0) (by rw [get_r]; rfl); have f0 := how3.pf (O.length + 0) (by rw [get_r]; rfl) 0; have f1 := how3.pf (O.length + 0) (by rw [get_r]; rfl) 1; have how4' := how3.set0 (O.length + 0) (by rw [get_r]; rfl) (.slice C1 k1 e1); rw [set_r] at how4'; simp only [List.set_cons_zero] at how4'; have how4 := how4'.set1 (O.length + 0) (by rw [get_r]; rfl) (.slice C2 k2 e2); rw [set_r] at how4; simp only [List.set_cons_zero] at how4)))
          have r0 := how4.p0 (O.length + 0) (by rw [get_r]; rfl)
          have r1 := how4.p1 (O.length + 0) (by rw [get_r]; rfl)
          have HF := Lib.hid (how4.fewM.fewO.less (mid_less L _ _ _))
          clear how how3 how4' how4 s0 z0 z1 f0 f1 HA1 HA3
          go_wp2_with fail
          refine bodyPost_ret (v := .tuple #[.agg #[.slice C1 k1 e1, .slice C2 k2 e2], .int .i64 t.2.2]) (by simp [results, Tryd.results24, go_sem, r0, r1]) rfl ?_
          exact ⟨C1, k1, e1, C2, k2, e2, rfl, HF.out⟩
        · have hd : decide ((j : Int) ≤ (dd : Int)) = true := decide_eq_true (by omega)
          have hd2 : decide (j ≤ dd) = true := decide_eq_true hle
          have HB : Hid (HypK tt mm dd j s) := by
            have := hypK_of (tt := tt) (mm := mm) (dd := dd) (lo := lo) (c := k) HY.out.1 HY.out.2.1 HY.out.2.2 (by have := HK.out.2.1; omega)
            rw [← HK.out.2.1, ← HK.out.2.2.1] at this
            exact this
          have hj10 : j ≤ 40 := by have := HY.out.2.2; omega
          have hn10 : dd ≤ 40 := HY.out.2.2
          have hn11 : tt ≤ 4096 := HY.out.1
          have hn12 : mm ≤ tt := HY.out.2.1
          clear cS0
          go_upto_region 7 with (fail)
          refine reg_inv34 (HtI w0 g M L O w.heap.size w1.heap.size AS nS cS tt mm dd j s) (by kernel_rfl) (by kernel_rfl) ?_ ?_ ?_
          · refine ⟨u46, u47, u48, u49, u50, u51, u52, u53, u54, u55, u56, u57, u58, u59, .slice AS nS cS, [], ?_, ⟨by rw [List.append_nil]; exact HO.out.drew, ?_, ?_, ?_, ?_, ?_, ?_, ?_, ?_, ?_, ?_, ?_, ?_, ?_, ?_, fun _ => rfl, ?_⟩⟩
            · simp only [Act.put, List.setIfInBounds_toArray, List.set_cons_zero, List.set_cons_succ]
            all_goals (intro h; cases h)
          · rintro jj Ld b W hj hf hcl hd ⟨u0, u1, u2, u3, u4, u5, u6, u7, u8, u9, u10, u11, u12, u13, va, Ls, rfl, hC⟩
            have hj' : jj < 15 := hj
            have hcase : jj = 0 ∨ jj = 1 ∨ jj = 2 ∨ jj = 3 ∨ jj = 4 ∨ jj = 5 ∨ jj = 6 ∨ jj = 7 ∨ jj = 8 ∨ jj = 9 ∨ jj = 10 ∨ jj = 11 ∨ jj = 12 ∨ jj = 13 ∨ jj = 14 := by omega
            have qa := hC.ow.cell (M.length + 0) (by rw [get_r]; rfl)
            have qz := hC.ow.free (M.length + 0) (by rw [get_r]; rfl)
            clear hj hj'
            simp only [Act.put, List.setIfInBounds_toArray, List.set_cons_zero, List.set_cons_succ]
            rcases hcase with rfl | rfl | rfl | rfl | rfl | rfl | rfl | rfl | rfl | rfl | rfl | rfl | rfl | rfl | rfl
            · have g13 : Ld 13 = false := by cases e : Ld 13 with | false => rfl | true => (rw [hcl 13 0 e (by kernel_rfl)] at hf; cases hf)
              have g14 : Ld 14 = false := by cases e : Ld 14 with | false => rfl | true => (rw [hcl 14 13 e (by kernel_rfl)] at g13; cases g13)
              obtain rfl := hC.v0 g14
              clear hd hcl
              refine wpOp_step rfl (fun K hK => ?_)
              go_simp
              refine hK _ _ ⟨_, u1, u2, u3, u4, u5, u6, u7, u8, u9, u10, u11, u12, u13, _, Ls, ?_, ⟨hC.ow, fun _ => rfl, hC.h1, hC.h2, hC.h3, hC.h4, hC.h5, hC.h6, hC.h7, hC.h8, hC.h9, hC.h10, hC.h11, hC.h12, hC.h13, hC.v0, hC.v1⟩⟩
              simp only [Act.put, List.setIfInBounds_toArray, List.set_cons_zero, List.set_cons_succ]
            · clear hd hcl
              refine wpOp_step rfl (fun K hK => ?_)
              go_simp
              refine hK _ _ ⟨u0, _, u2, u3, u4, u5, u6, u7, u8, u9, u10, u11, u12, u13, va, Ls, ?_, ⟨hC.ow, hC.h0, fun _ => rfl, hC.h2, hC.h3, hC.h4, hC.h5, hC.h6, hC.h7, hC.h8, hC.h9, hC.h10, hC.h11, hC.h12, hC.h13, hC.v0, hC.v1⟩⟩
              simp only [Act.put, List.setIfInBounds_toArray, List.set_cons_zero, List.set_cons_succ]
            · clear hd hcl
              refine wpOp_step rfl (fun K hK => ?_)
              go_simp
              refine hK _ _ ⟨u0, u1, _, u3, u4, u5, u6, u7, u8, u9, u10, u11, u12, u13, va, Ls, ?_, ⟨hC.ow, hC.h0, hC.h1, fun _ => rfl, hC.h3, hC.h4, hC.h5, hC.h6, hC.h7, hC.h8, hC.h9, hC.h10, hC.h11, hC.h12, hC.h13, hC.v0, hC.v1⟩⟩
              simp only [Act.put, List.setIfInBounds_toArray, List.set_cons_zero, List.set_cons_succ]
            · obtain rfl := hC.h1 (hd 1 (by kernel_rfl))
              obtain rfl := hC.h2 (hd 2 (by kernel_rfl))
              clear hd hcl
              refine wpOp_step rfl (fun K hK => ?_)
              go_simp
              refine (t_choose hC.ow mm j HB.out.m4096 HB.out.jmax).mono ?_
              rintro e W' ⟨Az, nz, cz, rfl, ho⟩
              rw [List.append_assoc (L ++ [(⟨AS, nS, cS, nats (Na.dig s)⟩ : Ob)]) Ls] at ho
              refine hK _ _ ⟨u0, _, _, _, u4, u5, u6, u7, u8, u9, u10, u11, u12, u13, va, _, ?_, ⟨ho, hC.h0, hC.h1, hC.h2, GN.new _ _ _ _ _ _ _, hC.h4, hC.h5, hC.h6, hC.h7, hC.h8, hC.h9, hC.h10.more, hC.h11.more, hC.h12.more, hC.h13.more, hC.v0, hC.v1.more⟩⟩
              simp only [Act.put, List.setIfInBounds_toArray, List.set_cons_zero, List.set_cons_succ]
            · clear hd hcl
              refine wpOp_step rfl (fun K hK => ?_)
              go_simp
              refine hK _ _ ⟨u0, u1, u2, u3, _, u5, u6, u7, u8, u9, u10, u11, u12, u13, va, Ls, ?_, ⟨hC.ow, hC.h0, hC.h1, hC.h2, hC.h3, fun _ => rfl, hC.h5, hC.h6, hC.h7, hC.h8, hC.h9, hC.h10, hC.h11, hC.h12, hC.h13, hC.v0, hC.v1⟩⟩
              simp only [Act.put, List.setIfInBounds_toArray, List.set_cons_zero, List.set_cons_succ]
            · clear hd hcl
              refine wpOp_step rfl (fun K hK => ?_)
              go_simp
              refine hK _ _ ⟨u0, u1, u2, u3, u4, _, u6, u7, u8, u9, u10, u11, u12, u13, va, Ls, ?_, ⟨hC.ow, hC.h0, hC.h1, hC.h2, hC.h3, hC.h4, fun _ => rfl, hC.h6, hC.h7, hC.h8, hC.h9, hC.h10, hC.h11, hC.h12, hC.h13, hC.v0, hC.v1⟩⟩
              simp only [Act.put, List.setIfInBounds_toArray, List.set_cons_zero, List.set_cons_succ]
            · obtain rfl := hC.h4 (hd 4 (by kernel_rfl))
              obtain rfl := hC.h5 (hd 5 (by kernel_rfl))
              have hw : IntKind.i64.wrap ((tt : Int) - (mm : Int)) = (tt : Int) - (mm : Int) := IntWalk.i64_in _ (by omega)
              clear hd hcl
              refine wpOp_step rfl (fun K hK => ?_)
              go_simp
              refine hK _ _ ⟨u0, u1, u2, u3, _, _, _, u7, u8, u9, u10, u11, u12, u13, va, Ls, ?_, ⟨hC.ow, hC.h0, hC.h1, hC.h2, hC.h3, hC.h4, hC.h5, fun _ => rfl, hC.h7, hC.h8, hC.h9, hC.h10, hC.h11, hC.h12, hC.h13, hC.v0, hC.v1⟩⟩
              simp only [Act.put, List.setIfInBounds_toArray, List.set_cons_zero, List.set_cons_succ]
            · clear hd hcl
              refine wpOp_step rfl (fun K hK => ?_)
              go_simp
              refine hK _ _ ⟨u0, u1, u2, u3, u4, u5, u6, _, u8, u9, u10, u11, u12, u13, va, Ls, ?_, ⟨hC.ow, hC.h0, hC.h1, hC.h2, hC.h3, hC.h4, hC.h5, hC.h6, fun _ => rfl, hC.h8, hC.h9, hC.h10, hC.h11, hC.h12, hC.h13, hC.v0, hC.v1⟩⟩
              simp only [Act.put, List.setIfInBounds_toArray, List.set_cons_zero, List.set_cons_succ]
            · clear hd hcl
              refine wpOp_step rfl (fun K hK => ?_)
              go_simp
              refine hK _ _ ⟨u0, u1, u2, u3, u4, u5, u6, u7, _, u9, u10, u11, u12, u13, va, Ls, ?_, ⟨hC.ow, hC.h0, hC.h1, hC.h2, hC.h3, hC.h4, hC.h5, hC.h6, hC.h7, fun _ => rfl, hC.h9, hC.h10, hC.h11, hC.h12, hC.h13, hC.v0, hC.v1⟩⟩
              simp only [Act.put, List.setIfInBounds_toArray, List.set_cons_zero, List.set_cons_succ]
            · obtain rfl := hC.h7 (hd 7 (by kernel_rfl))
              obtain rfl := hC.h8 (hd 8 (by kernel_rfl))
              have hw : IntKind.i64.wrap ((dd : Int) - (j : Int)) = (dd : Int) - (j : Int) := IntWalk.i64_in _ (by omega)
              clear hd hcl
              refine wpOp_step rfl (fun K hK => ?_)
              go_simp
              refine hK _ _ ⟨u0, u1, u2, u3, u4, u5, u6, _, _, _, u10, u11, u12, u13, va, Ls, ?_, ⟨hC.ow, hC.h0, hC.h1, hC.h2, hC.h3, hC.h4, hC.h5, hC.h6, hC.h7, hC.h8, fun _ => rfl, hC.h10, hC.h11, hC.h12, hC.h13, hC.v0, hC.v1⟩⟩
              simp only [Act.put, List.setIfInBounds_toArray, List.set_cons_zero, List.set_cons_succ]
            · obtain rfl := hC.h6 (hd 6 (by kernel_rfl))
              obtain rfl := hC.h9 (hd 9 (by kernel_rfl))
              clear hd hcl
              refine wpOp_step rfl (fun K hK => ?_)
              go_simp
              refine (t_choose_sub hC.ow tt mm dd j HB.out.mt HB.out.jd HB.out.t4096 HB.out.d4096).mono ?_
              rintro e W' ⟨Az, nz, cz, rfl, ho⟩
              rw [List.append_assoc (L ++ [(⟨AS, nS, cS, nats (Na.dig s)⟩ : Ob)]) Ls] at ho
              refine hK _ _ ⟨u0, u1, u2, u3, u4, u5, _, u7, u8, _, _, u11, u12, u13, va, _, ?_, ⟨ho, hC.h0, hC.h1, hC.h2, hC.h3.more, hC.h4, hC.h5, hC.h6, hC.h7, hC.h8, hC.h9, GN.new _ _ _ _ _ _ _, hC.h11.more, hC.h12.more, hC.h13.more, hC.v0, hC.v1.more⟩⟩
              simp only [Act.put, List.setIfInBounds_toArray, List.set_cons_zero, List.set_cons_succ]
            · obtain ⟨t3, A3, n3, c3, rfl, r3⟩ := hC.h3 (hd 3 (by kernel_rfl))
              have R3 : (L ++ [(⟨AS, nS, cS, nats (Na.dig s)⟩ : Ob)] ++ Ls)[(L ++ [(⟨AS, nS, cS, nats (Na.dig s)⟩ : Ob)]).length + t3]? = some ⟨A3, n3, c3, nats (Na.dig (Na.bin mm j))⟩ := (get_r _ _ _).trans r3
              obtain ⟨t10, A10, n10, c10, rfl, r10⟩ := hC.h10 (hd 10 (by kernel_rfl))
              have R10 : (L ++ [(⟨AS, nS, cS, nats (Na.dig s)⟩ : Ob)] ++ Ls)[(L ++ [(⟨AS, nS, cS, nats (Na.dig s)⟩ : Ob)]).length + t10]? = some ⟨A10, n10, c10, nats (Na.dig (Na.bin (tt - mm) (dd - j)))⟩ := (get_r _ _ _).trans r10
              clear hd hcl
              refine wpOp_step rfl (fun K hK => ?_)
              go_simp
              have ho := hC.ow.push (World.ownsRow_lit (base := W.heap.size) (e := 24) (size := 1) W #[.slice A3 n3 c3, .slice A10 n10 c10] 2 (Nat.le_refl _) (by decide) rfl) (by omega) (own_box1 _ _)
              rw [List.append_assoc (L ++ [(⟨AS, nS, cS, nats (Na.dig s)⟩ : Ob)]) Ls] at ho
              refine hK _ _ ⟨u0, u1, u2, _, u4, u5, u6, u7, u8, u9, _, _, u12, u13, va, _, ?_, ⟨ho, hC.h0, hC.h1, hC.h2, hC.h3.more, hC.h4, hC.h5, hC.h6, hC.h7, hC.h8, hC.h9, hC.h10.more, GL.new _ _ _ _ _ _ _ (Nums.two R3 R10), hC.h12.more, hC.h13.more, hC.v0, hC.v1.more⟩⟩
              simp only [Act.put, List.setIfInBounds_toArray, List.set_cons_zero, List.set_cons_succ]
            · obtain ⟨t11, A11, vs11, rfl, r11, m11⟩ := hC.h11 (hd 11 (by kernel_rfl))
              have R11 : (L ++ [(⟨AS, nS, cS, nats (Na.dig s)⟩ : Ob)] ++ Ls)[(L ++ [(⟨AS, nS, cS, nats (Na.dig s)⟩ : Ob)]).length + t11]? = some ⟨A11, 2, 2, vs11⟩ := (get_r _ _ _).trans r11
              clear hd hcl
              refine wpOp_step rfl (fun K hK => ?_)
              go_simp
              refine (t_times2 hC.ow _ R11 m11 HB.out.b1 HB.out.b2 HB.out.b3).mono ?_
              rintro e W' ⟨Az, nz, cz, rfl, ho⟩
              rw [List.append_assoc (L ++ [(⟨AS, nS, cS, nats (Na.dig s)⟩ : Ob)]) Ls] at ho
              refine hK _ _ ⟨u0, u1, u2, u3, u4, u5, u6, u7, u8, u9, u10, _, _, u13, va, _, ?_, ⟨ho, hC.h0, hC.h1, hC.h2, hC.h3.more, hC.h4, hC.h5, hC.h6, hC.h7, hC.h8, hC.h9, hC.h10.more, hC.h11.more, GN.new _ _ _ _ _ _ _, hC.h13.more, hC.v0, hC.v1.more⟩⟩
              simp only [Act.put, List.setIfInBounds_toArray, List.set_cons_zero, List.set_cons_succ]
            · obtain rfl := hC.h0 (hd 0 (by kernel_rfl))
              obtain ⟨t12, A12, n12, c12, rfl, r12⟩ := hC.h12 (hd 12 (by kernel_rfl))
              have R12 : (L ++ [(⟨AS, nS, cS, nats (Na.dig s)⟩ : Ob)] ++ Ls)[(L ++ [(⟨AS, nS, cS, nats (Na.dig s)⟩ : Ob)]).length + t12]? = some ⟨A12, n12, c12, nats (Na.dig (Na.bin mm j * Na.bin (tt - mm) (dd - j)))⟩ := (get_r _ _ _).trans r12
              clear hd hcl
              refine wpOp_step rfl (fun K hK => ?_)
              go_simp
              refine (t_sum hC.ow (L.length + 0) _ ((get_l _ _ (by simp)).trans ((get_r _ _ 0).trans rfl)) R12 HB.out.st HB.out.b3 HB.out.bs).mono ?_
              rintro e W' ⟨Az, nz, cz, rfl, ho⟩
              rw [List.append_assoc (L ++ [(⟨AS, nS, cS, nats (Na.dig s)⟩ : Ob)]) Ls] at ho
              refine hK _ _ ⟨_, u1, u2, u3, u4, u5, u6, u7, u8, u9, u10, u11, _, _, va, _, ?_, ⟨ho, hC.h0, hC.h1, hC.h2, hC.h3.more, hC.h4, hC.h5, hC.h6, hC.h7, hC.h8, hC.h9, hC.h10.more, hC.h11.more, hC.h12.more, GN.new _ _ _ _ _ _ _, hC.v0, hC.v1.more⟩⟩
              simp only [Act.put, List.setIfInBounds_toArray, List.set_cons_zero, List.set_cons_succ]
            · obtain ⟨t13, A13, n13, c13, rfl, r13⟩ := hC.h13 (hd 13 (by kernel_rfl))
              have R13 : (L ++ [(⟨AS, nS, cS, nats (Na.dig s)⟩ : Ob)] ++ Ls)[(L ++ [(⟨AS, nS, cS, nats (Na.dig s)⟩ : Ob)]).length + t13]? = some ⟨A13, n13, c13, nats (Na.dig (s + Na.bin mm j * Na.bin (tt - mm) (dd - j)))⟩ := (get_r _ _ _).trans r13
              clear hd hcl
              refine wpOp_step rfl (fun K hK => ?_)
              go_simp
              have ho := hC.ow.setv (M.length + 0) (by rw [get_r]; rfl) (.slice A13 n13 c13)
              rw [set_r, List.set_cons_zero] at ho
              refine hK _ _ ⟨u0, u1, u2, u3, u4, u5, u6, u7, u8, u9, u10, u11, u12, _, _, Ls, ?_, ⟨ho, hC.h0, hC.h1, hC.h2, hC.h3, hC.h4, hC.h5, hC.h6, hC.h7, hC.h8, hC.h9, hC.h10, hC.h11, hC.h12, hC.h13, fun e => absurd (show true = false from e) (by decide), fun _ => ⟨t13, A13, n13, c13, rfl, r13⟩⟩⟩
              simp only [Act.put, List.setIfInBounds_toArray, List.set_cons_zero, List.set_cons_succ]
          · rintro Ld b W hL ⟨u0, u1, u2, u3, u4, u5, u6, u7, u8, u9, u10, u11, u12, u13, va, Ls, rfl, hC⟩
            obtain ⟨tz, Az, nz, cz, rfl, rz⟩ := hC.v1 (hL 14 (by show 14 < 15; decide))
            have e9 : s + Na.bin mm j * Na.bin (tt - mm) (dd - j) = sumH tt mm dd lo (k + 1) := by rw [HK.out.2.2.1, HK.out.2.1]; rfl
            have HG := Lib.hid (hC.ow.less (L' := L ++ [⟨Az, nz, cz, nats (Na.dig (s + Na.bin mm j * Na.bin (tt - mm) (dd - j)))⟩]) (fun o ho => by
              simp only [List.mem_append, List.mem_cons, List.mem_nil_iff, or_false] at ho ⊢
              rcases ho with h | h
              · exact .inl (.inl h)
              · exact .inr (h ▸ List.mem_of_getElem? rz)))
            have HE9 := Lib.hid e9
            clear hL hC rz HO HB e9
            simp only [Act.put, List.setIfInBounds_toArray, List.set_cons_zero, List.set_cons_succ]
            go_wp2_with fail
            go_roundw
            case rel => exact ⟨k + 1, j + 1, s + Na.bin mm j * Na.bin (tt - mm) (dd - j), Az, nz, cz, ⟨.inl (by have := HK.out.2.1; omega), by have := HK.out.2.1; omega, HE9.out, by omega⟩, int_eqv (by omega), HG⟩
            case measure => simp [intOf]; omega
    · go_enter Tryd.func24, Tryd.ntmps24
      go_wp2_with fail
      refine HC.out.mono ?_
      rintro e w1 ⟨AS, nS, cS, rfl, G⟩
      have H := G.boxed (.slice AS nS cS) 24
      try simp only [List.append_assoc, List.cons_append, List.nil_append] at H
      have HO := Lib.hid H
      clear HC G H hmn
      go_wp2_with fail
      go_loopw [11] (fun v wr => RtHyp w0 g M L O w.heap.size w1.heap.size tt mm dd lo v wr) (fun v _ => dd + 1 - (intOf v).toNat)
      case atStart => exact ⟨0, lo, 0, AS, nS, cS, ⟨.inr rfl, rfl, rfl, by omega⟩, rfl, HO⟩
      case round =>
        clear HO
        obtain ⟨k, j, s, AS, nS, cS, HK, rfl, HO⟩ := hrel
        have cS0 := HO.out.cell (M.length + 0) (by rw [get_r]; rfl)
        have hj9 := HK.out.2.2.2
        rcases Nat.lt_or_ge dd j with hlt | hle
        · have hd : decide ((j : Int) ≤ (dd : Int)) = false := decide_eq_false (by omega)
          have hd2 : decide (j ≤ dd) = false := decide_eq_false (by omega)
          have HD := Lib.hid HO.out.drew
          have HM10 : Hid (frM s (Na.bin tt dd) = t ∧ Na.bin tt dd < Na.top ∧ s < Na.top) := by
            have ek : k = dd + 1 - lo := by have := HK.out.1; have := HK.out.2.1; omega
            have hyn : Na.bin tt dd < Na.top := le_top (bin_4096 HY.out.1) (by have := HY.out.2.2; omega)
            have hsn : sumH tt mm dd lo k < Na.top := by
              rcases HK.out.1 with hk | hk
              · have h1 := sumH_two (tt := tt) (mm := mm) (dd := dd) (lo := lo) HY.out.1 (Nat.le_trans HY.out.2.1 HY.out.1) k hk
                have h2 : sumH tt mm dd lo k ≤ 2 ^ (6 + 12 * dd) := by
                  rw [Nat.pow_add]
                  exact Nat.le_trans h1 (Nat.mul_le_mul_right _ (by have := HY.out.2.2; show k ≤ 64; omega))
                exact le_top h2 (by have := HY.out.2.2; omega)
              · rw [hk]
                exact le_top (k := 0) (Nat.zero_le _) (by omega)
            refine ⟨?_, hyn, by rw [HK.out.2.2.1]; exact hsn⟩
            rw [HK.out.2.2.1, ek]
            exact HMk.out
          have HA1 := Lib.hid (t_choose HD.out tt dd HY.out.1 (by have := HY.out.2.2; omega))
          clear HO hlt hj9 cS0
          go_upto_region 8 with (fail)
          have s0 := HD.out.cell (M.length + 0) (by rw [get_r]; rfl)
          go_region_held3 (fun W => W.cell? ⟨w1.heap.size, 0, none⟩ = some (.slice AS nS cS)) (first | exact s0 | exact how4.cell (M.length + 0) (by rw [get_r]; rfl) | exact how3.cell (M.length + 0) (by rw [get_r]; rfl) | exact how.cell (M.length + 0) (by rw [get_r]; rfl)) ((first | (go_at_call 61; (with_reducible refine HA1.out.mono ?_); rintro e v2 ⟨B1, m1, d1, rfl, how⟩; rw [List.append_assoc] at how; have HA3 := Lib.hid (qmake_fr how (L.length + 0) (L.length + 1) (by rw [get_r]; rfl) (by rw [get_r]; rfl) HT.out HM10.out.2.2 HM10.out.2.1 HM10.out.1)) | (go_at_call 46; (with_reducible refine HA3.out.mono ?_); rintro e v4 ⟨C1, k1, e1, C2, k2, e2, rfl, how3⟩; have z0 := how3.p0 (O.length + 0) (by rw [get_r]; rfl); have z1 := how3.p1 (O.length + 0) (by rw [get_r]; rfl); have f0 := how3.pf (O.length + 0) (by rw [get_r]; rfl) 0; have f1 := how3.pf (O.length + 0) (by rw [get_r]; rfl) 1; have how4' := how3.set0 (O.length + 0) (by rw [get_r]; rfl) (.slice C1 k1 e1); rw [set_r] at how4'; simp only [List.set_cons_zero] at how4'; have how4 := how4'.set1 (O.length + 0) (by rw [get_r]; rfl) (.slice C2 k2 e2); rw [set_r] at how4; simp only [List.set_cons_zero] at how4)))
          have r0 := how4.p0 (O.length + 0) (by rw [get_r]; rfl)
          have r1 := how4.p1 (O.length + 0) (by rw [get_r]; rfl)
          have HF := Lib.hid (how4.fewM.fewO.less (mid_less L _ _ _))
          clear how how3 how4' how4 s0 z0 z1 f0 f1 HA1 HA3
          go_wp2_with fail
          refine bodyPost_ret (v := .tuple #[.agg #[.slice C1 k1 e1, .slice C2 k2 e2], .int .i64 t.2.2]) (by simp [results, Tryd.results24, go_sem, r0, r1]) rfl ?_
          exact ⟨C1, k1, e1, C2, k2, e2, rfl, HF.out⟩
        · have hd : decide ((j : Int) ≤ (dd : Int)) = true := decide_eq_true (by omega)
          have hd2 : decide (j ≤ dd) = true := decide_eq_true hle
          have HB : Hid (HypK tt mm dd j s) := by
            have := hypK_of (tt := tt) (mm := mm) (dd := dd) (lo := lo) (c := k) HY.out.1 HY.out.2.1 HY.out.2.2 (by have := HK.out.2.1; omega)
            rw [← HK.out.2.1, ← HK.out.2.2.1] at this
            exact this
          have hj10 : j ≤ 40 := by have := HY.out.2.2; omega
          have hn10 : dd ≤ 40 := HY.out.2.2
          have hn11 : tt ≤ 4096 := HY.out.1
          have hn12 : mm ≤ tt := HY.out.2.1
          clear cS0
          go_upto_region 7 with (fail)
          refine reg_inv34 (HtI w0 g M L O w.heap.size w1.heap.size AS nS cS tt mm dd j s) (by kernel_rfl) (by kernel_rfl) ?_ ?_ ?_
          · refine ⟨u46, u47, u48, u49, u50, u51, u52, u53, u54, u55, u56, u57, u58, u59, .slice AS nS cS, [], ?_, ⟨by rw [List.append_nil]; exact HO.out.drew, ?_, ?_, ?_, ?_, ?_, ?_, ?_, ?_, ?_, ?_, ?_, ?_, ?_, ?_, fun _ => rfl, ?_⟩⟩
            · simp only [Act.put, List.setIfInBounds_toArray, List.set_cons_zero, List.set_cons_succ]
            all_goals (intro h; cases h)
          · rintro jj Ld b W hj hf hcl hd ⟨u0, u1, u2, u3, u4, u5, u6, u7, u8, u9, u10, u11, u12, u13, va, Ls, rfl, hC⟩
            have hj' : jj < 15 := hj
            have hcase : jj = 0 ∨ jj = 1 ∨ jj = 2 ∨ jj = 3 ∨ jj = 4 ∨ jj = 5 ∨ jj = 6 ∨ jj = 7 ∨ jj = 8 ∨ jj = 9 ∨ jj = 10 ∨ jj = 11 ∨ jj = 12 ∨ jj = 13 ∨ jj = 14 := by omega
            have qa := hC.ow.cell (M.length + 0) (by rw [get_r]; rfl)
            have qz := hC.ow.free (M.length + 0) (by rw [get_r]; rfl)
            clear hj hj'
            simp only [Act.put, List.setIfInBounds_toArray, List.set_cons_zero, List.set_cons_succ]
            rcases hcase with rfl | rfl | rfl | rfl | rfl | rfl | rfl | rfl | rfl | rfl | rfl | rfl | rfl | rfl | rfl
            · have g13 : Ld 13 = false := by cases e : Ld 13 with | false => rfl | true => (rw [hcl 13 0 e (by kernel_rfl)] at hf; cases hf)
              have g14 : Ld 14 = false := by cases e : Ld 14 with | false => rfl | true => (rw [hcl 14 13 e (by kernel_rfl)] at g13; cases g13)
              obtain rfl := hC.v0 g14
              clear hd hcl
              refine wpOp_step rfl (fun K hK => ?_)
              go_simp
              refine hK _ _ ⟨_, u1, u2, u3, u4, u5, u6, u7, u8, u9, u10, u11, u12, u13, _, Ls, ?_, ⟨hC.ow, fun _ => rfl, hC.h1, hC.h2, hC.h3, hC.h4, hC.h5, hC.h6, hC.h7, hC.h8, hC.h9, hC.h10, hC.h11, hC.h12, hC.h13, hC.v0, hC.v1⟩⟩
              simp only [Act.put, List.setIfInBounds_toArray, List.set_cons_zero, List.set_cons_succ]
            · clear hd hcl
              refine wpOp_step rfl (fun K hK => ?_)
              go_simp
              refine hK _ _ ⟨u0, _, u2, u3, u4, u5, u6, u7, u8, u9, u10, u11, u12, u13, va, Ls, ?_, ⟨hC.ow, hC.h0, fun _ => rfl, hC.h2, hC.h3, hC.h4, hC.h5, hC.h6, hC.h7, hC.h8, hC.h9, hC.h10, hC.h11, hC.h12, hC.h13, hC.v0, hC.v1⟩⟩
              simp only [Act.put, List.setIfInBounds_toArray, List.set_cons_zero, List.set_cons_succ]
            · clear hd hcl
              refine wpOp_step rfl (fun K hK => ?_)
              go_simp
              refine hK _ _ ⟨u0, u1, _, u3, u4, u5, u6, u7, u8, u9, u10, u11, u12, u13, va, Ls, ?_, ⟨hC.ow, hC.h0, hC.h1, fun _ => rfl, hC.h3, hC.h4, hC.h5, hC.h6, hC.h7, hC.h8, hC.h9, hC.h10, hC.h11, hC.h12, hC.h13, hC.v0, hC.v1⟩⟩
              simp only [Act.put, List.setIfInBounds_toArray, List.set_cons_zero, List.set_cons_succ]
            · obtain rfl := hC.h1 (hd 1 (by kernel_rfl))
              obtain rfl := hC.h2 (hd 2 (by kernel_rfl))
              clear hd hcl
              refine wpOp_step rfl (fun K hK => ?_)
              go_simp
              refine (t_choose hC.ow mm j HB.out.m4096 HB.out.jmax).mono ?_
              rintro e W' ⟨Az, nz, cz, rfl, ho⟩
              rw [List.append_assoc (L ++ [(⟨AS, nS, cS, nats (Na.dig s)⟩ : Ob)]) Ls] at ho
              refine hK _ _ ⟨u0, _, _, _, u4, u5, u6, u7, u8, u9, u10, u11, u12, u13, va, _, ?_, ⟨ho, hC.h0, hC.h1, hC.h2, GN.new _ _ _ _ _ _ _, hC.h4, hC.h5, hC.h6, hC.h7, hC.h8, hC.h9, hC.h10.more, hC.h11.more, hC.h12.more, hC.h13.more, hC.v0, hC.v1.more⟩⟩
              simp only [Act.put, List.setIfInBounds_toArray, List.set_cons_zero, List.set_cons_succ]
            · clear hd hcl
              refine wpOp_step rfl (fun K hK => ?_)
              go_simp
              refine hK _ _ ⟨u0, u1, u2, u3, _, u5, u6, u7, u8, u9, u10, u11, u12, u13, va, Ls, ?_, ⟨hC.ow, hC.h0, hC.h1, hC.h2, hC.h3, fun _ => rfl, hC.h5, hC.h6, hC.h7, hC.h8, hC.h9, hC.h10, hC.h11, hC.h12, hC.h13, hC.v0, hC.v1⟩⟩
              simp only [Act.put, List.setIfInBounds_toArray, List.set_cons_zero, List.set_cons_succ]
            · clear hd hcl
              refine wpOp_step rfl (fun K hK => ?_)
              go_simp
              refine hK _ _ ⟨u0, u1, u2, u3, u4, _, u6, u7, u8, u9, u10, u11, u12, u13, va, Ls, ?_, ⟨hC.ow, hC.h0, hC.h1, hC.h2, hC.h3, hC.h4, fun _ => rfl, hC.h6, hC.h7, hC.h8, hC.h9, hC.h10, hC.h11, hC.h12, hC.h13, hC.v0, hC.v1⟩⟩
              simp only [Act.put, List.setIfInBounds_toArray, List.set_cons_zero, List.set_cons_succ]
            · obtain rfl := hC.h4 (hd 4 (by kernel_rfl))
              obtain rfl := hC.h5 (hd 5 (by kernel_rfl))
              have hw : IntKind.i64.wrap ((tt : Int) - (mm : Int)) = (tt : Int) - (mm : Int) := IntWalk.i64_in _ (by omega)
              clear hd hcl
              refine wpOp_step rfl (fun K hK => ?_)
              go_simp
              refine hK _ _ ⟨u0, u1, u2, u3, _, _, _, u7, u8, u9, u10, u11, u12, u13, va, Ls, ?_, ⟨hC.ow, hC.h0, hC.h1, hC.h2, hC.h3, hC.h4, hC.h5, fun _ => rfl, hC.h7, hC.h8, hC.h9, hC.h10, hC.h11, hC.h12, hC.h13, hC.v0, hC.v1⟩⟩
              simp only [Act.put, List.setIfInBounds_toArray, List.set_cons_zero, List.set_cons_succ]
            · clear hd hcl
              refine wpOp_step rfl (fun K hK => ?_)
              go_simp
              refine hK _ _ ⟨u0, u1, u2, u3, u4, u5, u6, _, u8, u9, u10, u11, u12, u13, va, Ls, ?_, ⟨hC.ow, hC.h0, hC.h1, hC.h2, hC.h3, hC.h4, hC.h5, hC.h6, fun _ => rfl, hC.h8, hC.h9, hC.h10, hC.h11, hC.h12, hC.h13, hC.v0, hC.v1⟩⟩
              simp only [Act.put, List.setIfInBounds_toArray, List.set_cons_zero, List.set_cons_succ]
            · clear hd hcl
              refine wpOp_step rfl (fun K hK => ?_)
              go_simp
              refine hK _ _ ⟨u0, u1, u2, u3, u4, u5, u6, u7, _, u9, u10, u11, u12, u13, va, Ls, ?_, ⟨hC.ow, hC.h0, hC.h1, hC.h2, hC.h3, hC.h4, hC.h5, hC.h6, hC.h7, fun _ => rfl, hC.h9, hC.h10, hC.h11, hC.h12, hC.h13, hC.v0, hC.v1⟩⟩
              simp only [Act.put, List.setIfInBounds_toArray, List.set_cons_zero, List.set_cons_succ]
            · obtain rfl := hC.h7 (hd 7 (by kernel_rfl))
              obtain rfl := hC.h8 (hd 8 (by kernel_rfl))
              have hw : IntKind.i64.wrap ((dd : Int) - (j : Int)) = (dd : Int) - (j : Int) := IntWalk.i64_in _ (by omega)
              clear hd hcl
              refine wpOp_step rfl (fun K hK => ?_)
              go_simp
              refine hK _ _ ⟨u0, u1, u2, u3, u4, u5, u6, _, _, _, u10, u11, u12, u13, va, Ls, ?_, ⟨hC.ow, hC.h0, hC.h1, hC.h2, hC.h3, hC.h4, hC.h5, hC.h6, hC.h7, hC.h8, fun _ => rfl, hC.h10, hC.h11, hC.h12, hC.h13, hC.v0, hC.v1⟩⟩
              simp only [Act.put, List.setIfInBounds_toArray, List.set_cons_zero, List.set_cons_succ]
            · obtain rfl := hC.h6 (hd 6 (by kernel_rfl))
              obtain rfl := hC.h9 (hd 9 (by kernel_rfl))
              clear hd hcl
              refine wpOp_step rfl (fun K hK => ?_)
              go_simp
              refine (t_choose_sub hC.ow tt mm dd j HB.out.mt HB.out.jd HB.out.t4096 HB.out.d4096).mono ?_
              rintro e W' ⟨Az, nz, cz, rfl, ho⟩
              rw [List.append_assoc (L ++ [(⟨AS, nS, cS, nats (Na.dig s)⟩ : Ob)]) Ls] at ho
              refine hK _ _ ⟨u0, u1, u2, u3, u4, u5, _, u7, u8, _, _, u11, u12, u13, va, _, ?_, ⟨ho, hC.h0, hC.h1, hC.h2, hC.h3.more, hC.h4, hC.h5, hC.h6, hC.h7, hC.h8, hC.h9, GN.new _ _ _ _ _ _ _, hC.h11.more, hC.h12.more, hC.h13.more, hC.v0, hC.v1.more⟩⟩
              simp only [Act.put, List.setIfInBounds_toArray, List.set_cons_zero, List.set_cons_succ]
            · obtain ⟨t3, A3, n3, c3, rfl, r3⟩ := hC.h3 (hd 3 (by kernel_rfl))
              have R3 : (L ++ [(⟨AS, nS, cS, nats (Na.dig s)⟩ : Ob)] ++ Ls)[(L ++ [(⟨AS, nS, cS, nats (Na.dig s)⟩ : Ob)]).length + t3]? = some ⟨A3, n3, c3, nats (Na.dig (Na.bin mm j))⟩ := (get_r _ _ _).trans r3
              obtain ⟨t10, A10, n10, c10, rfl, r10⟩ := hC.h10 (hd 10 (by kernel_rfl))
              have R10 : (L ++ [(⟨AS, nS, cS, nats (Na.dig s)⟩ : Ob)] ++ Ls)[(L ++ [(⟨AS, nS, cS, nats (Na.dig s)⟩ : Ob)]).length + t10]? = some ⟨A10, n10, c10, nats (Na.dig (Na.bin (tt - mm) (dd - j)))⟩ := (get_r _ _ _).trans r10
              clear hd hcl
              refine wpOp_step rfl (fun K hK => ?_)
              go_simp
              have ho := hC.ow.push (World.ownsRow_lit (base := W.heap.size) (e := 24) (size := 1) W #[.slice A3 n3 c3, .slice A10 n10 c10] 2 (Nat.le_refl _) (by decide) rfl) (by omega) (own_box1 _ _)
              rw [List.append_assoc (L ++ [(⟨AS, nS, cS, nats (Na.dig s)⟩ : Ob)]) Ls] at ho
              refine hK _ _ ⟨u0, u1, u2, _, u4, u5, u6, u7, u8, u9, _, _, u12, u13, va, _, ?_, ⟨ho, hC.h0, hC.h1, hC.h2, hC.h3.more, hC.h4, hC.h5, hC.h6, hC.h7, hC.h8, hC.h9, hC.h10.more, GL.new _ _ _ _ _ _ _ (Nums.two R3 R10), hC.h12.more, hC.h13.more, hC.v0, hC.v1.more⟩⟩
              simp only [Act.put, List.setIfInBounds_toArray, List.set_cons_zero, List.set_cons_succ]
            · obtain ⟨t11, A11, vs11, rfl, r11, m11⟩ := hC.h11 (hd 11 (by kernel_rfl))
              have R11 : (L ++ [(⟨AS, nS, cS, nats (Na.dig s)⟩ : Ob)] ++ Ls)[(L ++ [(⟨AS, nS, cS, nats (Na.dig s)⟩ : Ob)]).length + t11]? = some ⟨A11, 2, 2, vs11⟩ := (get_r _ _ _).trans r11
              clear hd hcl
              refine wpOp_step rfl (fun K hK => ?_)
              go_simp
              refine (t_times2 hC.ow _ R11 m11 HB.out.b1 HB.out.b2 HB.out.b3).mono ?_
              rintro e W' ⟨Az, nz, cz, rfl, ho⟩
              rw [List.append_assoc (L ++ [(⟨AS, nS, cS, nats (Na.dig s)⟩ : Ob)]) Ls] at ho
              refine hK _ _ ⟨u0, u1, u2, u3, u4, u5, u6, u7, u8, u9, u10, _, _, u13, va, _, ?_, ⟨ho, hC.h0, hC.h1, hC.h2, hC.h3.more, hC.h4, hC.h5, hC.h6, hC.h7, hC.h8, hC.h9, hC.h10.more, hC.h11.more, GN.new _ _ _ _ _ _ _, hC.h13.more, hC.v0, hC.v1.more⟩⟩
              simp only [Act.put, List.setIfInBounds_toArray, List.set_cons_zero, List.set_cons_succ]
            · obtain rfl := hC.h0 (hd 0 (by kernel_rfl))
              obtain ⟨t12, A12, n12, c12, rfl, r12⟩ := hC.h12 (hd 12 (by kernel_rfl))
              have R12 : (L ++ [(⟨AS, nS, cS, nats (Na.dig s)⟩ : Ob)] ++ Ls)[(L ++ [(⟨AS, nS, cS, nats (Na.dig s)⟩ : Ob)]).length + t12]? = some ⟨A12, n12, c12, nats (Na.dig (Na.bin mm j * Na.bin (tt - mm) (dd - j)))⟩ := (get_r _ _ _).trans r12
              clear hd hcl
              refine wpOp_step rfl (fun K hK => ?_)
              go_simp
              refine (t_sum hC.ow (L.length + 0) _ ((get_l _ _ (by simp)).trans ((get_r _ _ 0).trans rfl)) R12 HB.out.st HB.out.b3 HB.out.bs).mono ?_
              rintro e W' ⟨Az, nz, cz, rfl, ho⟩
              rw [List.append_assoc (L ++ [(⟨AS, nS, cS, nats (Na.dig s)⟩ : Ob)]) Ls] at ho
              refine hK _ _ ⟨_, u1, u2, u3, u4, u5, u6, u7, u8, u9, u10, u11, _, _, va, _, ?_, ⟨ho, hC.h0, hC.h1, hC.h2, hC.h3.more, hC.h4, hC.h5, hC.h6, hC.h7, hC.h8, hC.h9, hC.h10.more, hC.h11.more, hC.h12.more, GN.new _ _ _ _ _ _ _, hC.v0, hC.v1.more⟩⟩
              simp only [Act.put, List.setIfInBounds_toArray, List.set_cons_zero, List.set_cons_succ]
            · obtain ⟨t13, A13, n13, c13, rfl, r13⟩ := hC.h13 (hd 13 (by kernel_rfl))
              have R13 : (L ++ [(⟨AS, nS, cS, nats (Na.dig s)⟩ : Ob)] ++ Ls)[(L ++ [(⟨AS, nS, cS, nats (Na.dig s)⟩ : Ob)]).length + t13]? = some ⟨A13, n13, c13, nats (Na.dig (s + Na.bin mm j * Na.bin (tt - mm) (dd - j)))⟩ := (get_r _ _ _).trans r13
              clear hd hcl
              refine wpOp_step rfl (fun K hK => ?_)
              go_simp
              have ho := hC.ow.setv (M.length + 0) (by rw [get_r]; rfl) (.slice A13 n13 c13)
              rw [set_r, List.set_cons_zero] at ho
              refine hK _ _ ⟨u0, u1, u2, u3, u4, u5, u6, u7, u8, u9, u10, u11, u12, _, _, Ls, ?_, ⟨ho, hC.h0, hC.h1, hC.h2, hC.h3, hC.h4, hC.h5, hC.h6, hC.h7, hC.h8, hC.h9, hC.h10, hC.h11, hC.h12, hC.h13, fun e => absurd (show true = false from e) (by decide), fun _ => ⟨t13, A13, n13, c13, rfl, r13⟩⟩⟩
              simp only [Act.put, List.setIfInBounds_toArray, List.set_cons_zero, List.set_cons_succ]
          · rintro Ld b W hL ⟨u0, u1, u2, u3, u4, u5, u6, u7, u8, u9, u10, u11, u12, u13, va, Ls, rfl, hC⟩
            obtain ⟨tz, Az, nz, cz, rfl, rz⟩ := hC.v1 (hL 14 (by show 14 < 15; decide))
            have e9 : s + Na.bin mm j * Na.bin (tt - mm) (dd - j) = sumH tt mm dd lo (k + 1) := by rw [HK.out.2.2.1, HK.out.2.1]; rfl
            have HG := Lib.hid (hC.ow.less (L' := L ++ [⟨Az, nz, cz, nats (Na.dig (s + Na.bin mm j * Na.bin (tt - mm) (dd - j)))⟩]) (fun o ho => by
              simp only [List.mem_append, List.mem_cons, List.mem_nil_iff, or_false] at ho ⊢
              rcases ho with h | h
              · exact .inl (.inl h)
              · exact .inr (h ▸ List.mem_of_getElem? rz)))
            have HE9 := Lib.hid e9
            clear hL hC rz HO HB e9
            simp only [Act.put, List.setIfInBounds_toArray, List.set_cons_zero, List.set_cons_succ]
            go_wp2_with fail
            go_roundw
            case rel => exact ⟨k + 1, j + 1, s + Na.bin mm j * Na.bin (tt - mm) (dd - j), Az, nz, cz, ⟨.inl (by have := HK.out.2.1; omega), by have := HK.out.2.1; omega, HE9.out, by omega⟩, int_eqv (by omega), HG⟩
            case measure => simp [intOf]; omega
  · rcases hmn with hmn | hmn
    · go_enter Tryd.func24, Tryd.ntmps24
      go_wp2_with fail
      refine HC.out.mono ?_
      rintro e w1 ⟨AS, nS, cS, rfl, G⟩
      have H := G.boxed (.slice AS nS cS) 24
      try simp only [List.append_assoc, List.cons_append, List.nil_append] at H
      have HO := Lib.hid H
      clear HC G H hmn
      go_wp2_with fail
      go_loopw [11] (fun v wr => RtHyp w0 g M L O w.heap.size w1.heap.size tt mm dd 0 v wr) (fun v _ => dd + 1 - (intOf v).toNat)
      case atStart => exact ⟨0, 0, 0, AS, nS, cS, ⟨.inr rfl, rfl, rfl, by omega⟩, rfl, HO⟩
      case round =>
        clear HO
        obtain ⟨k, j, s, AS, nS, cS, HK, rfl, HO⟩ := hrel
        have cS0 := HO.out.cell (M.length + 0) (by rw [get_r]; rfl)
        have hj9 := HK.out.2.2.2
        rcases Nat.lt_or_ge dd j with hlt | hle
        · have hd : decide ((j : Int) ≤ (dd : Int)) = false := decide_eq_false (by omega)
          have hd2 : decide (j ≤ dd) = false := decide_eq_false (by omega)
          have HD := Lib.hid HO.out.drew
          have HM10 : Hid (frM s (Na.bin tt dd) = t ∧ Na.bin tt dd < Na.top ∧ s < Na.top) := by
            have ek : k = dd + 1 - 0 := by have := HK.out.1; have := HK.out.2.1; omega
            have hyn : Na.bin tt dd < Na.top := le_top (bin_4096 HY.out.1) (by have := HY.out.2.2; omega)
            have hsn : sumH tt mm dd 0 k < Na.top := by
              rcases HK.out.1 with hk | hk
              · have h1 := sumH_two (tt := tt) (mm := mm) (dd := dd) (lo := 0) HY.out.1 (Nat.le_trans HY.out.2.1 HY.out.1) k hk
                have h2 : sumH tt mm dd 0 k ≤ 2 ^ (6 + 12 * dd) := by
                  rw [Nat.pow_add]
                  exact Nat.le_trans h1 (Nat.mul_le_mul_right _ (by have := HY.out.2.2; show k ≤ 64; omega))
                exact le_top h2 (by have := HY.out.2.2; omega)
              · rw [hk]
                exact le_top (k := 0) (Nat.zero_le _) (by omega)
            refine ⟨?_, hyn, by rw [HK.out.2.2.1]; exact hsn⟩
            rw [HK.out.2.2.1, ek]
            exact HMk.out
          have HA1 := Lib.hid (t_choose HD.out tt dd HY.out.1 (by have := HY.out.2.2; omega))
          clear HO hlt hj9 cS0
          go_upto_region 8 with (fail)
          have s0 := HD.out.cell (M.length + 0) (by rw [get_r]; rfl)
          go_region_held3 (fun W => W.cell? ⟨w1.heap.size, 0, none⟩ = some (.slice AS nS cS)) (first | exact s0 | exact how4.cell (M.length + 0) (by rw [get_r]; rfl) | exact how3.cell (M.length + 0) (by rw [get_r]; rfl) | exact how.cell (M.length + 0) (by rw [get_r]; rfl)) ((first | (go_at_call 61; (with_reducible refine HA1.out.mono ?_); rintro e v2 ⟨B1, m1, d1, rfl, how⟩; rw [List.append_assoc] at how; have HA3 := Lib.hid (qmake_fr how (L.length + 0) (L.length + 1) (by rw [get_r]; rfl) (by rw [get_r]; rfl) HT.out HM10.out.2.2 HM10.out.2.1 HM10.out.1)) | (go_at_call 46; (with_reducible refine HA3.out.mono ?_); rintro e v4 ⟨C1, k1, e1, C2, k2, e2, rfl, how3⟩; have z0 := how3.p0 (O.length + 0) (by rw [get_r]; rfl); have z1 := how3.p1 (O.length + 0) (by rw [get_r]; rfl); have f0 := how3.pf (O.length + 0) (by rw [get_r]; rfl) 0; have f1 := how3.pf (O.length + 0) (by rw [get_r]; rfl) 1; have how4' := how3.set0 (O.length + 0) (by rw [get_r]; rfl) (.slice C1 k1 e1); rw [set_r] at how4'; simp only [List.set_cons_zero] at how4'; have how4 := how4'.set1 (O.length + 0) (by rw [get_r]; rfl) (.slice C2 k2 e2); rw [set_r] at how4; simp only [List.set_cons_zero] at how4)))
          have r0 := how4.p0 (O.length + 0) (by rw [get_r]; rfl)
          have r1 := how4.p1 (O.length + 0) (by rw [get_r]; rfl)
          have HF := Lib.hid (how4.fewM.fewO.less (mid_less L _ _ _))
          clear how how3 how4' how4 s0 z0 z1 f0 f1 HA1 HA3
          go_wp2_with fail
          refine bodyPost_ret (v := .tuple #[.agg #[.slice C1 k1 e1, .slice C2 k2 e2], .int .i64 t.2.2]) (by simp [results, Tryd.results24, go_sem, r0, r1]) rfl ?_
          exact ⟨C1, k1, e1, C2, k2, e2, rfl, HF.out⟩
        · have hd : decide ((j : Int) ≤ (dd : Int)) = true := decide_eq_true (by omega)
          have hd2 : decide (j ≤ dd) = true := decide_eq_true hle
          have HB : Hid (HypK tt mm dd j s) := by
            have := hypK_of (tt := tt) (mm := mm) (dd := dd) (lo := 0) (c := k) HY.out.1 HY.out.2.1 HY.out.2.2 (by have := HK.out.2.1; omega)
            rw [← HK.out.2.1, ← HK.out.2.2.1] at this
            exact this
          have hj10 : j ≤ 40 := by have := HY.out.2.2; omega
          have hn10 : dd ≤ 40 := HY.out.2.2
          have hn11 : tt ≤ 4096 := HY.out.1
          have hn12 : mm ≤ tt := HY.out.2.1
          clear cS0
          go_upto_region 7 with (fail)
          refine reg_inv34 (HtI w0 g M L O w.heap.size w1.heap.size AS nS cS tt mm dd j s) (by kernel_rfl) (by kernel_rfl) ?_ ?_ ?_
          · refine ⟨u46, u47, u48, u49, u50, u51, u52, u53, u54, u55, u56, u57, u58, u59, .slice AS nS cS, [], ?_, ⟨by rw [List.append_nil]; exact HO.out.drew, ?_, ?_, ?_, ?_, ?_, ?_, ?_, ?_, ?_, ?_, ?_, ?_, ?_, ?_, fun _ => rfl, ?_⟩⟩
            · simp only [Act.put, List.setIfInBounds_toArray, List.set_cons_zero, List.set_cons_succ]
            all_goals (intro h; cases h)
          · rintro jj Ld b W hj hf hcl hd ⟨u0, u1, u2, u3, u4, u5, u6, u7, u8, u9, u10, u11, u12, u13, va, Ls, rfl, hC⟩
            have hj' : jj < 15 := hj
            have hcase : jj = 0 ∨ jj = 1 ∨ jj = 2 ∨ jj = 3 ∨ jj = 4 ∨ jj = 5 ∨ jj = 6 ∨ jj = 7 ∨ jj = 8 ∨ jj = 9 ∨ jj = 10 ∨ jj = 11 ∨ jj = 12 ∨ jj = 13 ∨ jj = 14 := by omega
            have qa := hC.ow.cell (M.length + 0) (by rw [get_r]; rfl)
            have qz := hC.ow.free (M.length + 0) (by rw [get_r]; rfl)
            clear hj hj'
            simp only [Act.put, List.setIfInBounds_toArray, List.set_cons_zero, List.set_cons_succ]
            rcases hcase with rfl | rfl | rfl | rfl | rfl | rfl | rfl | rfl | rfl | rfl | rfl | rfl | rfl | rfl | rfl
            · have g13 : Ld 13 = false := by cases e : Ld 13 with | false => rfl | true => (rw [hcl 13 0 e (by kernel_rfl)] at hf; cases hf)
              have g14 : Ld 14 = false := by cases e : Ld 14 with | false => rfl | true => (rw [hcl 14 13 e (by kernel_rfl)] at g13; cases g13)
              obtain rfl := hC.v0 g14
              clear hd hcl
              refine wpOp_step rfl (fun K hK => ?_)
              go_simp
              refine hK _ _ ⟨_, u1, u2, u3, u4, u5, u6, u7, u8, u9, u10, u11, u12, u13, _, Ls, ?_, ⟨hC.ow, fun _ => rfl, hC.h1, hC.h2, hC.h3, hC.h4, hC.h5, hC.h6, hC.h7, hC.h8, hC.h9, hC.h10, hC.h11, hC.h12, hC.h13, hC.v0, hC.v1⟩⟩
              simp only [Act.put, List.setIfInBounds_toArray, List.set_cons_zero, List.set_cons_succ]
            · clear hd hcl
              refine wpOp_step rfl (fun K hK => ?_)
              go_simp
              refine hK _ _ ⟨u0, _, u2, u3, u4, u5, u6, u7, u8, u9, u10, u11, u12, u13, va, Ls, ?_, ⟨hC.ow, hC.h0, fun _ => rfl, hC.h2, hC.h3, hC.h4, hC.h5, hC.h6, hC.h7, hC.h8, hC.h9, hC.h10, hC.h11, hC.h12, hC.h13, hC.v0, hC.v1⟩⟩
              simp only [Act.put, List.setIfInBounds_toArray, List.set_cons_zero, List.set_cons_succ]
            · clear hd hcl
              refine wpOp_step rfl (fun K hK => ?_)
              go_simp
              refine hK _ _ ⟨u0, u1, _, u3, u4, u5, u6, u7, u8, u9, u10, u11, u12, u13, va, Ls, ?_, ⟨hC.ow, hC.h0, hC.h1, fun _ => rfl, hC.h3, hC.h4, hC.h5, hC.h6, hC.h7, hC.h8, hC.h9, hC.h10, hC.h11, hC.h12, hC.h13, hC.v0, hC.v1⟩⟩
              simp only [Act.put, List.setIfInBounds_toArray, List.set_cons_zero, List.set_cons_succ]
            · obtain rfl := hC.h1 (hd 1 (by kernel_rfl))
              obtain rfl := hC.h2 (hd 2 (by kernel_rfl))
              clear hd hcl
              refine wpOp_step rfl (fun K hK => ?_)
              go_simp
              refine (t_choose hC.ow mm j HB.out.m4096 HB.out.jmax).mono ?_
              rintro e W' ⟨Az, nz, cz, rfl, ho⟩
              rw [List.append_assoc (L ++ [(⟨AS, nS, cS, nats (Na.dig s)⟩ : Ob)]) Ls] at ho
              refine hK _ _ ⟨u0, _, _, _, u4, u5, u6, u7, u8, u9, u10, u11, u12, u13, va, _, ?_, ⟨ho, hC.h0, hC.h1, hC.h2, GN.new _ _ _ _ _ _ _, hC.h4, hC.h5, hC.h6, hC.h7, hC.h8, hC.h9, hC.h10.more, hC.h11.more, hC.h12.more, hC.h13.more, hC.v0, hC.v1.more⟩⟩
              simp only [Act.put, List.setIfInBounds_toArray, List.set_cons_zero, List.set_cons_succ]
            · clear hd hcl
              refine wpOp_step rfl (fun K hK => ?_)
              go_simp
              refine hK _ _ ⟨u0, u1, u2, u3, _, u5, u6, u7, u8, u9, u10, u11, u12, u13, va, Ls, ?_, ⟨hC.ow, hC.h0, hC.h1, hC.h2, hC.h3, fun _ => rfl, hC.h5, hC.h6, hC.h7, hC.h8, hC.h9, hC.h10, hC.h11, hC.h12, hC.h13, hC.v0, hC.v1⟩⟩
              simp only [Act.put, List.setIfInBounds_toArray, List.set_cons_zero, List.set_cons_succ]
            · clear hd hcl
              refine wpOp_step rfl (fun K hK => ?_)
              go_simp
              refine hK _ _ ⟨u0, u1, u2, u3, u4, _, u6, u7, u8, u9, u10, u11, u12, u13, va, Ls, ?_, ⟨hC.ow, hC.h0, hC.h1, hC.h2, hC.h3, hC.h4, fun _ => rfl, hC.h6, hC.h7, hC.h8, hC.h9, hC.h10, hC.h11, hC.h12, hC.h13, hC.v0, hC.v1⟩⟩
              simp only [Act.put, List.setIfInBounds_toArray, List.set_cons_zero, List.set_cons_succ]
            · obtain rfl := hC.h4 (hd 4 (by kernel_rfl))
              obtain rfl := hC.h5 (hd 5 (by kernel_rfl))
              have hw : IntKind.i64.wrap ((tt : Int) - (mm : Int)) = (tt : Int) - (mm : Int) := IntWalk.i64_in _ (by omega)
              clear hd hcl
              refine wpOp_step rfl (fun K hK => ?_)
              go_simp
              refine hK _ _ ⟨u0, u1, u2, u3, _, _, _, u7, u8, u9, u10, u11, u12, u13, va, Ls, ?_, ⟨hC.ow, hC.h0, hC.h1, hC.h2, hC.h3, hC.h4, hC.h5, fun _ => rfl, hC.h7, hC.h8, hC.h9, hC.h10, hC.h11, hC.h12, hC.h13, hC.v0, hC.v1⟩⟩
              simp only [Act.put, List.setIfInBounds_toArray, List.set_cons_zero, List.set_cons_succ]
            · clear hd hcl
              refine wpOp_step rfl (fun K hK => ?_)
              go_simp
              refine hK _ _ ⟨u0, u1, u2, u3, u4, u5, u6, _, u8, u9, u10, u11, u12, u13, va, Ls, ?_, ⟨hC.ow, hC.h0, hC.h1, hC.h2, hC.h3, hC.h4, hC.h5, hC.h6, fun _ => rfl, hC.h8, hC.h9, hC.h10, hC.h11, hC.h12, hC.h13, hC.v0, hC.v1⟩⟩
              simp only [Act.put, List.setIfInBounds_toArray, List.set_cons_zero, List.set_cons_succ]
            · clear hd hcl
              refine wpOp_step rfl (fun K hK => ?_)
              go_simp
              refine hK _ _ ⟨u0, u1, u2, u3, u4, u5, u6, u7, _, u9, u10, u11, u12, u13, va, Ls, ?_, ⟨hC.ow, hC.h0, hC.h1, hC.h2, hC.h3, hC.h4, hC.h5, hC.h6, hC.h7, fun _ => rfl, hC.h9, hC.h10, hC.h11, hC.h12, hC.h13, hC.v0, hC.v1⟩⟩
              simp only [Act.put, List.setIfInBounds_toArray, List.set_cons_zero, List.set_cons_succ]
            · obtain rfl := hC.h7 (hd 7 (by kernel_rfl))
              obtain rfl := hC.h8 (hd 8 (by kernel_rfl))
              have hw : IntKind.i64.wrap ((dd : Int) - (j : Int)) = (dd : Int) - (j : Int) := IntWalk.i64_in _ (by omega)
              clear hd hcl
              refine wpOp_step rfl (fun K hK => ?_)
              go_simp
              refine hK _ _ ⟨u0, u1, u2, u3, u4, u5, u6, _, _, _, u10, u11, u12, u13, va, Ls, ?_, ⟨hC.ow, hC.h0, hC.h1, hC.h2, hC.h3, hC.h4, hC.h5, hC.h6, hC.h7, hC.h8, fun _ => rfl, hC.h10, hC.h11, hC.h12, hC.h13, hC.v0, hC.v1⟩⟩
              simp only [Act.put, List.setIfInBounds_toArray, List.set_cons_zero, List.set_cons_succ]
            · obtain rfl := hC.h6 (hd 6 (by kernel_rfl))
              obtain rfl := hC.h9 (hd 9 (by kernel_rfl))
              clear hd hcl
              refine wpOp_step rfl (fun K hK => ?_)
              go_simp
              refine (t_choose_sub hC.ow tt mm dd j HB.out.mt HB.out.jd HB.out.t4096 HB.out.d4096).mono ?_
              rintro e W' ⟨Az, nz, cz, rfl, ho⟩
              rw [List.append_assoc (L ++ [(⟨AS, nS, cS, nats (Na.dig s)⟩ : Ob)]) Ls] at ho
              refine hK _ _ ⟨u0, u1, u2, u3, u4, u5, _, u7, u8, _, _, u11, u12, u13, va, _, ?_, ⟨ho, hC.h0, hC.h1, hC.h2, hC.h3.more, hC.h4, hC.h5, hC.h6, hC.h7, hC.h8, hC.h9, GN.new _ _ _ _ _ _ _, hC.h11.more, hC.h12.more, hC.h13.more, hC.v0, hC.v1.more⟩⟩
              simp only [Act.put, List.setIfInBounds_toArray, List.set_cons_zero, List.set_cons_succ]
            · obtain ⟨t3, A3, n3, c3, rfl, r3⟩ := hC.h3 (hd 3 (by kernel_rfl))
              have R3 : (L ++ [(⟨AS, nS, cS, nats (Na.dig s)⟩ : Ob)] ++ Ls)[(L ++ [(⟨AS, nS, cS, nats (Na.dig s)⟩ : Ob)]).length + t3]? = some ⟨A3, n3, c3, nats (Na.dig (Na.bin mm j))⟩ := (get_r _ _ _).trans r3
              obtain ⟨t10, A10, n10, c10, rfl, r10⟩ := hC.h10 (hd 10 (by kernel_rfl))
              have R10 : (L ++ [(⟨AS, nS, cS, nats (Na.dig s)⟩ : Ob)] ++ Ls)[(L ++ [(⟨AS, nS, cS, nats (Na.dig s)⟩ : Ob)]).length + t10]? = some ⟨A10, n10, c10, nats (Na.dig (Na.bin (tt - mm) (dd - j)))⟩ := (get_r _ _ _).trans r10
              clear hd hcl
              refine wpOp_step rfl (fun K hK => ?_)
              go_simp
              have ho := hC.ow.push (World.ownsRow_lit (base := W.heap.size) (e := 24) (size := 1) W #[.slice A3 n3 c3, .slice A10 n10 c10] 2 (Nat.le_refl _) (by decide) rfl) (by omega) (own_box1 _ _)
              rw [List.append_assoc (L ++ [(⟨AS, nS, cS, nats (Na.dig s)⟩ : Ob)]) Ls] at ho
              refine hK _ _ ⟨u0, u1, u2, _, u4, u5, u6, u7, u8, u9, _, _, u12, u13, va, _, ?_, ⟨ho, hC.h0, hC.h1, hC.h2, hC.h3.more, hC.h4, hC.h5, hC.h6, hC.h7, hC.h8, hC.h9, hC.h10.more, GL.new _ _ _ _ _ _ _ (Nums.two R3 R10), hC.h12.more, hC.h13.more, hC.v0, hC.v1.more⟩⟩
              simp only [Act.put, List.setIfInBounds_toArray, List.set_cons_zero, List.set_cons_succ]
            · obtain ⟨t11, A11, vs11, rfl, r11, m11⟩ := hC.h11 (hd 11 (by kernel_rfl))
              have R11 : (L ++ [(⟨AS, nS, cS, nats (Na.dig s)⟩ : Ob)] ++ Ls)[(L ++ [(⟨AS, nS, cS, nats (Na.dig s)⟩ : Ob)]).length + t11]? = some ⟨A11, 2, 2, vs11⟩ := (get_r _ _ _).trans r11
              clear hd hcl
              refine wpOp_step rfl (fun K hK => ?_)
              go_simp
              refine (t_times2 hC.ow _ R11 m11 HB.out.b1 HB.out.b2 HB.out.b3).mono ?_
              rintro e W' ⟨Az, nz, cz, rfl, ho⟩
              rw [List.append_assoc (L ++ [(⟨AS, nS, cS, nats (Na.dig s)⟩ : Ob)]) Ls] at ho
              refine hK _ _ ⟨u0, u1, u2, u3, u4, u5, u6, u7, u8, u9, u10, _, _, u13, va, _, ?_, ⟨ho, hC.h0, hC.h1, hC.h2, hC.h3.more, hC.h4, hC.h5, hC.h6, hC.h7, hC.h8, hC.h9, hC.h10.more, hC.h11.more, GN.new _ _ _ _ _ _ _, hC.h13.more, hC.v0, hC.v1.more⟩⟩
              simp only [Act.put, List.setIfInBounds_toArray, List.set_cons_zero, List.set_cons_succ]
            · obtain rfl := hC.h0 (hd 0 (by kernel_rfl))
              obtain ⟨t12, A12, n12, c12, rfl, r12⟩ := hC.h12 (hd 12 (by kernel_rfl))
              have R12 : (L ++ [(⟨AS, nS, cS, nats (Na.dig s)⟩ : Ob)] ++ Ls)[(L ++ [(⟨AS, nS, cS, nats (Na.dig s)⟩ : Ob)]).length + t12]? = some ⟨A12, n12, c12, nats (Na.dig (Na.bin mm j * Na.bin (tt - mm) (dd - j)))⟩ := (get_r _ _ _).trans r12
              clear hd hcl
              refine wpOp_step rfl (fun K hK => ?_)
              go_simp
              refine (t_sum hC.ow (L.length + 0) _ ((get_l _ _ (by simp)).trans ((get_r _ _ 0).trans rfl)) R12 HB.out.st HB.out.b3 HB.out.bs).mono ?_
              rintro e W' ⟨Az, nz, cz, rfl, ho⟩
              rw [List.append_assoc (L ++ [(⟨AS, nS, cS, nats (Na.dig s)⟩ : Ob)]) Ls] at ho
              refine hK _ _ ⟨_, u1, u2, u3, u4, u5, u6, u7, u8, u9, u10, u11, _, _, va, _, ?_, ⟨ho, hC.h0, hC.h1, hC.h2, hC.h3.more, hC.h4, hC.h5, hC.h6, hC.h7, hC.h8, hC.h9, hC.h10.more, hC.h11.more, hC.h12.more, GN.new _ _ _ _ _ _ _, hC.v0, hC.v1.more⟩⟩
              simp only [Act.put, List.setIfInBounds_toArray, List.set_cons_zero, List.set_cons_succ]
            · obtain ⟨t13, A13, n13, c13, rfl, r13⟩ := hC.h13 (hd 13 (by kernel_rfl))
              have R13 : (L ++ [(⟨AS, nS, cS, nats (Na.dig s)⟩ : Ob)] ++ Ls)[(L ++ [(⟨AS, nS, cS, nats (Na.dig s)⟩ : Ob)]).length + t13]? = some ⟨A13, n13, c13, nats (Na.dig (s + Na.bin mm j * Na.bin (tt - mm) (dd - j)))⟩ := (get_r _ _ _).trans r13
              clear hd hcl
              refine wpOp_step rfl (fun K hK => ?_)
              go_simp
              have ho := hC.ow.setv (M.length + 0) (by rw [get_r]; rfl) (.slice A13 n13 c13)
              rw [set_r, List.set_cons_zero] at ho
              refine hK _ _ ⟨u0, u1, u2, u3, u4, u5, u6, u7, u8, u9, u10, u11, u12, _, _, Ls, ?_, ⟨ho, hC.h0, hC.h1, hC.h2, hC.h3, hC.h4, hC.h5, hC.h6, hC.h7, hC.h8, hC.h9, hC.h10, hC.h11, hC.h12, hC.h13, fun e => absurd (show true = false from e) (by decide), fun _ => ⟨t13, A13, n13, c13, rfl, r13⟩⟩⟩
              simp only [Act.put, List.setIfInBounds_toArray, List.set_cons_zero, List.set_cons_succ]
          · rintro Ld b W hL ⟨u0, u1, u2, u3, u4, u5, u6, u7, u8, u9, u10, u11, u12, u13, va, Ls, rfl, hC⟩
            obtain ⟨tz, Az, nz, cz, rfl, rz⟩ := hC.v1 (hL 14 (by show 14 < 15; decide))
            have e9 : s + Na.bin mm j * Na.bin (tt - mm) (dd - j) = sumH tt mm dd 0 (k + 1) := by rw [HK.out.2.2.1, HK.out.2.1]; rfl
            have HG := Lib.hid (hC.ow.less (L' := L ++ [⟨Az, nz, cz, nats (Na.dig (s + Na.bin mm j * Na.bin (tt - mm) (dd - j)))⟩]) (fun o ho => by
              simp only [List.mem_append, List.mem_cons, List.mem_nil_iff, or_false] at ho ⊢
              rcases ho with h | h
              · exact .inl (.inl h)
              · exact .inr (h ▸ List.mem_of_getElem? rz)))
            have HE9 := Lib.hid e9
            clear hL hC rz HO HB e9
            simp only [Act.put, List.setIfInBounds_toArray, List.set_cons_zero, List.set_cons_succ]
            go_wp2_with fail
            go_roundw
            case rel => exact ⟨k + 1, j + 1, s + Na.bin mm j * Na.bin (tt - mm) (dd - j), Az, nz, cz, ⟨.inl (by have := HK.out.2.1; omega), by have := HK.out.2.1; omega, HE9.out, by omega⟩, int_eqv (by omega), HG⟩
            case measure => simp [intOf]; omega
    · go_enter Tryd.func24, Tryd.ntmps24
      go_wp2_with fail
      refine HC.out.mono ?_
      rintro e w1 ⟨AS, nS, cS, rfl, G⟩
      have H := G.boxed (.slice AS nS cS) 24
      try simp only [List.append_assoc, List.cons_append, List.nil_append] at H
      have HO := Lib.hid H
      clear HC G H hmn
      go_wp2_with fail
      go_loopw [11] (fun v wr => RtHyp w0 g M L O w.heap.size w1.heap.size tt mm dd 0 v wr) (fun v _ => dd + 1 - (intOf v).toNat)
      case atStart => exact ⟨0, 0, 0, AS, nS, cS, ⟨.inr rfl, rfl, rfl, by omega⟩, rfl, HO⟩
      case round =>
        clear HO
        obtain ⟨k, j, s, AS, nS, cS, HK, rfl, HO⟩ := hrel
        have cS0 := HO.out.cell (M.length + 0) (by rw [get_r]; rfl)
        have hj9 := HK.out.2.2.2
        rcases Nat.lt_or_ge dd j with hlt | hle
        · have hd : decide ((j : Int) ≤ (dd : Int)) = false := decide_eq_false (by omega)
          have hd2 : decide (j ≤ dd) = false := decide_eq_false (by omega)
          have HD := Lib.hid HO.out.drew
          have HM10 : Hid (frM s (Na.bin tt dd) = t ∧ Na.bin tt dd < Na.top ∧ s < Na.top) := by
            have ek : k = dd + 1 - 0 := by have := HK.out.1; have := HK.out.2.1; omega
            have hyn : Na.bin tt dd < Na.top := le_top (bin_4096 HY.out.1) (by have := HY.out.2.2; omega)
            have hsn : sumH tt mm dd 0 k < Na.top := by
              rcases HK.out.1 with hk | hk
              · have h1 := sumH_two (tt := tt) (mm := mm) (dd := dd) (lo := 0) HY.out.1 (Nat.le_trans HY.out.2.1 HY.out.1) k hk
                have h2 : sumH tt mm dd 0 k ≤ 2 ^ (6 + 12 * dd) := by
                  rw [Nat.pow_add]
                  exact Nat.le_trans h1 (Nat.mul_le_mul_right _ (by have := HY.out.2.2; show k ≤ 64; omega))
                exact le_top h2 (by have := HY.out.2.2; omega)
              · rw [hk]
                exact le_top (k := 0) (Nat.zero_le _) (by omega)
            refine ⟨?_, hyn, by rw [HK.out.2.2.1]; exact hsn⟩
            rw [HK.out.2.2.1, ek]
            exact HMk.out
          have HA1 := Lib.hid (t_choose HD.out tt dd HY.out.1 (by have := HY.out.2.2; omega))
          clear HO hlt hj9 cS0
          go_upto_region 8 with (fail)
          have s0 := HD.out.cell (M.length + 0) (by rw [get_r]; rfl)
          go_region_held3 (fun W => W.cell? ⟨w1.heap.size, 0, none⟩ = some (.slice AS nS cS)) (first | exact s0 | exact how4.cell (M.length + 0) (by rw [get_r]; rfl) | exact how3.cell (M.length + 0) (by rw [get_r]; rfl) | exact how.cell (M.length + 0) (by rw [get_r]; rfl)) ((first | (go_at_call 61; (with_reducible refine HA1.out.mono ?_); rintro e v2 ⟨B1, m1, d1, rfl, how⟩; rw [List.append_assoc] at how; have HA3 := Lib.hid (qmake_fr how (L.length + 0) (L.length + 1) (by rw [get_r]; rfl) (by rw [get_r]; rfl) HT.out HM10.out.2.2 HM10.out.2.1 HM10.out.1)) | (go_at_call 46; (with_reducible refine HA3.out.mono ?_); rintro e v4 ⟨C1, k1, e1, C2, k2, e2, rfl, how3⟩; have z0 := how3.p0 (O.length + 0) (by rw [get_r]; rfl); have z1 := how3.p1 (O.length + 0) (by rw [get_r]; rfl); have f0 := how3.pf (O.length + 0) (by rw [get_r]; rfl) 0; have f1 := how3.pf (O.length + 0) (by rw [get_r]; rfl) 1; have how4' := how3.set0 (O.length + 0) (by rw [get_r]; rfl) (.slice C1 k1 e1); rw [set_r] at how4'; simp only [List.set_cons_zero] at how4'; have how4 := how4'.set1 (O.length + 0) (by rw [get_r]; rfl) (.slice C2 k2 e2); rw [set_r] at how4; simp only [List.set_cons_zero] at how4)))
          have r0 := how4.p0 (O.length + 0) (by rw [get_r]; rfl)
          have r1 := how4.p1 (O.length + 0) (by rw [get_r]; rfl)
          have HF := Lib.hid (how4.fewM.fewO.less (mid_less L _ _ _))
          clear how how3 how4' how4 s0 z0 z1 f0 f1 HA1 HA3
          go_wp2_with fail
          refine bodyPost_ret (v := .tuple #[.agg #[.slice C1 k1 e1, .slice C2 k2 e2], .int .i64 t.2.2]) (by simp [results, Tryd.results24, go_sem, r0, r1]) rfl ?_
          exact ⟨C1, k1, e1, C2, k2, e2, rfl, HF.out⟩
        · have hd : decide ((j : Int) ≤ (dd : Int)) = true := decide_eq_true (by omega)
          have hd2 : decide (j ≤ dd) = true := decide_eq_true hle
          have HB : Hid (HypK tt mm dd j s) := by
            have := hypK_of (tt := tt) (mm := mm) (dd := dd) (lo := 0) (c := k) HY.out.1 HY.out.2.1 HY.out.2.2 (by have := HK.out.2.1; omega)
            rw [← HK.out.2.1, ← HK.out.2.2.1] at this
            exact this
          have hj10 : j ≤ 40 := by have := HY.out.2.2; omega
          have hn10 : dd ≤ 40 := HY.out.2.2
          have hn11 : tt ≤ 4096 := HY.out.1
          have hn12 : mm ≤ tt := HY.out.2.1
          clear cS0
          go_upto_region 7 with (fail)
          refine reg_inv34 (HtI w0 g M L O w.heap.size w1.heap.size AS nS cS tt mm dd j s) (by kernel_rfl) (by kernel_rfl) ?_ ?_ ?_
          · refine ⟨u46, u47, u48, u49, u50, u51, u52, u53, u54, u55, u56, u57, u58, u59, .slice AS nS cS, [], ?_, ⟨by rw [List.append_nil]; exact HO.out.drew, ?_, ?_, ?_, ?_, ?_, ?_, ?_, ?_, ?_, ?_, ?_, ?_, ?_, ?_, fun _ => rfl, ?_⟩⟩
            · simp only [Act.put, List.setIfInBounds_toArray, List.set_cons_zero, List.set_cons_succ]
            all_goals (intro h; cases h)
          · rintro jj Ld b W hj hf hcl hd ⟨u0, u1, u2, u3, u4, u5, u6, u7, u8, u9, u10, u11, u12, u13, va, Ls, rfl, hC⟩
            have hj' : jj < 15 := hj
            have hcase : jj = 0 ∨ jj = 1 ∨ jj = 2 ∨ jj = 3 ∨ jj = 4 ∨ jj = 5 ∨ jj = 6 ∨ jj = 7 ∨ jj = 8 ∨ jj = 9 ∨ jj = 10 ∨ jj = 11 ∨ jj = 12 ∨ jj = 13 ∨ jj = 14 := by omega
            have qa := hC.ow.cell (M.length + 0) (by rw [get_r]; rfl)
            have qz := hC.ow.free (M.length + 0) (by rw [get_r]; rfl)
            clear hj hj'
            simp only [Act.put, List.setIfInBounds_toArray, List.set_cons_zero, List.set_cons_succ]
            rcases hcase with rfl | rfl | rfl | rfl | rfl | rfl | rfl | rfl | rfl | rfl | rfl | rfl | rfl | rfl | rfl
            · have g13 : Ld 13 = false := by cases e : Ld 13 with | false => rfl | true => (rw [hcl 13 0 e (by kernel_rfl)] at hf; cases hf)
              have g14 : Ld 14 = false := by cases e : Ld 14 with | false => rfl | true => (rw [hcl 14 13 e (by kernel_rfl)] at g13; cases g13)
              obtain rfl := hC.v0 g14
              clear hd hcl
              refine wpOp_step rfl (fun K hK => ?_)
              go_simp
              refine hK _ _ ⟨_, u1, u2, u3, u4, u5, u6, u7, u8, u9, u10, u11, u12, u13, _, Ls, ?_, ⟨hC.ow, fun _ => rfl, hC.h1, hC.h2, hC.h3, hC.h4, hC.h5, hC.h6, hC.h7, hC.h8, hC.h9, hC.h10, hC.h11, hC.h12, hC.h13, hC.v0, hC.v1⟩⟩
              simp only [Act.put, List.setIfInBounds_toArray, List.set_cons_zero, List.set_cons_succ]
            · clear hd hcl
              refine wpOp_step rfl (fun K hK => ?_)
              go_simp
              refine hK _ _ ⟨u0, _, u2, u3, u4, u5, u6, u7, u8, u9, u10, u11, u12, u13, va, Ls, ?_, ⟨hC.ow, hC.h0, fun _ => rfl, hC.h2, hC.h3, hC.h4, hC.h5, hC.h6, hC.h7, hC.h8, hC.h9, hC.h10, hC.h11, hC.h12, hC.h13, hC.v0, hC.v1⟩⟩
              simp only [Act.put, List.setIfInBounds_toArray, List.set_cons_zero, List.set_cons_succ]
            · clear hd hcl
              refine wpOp_step rfl (fun K hK => ?_)
              go_simp
              refine hK _ _ ⟨u0, u1, _, u3, u4, u5, u6, u7, u8, u9, u10, u11, u12, u13, va, Ls, ?_, ⟨hC.ow, hC.h0, hC.h1, fun _ => rfl, hC.h3, hC.h4, hC.h5, hC.h6, hC.h7, hC.h8, hC.h9, hC.h10, hC.h11, hC.h12, hC.h13, hC.v0, hC.v1⟩⟩
              simp only [Act.put, List.setIfInBounds_toArray, List.set_cons_zero, List.set_cons_succ]
            · obtain rfl := hC.h1 (hd 1 (by kernel_rfl))
              obtain rfl := hC.h2 (hd 2 (by kernel_rfl))
              clear hd hcl
              refine wpOp_step rfl (fun K hK => ?_)
              go_simp
              refine (t_choose hC.ow mm j HB.out.m4096 HB.out.jmax).mono ?_
              rintro e W' ⟨Az, nz, cz, rfl, ho⟩
              rw [List.append_assoc (L ++ [(⟨AS, nS, cS, nats (Na.dig s)⟩ : Ob)]) Ls] at ho
              refine hK _ _ ⟨u0, _, _, _, u4, u5, u6, u7, u8, u9, u10, u11, u12, u13, va, _, ?_, ⟨ho, hC.h0, hC.h1, hC.h2, GN.new _ _ _ _ _ _ _, hC.h4, hC.h5, hC.h6, hC.h7, hC.h8, hC.h9, hC.h10.more, hC.h11.more, hC.h12.more, hC.h13.more, hC.v0, hC.v1.more⟩⟩
              simp only [Act.put, List.setIfInBounds_toArray, List.set_cons_zero, List.set_cons_succ]
            · clear hd hcl
              refine wpOp_step rfl (fun K hK => ?_)
              go_simp
              refine hK _ _ ⟨u0, u1, u2, u3, _, u5, u6, u7, u8, u9, u10, u11, u12, u13, va, Ls, ?_, ⟨hC.ow, hC.h0, hC.h1, hC.h2, hC.h3, fun _ => rfl, hC.h5, hC.h6, hC.h7, hC.h8, hC.h9, hC.h10, hC.h11, hC.h12, hC.h13, hC.v0, hC.v1⟩⟩
              simp only [Act.put, List.setIfInBounds_toArray, List.set_cons_zero, List.set_cons_succ]
            · clear hd hcl
              refine wpOp_step rfl (fun K hK => ?_)
              go_simp
              refine hK _ _ ⟨u0, u1, u2, u3, u4, _, u6, u7, u8, u9, u10, u11, u12, u13, va, Ls, ?_, ⟨hC.ow, hC.h0, hC.h1, hC.h2, hC.h3, hC.h4, fun _ => rfl, hC.h6, hC.h7, hC.h8, hC.h9, hC.h10, hC.h11, hC.h12, hC.h13, hC.v0, hC.v1⟩⟩
              simp only [Act.put, List.setIfInBounds_toArray, List.set_cons_zero, List.set_cons_succ]
            · obtain rfl := hC.h4 (hd 4 (by kernel_rfl))
              obtain rfl := hC.h5 (hd 5 (by kernel_rfl))
              have hw : IntKind.i64.wrap ((tt : Int) - (mm : Int)) = (tt : Int) - (mm : Int) := IntWalk.i64_in _ (by omega)
              clear hd hcl
              refine wpOp_step rfl (fun K hK => ?_)
              go_simp
              refine hK _ _ ⟨u0, u1, u2, u3, _, _, _, u7, u8, u9, u10, u11, u12, u13, va, Ls, ?_, ⟨hC.ow, hC.h0, hC.h1, hC.h2, hC.h3, hC.h4, hC.h5, fun _ => rfl, hC.h7, hC.h8, hC.h9, hC.h10, hC.h11, hC.h12, hC.h13, hC.v0, hC.v1⟩⟩
              simp only [Act.put, List.setIfInBounds_toArray, List.set_cons_zero, List.set_cons_succ]
            · clear hd hcl
              refine wpOp_step rfl (fun K hK => ?_)
              go_simp
              refine hK _ _ ⟨u0, u1, u2, u3, u4, u5, u6, _, u8, u9, u10, u11, u12, u13, va, Ls, ?_, ⟨hC.ow, hC.h0, hC.h1, hC.h2, hC.h3, hC.h4, hC.h5, hC.h6, fun _ => rfl, hC.h8, hC.h9, hC.h10, hC.h11, hC.h12, hC.h13, hC.v0, hC.v1⟩⟩
              simp only [Act.put, List.setIfInBounds_toArray, List.set_cons_zero, List.set_cons_succ]
            · clear hd hcl
              refine wpOp_step rfl (fun K hK => ?_)
              go_simp
              refine hK _ _ ⟨u0, u1, u2, u3, u4, u5, u6, u7, _, u9, u10, u11, u12, u13, va, Ls, ?_, ⟨hC.ow, hC.h0, hC.h1, hC.h2, hC.h3, hC.h4, hC.h5, hC.h6, hC.h7, fun _ => rfl, hC.h9, hC.h10, hC.h11, hC.h12, hC.h13, hC.v0, hC.v1⟩⟩
              simp only [Act.put, List.setIfInBounds_toArray, List.set_cons_zero, List.set_cons_succ]
            · obtain rfl := hC.h7 (hd 7 (by kernel_rfl))
              obtain rfl := hC.h8 (hd 8 (by kernel_rfl))
              have hw : IntKind.i64.wrap ((dd : Int) - (j : Int)) = (dd : Int) - (j : Int) := IntWalk.i64_in _ (by omega)
              clear hd hcl
              refine wpOp_step rfl (fun K hK => ?_)
              go_simp
              refine hK _ _ ⟨u0, u1, u2, u3, u4, u5, u6, _, _, _, u10, u11, u12, u13, va, Ls, ?_, ⟨hC.ow, hC.h0, hC.h1, hC.h2, hC.h3, hC.h4, hC.h5, hC.h6, hC.h7, hC.h8, fun _ => rfl, hC.h10, hC.h11, hC.h12, hC.h13, hC.v0, hC.v1⟩⟩
              simp only [Act.put, List.setIfInBounds_toArray, List.set_cons_zero, List.set_cons_succ]
            · obtain rfl := hC.h6 (hd 6 (by kernel_rfl))
              obtain rfl := hC.h9 (hd 9 (by kernel_rfl))
              clear hd hcl
              refine wpOp_step rfl (fun K hK => ?_)
              go_simp
              refine (t_choose_sub hC.ow tt mm dd j HB.out.mt HB.out.jd HB.out.t4096 HB.out.d4096).mono ?_
              rintro e W' ⟨Az, nz, cz, rfl, ho⟩
              rw [List.append_assoc (L ++ [(⟨AS, nS, cS, nats (Na.dig s)⟩ : Ob)]) Ls] at ho
              refine hK _ _ ⟨u0, u1, u2, u3, u4, u5, _, u7, u8, _, _, u11, u12, u13, va, _, ?_, ⟨ho, hC.h0, hC.h1, hC.h2, hC.h3.more, hC.h4, hC.h5, hC.h6, hC.h7, hC.h8, hC.h9, GN.new _ _ _ _ _ _ _, hC.h11.more, hC.h12.more, hC.h13.more, hC.v0, hC.v1.more⟩⟩
              simp only [Act.put, List.setIfInBounds_toArray, List.set_cons_zero, List.set_cons_succ]
            · obtain ⟨t3, A3, n3, c3, rfl, r3⟩ := hC.h3 (hd 3 (by kernel_rfl))
              have R3 : (L ++ [(⟨AS, nS, cS, nats (Na.dig s)⟩ : Ob)] ++ Ls)[(L ++ [(⟨AS, nS, cS, nats (Na.dig s)⟩ : Ob)]).length + t3]? = some ⟨A3, n3, c3, nats (Na.dig (Na.bin mm j))⟩ := (get_r _ _ _).trans r3
              obtain ⟨t10, A10, n10, c10, rfl, r10⟩ := hC.h10 (hd 10 (by kernel_rfl))
              have R10 : (L ++ [(⟨AS, nS, cS, nats (Na.dig s)⟩ : Ob)] ++ Ls)[(L ++ [(⟨AS, nS, cS, nats (Na.dig s)⟩ : Ob)]).length + t10]? = some ⟨A10, n10, c10, nats (Na.dig (Na.bin (tt - mm) (dd - j)))⟩ := (get_r _ _ _).trans r10
              clear hd hcl
              refine wpOp_step rfl (fun K hK => ?_)
              go_simp
              have ho := hC.ow.push (World.ownsRow_lit (base := W.heap.size) (e := 24) (size := 1) W #[.slice A3 n3 c3, .slice A10 n10 c10] 2 (Nat.le_refl _) (by decide) rfl) (by omega) (own_box1 _ _)
              rw [List.append_assoc (L ++ [(⟨AS, nS, cS, nats (Na.dig s)⟩ : Ob)]) Ls] at ho
              refine hK _ _ ⟨u0, u1, u2, _, u4, u5, u6, u7, u8, u9, _, _, u12, u13, va, _, ?_, ⟨ho, hC.h0, hC.h1, hC.h2, hC.h3.more, hC.h4, hC.h5, hC.h6, hC.h7, hC.h8, hC.h9, hC.h10.more, GL.new _ _ _ _ _ _ _ (Nums.two R3 R10), hC.h12.more, hC.h13.more, hC.v0, hC.v1.more⟩⟩
              simp only [Act.put, List.setIfInBounds_toArray, List.set_cons_zero, List.set_cons_succ]
            · obtain ⟨t11, A11, vs11, rfl, r11, m11⟩ := hC.h11 (hd 11 (by kernel_rfl))
              have R11 : (L ++ [(⟨AS, nS, cS, nats (Na.dig s)⟩ : Ob)] ++ Ls)[(L ++ [(⟨AS, nS, cS, nats (Na.dig s)⟩ : Ob)]).length + t11]? = some ⟨A11, 2, 2, vs11⟩ := (get_r _ _ _).trans r11
              clear hd hcl
              refine wpOp_step rfl (fun K hK => ?_)
              go_simp
              refine (t_times2 hC.ow _ R11 m11 HB.out.b1 HB.out.b2 HB.out.b3).mono ?_
              rintro e W' ⟨Az, nz, cz, rfl, ho⟩
              rw [List.append_assoc (L ++ [(⟨AS, nS, cS, nats (Na.dig s)⟩ : Ob)]) Ls] at ho
              refine hK _ _ ⟨u0, u1, u2, u3, u4, u5, u6, u7, u8, u9, u10, _, _, u13, va, _, ?_, ⟨ho, hC.h0, hC.h1, hC.h2, hC.h3.more, hC.h4, hC.h5, hC.h6, hC.h7, hC.h8, hC.h9, hC.h10.more, hC.h11.more, GN.new _ _ _ _ _ _ _, hC.h13.more, hC.v0, hC.v1.more⟩⟩
              simp only [Act.put, List.setIfInBounds_toArray, List.set_cons_zero, List.set_cons_succ]
            · obtain rfl := hC.h0 (hd 0 (by kernel_rfl))
              obtain ⟨t12, A12, n12, c12, rfl, r12⟩ := hC.h12 (hd 12 (by kernel_rfl))
              have R12 : (L ++ [(⟨AS, nS, cS, nats (Na.dig s)⟩ : Ob)] ++ Ls)[(L ++ [(⟨AS, nS, cS, nats (Na.dig s)⟩ : Ob)]).length + t12]? = some ⟨A12, n12, c12, nats (Na.dig (Na.bin mm j * Na.bin (tt - mm) (dd - j)))⟩ := (get_r _ _ _).trans r12
              clear hd hcl
              refine wpOp_step rfl (fun K hK => ?_)
              go_simp
              refine (t_sum hC.ow (L.length + 0) _ ((get_l _ _ (by simp)).trans ((get_r _ _ 0).trans rfl)) R12 HB.out.st HB.out.b3 HB.out.bs).mono ?_
              rintro e W' ⟨Az, nz, cz, rfl, ho⟩
              rw [List.append_assoc (L ++ [(⟨AS, nS, cS, nats (Na.dig s)⟩ : Ob)]) Ls] at ho
              refine hK _ _ ⟨_, u1, u2, u3, u4, u5, u6, u7, u8, u9, u10, u11, _, _, va, _, ?_, ⟨ho, hC.h0, hC.h1, hC.h2, hC.h3.more, hC.h4, hC.h5, hC.h6, hC.h7, hC.h8, hC.h9, hC.h10.more, hC.h11.more, hC.h12.more, GN.new _ _ _ _ _ _ _, hC.v0, hC.v1.more⟩⟩
              simp only [Act.put, List.setIfInBounds_toArray, List.set_cons_zero, List.set_cons_succ]
            · obtain ⟨t13, A13, n13, c13, rfl, r13⟩ := hC.h13 (hd 13 (by kernel_rfl))
              have R13 : (L ++ [(⟨AS, nS, cS, nats (Na.dig s)⟩ : Ob)] ++ Ls)[(L ++ [(⟨AS, nS, cS, nats (Na.dig s)⟩ : Ob)]).length + t13]? = some ⟨A13, n13, c13, nats (Na.dig (s + Na.bin mm j * Na.bin (tt - mm) (dd - j)))⟩ := (get_r _ _ _).trans r13
              clear hd hcl
              refine wpOp_step rfl (fun K hK => ?_)
              go_simp
              have ho := hC.ow.setv (M.length + 0) (by rw [get_r]; rfl) (.slice A13 n13 c13)
              rw [set_r, List.set_cons_zero] at ho
              refine hK _ _ ⟨u0, u1, u2, u3, u4, u5, u6, u7, u8, u9, u10, u11, u12, _, _, Ls, ?_, ⟨ho, hC.h0, hC.h1, hC.h2, hC.h3, hC.h4, hC.h5, hC.h6, hC.h7, hC.h8, hC.h9, hC.h10, hC.h11, hC.h12, hC.h13, fun e => absurd (show true = false from e) (by decide), fun _ => ⟨t13, A13, n13, c13, rfl, r13⟩⟩⟩
              simp only [Act.put, List.setIfInBounds_toArray, List.set_cons_zero, List.set_cons_succ]
          · rintro Ld b W hL ⟨u0, u1, u2, u3, u4, u5, u6, u7, u8, u9, u10, u11, u12, u13, va, Ls, rfl, hC⟩
            obtain ⟨tz, Az, nz, cz, rfl, rz⟩ := hC.v1 (hL 14 (by show 14 < 15; decide))
            have e9 : s + Na.bin mm j * Na.bin (tt - mm) (dd - j) = sumH tt mm dd 0 (k + 1) := by rw [HK.out.2.2.1, HK.out.2.1]; rfl
            have HG := Lib.hid (hC.ow.less (L' := L ++ [⟨Az, nz, cz, nats (Na.dig (s + Na.bin mm j * Na.bin (tt - mm) (dd - j)))⟩]) (fun o ho => by
              simp only [List.mem_append, List.mem_cons, List.mem_nil_iff, or_false] at ho ⊢
              rcases ho with h | h
              · exact .inl (.inl h)
              · exact .inr (h ▸ List.mem_of_getElem? rz)))
            have HE9 := Lib.hid e9
            clear hL hC rz HO HB e9
            simp only [Act.put, List.setIfInBounds_toArray, List.set_cons_zero, List.set_cons_succ]
            go_wp2_with fail
            go_roundw
            case rel => exact ⟨k + 1, j + 1, s + Na.bin mm j * Na.bin (tt - mm) (dd - j), Az, nz, cz, ⟨.inl (by have := HK.out.2.1; omega), by have := HK.out.2.1; omega, HE9.out, by omega⟩, int_eqv (by omega), HG⟩
            case measure => simp [intOf]; omega
end
end Go.Proofs.YtjhaogbopmhkoaaDoor
