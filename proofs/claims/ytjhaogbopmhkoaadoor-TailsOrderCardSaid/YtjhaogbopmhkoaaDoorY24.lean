/- Td -/
import Derived.Test.YtjhaogbopmhkoaaDoorY19
namespace Go.Proofs.YtjhaogbopmhkoaaDoor
open Go.RowKit Go.Sort
set_option linter.unusedVariables false
set_option maxRecDepth 100000
theorem sgn_le2 {x y : Nat} (h : x ≤ y) : ∃ s : Int, Na.sgn x y = s ∧ s ≤ 0 := by
  refine ⟨_, rfl, ?_⟩
  unfold Na.sgn
  split
  · omega
  · rw [if_neg (by omega)]; omega
theorem nsub_fr {w0 w : World} {g : Option Nat} {M : List (Nat × Value)} {L : List Ob} {O : List Rw} {A A2 : Option Addr} {n c m c2 x y : Nat} (h : Ow w0 w g M L O) (i j : Nat) (hi : L[i]? = some ⟨A, n, c, nats (Na.dig x)⟩) (hj : L[j]? = some ⟨A2, m, c2, nats (Na.dig y)⟩) (hx : x < Na.top) (hy : y < Na.top) :
    Calls Tryd.prog 45 #[.agg #[.slice A n c], .agg #[.slice A2 m c2]] w (GotO w0 g M L O (if x < y then [] else Na.dig (x - y)) (if x < y then 5 else 0)) := by
  have := ag_sub (zs := Na.up (Na.dig x)) (ys := Na.up (Na.dig y)) h i j (by rw [nats_up]; exact hi) (by rw [nats_up]; exact hj)
  unfold subL subE at this
  rw [Na.vld_dig hx, Na.vld_dig hy, num_dig, num_dig] at this
  exact this
def RtBin (w0 : World) (g : Option Nat) (M : List (Nat × Value)) (L : List Ob) (O : List Rw) (pb rb fb ab : Nat) (Ax : Option Addr) (nx cx : Nat) (Ay : Option Addr) (ny cy : Nat) (AF : Option Addr) (nF cF : Nat) (n x f lo : Nat) (v : Value) (wr : World) : Prop :=
  ∃ (k j s : Nat) (AS : Option Addr) (nS cS : Nat), Hid ((lo + k ≤ n + 1 ∨ k = 0) ∧ j = lo + k ∧ s = sumB n x f lo k ∧ j ≤ 9223372036854775807) ∧ v = .int .i64 (j : Int) ∧ Hid (Ow w0 wr g (M ++ [(fb, .slice AF nF cF), (ab, .slice AS nS cS)]) (L ++ [⟨AF, nF, cF, nats (Na.dig f)⟩, ⟨AS, nS, cS, nats (Na.dig s)⟩]) (O ++ [Rw.pair pb 26 (.slice Ax nx cx) (.slice Ay ny cy), Rw.pair rb 26 (.slice none 0 0) (.slice none 0 0)]))
structure BtK (w0 : World) (g : Option Nat) (M : List (Nat × Value)) (L : List Ob) (O : List Rw) (pb rb fb ab : Nat) (Ax : Option Addr) (nx cx : Nat) (Ay : Option Addr) (ny cy : Nat) (AF : Option Addr) (nF cF : Nat) (AS : Option Addr) (nS cS : Nat) (n j x f s : Nat) (Ld : Nat → Bool) (u0 u1 u2 u3 u4 u5 u6 u7 u8 u9 u10 u11 u12 u13 u14 u15 : Value) (va : Value) (Ls : List Ob) (W : World) : Prop where
  ow : Ow w0 W g (M ++ [(fb, .slice AF nF cF), (ab, va)]) (L ++ [(⟨AF, nF, cF, nats (Na.dig f)⟩ : Ob), (⟨AS, nS, cS, nats (Na.dig s)⟩ : Ob)] ++ Ls) (O ++ [Rw.pair pb 26 (.slice Ax nx cx) (.slice Ay ny cy), Rw.pair rb 26 (.slice none 0 0) (.slice none 0 0)])
  h0 : Ld 0 = true → u0 = .agg #[.slice AS nS cS]
  h1 : Ld 1 = true → u1 = .int .i64 (n : Int)
  h2 : Ld 2 = true → u2 = .int .i64 (j : Int)
  h3 : GN Ld 3 u3 (Na.bin n j) Ls
  h4 : Ld 4 = true → u4 = .pointer (some ⟨pb, 0, none⟩)
  h5 : Ld 5 = true → u5 = .agg #[.slice Ax nx cx]
  h6 : Ld 6 = true → u6 = .int .i64 (j : Int)
  h7 : GN Ld 7 u7 (x ^ j) Ls
  h8 : Ld 8 = true → u8 = .agg #[.slice AF nF cF]
  h9 : Ld 9 = true → u9 = .int .i64 (n : Int)
  h10 : Ld 10 = true → u10 = .int .i64 (j : Int)
  h11 : Ld 11 = true → u11 = .int .i64 ((n : Int) - (j : Int))
  h12 : GN Ld 12 u12 (f ^ (n - j)) Ls
  h13 : GL Ld 13 u13 [Na.bin n j, x ^ j, f ^ (n - j)] 3 (L ++ [(⟨AF, nF, cF, nats (Na.dig f)⟩ : Ob), (⟨AS, nS, cS, nats (Na.dig s)⟩ : Ob)]) Ls
  h14 : GN Ld 14 u14 (Na.bin n j * (x ^ j * f ^ (n - j))) Ls
  h15 : GN Ld 15 u15 (s + Na.bin n j * (x ^ j * f ^ (n - j))) Ls
  v0 : Ld 16 = false → va = .slice AS nS cS
  v1 : GV Ld 16 va (s + Na.bin n j * (x ^ j * f ^ (n - j))) Ls
def BtI (w0 : World) (g : Option Nat) (M : List (Nat × Value)) (L : List Ob) (O : List Rw) (pb rb fb ab : Nat) (Ax : Option Addr) (nx cx : Nat) (Ay : Option Addr) (ny cy : Nat) (AF : Option Addr) (nF cF : Nat) (AS : Option Addr) (nS cS : Nat) (n j x f s : Nat) (A0 : Act) (Ld : Nat → Bool) (a : Act) (W : World) : Prop :=
  ∃ (u0 u1 u2 u3 u4 u5 u6 u7 u8 u9 u10 u11 u12 u13 u14 u15 : Value) (va : Value) (Ls : List Ob), a = ((((((((((((((((A0.put (some 56) u0).put (some 57) u1).put (some 58) u2).put (some 59) u3).put (some 60) u4).put (some 61) u5).put (some 62) u6).put (some 63) u7).put (some 64) u8).put (some 65) u9).put (some 66) u10).put (some 67) u11).put (some 68) u12).put (some 69) u13).put (some 70) u14).put (some 71) u15) ∧ BtK w0 g M L O pb rb fb ab Ax nx cx Ay ny cy AF nF cF AS nS cS n j x f s Ld u0 u1 u2 u3 u4 u5 u6 u7 u8 u9 u10 u11 u12 u13 u14 u15 va Ls W
section
variable {w0 w w' : World} {g : Option Nat} {M M2 : List (Nat × Value)} {L : List Ob} {O : List Rw} {A A2 A3 A4 : Option Addr} {b n c m c2 n3 c3 n4 c4 x y : Nat} {p q r s : List Int}
set_option maxHeartbeats 16000000 in
theorem t_binom_sum {x y : Nat} {Ax Ay : Option Addr} {nx cx ny cy : Nat} (h : Ow w0 w g M L O) (i jd : Nat) (nn hits : Int) (hi : L[i]? = some ⟨Ax, nx, cx, nats (Na.dig x)⟩) (hj : L[jd]? = some ⟨Ay, ny, cy, nats (Na.dig y)⟩) (ht : Tab w0) (hn : 0 ≤ nn ∧ nn ≤ 40) (F : FrK x y) (hxy : x ≤ y) (hm : ny ≤ 2) (hh : hits ≤ 9223372036854775807) : Calls Tryd.prog 20 #[.int .i64 nn, .int .i64 hits, .agg #[.slice Ax nx cx, .slice Ay ny cy]] w (GotF w0 g M L O (frM (sumB nn.toNat x (y - x) hits.toNat (nn.toNat + 1 - hits.toNat)) (y ^ nn.toNat))) := by
  have hy48 : y ≤ 2 ^ 48 := by
    have h1 : (Na.dig y).length ≤ 2 := by rw [(h.seenL jd hj).1]; exact hm
    have := (Na.dig_len_iff y 2).1 h1
    omega
  obtain ⟨n, rfl⟩ := Int.eq_ofNat_of_zero_le hn.1
  have htn40 : n ≤ 40 := by omega
  rw [show ((n : Int)).toNat = n by omega]
  have H := (h.pair (.slice Ax nx cx) (.slice Ay ny cy) 26).pair (.slice none 0 0) (.slice none 0 0) 26
  simp only [World.size_alloc, List.append_assoc, List.cons_append, List.nil_append] at H
  have t1 : decide ((n : Int) < 0) = false := decide_eq_false (by omega)
  have t2 : decide (40 < (n : Int)) = false := decide_eq_false (by omega)
  have t2b : decide (40 < n) = false := decide_eq_false (by omega)
  have t3 : decide ((2 : Int) < (ny : Int)) = false := decide_eq_false (by omega)
  have t4 : decide (2 < ny) = false := decide_eq_false (by omega)
  have a0 := H.p0 (O.length + 0) (by rw [get_r]; rfl)
  have a1 := H.p1 (O.length + 0) (by rw [get_r]; rfl)
  have HV := Lib.hid (qvalid_ow (p := Na.up (Na.dig x)) (q := Na.up (Na.dig y)) H i jd (by rw [nats_up]; exact hi) (by rw [nats_up]; exact hj) ht)
  rw [F.rv] at HV
  have HI := Lib.hid (And.intro hi hj)
  have HI1 := Lib.hid hi
  have HX := Lib.hid F
  have HT := Lib.hid ht
  obtain ⟨sg, hsg, hs0⟩ := sgn_le2 hxy
  have HS := Lib.hid hsg
  have t5 : decide (0 < sg) = false := decide_eq_false (by omega)
  have HY : Hid (x ≤ y ∧ y ≤ 2 ^ 48 ∧ n ≤ 40) := ⟨hxy, hy48, htn40⟩
  obtain ⟨f, hfl⟩ : ∃ z, y - x = z := ⟨_, rfl⟩
  have HFl : Hid (y - x = f ∧ f ≤ 2 ^ 48) := ⟨hfl, by omega⟩
  obtain ⟨lo, hlo⟩ : ∃ z, hits.toNat = z := ⟨_, rfl⟩
  have hlo9 : lo ≤ 9223372036854775807 := by omega
  obtain ⟨t, hmk⟩ : ∃ z, frM (sumB n x f lo (n + 1 - lo)) (y ^ n) = z := ⟨_, rfl⟩
  rw [hfl, hlo, hmk]
  have HMk := Lib.hid hmk
  have hmx : (0 < hits ∧ hits = (lo : Int)) ∨ (hits ≤ 0 ∧ lo = 0) := by omega
  clear h H hi hj hn hxy F hsg hs0 hy48 hfl hmk hlo hh htn40 hm ht
  go_enter Tryd.func20, Tryd.ntmps20
  go_wp2_with fail
  refine HV.out.mono ?_
  rintro e w1 ⟨rfl, H⟩
  clear HV a0 a1
  have a0 := H.p0 (O.length + 0) (by rw [get_r]; rfl)
  have a1 := H.p1 (O.length + 0) (by rw [get_r]; rfl)
  have HC := Lib.hid (cmp_ow H i jd HI.out.1 HI.out.2)
  rw [HS.out] at HC
  clear H
  go_wp2_with fail
  refine HC.out.mono ?_
  rintro e w2 ⟨rfl, H⟩
  clear HC a0 a1
  have a0 := H.p0 (O.length + 0) (by rw [get_r]; rfl)
  have a1 := H.p1 (O.length + 0) (by rw [get_r]; rfl)
  have HC := Lib.hid (nsub_fr H jd i HI.out.2 HI.out.1 HX.out.py HX.out.px)
  rw [if_neg (Nat.not_lt.2 HY.out.1), if_neg (Nat.not_lt.2 HY.out.1), HFl.out.1] at HC
  clear H
  go_wp2_with fail
  refine HC.out.mono ?_
  rintro e w3 ⟨AF, nF, cF, rfl, G⟩
  have H := G.boxed (.slice AF nF cF) 24
  clear HC G a0 a1
  have HC := Lib.hid (t_of H 0 (by omega))
  clear H
  go_wp2_with fail
  refine HC.out.mono ?_
  rintro e w4 ⟨AS, nS, cS, rfl, G⟩
  have H := G.boxed (.slice AS nS cS) 24
  simp only [List.append_assoc, List.cons_append, List.nil_append] at H
  have HO := Lib.hid H
  clear HC G H
  rcases hmx with ⟨h0, rfl⟩ | ⟨h0, rfl⟩
  · go_wp2_with fail
    go_loopw [11] (fun v wr => RtBin w0 g M L O w.heap.size (w.heap.size + 1) w3.heap.size w4.heap.size Ax nx cx Ay ny cy AF nF cF n x f lo v wr) (fun v _ => n + 1 - (intOf v).toNat)
    case atStart => exact ⟨0, lo, 0, AS, nS, cS, ⟨.inr rfl, rfl, rfl, by omega⟩, rfl, HO⟩
    case round =>
      clear HO
      obtain ⟨k, j, s, AS, nS, cS, HK, rfl, HO⟩ := hrel
      have cS0 := HO.out.cell (M.length + 1) (by rw [get_r]; rfl)
      have hj9 := HK.out.2.2.2
      rcases Nat.lt_or_ge n j with hlt | hle
      · have hd : decide ((j : Int) ≤ (n : Int)) = false := decide_eq_false (by omega)
        have hd2 : decide (j ≤ n) = false := decide_eq_false (by omega)
        have HD := Lib.hid HO.out.drew
        have HM10 : Hid (frM s (y ^ n) = t ∧ y ^ n < Na.top ∧ s < Na.top) := by
          have ek : k = n + 1 - lo := by have := HK.out.1; have := HK.out.2.1; omega
          have hyn : y ^ n < Na.top := le_top (pow_two HY.out.2.1 n) (by have := HY.out.2.2; omega)
          have hsn : sumB n x f lo k < Na.top := by
            rcases HK.out.1 with hk | hk
            · have h1 := sumB_two (n := n) (lo := lo) (x := x) (f := f) (Nat.le_trans HY.out.1 HY.out.2.1) HFl.out.2 k hk
              have h2 : sumB n x f lo k ≤ 2 ^ (6 + (n + 48 * n)) := by
                rw [Nat.pow_add]
                exact Nat.le_trans h1 (Nat.mul_le_mul_right _ (by have := HY.out.2.2; show k ≤ 64; omega))
              exact le_top h2 (by have := HY.out.2.2; omega)
            · rw [hk]
              exact le_top (k := 0) (Nat.zero_le _) (by omega)
          refine ⟨?_, hyn, by rw [HK.out.2.2.1]; exact hsn⟩
          rw [HK.out.2.2.1, ek]
          exact HMk.out
        have HA1 := Lib.hid (t_power HD.out jd ((get_l _ _ (get_lt HI.out.2)).trans HI.out.2) HX.out.py n (by have := HY.out.2.2; omega) HM10.out.2.1)
        clear HO hlt hj9 cS0
        go_upto_region 13 with (fail)
        have a1 := HD.out.p1 (O.length + 0) (by rw [get_r]; rfl)
        have s0 := HD.out.cell (M.length + 1) (by rw [get_r]; rfl)
        go_region_held3 (fun W => W.cell? ⟨w.heap.size, 1, none⟩ = some (.slice Ay ny cy) ∧ W.cell? ⟨w4.heap.size, 0, none⟩ = some (.slice AS nS cS)) (first | exact ⟨a1, s0⟩ | exact ⟨how4.p1 (O.length + 0) (by rw [get_r]; rfl), how4.cell (M.length + 1) (by rw [get_r]; rfl)⟩ | exact ⟨how3.p1 (O.length + 0) (by rw [get_r]; rfl), how3.cell (M.length + 1) (by rw [get_r]; rfl)⟩ | exact ⟨how.p1 (O.length + 0) (by rw [get_r]; rfl), how.cell (M.length + 1) (by rw [get_r]; rfl)⟩) ((first | (go_at_call 44; (with_reducible refine HA1.out.mono ?_); rintro e v2 ⟨B1, m1, d1, rfl, how⟩; rw [List.append_assoc] at how; have HA3 := Lib.hid (qmake_fr how (L.length + 1) (L.length + 2) (by rw [get_r]; rfl) (by rw [get_r]; rfl) HT.out HM10.out.2.2 HM10.out.2.1 HM10.out.1)) | (go_at_call 46; (with_reducible refine HA3.out.mono ?_); rintro e v4 ⟨C1, k1, e1, C2, k2, e2, rfl, how3⟩; have z0 := how3.p0 (O.length + 1) (by rw [get_r]; rfl); have z1 := how3.p1 (O.length + 1) (by rw [get_r]; rfl); have f0 := how3.pf (O.length + 1) (by rw [get_r]; rfl) 0; have f1 := how3.pf (O.length + 1) (by rw [get_r]; rfl) 1; have how4' := how3.set0 (O.length + 1) (by rw [get_r]; rfl) (.slice C1 k1 e1); rw [set_r] at how4'; simp only [List.set_cons_succ, List.set_cons_zero] at how4'; have how4 := how4'.set1 (O.length + 1) (by rw [get_r]; rfl) (.slice C2 k2 e2); rw [set_r] at how4; simp only [List.set_cons_succ, List.set_cons_zero] at how4)))
        have r0 := how4.p0 (O.length + 1) (by rw [get_r]; rfl)
        have r1 := how4.p1 (O.length + 1) (by rw [get_r]; rfl)
        have HF := Lib.hid (how4.fewM.fewO.less (mid_less L _ _ _))
        clear how how3 how4' how4 a1 s0 z0 z1 f0 f1 HA1 HA3
        go_wp2_with fail
        refine bodyPost_ret (v := .tuple #[.agg #[.slice C1 k1 e1, .slice C2 k2 e2], .int .i64 t.2.2]) (by simp [results, Tryd.results20, go_sem, r0, r1]) rfl ?_
        exact ⟨C1, k1, e1, C2, k2, e2, rfl, HF.out⟩
      · have hd : decide ((j : Int) ≤ (n : Int)) = true := decide_eq_true (by omega)
        have hd2 : decide (j ≤ n) = true := decide_eq_true hle
        have HB : Hid (BinK n j x f s) := by
          have := binK_of (n := n) (lo := lo) (c := k) (x := x) (f := f) HY.out.2.2 (Nat.le_trans HY.out.1 HY.out.2.1) HFl.out.2 (by have := HK.out.2.1; omega)
          rw [← HK.out.2.1, ← HK.out.2.2.1] at this
          exact this
        have hj10 : j ≤ 40 := by have := HY.out.2.2; omega
        have hn10 : n ≤ 40 := HY.out.2.2
        clear cS0
        go_upto_region 12 with (fail)
        refine reg_inv34 (BtI w0 g M L O w.heap.size (w.heap.size + 1) w3.heap.size w4.heap.size Ax nx cx Ay ny cy AF nF cF AS nS cS n j x f s) (by kernel_rfl) (by kernel_rfl) ?_ ?_ ?_
        · refine ⟨u56, u57, u58, u59, u60, u61, u62, u63, u64, u65, u66, u67, u68, u69, u70, u71, .slice AS nS cS, [], ?_, ⟨by rw [List.append_nil]; exact HO.out.drew, ?_, ?_, ?_, ?_, ?_, ?_, ?_, ?_, ?_, ?_, ?_, ?_, ?_, ?_, ?_, ?_, fun _ => rfl, ?_⟩⟩
          · simp only [Act.put, List.setIfInBounds_toArray, List.set_cons_zero, List.set_cons_succ]
          all_goals (intro h; cases h)
        · rintro jj Ld b W hj hf hcl hd ⟨u0, u1, u2, u3, u4, u5, u6, u7, u8, u9, u10, u11, u12, u13, u14, u15, va, Ls, rfl, hC⟩
          have hj' : jj < 17 := hj
          have hcase : jj = 0 ∨ jj = 1 ∨ jj = 2 ∨ jj = 3 ∨ jj = 4 ∨ jj = 5 ∨ jj = 6 ∨ jj = 7 ∨ jj = 8 ∨ jj = 9 ∨ jj = 10 ∨ jj = 11 ∨ jj = 12 ∨ jj = 13 ∨ jj = 14 ∨ jj = 15 ∨ jj = 16 := by omega
          have q0 := hC.ow.p0 (O.length + 0) (by rw [get_r]; rfl)
          have qf := hC.ow.cell (M.length + 0) (by rw [get_r]; rfl)
          have qa := hC.ow.cell (M.length + 1) (by rw [get_r]; rfl)
          have qz := hC.ow.free (M.length + 1) (by rw [get_r]; rfl)
          have hjn := HB.out.jn
          clear hj hj'
          simp only [Act.put, List.setIfInBounds_toArray, List.set_cons_zero, List.set_cons_succ]
          rcases hcase with rfl | rfl | rfl | rfl | rfl | rfl | rfl | rfl | rfl | rfl | rfl | rfl | rfl | rfl | rfl | rfl | rfl
          · have g15 : Ld 15 = false := by cases e : Ld 15 with | false => rfl | true => (rw [hcl 15 0 e (by kernel_rfl)] at hf; cases hf)
            have g16 : Ld 16 = false := by cases e : Ld 16 with | false => rfl | true => (rw [hcl 16 15 e (by kernel_rfl)] at g15; cases g15)
            obtain rfl := hC.v0 g16
            clear hd hcl
            refine wpOp_step rfl (fun K hK => ?_)
            go_simp
            refine hK _ _ ⟨_, u1, u2, u3, u4, u5, u6, u7, u8, u9, u10, u11, u12, u13, u14, u15, _, Ls, ?_, ⟨hC.ow, fun _ => rfl, hC.h1, hC.h2, hC.h3, hC.h4, hC.h5, hC.h6, hC.h7, hC.h8, hC.h9, hC.h10, hC.h11, hC.h12, hC.h13, hC.h14, hC.h15, hC.v0, hC.v1⟩⟩
            simp only [Act.put, List.setIfInBounds_toArray, List.set_cons_zero, List.set_cons_succ]
          · clear hd hcl
            refine wpOp_step rfl (fun K hK => ?_)
            go_simp
            refine hK _ _ ⟨u0, _, u2, u3, u4, u5, u6, u7, u8, u9, u10, u11, u12, u13, u14, u15, va, Ls, ?_, ⟨hC.ow, hC.h0, fun _ => rfl, hC.h2, hC.h3, hC.h4, hC.h5, hC.h6, hC.h7, hC.h8, hC.h9, hC.h10, hC.h11, hC.h12, hC.h13, hC.h14, hC.h15, hC.v0, hC.v1⟩⟩
            simp only [Act.put, List.setIfInBounds_toArray, List.set_cons_zero, List.set_cons_succ]
          · clear hd hcl
            refine wpOp_step rfl (fun K hK => ?_)
            go_simp
            refine hK _ _ ⟨u0, u1, _, u3, u4, u5, u6, u7, u8, u9, u10, u11, u12, u13, u14, u15, va, Ls, ?_, ⟨hC.ow, hC.h0, hC.h1, fun _ => rfl, hC.h3, hC.h4, hC.h5, hC.h6, hC.h7, hC.h8, hC.h9, hC.h10, hC.h11, hC.h12, hC.h13, hC.h14, hC.h15, hC.v0, hC.v1⟩⟩
            simp only [Act.put, List.setIfInBounds_toArray, List.set_cons_zero, List.set_cons_succ]
          · obtain rfl := hC.h1 (hd 1 (by kernel_rfl))
            obtain rfl := hC.h2 (hd 2 (by kernel_rfl))
            clear hd hcl
            refine wpOp_step rfl (fun K hK => ?_)
            go_simp
            refine (t_choose hC.ow n j HB.out.n4096 HB.out.jmax).mono ?_
            rintro e W' ⟨Az, nz, cz, rfl, ho⟩
            rw [List.append_assoc (L ++ [(⟨AF, nF, cF, nats (Na.dig f)⟩ : Ob), (⟨AS, nS, cS, nats (Na.dig s)⟩ : Ob)]) Ls] at ho
            refine hK _ _ ⟨u0, _, _, _, u4, u5, u6, u7, u8, u9, u10, u11, u12, u13, u14, u15, va, _, ?_, ⟨ho, hC.h0, hC.h1, hC.h2, GN.new _ _ _ _ _ _ _, hC.h4, hC.h5, hC.h6, hC.h7.more, hC.h8, hC.h9, hC.h10, hC.h11, hC.h12.more, hC.h13.more, hC.h14.more, hC.h15.more, hC.v0, hC.v1.more⟩⟩
            simp only [Act.put, List.setIfInBounds_toArray, List.set_cons_zero, List.set_cons_succ]
          · clear hd hcl
            refine wpOp_step rfl (fun K hK => ?_)
            go_simp
            refine hK _ _ ⟨u0, u1, u2, u3, _, u5, u6, u7, u8, u9, u10, u11, u12, u13, u14, u15, va, Ls, ?_, ⟨hC.ow, hC.h0, hC.h1, hC.h2, hC.h3, fun _ => rfl, hC.h5, hC.h6, hC.h7, hC.h8, hC.h9, hC.h10, hC.h11, hC.h12, hC.h13, hC.h14, hC.h15, hC.v0, hC.v1⟩⟩
            simp only [Act.put, List.setIfInBounds_toArray, List.set_cons_zero, List.set_cons_succ]
          · obtain rfl := hC.h4 (hd 4 (by kernel_rfl))
            clear hd hcl
            refine wpOp_step rfl (fun K hK => ?_)
            go_simp
            refine hK _ _ ⟨u0, u1, u2, u3, _, _, u6, u7, u8, u9, u10, u11, u12, u13, u14, u15, va, Ls, ?_, ⟨hC.ow, hC.h0, hC.h1, hC.h2, hC.h3, hC.h4, fun _ => rfl, hC.h6, hC.h7, hC.h8, hC.h9, hC.h10, hC.h11, hC.h12, hC.h13, hC.h14, hC.h15, hC.v0, hC.v1⟩⟩
            simp only [Act.put, List.setIfInBounds_toArray, List.set_cons_zero, List.set_cons_succ]
          · clear hd hcl
            refine wpOp_step rfl (fun K hK => ?_)
            go_simp
            refine hK _ _ ⟨u0, u1, u2, u3, u4, u5, _, u7, u8, u9, u10, u11, u12, u13, u14, u15, va, Ls, ?_, ⟨hC.ow, hC.h0, hC.h1, hC.h2, hC.h3, hC.h4, hC.h5, fun _ => rfl, hC.h7, hC.h8, hC.h9, hC.h10, hC.h11, hC.h12, hC.h13, hC.h14, hC.h15, hC.v0, hC.v1⟩⟩
            simp only [Act.put, List.setIfInBounds_toArray, List.set_cons_zero, List.set_cons_succ]
          · obtain rfl := hC.h5 (hd 5 (by kernel_rfl))
            obtain rfl := hC.h6 (hd 6 (by kernel_rfl))
            clear hd hcl
            refine wpOp_step rfl (fun K hK => ?_)
            go_simp
            refine (t_power hC.ow i ((get_l _ _ (by have := get_lt HI1.out; rw [List.length_append]; omega)).trans ((get_l _ _ (get_lt HI1.out)).trans HI1.out)) HB.out.xt j HB.out.j4800 HB.out.xj).mono ?_
            rintro e W' ⟨Az, nz, cz, rfl, ho⟩
            rw [List.append_assoc (L ++ [(⟨AF, nF, cF, nats (Na.dig f)⟩ : Ob), (⟨AS, nS, cS, nats (Na.dig s)⟩ : Ob)]) Ls] at ho
            refine hK _ _ ⟨u0, u1, u2, u3, u4, _, _, _, u8, u9, u10, u11, u12, u13, u14, u15, va, _, ?_, ⟨ho, hC.h0, hC.h1, hC.h2, hC.h3.more, hC.h4, hC.h5, hC.h6, GN.new _ _ _ _ _ _ _, hC.h8, hC.h9, hC.h10, hC.h11, hC.h12.more, hC.h13.more, hC.h14.more, hC.h15.more, hC.v0, hC.v1.more⟩⟩
            simp only [Act.put, List.setIfInBounds_toArray, List.set_cons_zero, List.set_cons_succ]
          · clear hd hcl
            refine wpOp_step rfl (fun K hK => ?_)
            go_simp
            refine hK _ _ ⟨u0, u1, u2, u3, u4, u5, u6, u7, _, u9, u10, u11, u12, u13, u14, u15, va, Ls, ?_, ⟨hC.ow, hC.h0, hC.h1, hC.h2, hC.h3, hC.h4, hC.h5, hC.h6, hC.h7, fun _ => rfl, hC.h9, hC.h10, hC.h11, hC.h12, hC.h13, hC.h14, hC.h15, hC.v0, hC.v1⟩⟩
            simp only [Act.put, List.setIfInBounds_toArray, List.set_cons_zero, List.set_cons_succ]
          · clear hd hcl
            refine wpOp_step rfl (fun K hK => ?_)
            go_simp
            refine hK _ _ ⟨u0, u1, u2, u3, u4, u5, u6, u7, u8, _, u10, u11, u12, u13, u14, u15, va, Ls, ?_, ⟨hC.ow, hC.h0, hC.h1, hC.h2, hC.h3, hC.h4, hC.h5, hC.h6, hC.h7, hC.h8, fun _ => rfl, hC.h10, hC.h11, hC.h12, hC.h13, hC.h14, hC.h15, hC.v0, hC.v1⟩⟩
            simp only [Act.put, List.setIfInBounds_toArray, List.set_cons_zero, List.set_cons_succ]
          · clear hd hcl
            refine wpOp_step rfl (fun K hK => ?_)
            go_simp
            refine hK _ _ ⟨u0, u1, u2, u3, u4, u5, u6, u7, u8, u9, _, u11, u12, u13, u14, u15, va, Ls, ?_, ⟨hC.ow, hC.h0, hC.h1, hC.h2, hC.h3, hC.h4, hC.h5, hC.h6, hC.h7, hC.h8, hC.h9, fun _ => rfl, hC.h11, hC.h12, hC.h13, hC.h14, hC.h15, hC.v0, hC.v1⟩⟩
            simp only [Act.put, List.setIfInBounds_toArray, List.set_cons_zero, List.set_cons_succ]
          · obtain rfl := hC.h9 (hd 9 (by kernel_rfl))
            obtain rfl := hC.h10 (hd 10 (by kernel_rfl))
            have hw : IntKind.i64.wrap ((n : Int) - (j : Int)) = (n : Int) - (j : Int) := IntWalk.i64_in _ (by omega)
            clear hd hcl
            refine wpOp_step rfl (fun K hK => ?_)
            go_simp
            refine hK _ _ ⟨u0, u1, u2, u3, u4, u5, u6, u7, u8, _, _, _, u12, u13, u14, u15, va, Ls, ?_, ⟨hC.ow, hC.h0, hC.h1, hC.h2, hC.h3, hC.h4, hC.h5, hC.h6, hC.h7, hC.h8, hC.h9, hC.h10, fun _ => rfl, hC.h12, hC.h13, hC.h14, hC.h15, hC.v0, hC.v1⟩⟩
            simp only [Act.put, List.setIfInBounds_toArray, List.set_cons_zero, List.set_cons_succ]
          · obtain rfl := hC.h8 (hd 8 (by kernel_rfl))
            obtain rfl := hC.h11 (hd 11 (by kernel_rfl))
            clear hd hcl
            refine wpOp_step rfl (fun K hK => ?_)
            go_simp
            refine (t_power_sub hC.ow (L.length + 0) ((get_l _ _ (by simp)).trans ((get_r _ _ 0).trans rfl)) HB.out.ft n j HB.out.jn HB.out.n4800 HB.out.fj).mono ?_
            rintro e W' ⟨Az, nz, cz, rfl, ho⟩
            rw [List.append_assoc (L ++ [(⟨AF, nF, cF, nats (Na.dig f)⟩ : Ob), (⟨AS, nS, cS, nats (Na.dig s)⟩ : Ob)]) Ls] at ho
            refine hK _ _ ⟨u0, u1, u2, u3, u4, u5, u6, u7, _, u9, u10, _, _, u13, u14, u15, va, _, ?_, ⟨ho, hC.h0, hC.h1, hC.h2, hC.h3.more, hC.h4, hC.h5, hC.h6, hC.h7.more, hC.h8, hC.h9, hC.h10, hC.h11, GN.new _ _ _ _ _ _ _, hC.h13.more, hC.h14.more, hC.h15.more, hC.v0, hC.v1.more⟩⟩
            simp only [Act.put, List.setIfInBounds_toArray, List.set_cons_zero, List.set_cons_succ]
          · obtain ⟨t3, A3, n3, c3, rfl, r3⟩ := hC.h3 (hd 3 (by kernel_rfl))
            have R3 : (L ++ [(⟨AF, nF, cF, nats (Na.dig f)⟩ : Ob), (⟨AS, nS, cS, nats (Na.dig s)⟩ : Ob)] ++ Ls)[(L ++ [(⟨AF, nF, cF, nats (Na.dig f)⟩ : Ob), (⟨AS, nS, cS, nats (Na.dig s)⟩ : Ob)]).length + t3]? = some ⟨A3, n3, c3, nats (Na.dig (Na.bin n j))⟩ := (get_r _ _ _).trans r3
            obtain ⟨t7, A7, n7, c7, rfl, r7⟩ := hC.h7 (hd 7 (by kernel_rfl))
            have R7 : (L ++ [(⟨AF, nF, cF, nats (Na.dig f)⟩ : Ob), (⟨AS, nS, cS, nats (Na.dig s)⟩ : Ob)] ++ Ls)[(L ++ [(⟨AF, nF, cF, nats (Na.dig f)⟩ : Ob), (⟨AS, nS, cS, nats (Na.dig s)⟩ : Ob)]).length + t7]? = some ⟨A7, n7, c7, nats (Na.dig (x ^ j))⟩ := (get_r _ _ _).trans r7
            obtain ⟨t12, A12, n12, c12, rfl, r12⟩ := hC.h12 (hd 12 (by kernel_rfl))
            have R12 : (L ++ [(⟨AF, nF, cF, nats (Na.dig f)⟩ : Ob), (⟨AS, nS, cS, nats (Na.dig s)⟩ : Ob)] ++ Ls)[(L ++ [(⟨AF, nF, cF, nats (Na.dig f)⟩ : Ob), (⟨AS, nS, cS, nats (Na.dig s)⟩ : Ob)]).length + t12]? = some ⟨A12, n12, c12, nats (Na.dig (f ^ (n - j)))⟩ := (get_r _ _ _).trans r12
            clear hd hcl
            refine wpOp_step rfl (fun K hK => ?_)
            go_simp
            have ho := hC.ow.push (World.ownsRow_lit (base := W.heap.size) (e := 24) (size := 1) W #[.slice A3 n3 c3, .slice A7 n7 c7, .slice A12 n12 c12] 3 (Nat.le_refl _) (by decide) rfl) (by omega) (own_box1 _ _)
            rw [List.append_assoc (L ++ [(⟨AF, nF, cF, nats (Na.dig f)⟩ : Ob), (⟨AS, nS, cS, nats (Na.dig s)⟩ : Ob)]) Ls] at ho
            refine hK _ _ ⟨u0, u1, u2, _, u4, u5, u6, _, u8, u9, u10, u11, _, _, u14, u15, va, _, ?_, ⟨ho, hC.h0, hC.h1, hC.h2, hC.h3.more, hC.h4, hC.h5, hC.h6, hC.h7.more, hC.h8, hC.h9, hC.h10, hC.h11, hC.h12.more, GL.new _ _ _ _ _ _ _ (Nums.three R3 R7 R12), hC.h14.more, hC.h15.more, hC.v0, hC.v1.more⟩⟩
            simp only [Act.put, List.setIfInBounds_toArray, List.set_cons_zero, List.set_cons_succ]
          · obtain ⟨t13, A13, vs13, rfl, r13, m13⟩ := hC.h13 (hd 13 (by kernel_rfl))
            have R13 : (L ++ [(⟨AF, nF, cF, nats (Na.dig f)⟩ : Ob), (⟨AS, nS, cS, nats (Na.dig s)⟩ : Ob)] ++ Ls)[(L ++ [(⟨AF, nF, cF, nats (Na.dig f)⟩ : Ob), (⟨AS, nS, cS, nats (Na.dig s)⟩ : Ob)]).length + t13]? = some ⟨A13, 3, 3, vs13⟩ := (get_r _ _ _).trans r13
            clear hd hcl
            refine wpOp_step rfl (fun K hK => ?_)
            go_simp
            refine (t_times3 hC.ow _ R13 m13 HB.out.b1 HB.out.xj HB.out.fj HB.out.b4 HB.out.b5).mono ?_
            rintro e W' ⟨Az, nz, cz, rfl, ho⟩
            rw [List.append_assoc (L ++ [(⟨AF, nF, cF, nats (Na.dig f)⟩ : Ob), (⟨AS, nS, cS, nats (Na.dig s)⟩ : Ob)]) Ls] at ho
            refine hK _ _ ⟨u0, u1, u2, u3, u4, u5, u6, u7, u8, u9, u10, u11, u12, _, _, u15, va, _, ?_, ⟨ho, hC.h0, hC.h1, hC.h2, hC.h3.more, hC.h4, hC.h5, hC.h6, hC.h7.more, hC.h8, hC.h9, hC.h10, hC.h11, hC.h12.more, hC.h13.more, GN.new _ _ _ _ _ _ _, hC.h15.more, hC.v0, hC.v1.more⟩⟩
            simp only [Act.put, List.setIfInBounds_toArray, List.set_cons_zero, List.set_cons_succ]
          · obtain rfl := hC.h0 (hd 0 (by kernel_rfl))
            obtain ⟨t14, A14, n14, c14, rfl, r14⟩ := hC.h14 (hd 14 (by kernel_rfl))
            have R14 : (L ++ [(⟨AF, nF, cF, nats (Na.dig f)⟩ : Ob), (⟨AS, nS, cS, nats (Na.dig s)⟩ : Ob)] ++ Ls)[(L ++ [(⟨AF, nF, cF, nats (Na.dig f)⟩ : Ob), (⟨AS, nS, cS, nats (Na.dig s)⟩ : Ob)]).length + t14]? = some ⟨A14, n14, c14, nats (Na.dig (Na.bin n j * (x ^ j * f ^ (n - j))))⟩ := (get_r _ _ _).trans r14
            clear hd hcl
            refine wpOp_step rfl (fun K hK => ?_)
            go_simp
            refine (t_sum hC.ow (L.length + 1) _ ((get_l _ _ (by simp)).trans ((get_r _ _ 1).trans rfl)) R14 HB.out.st HB.out.b5 HB.out.bs).mono ?_
            rintro e W' ⟨Az, nz, cz, rfl, ho⟩
            rw [List.append_assoc (L ++ [(⟨AF, nF, cF, nats (Na.dig f)⟩ : Ob), (⟨AS, nS, cS, nats (Na.dig s)⟩ : Ob)]) Ls] at ho
            refine hK _ _ ⟨_, u1, u2, u3, u4, u5, u6, u7, u8, u9, u10, u11, u12, u13, _, _, va, _, ?_, ⟨ho, hC.h0, hC.h1, hC.h2, hC.h3.more, hC.h4, hC.h5, hC.h6, hC.h7.more, hC.h8, hC.h9, hC.h10, hC.h11, hC.h12.more, hC.h13.more, hC.h14.more, GN.new _ _ _ _ _ _ _, hC.v0, hC.v1.more⟩⟩
            simp only [Act.put, List.setIfInBounds_toArray, List.set_cons_zero, List.set_cons_succ]
          · obtain ⟨t15, A15, n15, c15, rfl, r15⟩ := hC.h15 (hd 15 (by kernel_rfl))
            have R15 : (L ++ [(⟨AF, nF, cF, nats (Na.dig f)⟩ : Ob), (⟨AS, nS, cS, nats (Na.dig s)⟩ : Ob)] ++ Ls)[(L ++ [(⟨AF, nF, cF, nats (Na.dig f)⟩ : Ob), (⟨AS, nS, cS, nats (Na.dig s)⟩ : Ob)]).length + t15]? = some ⟨A15, n15, c15, nats (Na.dig (s + Na.bin n j * (x ^ j * f ^ (n - j))))⟩ := (get_r _ _ _).trans r15
            clear hd hcl
            refine wpOp_step rfl (fun K hK => ?_)
            go_simp
            have ho := hC.ow.setv (M.length + 1) (by rw [get_r]; rfl) (.slice A15 n15 c15)
            rw [set_r, List.set_cons_succ, List.set_cons_zero] at ho
            refine hK _ _ ⟨u0, u1, u2, u3, u4, u5, u6, u7, u8, u9, u10, u11, u12, u13, u14, _, _, Ls, ?_, ⟨ho, hC.h0, hC.h1, hC.h2, hC.h3, hC.h4, hC.h5, hC.h6, hC.h7, hC.h8, hC.h9, hC.h10, hC.h11, hC.h12, hC.h13, hC.h14, hC.h15, fun e => absurd (show true = false from e) (by decide), fun _ => ⟨t15, A15, n15, c15, rfl, r15⟩⟩⟩
            simp only [Act.put, List.setIfInBounds_toArray, List.set_cons_zero, List.set_cons_succ]
        · rintro Ld b W hL ⟨u0, u1, u2, u3, u4, u5, u6, u7, u8, u9, u10, u11, u12, u13, u14, u15, va, Ls, rfl, hC⟩
          obtain ⟨tz, Az, nz, cz, rfl, rz⟩ := hC.v1 (hL 16 (by show 16 < 17; decide))
          have e9 : s + Na.bin n j * (x ^ j * f ^ (n - j)) = sumB n x f lo (k + 1) := by rw [HK.out.2.2.1, HK.out.2.1]; rfl
          have HG := Lib.hid (hC.ow.less (L' := L ++ [⟨AF, nF, cF, nats (Na.dig f)⟩, ⟨Az, nz, cz, nats (Na.dig (s + Na.bin n j * (x ^ j * f ^ (n - j))))⟩]) (fun o ho => by
            simp only [List.mem_append, List.mem_cons, List.mem_nil_iff, or_false] at ho ⊢
            rcases ho with h | h | h
            · exact .inl (.inl h)
            · exact .inl (.inr (.inl h))
            · exact .inr (h ▸ List.mem_of_getElem? rz)))
          have HE9 := Lib.hid e9
          clear hL hC rz HO HB e9
          simp only [Act.put, List.setIfInBounds_toArray, List.set_cons_zero, List.set_cons_succ]
          go_wp2_with fail
          go_roundw
          case rel => exact ⟨k + 1, j + 1, s + Na.bin n j * (x ^ j * f ^ (n - j)), Az, nz, cz, ⟨.inl (by have := HK.out.2.1; omega), by have := HK.out.2.1; omega, HE9.out, by omega⟩, int_eqv (by omega), HG⟩
          case measure => simp [intOf]; omega
  · go_wp2_with fail
    go_loopw [11] (fun v wr => RtBin w0 g M L O w.heap.size (w.heap.size + 1) w3.heap.size w4.heap.size Ax nx cx Ay ny cy AF nF cF n x f 0 v wr) (fun v _ => n + 1 - (intOf v).toNat)
    case atStart => exact ⟨0, 0, 0, AS, nS, cS, ⟨.inr rfl, rfl, rfl, by omega⟩, rfl, HO⟩
    case round =>
      clear HO
      obtain ⟨k, j, s, AS, nS, cS, HK, rfl, HO⟩ := hrel
      have cS0 := HO.out.cell (M.length + 1) (by rw [get_r]; rfl)
      have hj9 := HK.out.2.2.2
      rcases Nat.lt_or_ge n j with hlt | hle
      · have hd : decide ((j : Int) ≤ (n : Int)) = false := decide_eq_false (by omega)
        have hd2 : decide (j ≤ n) = false := decide_eq_false (by omega)
        have HD := Lib.hid HO.out.drew
        have HM10 : Hid (frM s (y ^ n) = t ∧ y ^ n < Na.top ∧ s < Na.top) := by
          have ek : k = n + 1 - 0 := by have := HK.out.1; have := HK.out.2.1; omega
          have hyn : y ^ n < Na.top := le_top (pow_two HY.out.2.1 n) (by have := HY.out.2.2; omega)
          have hsn : sumB n x f 0 k < Na.top := by
            rcases HK.out.1 with hk | hk
            · have h1 := sumB_two (n := n) (lo := 0) (x := x) (f := f) (Nat.le_trans HY.out.1 HY.out.2.1) HFl.out.2 k hk
              have h2 : sumB n x f 0 k ≤ 2 ^ (6 + (n + 48 * n)) := by
                rw [Nat.pow_add]
                exact Nat.le_trans h1 (Nat.mul_le_mul_right _ (by have := HY.out.2.2; show k ≤ 64; omega))
              exact le_top h2 (by have := HY.out.2.2; omega)
            · rw [hk]
              exact le_top (k := 0) (Nat.zero_le _) (by omega)
          refine ⟨?_, hyn, by rw [HK.out.2.2.1]; exact hsn⟩
          rw [HK.out.2.2.1, ek]
          exact HMk.out
        have HA1 := Lib.hid (t_power HD.out jd ((get_l _ _ (get_lt HI.out.2)).trans HI.out.2) HX.out.py n (by have := HY.out.2.2; omega) HM10.out.2.1)
        clear HO hlt hj9 cS0
        go_upto_region 13 with (fail)
        have a1 := HD.out.p1 (O.length + 0) (by rw [get_r]; rfl)
        have s0 := HD.out.cell (M.length + 1) (by rw [get_r]; rfl)
        go_region_held3 (fun W => W.cell? ⟨w.heap.size, 1, none⟩ = some (.slice Ay ny cy) ∧ W.cell? ⟨w4.heap.size, 0, none⟩ = some (.slice AS nS cS)) (first | exact ⟨a1, s0⟩ | exact ⟨how4.p1 (O.length + 0) (by rw [get_r]; rfl), how4.cell (M.length + 1) (by rw [get_r]; rfl)⟩ | exact ⟨how3.p1 (O.length + 0) (by rw [get_r]; rfl), how3.cell (M.length + 1) (by rw [get_r]; rfl)⟩ | exact ⟨how.p1 (O.length + 0) (by rw [get_r]; rfl), how.cell (M.length + 1) (by rw [get_r]; rfl)⟩) ((first | (go_at_call 44; (with_reducible refine HA1.out.mono ?_); rintro e v2 ⟨B1, m1, d1, rfl, how⟩; rw [List.append_assoc] at how; have HA3 := Lib.hid (qmake_fr how (L.length + 1) (L.length + 2) (by rw [get_r]; rfl) (by rw [get_r]; rfl) HT.out HM10.out.2.2 HM10.out.2.1 HM10.out.1)) | (go_at_call 46; (with_reducible refine HA3.out.mono ?_); rintro e v4 ⟨C1, k1, e1, C2, k2, e2, rfl, how3⟩; have z0 := how3.p0 (O.length + 1) (by rw [get_r]; rfl); have z1 := how3.p1 (O.length + 1) (by rw [get_r]; rfl); have f0 := how3.pf (O.length + 1) (by rw [get_r]; rfl) 0; have f1 := how3.pf (O.length + 1) (by rw [get_r]; rfl) 1; have how4' := how3.set0 (O.length + 1) (by rw [get_r]; rfl) (.slice C1 k1 e1); rw [set_r] at how4'; simp only [List.set_cons_succ, List.set_cons_zero] at how4'; have how4 := how4'.set1 (O.length + 1) (by rw [get_r]; rfl) (.slice C2 k2 e2); rw [set_r] at how4; simp only [List.set_cons_succ, List.set_cons_zero] at how4)))
        have r0 := how4.p0 (O.length + 1) (by rw [get_r]; rfl)
        have r1 := how4.p1 (O.length + 1) (by rw [get_r]; rfl)
        have HF := Lib.hid (how4.fewM.fewO.less (mid_less L _ _ _))
        clear how how3 how4' how4 a1 s0 z0 z1 f0 f1 HA1 HA3
        go_wp2_with fail
        refine bodyPost_ret (v := .tuple #[.agg #[.slice C1 k1 e1, .slice C2 k2 e2], .int .i64 t.2.2]) (by simp [results, Tryd.results20, go_sem, r0, r1]) rfl ?_
        exact ⟨C1, k1, e1, C2, k2, e2, rfl, HF.out⟩
      · have hd : decide ((j : Int) ≤ (n : Int)) = true := decide_eq_true (by omega)
        have hd2 : decide (j ≤ n) = true := decide_eq_true hle
        have HB : Hid (BinK n j x f s) := by
          have := binK_of (n := n) (lo := 0) (c := k) (x := x) (f := f) HY.out.2.2 (Nat.le_trans HY.out.1 HY.out.2.1) HFl.out.2 (by have := HK.out.2.1; omega)
          rw [← HK.out.2.1, ← HK.out.2.2.1] at this
          exact this
        have hj10 : j ≤ 40 := by have := HY.out.2.2; omega
        have hn10 : n ≤ 40 := HY.out.2.2
        clear cS0
        go_upto_region 12 with (fail)
        refine reg_inv34 (BtI w0 g M L O w.heap.size (w.heap.size + 1) w3.heap.size w4.heap.size Ax nx cx Ay ny cy AF nF cF AS nS cS n j x f s) (by kernel_rfl) (by kernel_rfl) ?_ ?_ ?_
        · refine ⟨u56, u57, u58, u59, u60, u61, u62, u63, u64, u65, u66, u67, u68, u69, u70, u71, .slice AS nS cS, [], ?_, ⟨by rw [List.append_nil]; exact HO.out.drew, ?_, ?_, ?_, ?_, ?_, ?_, ?_, ?_, ?_, ?_, ?_, ?_, ?_, ?_, ?_, ?_, fun _ => rfl, ?_⟩⟩
          · simp only [Act.put, List.setIfInBounds_toArray, List.set_cons_zero, List.set_cons_succ]
          all_goals (intro h; cases h)
        · rintro jj Ld b W hj hf hcl hd ⟨u0, u1, u2, u3, u4, u5, u6, u7, u8, u9, u10, u11, u12, u13, u14, u15, va, Ls, rfl, hC⟩
          have hj' : jj < 17 := hj
          have hcase : jj = 0 ∨ jj = 1 ∨ jj = 2 ∨ jj = 3 ∨ jj = 4 ∨ jj = 5 ∨ jj = 6 ∨ jj = 7 ∨ jj = 8 ∨ jj = 9 ∨ jj = 10 ∨ jj = 11 ∨ jj = 12 ∨ jj = 13 ∨ jj = 14 ∨ jj = 15 ∨ jj = 16 := by omega
          have q0 := hC.ow.p0 (O.length + 0) (by rw [get_r]; rfl)
          have qf := hC.ow.cell (M.length + 0) (by rw [get_r]; rfl)
          have qa := hC.ow.cell (M.length + 1) (by rw [get_r]; rfl)
          have qz := hC.ow.free (M.length + 1) (by rw [get_r]; rfl)
          have hjn := HB.out.jn
          clear hj hj'
          simp only [Act.put, List.setIfInBounds_toArray, List.set_cons_zero, List.set_cons_succ]
          rcases hcase with rfl | rfl | rfl | rfl | rfl | rfl | rfl | rfl | rfl | rfl | rfl | rfl | rfl | rfl | rfl | rfl | rfl
          · have g15 : Ld 15 = false := by cases e : Ld 15 with | false => rfl | true => (rw [hcl 15 0 e (by kernel_rfl)] at hf; cases hf)
            have g16 : Ld 16 = false := by cases e : Ld 16 with | false => rfl | true => (rw [hcl 16 15 e (by kernel_rfl)] at g15; cases g15)
            obtain rfl := hC.v0 g16
            clear hd hcl
            refine wpOp_step rfl (fun K hK => ?_)
            go_simp
            refine hK _ _ ⟨_, u1, u2, u3, u4, u5, u6, u7, u8, u9, u10, u11, u12, u13, u14, u15, _, Ls, ?_, ⟨hC.ow, fun _ => rfl, hC.h1, hC.h2, hC.h3, hC.h4, hC.h5, hC.h6, hC.h7, hC.h8, hC.h9, hC.h10, hC.h11, hC.h12, hC.h13, hC.h14, hC.h15, hC.v0, hC.v1⟩⟩
            simp only [Act.put, List.setIfInBounds_toArray, List.set_cons_zero, List.set_cons_succ]
          · clear hd hcl
            refine wpOp_step rfl (fun K hK => ?_)
            go_simp
            refine hK _ _ ⟨u0, _, u2, u3, u4, u5, u6, u7, u8, u9, u10, u11, u12, u13, u14, u15, va, Ls, ?_, ⟨hC.ow, hC.h0, fun _ => rfl, hC.h2, hC.h3, hC.h4, hC.h5, hC.h6, hC.h7, hC.h8, hC.h9, hC.h10, hC.h11, hC.h12, hC.h13, hC.h14, hC.h15, hC.v0, hC.v1⟩⟩
            simp only [Act.put, List.setIfInBounds_toArray, List.set_cons_zero, List.set_cons_succ]
          · clear hd hcl
            refine wpOp_step rfl (fun K hK => ?_)
            go_simp
            refine hK _ _ ⟨u0, u1, _, u3, u4, u5, u6, u7, u8, u9, u10, u11, u12, u13, u14, u15, va, Ls, ?_, ⟨hC.ow, hC.h0, hC.h1, fun _ => rfl, hC.h3, hC.h4, hC.h5, hC.h6, hC.h7, hC.h8, hC.h9, hC.h10, hC.h11, hC.h12, hC.h13, hC.h14, hC.h15, hC.v0, hC.v1⟩⟩
            simp only [Act.put, List.setIfInBounds_toArray, List.set_cons_zero, List.set_cons_succ]
          · obtain rfl := hC.h1 (hd 1 (by kernel_rfl))
            obtain rfl := hC.h2 (hd 2 (by kernel_rfl))
            clear hd hcl
            refine wpOp_step rfl (fun K hK => ?_)
            go_simp
            refine (t_choose hC.ow n j HB.out.n4096 HB.out.jmax).mono ?_
            rintro e W' ⟨Az, nz, cz, rfl, ho⟩
            rw [List.append_assoc (L ++ [(⟨AF, nF, cF, nats (Na.dig f)⟩ : Ob), (⟨AS, nS, cS, nats (Na.dig s)⟩ : Ob)]) Ls] at ho
            refine hK _ _ ⟨u0, _, _, _, u4, u5, u6, u7, u8, u9, u10, u11, u12, u13, u14, u15, va, _, ?_, ⟨ho, hC.h0, hC.h1, hC.h2, GN.new _ _ _ _ _ _ _, hC.h4, hC.h5, hC.h6, hC.h7.more, hC.h8, hC.h9, hC.h10, hC.h11, hC.h12.more, hC.h13.more, hC.h14.more, hC.h15.more, hC.v0, hC.v1.more⟩⟩
            simp only [Act.put, List.setIfInBounds_toArray, List.set_cons_zero, List.set_cons_succ]
          · clear hd hcl
            refine wpOp_step rfl (fun K hK => ?_)
            go_simp
            refine hK _ _ ⟨u0, u1, u2, u3, _, u5, u6, u7, u8, u9, u10, u11, u12, u13, u14, u15, va, Ls, ?_, ⟨hC.ow, hC.h0, hC.h1, hC.h2, hC.h3, fun _ => rfl, hC.h5, hC.h6, hC.h7, hC.h8, hC.h9, hC.h10, hC.h11, hC.h12, hC.h13, hC.h14, hC.h15, hC.v0, hC.v1⟩⟩
            simp only [Act.put, List.setIfInBounds_toArray, List.set_cons_zero, List.set_cons_succ]
          · obtain rfl := hC.h4 (hd 4 (by kernel_rfl))
            clear hd hcl
            refine wpOp_step rfl (fun K hK => ?_)
            go_simp
            refine hK _ _ ⟨u0, u1, u2, u3, _, _, u6, u7, u8, u9, u10, u11, u12, u13, u14, u15, va, Ls, ?_, ⟨hC.ow, hC.h0, hC.h1, hC.h2, hC.h3, hC.h4, fun _ => rfl, hC.h6, hC.h7, hC.h8, hC.h9, hC.h10, hC.h11, hC.h12, hC.h13, hC.h14, hC.h15, hC.v0, hC.v1⟩⟩
            simp only [Act.put, List.setIfInBounds_toArray, List.set_cons_zero, List.set_cons_succ]
          · clear hd hcl
            refine wpOp_step rfl (fun K hK => ?_)
            go_simp
            refine hK _ _ ⟨u0, u1, u2, u3, u4, u5, _, u7, u8, u9, u10, u11, u12, u13, u14, u15, va, Ls, ?_, ⟨hC.ow, hC.h0, hC.h1, hC.h2, hC.h3, hC.h4, hC.h5, fun _ => rfl, hC.h7, hC.h8, hC.h9, hC.h10, hC.h11, hC.h12, hC.h13, hC.h14, hC.h15, hC.v0, hC.v1⟩⟩
            simp only [Act.put, List.setIfInBounds_toArray, List.set_cons_zero, List.set_cons_succ]
          · obtain rfl := hC.h5 (hd 5 (by kernel_rfl))
            obtain rfl := hC.h6 (hd 6 (by kernel_rfl))
            clear hd hcl
            refine wpOp_step rfl (fun K hK => ?_)
            go_simp
            refine (t_power hC.ow i ((get_l _ _ (by have := get_lt HI1.out; rw [List.length_append]; omega)).trans ((get_l _ _ (get_lt HI1.out)).trans HI1.out)) HB.out.xt j HB.out.j4800 HB.out.xj).mono ?_
            rintro e W' ⟨Az, nz, cz, rfl, ho⟩
            rw [List.append_assoc (L ++ [(⟨AF, nF, cF, nats (Na.dig f)⟩ : Ob), (⟨AS, nS, cS, nats (Na.dig s)⟩ : Ob)]) Ls] at ho
            refine hK _ _ ⟨u0, u1, u2, u3, u4, _, _, _, u8, u9, u10, u11, u12, u13, u14, u15, va, _, ?_, ⟨ho, hC.h0, hC.h1, hC.h2, hC.h3.more, hC.h4, hC.h5, hC.h6, GN.new _ _ _ _ _ _ _, hC.h8, hC.h9, hC.h10, hC.h11, hC.h12.more, hC.h13.more, hC.h14.more, hC.h15.more, hC.v0, hC.v1.more⟩⟩
            simp only [Act.put, List.setIfInBounds_toArray, List.set_cons_zero, List.set_cons_succ]
          · clear hd hcl
            refine wpOp_step rfl (fun K hK => ?_)
            go_simp
            refine hK _ _ ⟨u0, u1, u2, u3, u4, u5, u6, u7, _, u9, u10, u11, u12, u13, u14, u15, va, Ls, ?_, ⟨hC.ow, hC.h0, hC.h1, hC.h2, hC.h3, hC.h4, hC.h5, hC.h6, hC.h7, fun _ => rfl, hC.h9, hC.h10, hC.h11, hC.h12, hC.h13, hC.h14, hC.h15, hC.v0, hC.v1⟩⟩
            simp only [Act.put, List.setIfInBounds_toArray, List.set_cons_zero, List.set_cons_succ]
          · clear hd hcl
            refine wpOp_step rfl (fun K hK => ?_)
            go_simp
            refine hK _ _ ⟨u0, u1, u2, u3, u4, u5, u6, u7, u8, _, u10, u11, u12, u13, u14, u15, va, Ls, ?_, ⟨hC.ow, hC.h0, hC.h1, hC.h2, hC.h3, hC.h4, hC.h5, hC.h6, hC.h7, hC.h8, fun _ => rfl, hC.h10, hC.h11, hC.h12, hC.h13, hC.h14, hC.h15, hC.v0, hC.v1⟩⟩
            simp only [Act.put, List.setIfInBounds_toArray, List.set_cons_zero, List.set_cons_succ]
          · clear hd hcl
            refine wpOp_step rfl (fun K hK => ?_)
            go_simp
            refine hK _ _ ⟨u0, u1, u2, u3, u4, u5, u6, u7, u8, u9, _, u11, u12, u13, u14, u15, va, Ls, ?_, ⟨hC.ow, hC.h0, hC.h1, hC.h2, hC.h3, hC.h4, hC.h5, hC.h6, hC.h7, hC.h8, hC.h9, fun _ => rfl, hC.h11, hC.h12, hC.h13, hC.h14, hC.h15, hC.v0, hC.v1⟩⟩
            simp only [Act.put, List.setIfInBounds_toArray, List.set_cons_zero, List.set_cons_succ]
          · obtain rfl := hC.h9 (hd 9 (by kernel_rfl))
            obtain rfl := hC.h10 (hd 10 (by kernel_rfl))
            have hw : IntKind.i64.wrap ((n : Int) - (j : Int)) = (n : Int) - (j : Int) := IntWalk.i64_in _ (by omega)
            clear hd hcl
            refine wpOp_step rfl (fun K hK => ?_)
            go_simp
            refine hK _ _ ⟨u0, u1, u2, u3, u4, u5, u6, u7, u8, _, _, _, u12, u13, u14, u15, va, Ls, ?_, ⟨hC.ow, hC.h0, hC.h1, hC.h2, hC.h3, hC.h4, hC.h5, hC.h6, hC.h7, hC.h8, hC.h9, hC.h10, fun _ => rfl, hC.h12, hC.h13, hC.h14, hC.h15, hC.v0, hC.v1⟩⟩
            simp only [Act.put, List.setIfInBounds_toArray, List.set_cons_zero, List.set_cons_succ]
          · obtain rfl := hC.h8 (hd 8 (by kernel_rfl))
            obtain rfl := hC.h11 (hd 11 (by kernel_rfl))
            clear hd hcl
            refine wpOp_step rfl (fun K hK => ?_)
            go_simp
            refine (t_power_sub hC.ow (L.length + 0) ((get_l _ _ (by simp)).trans ((get_r _ _ 0).trans rfl)) HB.out.ft n j HB.out.jn HB.out.n4800 HB.out.fj).mono ?_
            rintro e W' ⟨Az, nz, cz, rfl, ho⟩
            rw [List.append_assoc (L ++ [(⟨AF, nF, cF, nats (Na.dig f)⟩ : Ob), (⟨AS, nS, cS, nats (Na.dig s)⟩ : Ob)]) Ls] at ho
            refine hK _ _ ⟨u0, u1, u2, u3, u4, u5, u6, u7, _, u9, u10, _, _, u13, u14, u15, va, _, ?_, ⟨ho, hC.h0, hC.h1, hC.h2, hC.h3.more, hC.h4, hC.h5, hC.h6, hC.h7.more, hC.h8, hC.h9, hC.h10, hC.h11, GN.new _ _ _ _ _ _ _, hC.h13.more, hC.h14.more, hC.h15.more, hC.v0, hC.v1.more⟩⟩
            simp only [Act.put, List.setIfInBounds_toArray, List.set_cons_zero, List.set_cons_succ]
          · obtain ⟨t3, A3, n3, c3, rfl, r3⟩ := hC.h3 (hd 3 (by kernel_rfl))
            have R3 : (L ++ [(⟨AF, nF, cF, nats (Na.dig f)⟩ : Ob), (⟨AS, nS, cS, nats (Na.dig s)⟩ : Ob)] ++ Ls)[(L ++ [(⟨AF, nF, cF, nats (Na.dig f)⟩ : Ob), (⟨AS, nS, cS, nats (Na.dig s)⟩ : Ob)]).length + t3]? = some ⟨A3, n3, c3, nats (Na.dig (Na.bin n j))⟩ := (get_r _ _ _).trans r3
            obtain ⟨t7, A7, n7, c7, rfl, r7⟩ := hC.h7 (hd 7 (by kernel_rfl))
            have R7 : (L ++ [(⟨AF, nF, cF, nats (Na.dig f)⟩ : Ob), (⟨AS, nS, cS, nats (Na.dig s)⟩ : Ob)] ++ Ls)[(L ++ [(⟨AF, nF, cF, nats (Na.dig f)⟩ : Ob), (⟨AS, nS, cS, nats (Na.dig s)⟩ : Ob)]).length + t7]? = some ⟨A7, n7, c7, nats (Na.dig (x ^ j))⟩ := (get_r _ _ _).trans r7
            obtain ⟨t12, A12, n12, c12, rfl, r12⟩ := hC.h12 (hd 12 (by kernel_rfl))
            have R12 : (L ++ [(⟨AF, nF, cF, nats (Na.dig f)⟩ : Ob), (⟨AS, nS, cS, nats (Na.dig s)⟩ : Ob)] ++ Ls)[(L ++ [(⟨AF, nF, cF, nats (Na.dig f)⟩ : Ob), (⟨AS, nS, cS, nats (Na.dig s)⟩ : Ob)]).length + t12]? = some ⟨A12, n12, c12, nats (Na.dig (f ^ (n - j)))⟩ := (get_r _ _ _).trans r12
            clear hd hcl
            refine wpOp_step rfl (fun K hK => ?_)
            go_simp
            have ho := hC.ow.push (World.ownsRow_lit (base := W.heap.size) (e := 24) (size := 1) W #[.slice A3 n3 c3, .slice A7 n7 c7, .slice A12 n12 c12] 3 (Nat.le_refl _) (by decide) rfl) (by omega) (own_box1 _ _)
            rw [List.append_assoc (L ++ [(⟨AF, nF, cF, nats (Na.dig f)⟩ : Ob), (⟨AS, nS, cS, nats (Na.dig s)⟩ : Ob)]) Ls] at ho
            refine hK _ _ ⟨u0, u1, u2, _, u4, u5, u6, _, u8, u9, u10, u11, _, _, u14, u15, va, _, ?_, ⟨ho, hC.h0, hC.h1, hC.h2, hC.h3.more, hC.h4, hC.h5, hC.h6, hC.h7.more, hC.h8, hC.h9, hC.h10, hC.h11, hC.h12.more, GL.new _ _ _ _ _ _ _ (Nums.three R3 R7 R12), hC.h14.more, hC.h15.more, hC.v0, hC.v1.more⟩⟩
            simp only [Act.put, List.setIfInBounds_toArray, List.set_cons_zero, List.set_cons_succ]
          · obtain ⟨t13, A13, vs13, rfl, r13, m13⟩ := hC.h13 (hd 13 (by kernel_rfl))
            have R13 : (L ++ [(⟨AF, nF, cF, nats (Na.dig f)⟩ : Ob), (⟨AS, nS, cS, nats (Na.dig s)⟩ : Ob)] ++ Ls)[(L ++ [(⟨AF, nF, cF, nats (Na.dig f)⟩ : Ob), (⟨AS, nS, cS, nats (Na.dig s)⟩ : Ob)]).length + t13]? = some ⟨A13, 3, 3, vs13⟩ := (get_r _ _ _).trans r13
            clear hd hcl
            refine wpOp_step rfl (fun K hK => ?_)
            go_simp
            refine (t_times3 hC.ow _ R13 m13 HB.out.b1 HB.out.xj HB.out.fj HB.out.b4 HB.out.b5).mono ?_
            rintro e W' ⟨Az, nz, cz, rfl, ho⟩
            rw [List.append_assoc (L ++ [(⟨AF, nF, cF, nats (Na.dig f)⟩ : Ob), (⟨AS, nS, cS, nats (Na.dig s)⟩ : Ob)]) Ls] at ho
            refine hK _ _ ⟨u0, u1, u2, u3, u4, u5, u6, u7, u8, u9, u10, u11, u12, _, _, u15, va, _, ?_, ⟨ho, hC.h0, hC.h1, hC.h2, hC.h3.more, hC.h4, hC.h5, hC.h6, hC.h7.more, hC.h8, hC.h9, hC.h10, hC.h11, hC.h12.more, hC.h13.more, GN.new _ _ _ _ _ _ _, hC.h15.more, hC.v0, hC.v1.more⟩⟩
            simp only [Act.put, List.setIfInBounds_toArray, List.set_cons_zero, List.set_cons_succ]
          · obtain rfl := hC.h0 (hd 0 (by kernel_rfl))
            obtain ⟨t14, A14, n14, c14, rfl, r14⟩ := hC.h14 (hd 14 (by kernel_rfl))
            have R14 : (L ++ [(⟨AF, nF, cF, nats (Na.dig f)⟩ : Ob), (⟨AS, nS, cS, nats (Na.dig s)⟩ : Ob)] ++ Ls)[(L ++ [(⟨AF, nF, cF, nats (Na.dig f)⟩ : Ob), (⟨AS, nS, cS, nats (Na.dig s)⟩ : Ob)]).length + t14]? = some ⟨A14, n14, c14, nats (Na.dig (Na.bin n j * (x ^ j * f ^ (n - j))))⟩ := (get_r _ _ _).trans r14
            clear hd hcl
            refine wpOp_step rfl (fun K hK => ?_)
            go_simp
            refine (t_sum hC.ow (L.length + 1) _ ((get_l _ _ (by simp)).trans ((get_r _ _ 1).trans rfl)) R14 HB.out.st HB.out.b5 HB.out.bs).mono ?_
            rintro e W' ⟨Az, nz, cz, rfl, ho⟩
            rw [List.append_assoc (L ++ [(⟨AF, nF, cF, nats (Na.dig f)⟩ : Ob), (⟨AS, nS, cS, nats (Na.dig s)⟩ : Ob)]) Ls] at ho
            refine hK _ _ ⟨_, u1, u2, u3, u4, u5, u6, u7, u8, u9, u10, u11, u12, u13, _, _, va, _, ?_, ⟨ho, hC.h0, hC.h1, hC.h2, hC.h3.more, hC.h4, hC.h5, hC.h6, hC.h7.more, hC.h8, hC.h9, hC.h10, hC.h11, hC.h12.more, hC.h13.more, hC.h14.more, GN.new _ _ _ _ _ _ _, hC.v0, hC.v1.more⟩⟩
            simp only [Act.put, List.setIfInBounds_toArray, List.set_cons_zero, List.set_cons_succ]
          · obtain ⟨t15, A15, n15, c15, rfl, r15⟩ := hC.h15 (hd 15 (by kernel_rfl))
            have R15 : (L ++ [(⟨AF, nF, cF, nats (Na.dig f)⟩ : Ob), (⟨AS, nS, cS, nats (Na.dig s)⟩ : Ob)] ++ Ls)[(L ++ [(⟨AF, nF, cF, nats (Na.dig f)⟩ : Ob), (⟨AS, nS, cS, nats (Na.dig s)⟩ : Ob)]).length + t15]? = some ⟨A15, n15, c15, nats (Na.dig (s + Na.bin n j * (x ^ j * f ^ (n - j))))⟩ := (get_r _ _ _).trans r15
            clear hd hcl
            refine wpOp_step rfl (fun K hK => ?_)
            go_simp
            have ho := hC.ow.setv (M.length + 1) (by rw [get_r]; rfl) (.slice A15 n15 c15)
            rw [set_r, List.set_cons_succ, List.set_cons_zero] at ho
            refine hK _ _ ⟨u0, u1, u2, u3, u4, u5, u6, u7, u8, u9, u10, u11, u12, u13, u14, _, _, Ls, ?_, ⟨ho, hC.h0, hC.h1, hC.h2, hC.h3, hC.h4, hC.h5, hC.h6, hC.h7, hC.h8, hC.h9, hC.h10, hC.h11, hC.h12, hC.h13, hC.h14, hC.h15, fun e => absurd (show true = false from e) (by decide), fun _ => ⟨t15, A15, n15, c15, rfl, r15⟩⟩⟩
            simp only [Act.put, List.setIfInBounds_toArray, List.set_cons_zero, List.set_cons_succ]
        · rintro Ld b W hL ⟨u0, u1, u2, u3, u4, u5, u6, u7, u8, u9, u10, u11, u12, u13, u14, u15, va, Ls, rfl, hC⟩
          obtain ⟨tz, Az, nz, cz, rfl, rz⟩ := hC.v1 (hL 16 (by show 16 < 17; decide))
          have e9 : s + Na.bin n j * (x ^ j * f ^ (n - j)) = sumB n x f 0 (k + 1) := by rw [HK.out.2.2.1, HK.out.2.1]; rfl
          have HG := Lib.hid (hC.ow.less (L' := L ++ [⟨AF, nF, cF, nats (Na.dig f)⟩, ⟨Az, nz, cz, nats (Na.dig (s + Na.bin n j * (x ^ j * f ^ (n - j))))⟩]) (fun o ho => by
            simp only [List.mem_append, List.mem_cons, List.mem_nil_iff, or_false] at ho ⊢
            rcases ho with h | h | h
            · exact .inl (.inl h)
            · exact .inl (.inr (.inl h))
            · exact .inr (h ▸ List.mem_of_getElem? rz)))
          have HE9 := Lib.hid e9
          clear hL hC rz HO HB e9
          simp only [Act.put, List.setIfInBounds_toArray, List.set_cons_zero, List.set_cons_succ]
          go_wp2_with fail
          go_roundw
          case rel => exact ⟨k + 1, j + 1, s + Na.bin n j * (x ^ j * f ^ (n - j)), Az, nz, cz, ⟨.inl (by have := HK.out.2.1; omega), by have := HK.out.2.1; omega, HE9.out, by omega⟩, int_eqv (by omega), HG⟩
          case measure => simp [intOf]; omega
end
end Go.Proofs.YtjhaogbopmhkoaaDoor
