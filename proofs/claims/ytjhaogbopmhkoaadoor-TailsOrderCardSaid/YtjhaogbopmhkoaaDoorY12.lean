/- Rn -/
import Derived.Test.YtjhaogbopmhkoaaDoorY02
import Derived.Test.YtjhaogbopmhkoaaDoorY05
import Derived.Test.YtjhaogbopmhkoaaDoorY11
namespace Go.Proofs.YtjhaogbopmhkoaaDoor
open Go.RowKit Go.Sort
set_option linter.unusedVariables false
set_option maxRecDepth 100000
def ROf (w : World) (M : List (Nat × Value)) (m : Nat) (v s : Value) (wr : World) : Prop :=
  ∃ (x : Nat) (A : Option Addr) (k c : Nat) (d : List Nat), x ≤ m ∧ v = .int .i64 (x : Int) ∧ s = .slice A k c ∧ k ≤ 3 ∧ Hid (Na.dig m = d ++ Na.dig x ∧ d.length = k) ∧ Hid (Ow w wr none M [] [⟨A, k, c, 3, nats d⟩])
set_option maxHeartbeats 1000000 in
theorem nrof_any (m : Int) (w : World) (hm : m ≤ 9223372036854775807) : Calls Tryd.prog 53 #[.int .i64 m] w (ResN w (ofL m) (ofE m)) := by
  have H0 := (Ow.of (St.refl w)).boxed (.slice none 0 0) 24
  simp only [List.nil_append] at H0
  by_cases h : m < 0
  · have HR : Hid (ofL m = []) := if_pos h
    have HE : Hid (ofE m = 2) := if_pos h
    have hc0 := H0.cell 0 rfl
    have hf0 := H0.free 0 rfl
    go_enter Tryd.func53, Tryd.ntmps53
    go_wp2_with fail
    refine bodyPost_ret (v := .tuple #[.agg #[.slice none 0 0], .int .i64 2]) (by simp [results, Tryd.results53, go_sem]) rfl ?_
    rw [HR.out, HE.out]
    exact resN_nil _ _ _ H0.below
  · have h' : 0 ≤ m := by omega
    obtain ⟨m0, rfl⟩ := Int.eq_ofNat_of_zero_le h'
    have HR : Hid (ofL m0 = Na.dig m0) := if_neg (by omega)
    have HE : Hid (ofE m0 = 0) := if_neg (by omega)
    have hlen : (Na.dig m0).length ≤ 3 := Na.dig_len_le (Nat.lt_of_le_of_lt (show m0 ≤ 9223372036854775807 by omega) (by decide))
    have HH := Lib.hid (H0.nil 3)
    clear h H0
    rw [HR.out, HE.out]
    go_enter Tryd.func53, Tryd.ntmps53
    go_wp2_with fail
    go_loopw [0, 4] (fun v s wr => ROf w [(w.heap.size, .slice none 0 0)] m0 v s wr) (fun v _ _ => (intOf v).toNat)
    case atStart => exact ⟨m0, none, 0, 0, [], Nat.le_refl _, rfl, rfl, by omega, ⟨rfl, rfl⟩, HH.out⟩
    case round =>
      obtain ⟨x, A, k, c, d, hx, rfl, rfl, hk, HD, HO⟩ := hrel
      rcases Nat.eq_zero_or_pos x with rfl | h0
      · have hd : Na.dig m0 = d := by rw [HD.out.1, Na.dig_zero, List.append_nil]
        have hc0 := HO.out.cell 0 rfl
        have hf0 := HO.out.free 0 rfl
        have HDD := Lib.hid hd
        clear hd
        go_wp2_with fail
        have G := HO.out.setv 0 rfl (.slice A k c)
        have hc1 := G.cell 0 rfl
        refine bodyPost_ret (v := .tuple #[.agg #[.slice A k c], .int .i64 0]) (by simp [results, Tryd.results53, go_sem, hc1]) rfl ?_
        rw [HDD.out]
        exact resN_of G 0 rfl 0
      · have hdx := Na.dig_pos x h0
        have hdl : k + 1 ≤ 3 := by
          have h1 := congrArg List.length HD.out.1
          rw [List.length_append, hdx, List.length_cons, HD.out.2] at h1
          omega
        have HD2 : Hid (Na.dig m0 = (d ++ [x % 16777216]) ++ Na.dig (x / 16777216)) := by
          unfold Hid
          rw [HD.out.1, hdx, List.append_assoc]
          rfl
        clear hdx
        have hmod : (x : Int) % 16777216 = ((x % 16777216 : Nat) : Int) := by omega
        have hdiv : (x : Int) / 16777216 = ((x / 16777216 : Nat) : Int) := by omega
        obtain ⟨r, hr⟩ : ∃ r, x % 16777216 = r := ⟨_, rfl⟩
        obtain ⟨q, hq⟩ : ∃ q, x / 16777216 = q := ⟨_, rfl⟩
        rw [hr] at hmod HD2
        rw [hq] at hdiv HD2
        have hqx : q < x := by omega
        have HL : Hid ((d ++ [r]).length = k + 1) := by unfold Hid; rw [List.length_append, HD.out.2]; rfl
        have hd : decide (0 < (x : Int)) = true := decide_eq_true (by omega)
        clear hr hq
        go_wp2_with (at_builtin; refine ow_append1 elemI HO.out 0 (.tmp 12) (.tmp 15) _ _ rfl rfl (by unfold maxLen; omega) (by omega) rfl rfl rfl rfl ?_; intro A' c' w8 how)
        go_roundw
        case rel =>
          rw [nats_snoc] at how
          exact ⟨q, A', k + 1, c', d ++ [r], by omega, (by first | rfl | exact int_eqv hdiv), rfl, hdl, ⟨HD2.out, HL.out⟩, how⟩
        case measure => simp [intOf]; omega
section
variable {w0 w w' : World} {g : Option Nat} {M : List (Nat × Value)} {L : List Ob} {O : List Rw} {A A2 : Option Addr} {n c m c2 x y : Nat}
/-- fewer variables and lists are looked at -/
theorem Ow.few2 (h : Ow w0 w g M L O) {M' : List (Nat × Value)} {L' : List Ob} (hM : M' = M.take M'.length) (hL : ∀ o ∈ L', o ∈ L) : Ow w0 w g M' L' O := by
  have key : ∀ (i : Nat) (p : Nat × Value), M'[i]? = some p → M[i]? = some p := fun i p hp => by
    rw [hM, List.getElem?_take] at hp
    split at hp
    · exact hp
    · cases hp
  exact ⟨h.st.sub (fun p hp => by
      obtain ⟨i, hi⟩ := List.mem_iff_getElem?.1 hp
      exact List.mem_of_getElem? (key i p hi)) (fun i j b u v hi hj => h.st.one i j b u v (key i _ hi) (key j _ hj)) hL, h.own, fun i r hi b hb => ⟨(h.ap i r hi b hb).1, fun j k v hj => (h.ap i r hi b hb).2.1 j k v (key j _ hj), fun o ho => (h.ap i r hi b hb).2.2 o (hL o ho)⟩, h.two⟩
theorem Ow.push2 (h : Ow w0 w g M L O) {B1 B2 : Option Addr} {n1 d1 n2 d2 : Nat} {us vs : List Value} {e : TypeId} (ho : w'.ownsRow w.heap.size e 1 (.slice B1 n1 d1) n1 us) (ho2 : w'.ownsRow w.heap.size e 1 (.slice B2 n2 d2) n2 vs) (hl : n1 ≤ 1000) (hl2 : n2 ≤ 1000) (hb : Below w.heap.size w w') : Ow w0 w' g M (L ++ [⟨B1, n1, d1, us⟩] ++ [⟨B2, n2, d2, vs⟩]) O := by
  have h' := h.go hb
  have new : ∀ {B : Option Addr} {n d : Nat} {xs : List Value}, w'.ownsRow w.heap.size e 1 (.slice B n d) n xs → ∀ ad, B = some ad → 0 < n → w.heap.size ≤ ad.block := fun ho ad ea h0 => by
    obtain ⟨gb, hg, h1, _⟩ := own_form ho h0
    rw [ea] at hg
    obtain rfl := Option.some.inj hg
    exact h1
  refine ⟨h.st.push2 ho ho2 hl hl2 hb, h'.own, fun i r hi b hbk => ⟨(h'.ap i r hi b hbk).1, (h'.ap i r hi b hbk).2.1, fun o hm ad ea h0 => ?_⟩, h'.two⟩
  have hlt := (h.lt hi hbk).1
  rcases List.mem_append.1 hm with hm | hm
  · rcases List.mem_append.1 hm with hm | hm
    · exact (h'.ap i r hi b hbk).2.2 o hm ad ea h0
    · rw [List.mem_singleton] at hm
      subst hm
      have := new ho ad ea h0
      omega
  · rw [List.mem_singleton] at hm
    subst hm
    have := new ho2 ad ea h0
    omega
theorem rof_ow (h : Ow w0 w g M L O) (v : Nat) (hv : v ≤ 9223372036854775807) : Calls Tryd.prog 53 #[.int .i64 (v : Int)] w fun e w' => ∃ (A' : Option Addr) (n' c' : Nat), e = .returned (.tuple #[.agg #[.slice A' n' c'], .int .i64 0]) ∧ (Na.dig v).length = n' ∧ Ow w0 w' g M (L ++ [⟨A', n', c', nats (Na.dig v)⟩]) O := by
  have e1 : ofL (v : Int) = Na.dig v := if_neg (by omega)
  have e2 : ofE (v : Int) = 0 := if_neg (by omega)
  have hr := nrof_any (v : Int) w (by omega)
  rw [e1, e2] at hr
  exact hr.mono fun en w' hr => h.pushN hr (Nat.le_trans (Na.dig_len_le (n := 3) (Nat.lt_of_le_of_lt hv (by decide))) (by omega))
theorem rdivide_ow (h : Ow w0 w g M L O) (i j : Nat) (hi : L[i]? = some ⟨A, n, c, nats (Na.dig x)⟩) (hj : L[j]? = some ⟨A2, m, c2, nats (Na.dig y)⟩) (hx : x < Na.top) (hy : y < Na.top) (hy0 : 0 < y) :
    Calls Tryd.prog 95 #[.agg #[.slice A n c], .agg #[.slice A2 m c2]] w fun e w' => ∃ (A1 : Option Addr) (n1 c1 : Nat) (A2 : Option Addr) (n2 c2 : Nat), e = .returned (.tuple #[.agg #[.slice A1 n1 c1], .agg #[.slice A2 n2 c2], .int .i64 0]) ∧ Ow w0 w' g M ((L ++ [⟨A1, n1, c1, nats (Na.dig (x / y))⟩]) ++ [⟨A2, n2, c2, nats (Na.dig (x % y))⟩]) O := by
  obtain ⟨h1, h2, h3, h4⟩ := h.sl hi
  obtain ⟨k1, k2, k3, k4⟩ := h.sl hj
  rw [nats_length] at h1 k1
  have l1 : (Na.dig (x / y)).length ≤ 200 := (Na.dig_200 _).2 (Nat.lt_of_le_of_lt (Nat.div_le_self _ _) hx)
  have l2 : (Na.dig (x % y)).length ≤ 200 := (Na.dig_200 _).2 (Nat.lt_of_le_of_lt (Nat.mod_le _ _) hx)
  exact (nrdivide_ok A A2 n c m c2 x y w h1 k1 h2 k2 h4 k4 hx hy hy0).mono fun en w' ⟨A1, n1, c1, A3, n2, c3, he, e1, e2, o1, o2, hb⟩ =>
    ⟨A1, n1, c1, A3, n2, c3, he, h.push2 o1 o2 (by omega) (by omega) hb⟩
end

def RGcd (w : World) (B : Nat) (x y : Nat) (k : Nat) (wr : World) : Prop :=
  ∃ (X Y : Nat) (A1 : Option Addr) (n1 c1 : Nat) (A2 : Option Addr) (n2 c2 : Nat), n1 ≤ 200 ∧ n2 ≤ 200 ∧ Hid (Nat.gcd X Y = Nat.gcd x y ∧ Y = k ∧ X < Na.top ∧ Y < Na.top) ∧ Hid (Ow w wr none [(B, .slice A1 n1 c1), (B + 1, .slice A2 n2 c2), (B + 1 + 1, .slice none 0 0)] [⟨A1, n1, c1, nats (Na.dig X)⟩, ⟨A2, n2, c2, nats (Na.dig Y)⟩] [])
set_option maxHeartbeats 4000000 in
theorem nrgcd_ok (A A2 : Option Addr) (n c m c2 x y : Nat) (w : World) (hn : (Na.dig x).length = n) (hm : (Na.dig y).length = m) (hnc : n ≤ c) (hmc : m ≤ c2) (hs : Sl w w.heap.size A (nats (Na.dig x))) (hs2 : Sl w w.heap.size A2 (nats (Na.dig y))) (hx : x < Na.top) (hy : y < Na.top) :
    Calls Tryd.prog 63 #[.agg #[.slice A n c], .agg #[.slice A2 m c2]] w (ResN w (Na.dig (Nat.gcd x y)) 0) := by
  have hn2 : n ≤ 200 := by rw [← hn]; exact (Na.dig_200 x).2 hx
  have hm2 : m ≤ 200 := by rw [← hm]; exact (Na.dig_200 y).2 hy
  have H0 := (((((Ow.of (St.refl w)).old hs (by rw [nats_length]; exact hn) hnc (by omega)).old hs2 (by rw [nats_length]; exact hm) hmc (by omega)).boxed (.slice A n c) 24).boxed (.slice A2 m c2) 24).boxed (.slice none 0 0) 24
  simp only [World.size_alloc, List.nil_append, List.cons_append] at H0
  have hc0 := H0.cell 0 rfl
  have HH := Lib.hid (rvalid_ok H0 0 rfl hx)
  have HX := Lib.hid hx
  have HY := Lib.hid hy
  clear hn hm hs hs2 H0 hx hy
  go_enter Tryd.func63, Tryd.ntmps63
  go_wp2_with fail
  refine HH.out.mono ?_
  rintro e w1 ⟨rfl, H1⟩
  have hc1 := H1.cell 1 rfl
  have HK := Lib.hid (rvalid_ok H1 1 rfl HY.out)
  clear hc0 HH H1
  go_wp2_with fail
  refine HK.out.mono ?_
  rintro e w2 ⟨rfl, H2⟩
  have HI := Lib.hid H2
  clear HK H2 hc1
  go_wp2_with fail
  go_loopg [] y (fun k wr => RGcd w w.heap.size x y k wr)
  case atStart => exact ⟨x, y, A, n, c, A2, m, c2, hn2, hm2, ⟨rfl, rfl, HX.out, HY.out⟩, HI.out⟩
  case round =>
    clear HI
    obtain ⟨X, Y, A1, n1, c1, A3, n3, c3, hn1, hn3, HP, HO⟩ := hrel
    have hc0 := HO.out.cell 0 rfl
    have hc1 := HO.out.cell 1 rfl
    have hl3 := (HO.out.sl (i := 1) rfl).1
    rw [nats_length] at hl3
    rcases Nat.eq_zero_or_pos n3 with h0 | h0
    · subst h0
      have hY0 := Na.dig_len0.1 hl3
      have hG : Nat.gcd x y = X := by rw [← HP.out.1, hY0, Nat.gcd_zero_right]
      have HG := Lib.hid hG
      have HN := Lib.hid (HO.out.nil 3)
      have hQ := Lib.hid (HN.out.sl (i := 0) rfl)
      have hc2 := HO.out.cell 2 rfl
      clear hl3 hY0 hG HO
      go_wp2_with (at_builtin; refine ow_append elemI HN.out 0 (.const (.slice none 0 0)) (.tmp 32) rfl hQ.out.1 hQ.out.2.2.2 (nats_one _) (by unfold maxLen; omega) (by omega) rfl rfl rfl rfl ?_; intro A' c' w3 how; have hs2 := how.cell 2 rfl; have hs2f := how.free 2 rfl)
      have G := how.setv 2 rfl (.slice A' (0 + n1) c')
      have hc3 := G.cell 2 rfl
      simp only [Nat.zero_add] at G hc3
      refine bodyPost_ret (v := .tuple #[.agg #[.slice A' n1 c'], .int .i64 0]) (by simp [results, Tryd.results63, go_sem, hc3]) rfl ?_
      rw [HG.out]
      exact resN_of G 0 rfl 0
    · have hY0 : 0 < Y := by
        rcases Nat.eq_zero_or_pos Y with e | e
        · rw [e, Na.dig_zero] at hl3; simp at hl3; omega
        · exact e
      have hd : decide (0 < (n3 : Int)) = true := decide_eq_true (by omega)
      have HD := Lib.hid (rdivide_ow HO.out 0 1 rfl rfl HP.out.2.2.1 HP.out.2.2.2 hY0)
      have HYp := Lib.hid hY0
      have hn0 : (0 : Int) < (n3 : Int) := by omega
      clear hl3 hY0 HO h0
      go_wp2_with fail
      refine HD.out.mono ?_
      rintro e w3 ⟨B1, m1, d1, B2, m2, d2, rfl, H3⟩
      have H4 := (H3.boxed (.slice B1 m1 d1) 24).boxed (.slice B2 m2 d2) 24
      simp only [World.size_alloc, List.nil_append, List.cons_append] at H4
      clear hc0 hc1 HD H3
      go_upto_region 5 with (fail)
      obtain ⟨w4, hw4⟩ : ∃ w4, (w3.alloc (.cells #[.slice B1 m1 d1] 24)).alloc (.cells #[.slice B2 m2 d2] 24) = w4 := ⟨_, rfl⟩
      rw [hw4] at H4 ⊢
      clear hw4
      have k1 := H4.cell 1 rfl
      have k4 := H4.cell 4 rfl
      have q0 := H4.cell 0 rfl
      have q0f := H4.free 0 rfl
      have G1 := H4.setv 0 rfl (.slice A3 n3 c3)
      have q1 := G1.cell 1 rfl
      have q1f := G1.free 1 rfl
      have q4 := G1.cell 4 rfl
      have G2 := G1.setv 1 rfl (.slice B2 m2 d2)
      have hl2 := (G2.sl (i := 3) rfl).1
      rw [nats_length] at hl2
      have HM2 : Hid (m2 ≤ 200) := by unfold Hid; rw [← hl2]; exact (Na.dig_200 _).2 (Nat.lt_of_le_of_lt (Nat.mod_le _ _) HP.out.2.2.1)
      have HF := Lib.hid (G2.drew.few2 (M' := [(w.heap.size, .slice A3 n3 c3), (w.heap.size + 1, .slice B2 m2 d2), (w.heap.size + 1 + 1, .slice none 0 0)]) (L' := [⟨A3, n3, c3, nats (Na.dig Y)⟩, ⟨B2, m2, d2, nats (Na.dig (X % Y))⟩]) rfl (fun o ho => by simp only [List.mem_cons, List.not_mem_nil, or_false] at ho ⊢; rcases ho with rfl | rfl <;> simp))
      have HGn : Hid (Nat.gcd Y (X % Y) = Nat.gcd x y ∧ X % Y < Y ∧ X % Y < Na.top) := ⟨by rw [← HP.out.1, Nat.gcd_comm X Y, Nat.gcd_rec Y X, Nat.gcd_comm], Nat.mod_lt _ HYp.out, Nat.lt_of_le_of_lt (Nat.mod_le _ _) HP.out.2.2.1⟩
      clear H4 G1 G2 hl2
      go_region
      all_goals
        clear k1 k4 q0 q0f q1 q1f q4
        go_wp2_with fail
        go_roundg (X % Y)
        case measure => have := HP.out.2.1; have := HGn.out.2.1; omega
        case rel => exact ⟨Y, X % Y, A3, n3, c3, B2, m2, d2, hn3, HM2.out, ⟨HGn.out.1, rfl, HP.out.2.2.2, HGn.out.2.2⟩, HF.out⟩
end Go.Proofs.YtjhaogbopmhkoaaDoor

namespace Go.Proofs.YtjhaogbopmhkoaaDoor
open Go.RowKit Go.Sort
set_option linter.unusedVariables false
set_option maxRecDepth 100000
theorem nrgcd_bad (A A2 : Option Addr) (n c m c2 : Nat) (zs ys : List Int) (w : World) (hn : zs.length = n) (hm : ys.length = m) (hnc : n ≤ c) (hmc : m ≤ c2) (hs : Sl w w.heap.size A (ints zs)) (hs2 : Sl w w.heap.size A2 (ints ys)) (hl : n ≤ 1000) (hl2 : m ≤ 1000) (hv : (Na.vld zs && Na.vld ys) = false) :
    Calls Tryd.prog 63 #[.agg #[.slice A n c], .agg #[.slice A2 m c2]] w (ResN w [] 1) := by
  have H0 := (((((Ow.of (St.refl w)).old hs (by rw [ints_length]; exact hn) hnc hl).old hs2 (by rw [ints_length]; exact hm) hmc hl2).boxed (.slice A n c) 24).boxed (.slice A2 m c2) 24).boxed (.slice none 0 0) 24
  simp only [World.size_alloc, List.nil_append, List.cons_append] at H0
  have hc0 := H0.cell 0 rfl
  have HH := Lib.hid (rvalid_ow H0 0 rfl)
  clear hn hm hs hs2 H0
  cases h1 : Na.vld zs
  · rw [h1] at HH
    go_enter Tryd.func63, Tryd.ntmps63
    go_wp2_with fail
    refine HH.out.mono ?_
    rintro e w1 ⟨rfl, H1⟩
    have hc2 := H1.cell 2 rfl
    have hf2 := H1.free 2 rfl
    clear hc0 HH
    go_wp2_with fail
    have H2 := H1.setv 2 rfl (.slice none 0 0)
    have hc3 := H2.cell 2 rfl
    refine bodyPost_ret (v := .tuple #[.agg #[.slice none 0 0], .int .i64 1]) (by simp [results, Tryd.results63, go_sem, hc3]) rfl ?_
    exact resN_nil _ _ _ H2.below
  · rw [h1, Bool.true_and] at hv
    rw [h1] at HH
    go_enter Tryd.func63, Tryd.ntmps63
    go_wp2_with fail
    refine HH.out.mono ?_
    rintro e w1 ⟨rfl, H1⟩
    have hc1 := H1.cell 1 rfl
    have HK := Lib.hid (rvalid_ow H1 1 rfl)
    rw [hv] at HK
    clear hc0 HH H1
    go_wp2_with fail
    refine HK.out.mono ?_
    rintro e w2 ⟨rfl, H1⟩
    have hc2 := H1.cell 2 rfl
    have hf2 := H1.free 2 rfl
    clear hc1 HK
    go_wp2_with fail
    have H2 := H1.setv 2 rfl (.slice none 0 0)
    have hc3 := H2.cell 2 rfl
    refine bodyPost_ret (v := .tuple #[.agg #[.slice none 0 0], .int .i64 1]) (by simp [results, Tryd.results63, go_sem, hc3]) rfl ?_
    exact resN_nil _ _ _ H2.below
section
variable {w0 w w' : World} {g : Option Nat} {M : List (Nat × Value)} {L : List Ob} {O : List Rw} {A A2 : Option Addr} {n c m c2 x y : Nat}
/-- without the first owned list -/
theorem Ow.tail {r : Rw} (h : Ow w0 w g M L (r :: O)) : Ow w0 w g M L O :=
  ⟨h.st, fun i r hi => h.own (i + 1) r hi, fun i r hi => h.ap (i + 1) r hi, fun i j r s hi hj hij => h.two (i + 1) (j + 1) r s hi hj (by omega)⟩
theorem Ow.seen (h : Ow w0 w g M L O) (i : Nat) {e : TypeId} {l : List Nat} (hi : O[i]? = some ⟨A, n, c, e, nats l⟩) : l.length = n ∧ n ≤ c ∧ Sl w w.heap.size A (nats l) := by
  have ho := h.row i hi
  have := own_len ho
  rw [nats_length] at this
  exact ⟨this, (own_cap ho).1, Sl.of_own ho⟩
theorem Ow.seenL (h : Ow w0 w g M L O) (i : Nat) {l : List Nat} (hi : L[i]? = some ⟨A, n, c, nats l⟩) : l.length = n ∧ n ≤ c ∧ Sl w w.heap.size A (nats l) := by
  obtain ⟨h1, h2, h3, h4⟩ := h.sl hi
  rw [nats_length] at h1
  exact ⟨h1, h2, h4⟩
theorem rmul_at (h : Ow w0 w g M L O) (hA : (Na.dig x).length = n ∧ n ≤ c ∧ Sl w w.heap.size A (nats (Na.dig x))) (hB : (Na.dig y).length = m ∧ m ≤ c2 ∧ Sl w w.heap.size A2 (nats (Na.dig y))) (hx : x < Na.top) (hy : y < Na.top) :
    Calls Tryd.prog 54 #[.agg #[.slice A n c], .agg #[.slice A2 m c2]] w fun e w' => ∃ (A' : Option Addr) (n' c' : Nat), e = .returned (.tuple #[.agg #[.slice A' n' c'], .int .i64 (resE (x * y))]) ∧ (resL (x * y)).length = n' ∧ Ow w0 w' g M L (O ++ [⟨A', n', c', 3, nats (resL (x * y))⟩]) :=
  (nrMul_ok A A2 n c m c2 x y w hA.1 hB.1 hA.2.2 hB.2.2 hx hy).mono fun en w' hr => h.addN hr
theorem rcmp_at (h : Ow w0 w g M L O) (hA : (Na.dig x).length = n ∧ n ≤ c ∧ Sl w w.heap.size A (nats (Na.dig x))) (hB : (Na.dig y).length = m ∧ m ≤ c2 ∧ Sl w w.heap.size A2 (nats (Na.dig y))) (hl : n ≤ 1000) (hl2 : m ≤ 1000) :
    Calls Tryd.prog 55 #[.agg #[.slice A n c], .agg #[.slice A2 m c2]] w fun e w' => e = .returned (.int .i64 (Na.sgn x y)) ∧ Ow w0 w' g M L O :=
  (nrcmp_any A A2 n c m c2 x y w hA.1 hB.1 hA.2.1 hB.2.1 hA.2.2 hB.2.2 hl hl2).mono fun en w' ⟨he, hb⟩ => ⟨he, h.go hb⟩
theorem rof_at (h : Ow w0 w g M L O) (v : Nat) (hv : v ≤ 9223372036854775807) : Calls Tryd.prog 53 #[.int .i64 (v : Int)] w fun e w' => ∃ (A' : Option Addr) (n' c' : Nat), e = .returned (.tuple #[.agg #[.slice A' n' c'], .int .i64 0]) ∧ (Na.dig v).length = n' ∧ Ow w0 w' g M L (O ++ [⟨A', n', c', 3, nats (Na.dig v)⟩]) := by
  have e1 : ofL (v : Int) = Na.dig v := if_neg (by omega)
  have e2 : ofE (v : Int) = 0 := if_neg (by omega)
  have hr := nrof_any (v : Int) w (by omega)
  rw [e1, e2] at hr
  exact hr.mono fun en w' hr => h.addN hr
end
theorem pow_top {x j m : Nat} (hx : 0 < x) (hj : j < m) (h : Na.top ≤ x ^ j * x) : Na.top ≤ x ^ m := by
  rw [← Nat.pow_succ] at h
  exact Nat.le_trans h (Nat.pow_le_pow_right hx hj)
def RPow (w : World) (A : Option Addr) (n c x m : Nat) (r0 : Nat) (v : Value) (wr : World) : Prop :=
  ∃ (j k : Nat) (A1 : Option Addr) (n1 c1 : Nat), k + j = m ∧ v = .int .i64 (k : Int) ∧ n1 ≤ 200 ∧ Hid (x ^ j < Na.top) ∧ Hid (Ow w wr none [(w.heap.size, .slice A n c), (w.heap.size + 1, .slice none 0 0), (r0, .slice A1 n1 c1)] [⟨A, n, c, nats (Na.dig x)⟩] [⟨A1, n1, c1, 3, nats (Na.dig (x ^ j))⟩])
set_option maxHeartbeats 4000000 in
theorem nrpower_ok (A : Option Addr) (n c x m : Nat) (w : World) (hn : (Na.dig x).length = n) (hnc : n ≤ c) (hs : Sl w w.heap.size A (nats (Na.dig x))) (hx : x < Na.top) (hm : m ≤ 4800) :
    Calls Tryd.prog 92 #[.agg #[.slice A n c], .int .i64 (m : Int)] w (ResN w (resL (x ^ m)) (resE (x ^ m))) := by
  have hn2 : n ≤ 200 := by rw [← hn]; exact (Na.dig_200 x).2 hx
  have H0 := (((Ow.of (St.refl w)).old hs (by rw [nats_length]; exact hn) hnc (by omega)).boxed (.slice A n c) 24).boxed (.slice none 0 0) 24
  simp only [World.size_alloc, List.nil_append, List.cons_append] at H0
  have hc0 := H0.cell 0 rfl
  have HH := Lib.hid (rvalid_ok H0 0 rfl hx)
  have HX := Lib.hid hx
  have HN := Lib.hid hn
  have h1t : 1 < Na.top := Nat.lt_of_lt_of_le (show 1 < 16777216 ^ 1 by omega) (Nat.pow_le_pow_right (by omega) (by omega))
  have H1T := Lib.hid h1t
  obtain ⟨rl, hrl⟩ : ∃ v, resL (x ^ m) = v := ⟨_, rfl⟩
  obtain ⟨re, hre⟩ : ∃ v, resE (x ^ m) = v := ⟨_, rfl⟩
  rw [hrl, hre]
  have HRL := Lib.hid hrl
  have HRE := Lib.hid hre
  clear hn hs H0 hx hrl hre h1t
  go_enter Tryd.func92, Tryd.ntmps92
  go_wp2_with fail
  refine HH.out.mono ?_
  rintro e w1 ⟨rfl, H1⟩
  have HK := Lib.hid (rof_at H1 1 (by omega))
  clear hc0 HH H1
  go_wp2_with fail
  refine HK.out.mono ?_
  rintro e w2 ⟨A2, n2, c2, rfl, hn21, H2⟩
  have H3 := H2.boxed (.slice A2 n2 c2) 24
  simp only [List.nil_append, List.cons_append] at H3
  have hn22 : n2 ≤ 200 := by rw [← hn21]; exact Nat.le_trans (Na.dig_len_le (n := 1) (by omega)) (by omega)
  have hc0 := H3.cell 0 rfl
  have hc1 := H3.cell 1 rfl
  have hf1 := H3.free 1 rfl
  have HQ := Lib.hid H3
  clear HK H2 hn21
  by_cases h0 : n = 0 ∧ 0 < m
  · obtain ⟨rfl, hm0⟩ := h0
    have hx0 := Na.dig_len0.1 HN.out
    have hp : x ^ m = 0 := by rw [hx0]; exact Nat.zero_pow hm0
    obtain rfl : [] = rl := by rw [← HRL.out, hp, resL_ok (Nat.lt_trans (Nat.zero_lt_one) H1T.out), Na.dig_zero]
    obtain rfl : 0 = re := by rw [← HRE.out, hp, resE_ok (Nat.lt_trans (Nat.zero_lt_one) H1T.out)]
    have hd : decide (0 < (m : Int)) = true := decide_eq_true (by omega)
    clear hx0 hp
    go_wp2_with fail
    have G := H3.setv 1 rfl (.slice none 0 0)
    have hc2 := G.cell 1 rfl
    refine bodyPost_ret (v := .tuple #[.agg #[.slice none 0 0], .int .i64 0]) (by simp [results, Tryd.results92, go_sem, hc2]) rfl ?_
    exact resN_nil _ _ _ G.below
  · have hcond : (((n : Int) == 0) = false) ∨ (((n : Int) == 0) = true ∧ m = 0) := by
      by_cases e : n = 0
      · exact .inr ⟨by simp [e], by omega⟩
      · exact .inl (by rw [beq_eq_false_iff_ne]; omega)
    have HX0 : Hid (m = 0 ∨ 0 < x) := by
      unfold Hid
      rcases Nat.eq_zero_or_pos x with e | e
      · have h3 := HN.out
        rw [e, Na.dig_zero] at h3
        simp at h3
        omega
      · exact .inr e
    have HC := Lib.hid (rcmp_at H3 (H3.seenL 0 rfl) (H3.seen 0 rfl) (by omega) (by omega))
    clear h0 H3
    rcases hcond with hd | ⟨hd, hm0⟩
    · go_wp2_with fail
      refine HC.out.mono ?_
      by_cases h1 : x = 1
      · rw [Na.sgn_eq h1]
        rintro e w3 ⟨rfl, H4⟩
        have hp : x ^ m = 1 := by rw [h1, Nat.one_pow]
        obtain rfl : Na.dig 1 = rl := by rw [← HRL.out, hp, resL_ok H1T.out]
        obtain rfl : 0 = re := by rw [← HRE.out, hp, resE_ok H1T.out]
        have hc3 := H4.cell 1 rfl
        have hf3 := H4.free 1 rfl
        have hc4 := H4.cell 2 rfl
        clear hc0 hc1 hf1 HC hp HQ
        go_wp2_with fail
        have G := H4.setv 1 rfl (.slice A2 n2 c2)
        have hc5 := G.cell 1 rfl
        refine bodyPost_ret (v := .tuple #[.agg #[.slice A2 n2 c2], .int .i64 0]) (by simp [results, Tryd.results92, go_sem, hc5]) rfl ?_
        exact resN_of G 0 rfl 0
      · obtain ⟨sg, hsg⟩ : ∃ s : Int, Na.sgn x 1 = s := ⟨_, rfl⟩
        have hs0 : (sg == 0) = false := by rw [beq_eq_false_iff_ne]; rcases Na.sgn_cases x 1 with ⟨h, e⟩ | ⟨h, e⟩ | ⟨h, e⟩ <;> omega
        rw [hsg]
        rintro e w3 ⟨rfl, H4⟩
        have HO := Lib.hid H4
        clear hc0 hc1 hf1 HC hsg H4 h1 HQ
        go_wp2_with fail
        obtain ⟨r0, hr0⟩ : ∃ r, w2.heap.size = r := ⟨_, rfl⟩
        rw [hr0] at HO ⊢
        go_loopw [1] (fun v wr => RPow w A n c x m r0 v wr) (fun v _ => (intOf v).toNat)
        case atStart => exact ⟨0, m, A2, n2, c2, by omega, rfl, hn22, by unfold Hid; rw [Nat.pow_zero]; exact H1T.out, by unfold Hid; rw [Nat.pow_zero]; exact HO.out⟩
        case round =>
          clear HO
          obtain ⟨j, k, A1, n1, c1, hkj, rfl, hn1, HP, HO⟩ := hrel
          have hc0 := HO.out.cell 0 rfl
          have hc2 := HO.out.cell 2 rfl
          rcases Nat.eq_zero_or_pos k with h0 | h0
          · subst h0
            have hj : j = m := by omega
            subst hj
            obtain rfl : Na.dig (x ^ j) = rl := by rw [← HRL.out, resL_ok HP.out]
            obtain rfl : 0 = re := by rw [← HRE.out, resE_ok HP.out]
            have hc1 := HO.out.cell 1 rfl
            have hf1 := HO.out.free 1 rfl
            go_wp2_with fail
            have G := HO.out.setv 1 rfl (.slice A1 n1 c1)
            have hc5 := G.cell 1 rfl
            refine bodyPost_ret (v := .tuple #[.agg #[.slice A1 n1 c1], .int .i64 0]) (by simp [results, Tryd.results92, go_sem, hc5]) rfl ?_
            exact resN_of G 0 rfl 0
          · have hd0 : decide (0 < (k : Int)) = true := decide_eq_true (by omega)
            have HM := Lib.hid (rmul_at HO.out (HO.out.seen 0 rfl) (HO.out.seenL 0 rfl) HP.out HX.out)
            have hx1 : 0 < x := by rcases HX0.out with h | h <;> omega
            clear HO
            rcases Nat.lt_or_ge (x ^ j * x) Na.top with ht | ht
            · rw [resL_ok ht, resE_ok ht, ← Nat.pow_succ] at HM
              have HT := Lib.hid (show x ^ (j + 1) < Na.top from ht)
              clear ht
              go_wp2_with fail
              refine HM.out.mono ?_
              rintro e w4 ⟨A3, n3, c3, rfl, hn3, H5⟩
              have hs2 := H5.cell 2 rfl
              have hs2f := H5.free 2 rfl
              have hn3' : n3 ≤ 200 := by rw [← hn3]; exact (Na.dig_200 _).2 HT.out
              have G := Ow.tail (H5.setv 2 rfl (.slice A3 n3 c3))
              have HG := Lib.hid G
              clear hc0 hc2 HM H5 G hn3
              go_wp2_with fail
              go_roundw
              case rel => exact ⟨j + 1, k - 1, A3, n3, c3, by omega, int_eqv (by omega), hn3', HT, HG⟩
              case measure => simp [intOf]; omega
            · rw [resL_no ht, resE_no ht] at HM
              have hbig := pow_top hx1 (show j < m by omega) ht
              obtain rfl : [] = rl := by rw [← HRL.out, resL_no hbig]
              obtain rfl : 3 = re := by rw [← HRE.out, resE_no hbig]
              clear ht hbig
              go_wp2_with fail
              refine HM.out.mono ?_
              rintro e w4 ⟨A3, n3, c3, rfl, hn3, H5⟩
              have hs2 := H5.cell 2 rfl
              have hs2f := H5.free 2 rfl
              have G := H5.setv 2 rfl (.slice A3 n3 c3)
              have hs1 := G.cell 1 rfl
              have hs1f := G.free 1 rfl
              clear hc0 hc2 HM H5 hn3
              go_wp2_with fail
              have G2 := G.setv 1 rfl (.slice none 0 0)
              have hc5 := G2.cell 1 rfl
              refine bodyPost_ret (v := .tuple #[.agg #[.slice none 0 0], .int .i64 3]) (by simp [results, Tryd.results92, go_sem, hc5]) rfl ?_
              exact resN_nil _ _ _ G2.below
    · have hd0 : decide (0 < (m : Int)) = false := decide_eq_false (by omega)
      have hd1 : decide (0 < m) = false := decide_eq_false (by omega)
      clear hm0
      go_wp2_with fail
      refine HC.out.mono ?_
      by_cases h1 : x = 1
      · rw [Na.sgn_eq h1]
        rintro e w3 ⟨rfl, H4⟩
        have hp : x ^ m = 1 := by rw [h1, Nat.one_pow]
        obtain rfl : Na.dig 1 = rl := by rw [← HRL.out, hp, resL_ok H1T.out]
        obtain rfl : 0 = re := by rw [← HRE.out, hp, resE_ok H1T.out]
        have hc3 := H4.cell 1 rfl
        have hf3 := H4.free 1 rfl
        have hc4 := H4.cell 2 rfl
        clear hc0 hc1 hf1 HC hp HQ
        go_wp2_with fail
        have G := H4.setv 1 rfl (.slice A2 n2 c2)
        have hc5 := G.cell 1 rfl
        refine bodyPost_ret (v := .tuple #[.agg #[.slice A2 n2 c2], .int .i64 0]) (by simp [results, Tryd.results92, go_sem, hc5]) rfl ?_
        exact resN_of G 0 rfl 0
      · obtain ⟨sg, hsg⟩ : ∃ s : Int, Na.sgn x 1 = s := ⟨_, rfl⟩
        have hs0 : (sg == 0) = false := by rw [beq_eq_false_iff_ne]; rcases Na.sgn_cases x 1 with ⟨h, e⟩ | ⟨h, e⟩ | ⟨h, e⟩ <;> omega
        rw [hsg]
        rintro e w3 ⟨rfl, H4⟩
        have HO := Lib.hid H4
        clear hc0 hc1 hf1 HC hsg H4 h1 HQ
        go_wp2_with fail
        obtain ⟨r0, hr0⟩ : ∃ r, w2.heap.size = r := ⟨_, rfl⟩
        rw [hr0] at HO ⊢
        go_loopw [1] (fun v wr => RPow w A n c x m r0 v wr) (fun v _ => (intOf v).toNat)
        case atStart => exact ⟨0, m, A2, n2, c2, by omega, rfl, hn22, by unfold Hid; rw [Nat.pow_zero]; exact H1T.out, by unfold Hid; rw [Nat.pow_zero]; exact HO.out⟩
        case round =>
          clear HO
          obtain ⟨j, k, A1, n1, c1, hkj, rfl, hn1, HP, HO⟩ := hrel
          have hc0 := HO.out.cell 0 rfl
          have hc2 := HO.out.cell 2 rfl
          rcases Nat.eq_zero_or_pos k with h0 | h0
          · subst h0
            have hj : j = m := by omega
            subst hj
            obtain rfl : Na.dig (x ^ j) = rl := by rw [← HRL.out, resL_ok HP.out]
            obtain rfl : 0 = re := by rw [← HRE.out, resE_ok HP.out]
            have hc1 := HO.out.cell 1 rfl
            have hf1 := HO.out.free 1 rfl
            go_wp2_with fail
            have G := HO.out.setv 1 rfl (.slice A1 n1 c1)
            have hc5 := G.cell 1 rfl
            refine bodyPost_ret (v := .tuple #[.agg #[.slice A1 n1 c1], .int .i64 0]) (by simp [results, Tryd.results92, go_sem, hc5]) rfl ?_
            exact resN_of G 0 rfl 0
          · have hd0 : decide (0 < (k : Int)) = true := decide_eq_true (by omega)
            have HM := Lib.hid (rmul_at HO.out (HO.out.seen 0 rfl) (HO.out.seenL 0 rfl) HP.out HX.out)
            have hx1 : 0 < x := by rcases HX0.out with h | h <;> omega
            clear HO
            rcases Nat.lt_or_ge (x ^ j * x) Na.top with ht | ht
            · rw [resL_ok ht, resE_ok ht, ← Nat.pow_succ] at HM
              have HT := Lib.hid (show x ^ (j + 1) < Na.top from ht)
              clear ht
              go_wp2_with fail
              refine HM.out.mono ?_
              rintro e w4 ⟨A3, n3, c3, rfl, hn3, H5⟩
              have hs2 := H5.cell 2 rfl
              have hs2f := H5.free 2 rfl
              have hn3' : n3 ≤ 200 := by rw [← hn3]; exact (Na.dig_200 _).2 HT.out
              have G := Ow.tail (H5.setv 2 rfl (.slice A3 n3 c3))
              have HG := Lib.hid G
              clear hc0 hc2 HM H5 G hn3
              go_wp2_with fail
              go_roundw
              case rel => exact ⟨j + 1, k - 1, A3, n3, c3, by omega, int_eqv (by omega), hn3', HT, HG⟩
              case measure => simp [intOf]; omega
            · rw [resL_no ht, resE_no ht] at HM
              have hbig := pow_top hx1 (show j < m by omega) ht
              obtain rfl : [] = rl := by rw [← HRL.out, resL_no hbig]
              obtain rfl : 3 = re := by rw [← HRE.out, resE_no hbig]
              clear ht hbig
              go_wp2_with fail
              refine HM.out.mono ?_
              rintro e w4 ⟨A3, n3, c3, rfl, hn3, H5⟩
              have hs2 := H5.cell 2 rfl
              have hs2f := H5.free 2 rfl
              have G := H5.setv 2 rfl (.slice A3 n3 c3)
              have hs1 := G.cell 1 rfl
              have hs1f := G.free 1 rfl
              clear hc0 hc2 HM H5 hn3
              go_wp2_with fail
              have G2 := G.setv 1 rfl (.slice none 0 0)
              have hc5 := G2.cell 1 rfl
              refine bodyPost_ret (v := .tuple #[.agg #[.slice none 0 0], .int .i64 3]) (by simp [results, Tryd.results92, go_sem, hc5]) rfl ?_
              exact resN_nil _ _ _ G2.below
end Go.Proofs.YtjhaogbopmhkoaaDoor

namespace Go.Proofs.YtjhaogbopmhkoaaDoor
open Go.RowKit Go.Sort
set_option linter.unusedVariables false
set_option maxRecDepth 100000
section
variable {w0 w w' : World} {g : Option Nat} {M : List (Nat × Value)} {L : List Ob} {O : List Rw} {A A2 : Option Addr} {n c m c2 x y : Nat}
theorem rdivide_at (h : Ow w0 w g M L O) (hA : (Na.dig x).length = n ∧ n ≤ c ∧ Sl w w.heap.size A (nats (Na.dig x))) (hB : (Na.dig y).length = m ∧ m ≤ c2 ∧ Sl w w.heap.size A2 (nats (Na.dig y))) (hx : x < Na.top) (hy : y < Na.top) (hy0 : 0 < y) :
    Calls Tryd.prog 95 #[.agg #[.slice A n c], .agg #[.slice A2 m c2]] w fun e w' => ∃ (A1 : Option Addr) (n1 c1 : Nat) (A2 : Option Addr) (n2 c2 : Nat), e = .returned (.tuple #[.agg #[.slice A1 n1 c1], .agg #[.slice A2 n2 c2], .int .i64 0]) ∧ (Na.dig (x / y)).length = n1 ∧ Ow w0 w' g M L (O ++ [⟨A1, n1, c1, 3, nats (Na.dig (x / y))⟩]) :=
  (nrdivide_ok A A2 n c m c2 x y w hA.1 hB.1 hA.2.1 hB.2.1 hA.2.2 hB.2.2 hx hy hy0).mono fun en w' ⟨A1, n1, c1, A3, n2, c3, he, e1, e2, o1, o2, hb⟩ => ⟨A1, n1, c1, A3, n2, c3, he, e1, h.add o1 hb⟩
end
end Go.Proofs.YtjhaogbopmhkoaaDoor

namespace Go.Proofs.YtjhaogbopmhkoaaDoor
open Go.RowKit Go.Sort
set_option linter.unusedVariables false
set_option maxRecDepth 100000
theorem str_append (a b : List UInt8) : str a ++ str b = str (a ++ b) := by
  unfold str
  apply ByteArray.ext
  simp
theorem nrprint_bad (A : Option Addr) (n c : Nat) (zs : List Int) (w : World) (hn : zs.length = n) (hnc : n ≤ c) (hs : Sl w w.heap.size A (ints zs)) (hl : n ≤ 1000) (hv : Na.vld zs = false) :
    Calls Tryd.prog 25 #[.agg #[.slice A n c]] w fun e w' => e = .returned (.string (str [])) ∧ Below w.heap.size w w' := by
  have H0 := ((Ow.of (St.refl w)).old hs (by rw [ints_length]; exact hn) hnc hl).boxed (.slice A n c) 24
  simp only [List.nil_append] at H0
  have hc0 := H0.cell 0 rfl
  have HH := Lib.hid (rvalid_ow H0 0 rfl)
  rw [hv] at HH
  clear hn hs H0 hv
  go_enter Tryd.func25, Tryd.ntmps25
  go_wp2_with fail
  refine HH.out.mono ?_
  rintro e w1 ⟨rfl, H1⟩
  have HB := Lib.hid H1.below
  clear hc0 HH H1
  go_wp2_with fail
  go_ret
  exact ⟨rfl, HB.out⟩
def slenS : Value → Nat
  | .string b => b.size
  | _ => 0
def RPr (w : World) (M : List (Nat × Value)) (L : List Ob) (x : Nat) (l s : Value) (wr : World) : Prop :=
  ∃ (y : Nat) (ds : List Nat) (A : Option Addr) (n c : Nat), l = .slice A n c ∧ s = .string (str (ds.map De.asc).reverse) ∧ n ≤ 200 ∧ ds.length ≤ 4801 ∧ Hid (De.dig x = ds ++ De.dig y ∧ De.val ds + 10 ^ ds.length * y = x) ∧ Hid (Ow w wr none M L [⟨A, n, c, 3, nats (Na.dig y)⟩])
def RTen (w : World) (M : List (Nat × Value)) (L : List Ob) (Y : List Nat) (n : Nat) (A : Option Addr) (c : Nat) (rest i : Value) (wr : World) : Prop :=
  ∃ (z : Int) (r : Nat) (Q : List Nat), -1 ≤ z ∧ z < n ∧ i = .int .i64 z ∧ rest = .int .i64 (r : Int) ∧ r < 10 ∧ Hid (Q.length + (z + 1).toNat = n ∧ Na.Lim Q ∧ Na.val (Y.drop (z + 1).toNat) = 10 * Na.val Q + r) ∧ Hid (Ow w wr none M L [⟨A, n, c, 3, nats (Y.take (z + 1).toNat ++ Q)⟩])
set_option maxHeartbeats 8000000 in
theorem nrprint_ok (A : Option Addr) (n c : Nat) (x : Nat) (w : World) (hn : (Na.dig x).length = n) (hnc : n ≤ c) (hs : Sl w w.heap.size A (nats (Na.dig x))) (hx : x < Na.top) :
    Calls Tryd.prog 25 #[.agg #[.slice A n c]] w fun e w' => e = .returned (.string (str (De.text x))) ∧ Below w.heap.size w w' := by
  have hn2 : n ≤ 200 := by rw [← hn]; exact (Na.dig_200 x).2 hx
  have H0 := ((Ow.of (St.refl w)).old hs (by rw [nats_length]; exact hn) hnc (by omega)).boxed (.slice A n c) 24
  simp only [List.nil_append] at H0
  have hc0 := H0.cell 0 rfl
  have HH := Lib.hid (rvalid_ok H0 0 rfl hx)
  have HX := Lib.hid hx
  clear hn hs H0 hx
  go_enter Tryd.func25, Tryd.ntmps25
  go_wp2_with fail
  refine HH.out.mono ?_
  rintro e w1 ⟨rfl, H1⟩
  have hc1 := H1.cell 0 rfl
  have HN := Lib.hid (H1.nil 3)
  have hQ := Lib.hid (HN.out.sl (i := 0) rfl)
  clear hc0 HH H1
  go_wp2_with (at_builtin; refine ow_append elemI HN.out 0 (.const (.slice none 0 0)) (.tmp 12) rfl hQ.out.1 hQ.out.2.2.2 (nats_one _) (by unfold maxLen; omega) (by omega) rfl rfl rfl rfl ?_; intro A1 c1 w2 how)
  rw [Nat.zero_add, List.nil_append] at how
  have HI := Lib.hid how
  try rw [Nat.zero_add]
  clear hc1 HN hQ how
  go_loopw [3, 4] (fun l s wr => RPr w [(w.heap.size, .slice A n c)] [⟨A, n, c, nats (Na.dig x)⟩] x l s wr) (fun _ s _ => 5000 - slenS s)
  case atStart => exact ⟨x, [], A1, n, c1, rfl, rfl, hn2, by simp, ⟨rfl, by simp [De.val]⟩, HI.out⟩
  case round =>
    clear HI
    obtain ⟨y, ds, A3, n3, c3, rfl, rfl, hn3, hdl, HP, HO⟩ := hrel
    have hlen := (HO.out.seen 0 rfl).1
    rcases Nat.eq_zero_or_pos n3 with h0 | h0
    · subst h0
      have hy0 : y = 0 := Na.dig_len0.1 hlen
      have HD : Hid (De.dig x = ds) := by unfold Hid; rw [HP.out.1, hy0, De.dig_zero, List.append_nil]
      clear hlen hy0
      rcases Nat.eq_zero_or_pos x with hx0 | hx0
      · have hds : ds = [] := by rw [← HD.out, hx0, De.dig_zero]
        have HTx : Hid (De.text x = [48]) := by unfold Hid; rw [hx0]; rfl
        have hemp : (str ((ds.map De.asc).reverse)).toList.isEmpty = true := by rw [str_toList, hds]; rfl
        clear hds hx0
        go_wp2_with fail
        go_ret
        exact ⟨by rw [HTx.out]; rfl, HO.out.below⟩
      · have hemp : (str ((ds.map De.asc).reverse)).toList.isEmpty = false := str_empty (by rw [← HD.out]; exact De.text_ne hx0)
        have HTx : Hid (De.text x = (ds.map De.asc).reverse) := by unfold Hid; rw [De.text_pos hx0, HD.out]
        go_wp2_with fail
        go_ret
        exact ⟨by rw [HTx.out]; rfl, HO.out.below⟩
    · have HY : Hid (0 < y) := by
        unfold Hid
        rcases Nat.eq_zero_or_pos y with h | h
        · rw [h, Na.dig_zero] at hlen; simp at hlen; omega
        · exact h
      have hdl2 : ds.length ≤ 4800 := De.len_bound (by have := HP.out.2; omega) HY.out HX.out
      have hd : decide (0 < (n3 : Int)) = true := decide_eq_true (by omega)
      have HLn := Lib.hid hlen
      obtain ⟨gb, rfl, -, -⟩ := own_form (HO.out.row 0 rfl) h0
      clear hlen
      go_wp2_with fail
      go_loopw [5, 6] (fun r i wr => RTen w [(w.heap.size, .slice A n c)] [⟨A, n, c, nats (Na.dig x)⟩] (Na.dig y) n3 (some ⟨gb, 0, none⟩) c3 r i wr) (fun _ i _ => (intOf i + 1).toNat)
      case atStart =>
        refine ⟨(n3 : Int) - 1, 0, [], by omega, by omega, rfl, rfl, by omega, ⟨by rw [List.length_nil]; omega, Na.Lim.nil, ?_⟩, ?_⟩
        · rw [List.drop_of_length_le (by rw [HLn.out]; omega)]; rfl
        · unfold Hid
          rw [show ((n3 : Int) - 1 + 1).toNat = n3 by omega, List.take_of_length_le (by rw [HLn.out]; exact Nat.le_refl _), List.append_nil]
          exact HO.out
      case round =>
        obtain ⟨z, r, Q, hz1, hz2, rfl, rfl, hr10, HQ, HOt⟩ := hrel
        rcases Int.lt_or_le z 0 with hz | hz
        · have e0 : (z + 1).toNat = 0 := by omega
          have HO1 := HOt.out
          rw [e0, List.take_zero, List.nil_append] at HO1
          have hq := HQ.out
          rw [e0, List.drop_zero, Na.val_dig] at hq
          have HQL : Hid (Q.length = n3) := by have := hq.1; unfold Hid; omega
          have HQ2 := Lib.hid hq.2.1
          have hyd : y / 10 = Na.val Q ∧ y % 10 = r := by have := hq.2.2; omega
          have HYd := Lib.hid hyd
          have HX1 := Lib.hid HO1
          have hw8 : IntKind.u8.wrap (48 + (r : Int)) = ((De.asc r).toNat : Int) := by rw [De.asc_toNat hr10, IntWalk.u8_in _ (by omega)]; omega
          have hconv : (convert 52 9 (.slice (some ⟨wr.heap.size, 0, none⟩) 1 1)).run Tryd.prog (wr.alloc (.cells #[.int .u8 ((De.asc r).toNat : Int)] 5)) = .ok (.string (str [De.asc r])) (wr.alloc (.cells #[.int .u8 ((De.asc r).toNat : Int)] 5)) := run_convert_bytes_back (P := Tryd.prog) (wr.alloc (.cells #[.int .u8 ((De.asc r).toNat : Int)] 5)) 52 9 5 ⟨wr.heap.size, 0, none⟩ 1 [De.asc r] Tryd.underlying52 Tryd.underlying5 Tryd.underlying9 (fun j hj => by
            have : j = 0 := by simp at hj; omega
            subst this
            exact cell_one_new _ _ _ 0 _ rfl)
          have hsa : str [De.asc r] ++ str ((ds.map De.asc).reverse) = str (((ds ++ [r]).map De.asc).reverse) := by rw [str_append, List.map_append, List.reverse_append]; rfl
          have hs1 := str_size [De.asc r]
          have hs2 := str_size ((ds.map De.asc).reverse)
          rw [List.length_reverse, List.length_map] at hs2
          clear hq hyd HO1 HOt HQ hz1 hz2
          have HXw := Lib.hid (HX1.out.go (own_box1 wr (.cells #[.int .u8 ((De.asc r).toNat : Int)] 5)))
          have HND : Hid (De.dig x = (ds ++ [r]) ++ De.dig (Na.val Q)) := by
            unfold Hid
            rw [HP.out.1, De.dig_pos y HY.out, HYd.out.1, HYd.out.2, List.append_assoc]
            rfl
          have HNV : Hid (De.val (ds ++ [r]) + 10 ^ (ds ++ [r]).length * Na.val Q = x) := by
            unfold Hid
            rw [De.val_snoc, List.length_append, List.length_singleton, Nat.pow_succ]
            have h1 := HP.out.2
            have h2 : y = 10 * Na.val Q + r := by have := HYd.out; omega
            rw [h2, Nat.mul_add, ← Nat.mul_assoc] at h1
            omega
          have HSt : Hid (((ds ++ [r]).map De.asc).reverse = De.asc r :: (ds.map De.asc).reverse) := by unfold Hid; rw [List.map_append, List.reverse_append]; rfl
          have HDL : Hid ((ds ++ [r]).length ≤ 4801) := by unfold Hid; rw [List.length_append, List.length_singleton]; omega
          go_wp2_with fail
          try rw [hsa]
          obtain ⟨w5, hw5⟩ : ∃ w5, wr.alloc (.cells #[.int .u8 ((De.asc r).toNat : Int)] 5) = w5 := ⟨_, rfl⟩
          rw [hw5] at HXw ⊢
          clear hsa hconv hs1 hw5 hw8 HX1
          go_loopw [3] (fun v wr => ∃ k : Nat, k ≤ n3 ∧ v = .slice (some ⟨gb, 0, none⟩) k c3 ∧ wr = w5 ∧ Hid (Na.tl Q k = Na.tl Q Q.length)) (fun v _ => slen v)
          case atStart => exact ⟨n3, Nat.le_refl _, rfl, rfl, by unfold Hid; rw [HQL.out]⟩
          case round =>
            obtain ⟨k, hk, rfl, rfl, HT⟩ := hrel
            have hown := Sl.of_own (HXw.out.row 0 rfl)
            have hcap := (own_cap (HXw.out.row 0 rfl)).1
            have hkc : (k : Int) - 1 ≤ (c3 : Int) := by omega
            rcases Na.tl_case Q Q.length k (by rw [HQL.out]; exact hk) HT.out with ⟨h0, hz, ht⟩ | ⟨ht, hs⟩
            · have hcb := own_nat (HXw.out.row 0 rfl) hz
              have HT2 := Lib.hid ht
              have hd : decide (0 < (k : Int)) = true := decide_eq_true (by omega)
              have hb2 : ((k : Int) - 1).toNat = k - 1 := by omega
              clear hown hz ht
              go_wp2_with fail
              go_roundw
              case rel => exact ⟨k - 1, by omega, rfl, trivial, HT2⟩
              case measure => simp [slen]; omega
            · have HG := Lib.hid (HXw.out.trimmed 0 rfl HQ2.out ht rfl)
              rcases hs with h0 | ⟨h0, b, hb, hbne⟩
              · subst h0
                clear hown ht HT
                go_wp2_with fail
                go_roundw
                case rel => exact ⟨Na.val Q, ds ++ [r], some ⟨gb, 0, none⟩, 0, c3, rfl, by rw [HSt.out], by omega, HDL.out, ⟨HND.out, HNV.out⟩, HG.out⟩
                case measure => simp [slenS, str_size]; omega
              · have hcb := own_nat (HXw.out.row 0 rfl) hb
                have hd : decide (0 < (k : Int)) = true := decide_eq_true (by omega)
                clear hown hb ht HT
                go_wp2_with fail
                go_roundw
                case rel => exact ⟨Na.val Q, ds ++ [r], some ⟨gb, 0, none⟩, k, c3, rfl, by rw [HSt.out], by omega, HDL.out, ⟨HND.out, HNV.out⟩, HG.out⟩
                case measure => simp [slenS, str_size]; omega
        · obtain ⟨j, rfl⟩ := Int.eq_ofNat_of_zero_le hz
          have hjn : j < n3 := by omega
          have e1 : ((j : Int) + 1).toNat = j + 1 := by omega
          have HO1 := HOt.out
          rw [e1] at HO1
          have hq := HQ.out
          rw [e1] at hq
          obtain ⟨a, ha⟩ := nat_at (Na.dig y) j (by rw [HLn.out]; exact hjn)
          have ha24 := (Na.dig_lim y).at ha
          have hrow := HO1.row 0 rfl
          have hcl := own_nat hrow (k := j) (b := a) (by rw [List.getElem?_append_left (by rw [List.length_take, HLn.out]; omega), List.getElem?_take, if_pos (by omega)]; exact ha)
          have hfz := hrow.frozenAt j
          obtain ⟨t, ht⟩ : ∃ t, 16777216 * r + a = t := ⟨_, rfl⟩
          obtain ⟨s1, s2, s3⟩ := Na.small_step (Na.dig y) Q 10 j a r (by omega) ha (Na.dig_lim y) hq.2.1 hq.2.2 hr10
          rw [ht] at s1 s2 s3
          obtain ⟨q, hqd⟩ : ∃ q, t / 10 = q := ⟨_, rfl⟩
          obtain ⟨r2, hr2⟩ : ∃ r2, t % 10 = r2 := ⟨_, rfl⟩
          rw [hqd] at s1 s2
          rw [hr2] at s2 s3
          have hdiv : ((r : Int) * 16777216 + (a : Int)) / 10 = (q : Int) := by omega
          have hmod : ((r : Int) * 16777216 + (a : Int)) % 10 = (r2 : Int) := by omega
          have HS := Lib.hid (And.intro s1 (And.intro s2 s3))
          have H11 := HO1.put 0 rfl j (.int .i64 (q : Int))
          rw [List.set_cons_zero, nats_set, Na.small_set (Na.dig y) Q j q (by rw [HLn.out]; exact hjn)] at H11
          have HX1 := Lib.hid H11
          have HQl := Lib.hid hq.1
          clear ha hq hz hz1 ht hqd hr2 s1 s2 hrow HO1 HOt H11 HQ
          go_wp2_with fail
          go_roundw
          case rel =>
            have ej : ((j : Int) - 1 + 1).toNat = j := by omega
            refine ⟨(j : Int) - 1, r2, q :: Q, by omega, by omega, rfl, (by first | rfl | exact int_eqv hmod), s3, ?_, ?_⟩
            · unfold Hid
              rw [ej]
              exact ⟨by have := HQl.out; rw [List.length_cons]; omega, HS.out.1, HS.out.2.1⟩
            · unfold Hid
              rw [ej]
              exact HX1.out
          case measure => simp [intOf]
end Go.Proofs.YtjhaogbopmhkoaaDoor
