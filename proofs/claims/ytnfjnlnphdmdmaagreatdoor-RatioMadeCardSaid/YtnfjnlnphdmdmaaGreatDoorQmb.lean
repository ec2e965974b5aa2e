/- XQf XQg XQh joined. -/
import Derived.Test.YtnfjnlnphdmdmaaGreatDoorQma
/- One step of a sum of fractions: the method do, for Mul, Add and Sub, and the method make. -/
namespace Go.Proofs.YtnfjnlnphdmdmaaGreatDoor
open Go.RowKit Go.Sort
set_option linter.unusedVariables false
set_option maxRecDepth 100000
theorem get_r {α : Type} (M l : List α) (j : Nat) : (M ++ l)[M.length + j]? = l[j]? := by rw [List.getElem?_append_right (by omega)]; congr 1; omega
theorem set_r {α : Type} (M l : List α) (j : Nat) (x : α) : (M ++ l).set (M.length + j) x = M ++ l.set j x := by rw [List.set_append_right _ _ (by omega)]; congr 2; omega
theorem set_l {α : Type} (M l : List α) {k : Nat} (hk : k < M.length) (x : α) : (M ++ l).set k x = M.set k x ++ l := List.set_append_left _ _ hk
theorem get_l {α : Type} (M l : List α) {k : Nat} (hk : k < M.length) : (M ++ l)[k]? = M[k]? := List.getElem?_append_left hk
section
variable {w0 w w' : World} {g : Option Nat} {M : List (Nat × Value)} {L : List Ob} {O : List Rw} {A A2 : Option Addr} {n c m c2 : Nat} {p q : List Int}
theorem Ow.fewM {l : List (Nat × Value)} (h : Ow w0 w g (M ++ l) L O) : Ow w0 w g M L O := h.few2 (by rw [List.take_left]) (fun _ h => h)
set_option maxHeartbeats 4000000 in
theorem qdo_mul_go (h : Ow w0 w g M L O) (k b : Nat) (hk : M[k]? = some (b, .int .i64 0)) (i j : Nat) (hi : L[i]? = some ⟨A, n, c, ints p⟩) (hj : L[j]? = some ⟨A2, m, c2, ints q⟩) :
    Calls Tryz.prog 51 #[.pointer (some ⟨b, 0, none⟩), .func (.func 52) #[] #[], .agg #[.slice A n c], .agg #[.slice A2 m c2]] w fun e w' => ∃ (A' : Option Addr) (n' c' : Nat), e = .returned (.agg #[.slice A' n' c']) ∧ Ow w0 w' g (M.set k (b, .int .i64 (mulE p q))) (L ++ [⟨A', n', c', nats (mulL p q)⟩]) O := by
  have hkl : k < M.length := get_lt hk
  obtain ⟨er, her⟩ : ∃ er, mulE p q = er := ⟨_, rfl⟩
  have H0 := ((h.boxed (.slice A n c) 24).boxed (.slice A2 m c2) 24).boxed (.slice none 0 0) 24
  simp only [World.size_alloc, List.append_assoc, List.cons_append, List.nil_append] at H0
  have hs0 := H0.cell k (by rw [get_l _ _ hkl]; exact hk)
  have H1 := H0.boxed (.slice none 0 0) 24
  simp only [World.size_alloc, List.append_assoc, List.cons_append, List.nil_append] at H1
  have ha := H1.cell (M.length + 0) (by rw [get_r]; rfl)
  have hb := H1.cell (M.length + 1) (by rw [get_r]; rfl)
  have HC := Lib.hid (ag_mul H1 i j hi hj)
  rw [her] at HC ⊢
  have HK := Lib.hid (And.intro hkl hk)
  clear h H0 H1 hk hkl her hi hj
  go_enter Tryz.func51, Tryz.ntmps51
  go_wp2_with fail
  refine HC.out.mono ?_
  rintro e v ⟨B1, m1, d1, rfl, H2⟩
  have k3 := H2.cell (M.length + 3) (by rw [get_r]; rfl)
  have f3 := H2.free (M.length + 3) (by rw [get_r]; rfl)
  have H3 := H2.setv (M.length + 3) (by rw [get_r]; rfl) (.slice B1 m1 d1)
  rw [set_r] at H3
  simp only [List.set_cons_succ, List.set_cons_zero] at H3
  have kk := H3.cell k (by rw [get_l _ _ HK.out.1]; exact HK.out.2)
  have kf := H3.free k (by rw [get_l _ _ HK.out.1]; exact HK.out.2)
  have H4 := H3.setv k (by rw [get_l _ _ HK.out.1]; exact HK.out.2) (.int .i64 er)
  rw [set_l _ _ HK.out.1] at H4
  obtain ⟨M1, hM1⟩ : ∃ M1, M.set k (b, .int .i64 er) = M1 := ⟨_, rfl⟩
  rw [hM1] at H4
  have HM1 := Lib.hid hM1
  have k4 := H4.cell (M1.length + 3) (by rw [get_r]; rfl)
  have k2 := H4.cell (M1.length + 2) (by rw [get_r]; rfl)
  have f2 := H4.free (M1.length + 2) (by rw [get_r]; rfl)
  have H5 := H4.setv (M1.length + 2) (by rw [get_r]; rfl) (.slice B1 m1 d1)
  rw [set_r] at H5
  simp only [List.set_cons_succ, List.set_cons_zero] at H5
  have k5 := H5.cell (M1.length + 2) (by rw [get_r]; rfl)
  have HF := Lib.hid H5.fewM
  clear HC H2 H3 H4 H5 ha hb hM1
  go_wp2_with fail
  refine bodyPost_ret (v := .agg #[.slice B1 m1 d1]) (by simp [results, Tryz.results51, go_sem, k5]) rfl ?_
  rw [HM1.out]
  exact ⟨B1, m1, d1, rfl, HF.out⟩
set_option maxHeartbeats 4000000 in
theorem qdo_add_go (h : Ow w0 w g M L O) (k b : Nat) (hk : M[k]? = some (b, .int .i64 0)) (i j : Nat) (hi : L[i]? = some ⟨A, n, c, ints p⟩) (hj : L[j]? = some ⟨A2, m, c2, ints q⟩) :
    Calls Tryz.prog 51 #[.pointer (some ⟨b, 0, none⟩), .func (.func 43) #[] #[], .agg #[.slice A n c], .agg #[.slice A2 m c2]] w fun e w' => ∃ (A' : Option Addr) (n' c' : Nat), e = .returned (.agg #[.slice A' n' c']) ∧ Ow w0 w' g (M.set k (b, .int .i64 (addE p q))) (L ++ [⟨A', n', c', nats (addL p q)⟩]) O := by
  have hkl : k < M.length := get_lt hk
  obtain ⟨er, her⟩ : ∃ er, addE p q = er := ⟨_, rfl⟩
  have H0 := ((h.boxed (.slice A n c) 24).boxed (.slice A2 m c2) 24).boxed (.slice none 0 0) 24
  simp only [World.size_alloc, List.append_assoc, List.cons_append, List.nil_append] at H0
  have hs0 := H0.cell k (by rw [get_l _ _ hkl]; exact hk)
  have H1 := H0.boxed (.slice none 0 0) 24
  simp only [World.size_alloc, List.append_assoc, List.cons_append, List.nil_append] at H1
  have ha := H1.cell (M.length + 0) (by rw [get_r]; rfl)
  have hb := H1.cell (M.length + 1) (by rw [get_r]; rfl)
  have HC := Lib.hid (ag_add H1 i j hi hj)
  rw [her] at HC ⊢
  have HK := Lib.hid (And.intro hkl hk)
  clear h H0 H1 hk hkl her hi hj
  go_enter Tryz.func51, Tryz.ntmps51
  go_wp2_with fail
  refine HC.out.mono ?_
  rintro e v ⟨B1, m1, d1, rfl, H2⟩
  have k3 := H2.cell (M.length + 3) (by rw [get_r]; rfl)
  have f3 := H2.free (M.length + 3) (by rw [get_r]; rfl)
  have H3 := H2.setv (M.length + 3) (by rw [get_r]; rfl) (.slice B1 m1 d1)
  rw [set_r] at H3
  simp only [List.set_cons_succ, List.set_cons_zero] at H3
  have kk := H3.cell k (by rw [get_l _ _ HK.out.1]; exact HK.out.2)
  have kf := H3.free k (by rw [get_l _ _ HK.out.1]; exact HK.out.2)
  have H4 := H3.setv k (by rw [get_l _ _ HK.out.1]; exact HK.out.2) (.int .i64 er)
  rw [set_l _ _ HK.out.1] at H4
  obtain ⟨M1, hM1⟩ : ∃ M1, M.set k (b, .int .i64 er) = M1 := ⟨_, rfl⟩
  rw [hM1] at H4
  have HM1 := Lib.hid hM1
  have k4 := H4.cell (M1.length + 3) (by rw [get_r]; rfl)
  have k2 := H4.cell (M1.length + 2) (by rw [get_r]; rfl)
  have f2 := H4.free (M1.length + 2) (by rw [get_r]; rfl)
  have H5 := H4.setv (M1.length + 2) (by rw [get_r]; rfl) (.slice B1 m1 d1)
  rw [set_r] at H5
  simp only [List.set_cons_succ, List.set_cons_zero] at H5
  have k5 := H5.cell (M1.length + 2) (by rw [get_r]; rfl)
  have HF := Lib.hid H5.fewM
  clear HC H2 H3 H4 H5 ha hb hM1
  go_wp2_with fail
  refine bodyPost_ret (v := .agg #[.slice B1 m1 d1]) (by simp [results, Tryz.results51, go_sem, k5]) rfl ?_
  rw [HM1.out]
  exact ⟨B1, m1, d1, rfl, HF.out⟩
set_option maxHeartbeats 4000000 in
theorem qdo_sub_go (h : Ow w0 w g M L O) (k b : Nat) (hk : M[k]? = some (b, .int .i64 0)) (i j : Nat) (hi : L[i]? = some ⟨A, n, c, ints p⟩) (hj : L[j]? = some ⟨A2, m, c2, ints q⟩) :
    Calls Tryz.prog 51 #[.pointer (some ⟨b, 0, none⟩), .func (.func 47) #[] #[], .agg #[.slice A n c], .agg #[.slice A2 m c2]] w fun e w' => ∃ (A' : Option Addr) (n' c' : Nat), e = .returned (.agg #[.slice A' n' c']) ∧ Ow w0 w' g (M.set k (b, .int .i64 (subE p q))) (L ++ [⟨A', n', c', nats (subL p q)⟩]) O := by
  have hkl : k < M.length := get_lt hk
  obtain ⟨er, her⟩ : ∃ er, subE p q = er := ⟨_, rfl⟩
  have H0 := ((h.boxed (.slice A n c) 24).boxed (.slice A2 m c2) 24).boxed (.slice none 0 0) 24
  simp only [World.size_alloc, List.append_assoc, List.cons_append, List.nil_append] at H0
  have hs0 := H0.cell k (by rw [get_l _ _ hkl]; exact hk)
  have H1 := H0.boxed (.slice none 0 0) 24
  simp only [World.size_alloc, List.append_assoc, List.cons_append, List.nil_append] at H1
  have ha := H1.cell (M.length + 0) (by rw [get_r]; rfl)
  have hb := H1.cell (M.length + 1) (by rw [get_r]; rfl)
  have HC := Lib.hid (ag_sub H1 i j hi hj)
  rw [her] at HC ⊢
  have HK := Lib.hid (And.intro hkl hk)
  clear h H0 H1 hk hkl her hi hj
  go_enter Tryz.func51, Tryz.ntmps51
  go_wp2_with fail
  refine HC.out.mono ?_
  rintro e v ⟨B1, m1, d1, rfl, H2⟩
  have k3 := H2.cell (M.length + 3) (by rw [get_r]; rfl)
  have f3 := H2.free (M.length + 3) (by rw [get_r]; rfl)
  have H3 := H2.setv (M.length + 3) (by rw [get_r]; rfl) (.slice B1 m1 d1)
  rw [set_r] at H3
  simp only [List.set_cons_succ, List.set_cons_zero] at H3
  have kk := H3.cell k (by rw [get_l _ _ HK.out.1]; exact HK.out.2)
  have kf := H3.free k (by rw [get_l _ _ HK.out.1]; exact HK.out.2)
  have H4 := H3.setv k (by rw [get_l _ _ HK.out.1]; exact HK.out.2) (.int .i64 er)
  rw [set_l _ _ HK.out.1] at H4
  obtain ⟨M1, hM1⟩ : ∃ M1, M.set k (b, .int .i64 er) = M1 := ⟨_, rfl⟩
  rw [hM1] at H4
  have HM1 := Lib.hid hM1
  have k4 := H4.cell (M1.length + 3) (by rw [get_r]; rfl)
  have k2 := H4.cell (M1.length + 2) (by rw [get_r]; rfl)
  have f2 := H4.free (M1.length + 2) (by rw [get_r]; rfl)
  have H5 := H4.setv (M1.length + 2) (by rw [get_r]; rfl) (.slice B1 m1 d1)
  rw [set_r] at H5
  simp only [List.set_cons_succ, List.set_cons_zero] at H5
  have k5 := H5.cell (M1.length + 2) (by rw [get_r]; rfl)
  have HF := Lib.hid H5.fewM
  clear HC H2 H3 H4 H5 ha hb hM1
  go_wp2_with fail
  refine bodyPost_ret (v := .agg #[.slice B1 m1 d1]) (by simp [results, Tryz.results51, go_sem, k5]) rfl ?_
  rw [HM1.out]
  exact ⟨B1, m1, d1, rfl, HF.out⟩
set_option maxHeartbeats 4000000 in
theorem qdo_no (h : Ow w0 w g M L O) (k b : Nat) (e0 : Int) (hk : M[k]? = some (b, .int .i64 e0)) (he : (e0 != 0) = true) (f : Value) :
    Calls Tryz.prog 51 #[.pointer (some ⟨b, 0, none⟩), f, .agg #[.slice A n c], .agg #[.slice A2 m c2]] w fun e w' => ∃ (A' : Option Addr) (n' c' : Nat), e = .returned (.agg #[.slice A' n' c']) ∧ Ow w0 w' g M (L ++ [⟨A', n', c', nats []⟩]) O := by
  have hkl : k < M.length := get_lt hk
  have H0 := ((h.boxed (.slice A n c) 24).boxed (.slice A2 m c2) 24).boxed (.slice none 0 0) 24
  simp only [World.size_alloc, List.append_assoc, List.cons_append, List.nil_append] at H0
  have hs0 := H0.cell k (by rw [get_l _ _ hkl]; exact hk)
  have HF := Lib.hid H0.fewM
  clear h H0 hk hkl
  go_enter Tryz.func51, Tryz.ntmps51
  go_wp2_with fail
  refine bodyPost_ret (v := .agg #[.slice none 0 0]) (by simp [results, Tryz.results51, go_sem]) rfl ?_
  exact ⟨none, 0, 0, rfl, HF.out.old (A := none) (n := 0) (c := 0) (vs := nats []) (Sl.nil _ _ _) rfl (Nat.le_refl _) (by decide)⟩
set_option maxHeartbeats 4000000 in
theorem qsmake_go (h : Ow w0 w g M L O) (k b : Nat) (hk : M[k]? = some (b, .int .i64 0)) (i j : Nat) (hi : L[i]? = some ⟨A, n, c, ints p⟩) (hj : L[j]? = some ⟨A2, m, c2, ints q⟩) (ht : Tab w0) :
    Calls Tryz.prog 50 #[.pointer (some ⟨b, 0, none⟩), .agg #[.slice A n c], .agg #[.slice A2 m c2]] w (GotF w0 g M L O (makeF p q)) := by
  have hkl : k < M.length := get_lt hk
  obtain ⟨t, hmk⟩ : ∃ t, makeF p q = t := ⟨_, rfl⟩
  have H0 := ((h.boxed (.slice A n c) 24).boxed (.slice A2 m c2) 24).pair (.slice none 0 0) (.slice none 0 0) 26
  simp only [World.size_alloc, List.append_assoc, List.cons_append, List.nil_append] at H0
  have hs0 := H0.cell k (by rw [get_l _ _ hkl]; exact hk)
  have ha := H0.cell (M.length + 0) (by rw [get_r]; rfl)
  have hb := H0.cell (M.length + 1) (by rw [get_r]; rfl)
  have HC := Lib.hid (qmake_ow H0 i j hi hj ht)
  rw [hmk] at HC ⊢
  clear h H0 hk hkl hmk hi hj ht
  go_enter Tryz.func50, Tryz.ntmps50
  go_wp2_with fail
  refine HC.out.mono ?_
  rintro e v ⟨B1, m1, d1, B2, m2, d2, rfl, H2⟩
  have k0 := H2.p0 (O.length + 0) (by rw [get_r]; rfl)
  have k1 := H2.p1 (O.length + 0) (by rw [get_r]; rfl)
  have f0 := H2.pf (O.length + 0) (by rw [get_r]; rfl) 0
  have f1 := H2.pf (O.length + 0) (by rw [get_r]; rfl) 1
  have H3 := H2.set0 (O.length + 0) (by rw [get_r]; rfl) (.slice B1 m1 d1)
  rw [set_r] at H3
  simp only [List.set_cons_zero] at H3
  have H4 := H3.set1 (O.length + 0) (by rw [get_r]; rfl) (.slice B2 m2 d2)
  rw [set_r] at H4
  simp only [List.set_cons_zero] at H4
  have s0 := H4.p0 (O.length + 0) (by rw [get_r]; rfl)
  have s1 := H4.p1 (O.length + 0) (by rw [get_r]; rfl)
  have H5 := H4.fewM.few O.length
  rw [List.take_left] at H5
  have HF := Lib.hid H5
  clear HC H2 H3 H4 H5 ha hb hs0
  go_wp2_with fail
  refine bodyPost_ret (v := .tuple #[.agg #[.slice B1 m1 d1, .slice B2 m2 d2], .int .i64 t.2.2]) (by simp [results, Tryz.results50, go_sem, s0, s1]) rfl ?_
  exact ⟨B1, m1, d1, B2, m2, d2, rfl, HF.out⟩
set_option maxHeartbeats 4000000 in
theorem qsmake_no (h : Ow w0 w g M L O) (k b : Nat) (e0 : Int) (hk : M[k]? = some (b, .int .i64 e0)) (he : (e0 != 0) = true) :
    Calls Tryz.prog 50 #[.pointer (some ⟨b, 0, none⟩), .agg #[.slice A n c], .agg #[.slice A2 m c2]] w (GotF w0 g M L O (frE e0)) := by
  have hkl : k < M.length := get_lt hk
  have H0 := ((h.boxed (.slice A n c) 24).boxed (.slice A2 m c2) 24).pair (.slice none 0 0) (.slice none 0 0) 26
  simp only [World.size_alloc, List.append_assoc, List.cons_append, List.nil_append] at H0
  have hs0 := H0.cell k (by rw [get_l _ _ hkl]; exact hk)
  have HD := Lib.hid H0.drew
  have HK := Lib.hid (And.intro hkl hk)
  clear h hk hkl H0
  go_enter Tryz.func50, Tryz.ntmps50
  go_upto_region 2 with (fail)
  have k0 := HD.out.p0 (O.length + 0) (by rw [get_r]; rfl)
  have k1 := HD.out.p1 (O.length + 0) (by rw [get_r]; rfl)
  have f0 := HD.out.pf (O.length + 0) (by rw [get_r]; rfl) 0
  have f1 := HD.out.pf (O.length + 0) (by rw [get_r]; rfl) 1
  have kd := HD.out.cell k (by rw [get_l _ _ HK.out.1]; exact HK.out.2)
  go_region
  have H5 := HD.out.fewM.few O.length
  rw [List.take_left] at H5
  have HF := Lib.hid H5
  clear H5 kd hs0
  go_wp2_with fail
  refine bodyPost_ret (v := .tuple #[.agg #[.slice none 0 0, .slice none 0 0], .int .i64 e0]) (by simp [results, Tryz.results50, go_sem, k0, k1]) rfl ?_
  refine ⟨none, 0, 0, none, 0, 0, rfl, ?_⟩
  have e1 : nats (Na.dig 0) = [] := by rw [Na.dig_zero]; rfl
  show Ow w0 _ g M (L ++ [⟨none, 0, 0, nats (Na.dig 0)⟩] ++ [⟨none, 0, 0, nats (Na.dig 0)⟩]) O
  rw [e1]
  exact (HF.out.old (A := none) (n := 0) (c := 0) (vs := []) (Sl.nil _ _ _) rfl (Nat.le_refl _) (by decide)).old (A := none) (n := 0) (c := 0) (vs := []) (Sl.nil _ _ _) rfl (Nat.le_refl _) (by decide)
end
end Go.Proofs.YtnfjnlnphdmdmaaGreatDoor

/- The product of two fractions. -/
namespace Go.Proofs.YtnfjnlnphdmdmaaGreatDoor
open Go.RowKit Go.Sort
set_option linter.unusedVariables false
set_option maxRecDepth 100000
section
variable {w0 w w' : World} {g : Option Nat} {M : List (Nat × Value)} {L : List Ob} {O : List Rw} {A A2 A3 A4 : Option Addr} {n c m c2 n3 c3 n4 c4 : Nat} {p q r s : List Int}
theorem Ow.fewO {l : List Rw} (h : Ow w0 w g M L (O ++ l)) : Ow w0 w g M L O := by
  have := h.few O.length
  rwa [List.take_left] at this
theorem gotF_nil (h : Ow w0 w g M L O) (e0 : Int) : GotF w0 g M L O (frE e0) (.returned (.tuple #[.agg #[.slice none 0 0, .slice none 0 0], .int .i64 e0])) w := by
  refine ⟨none, 0, 0, none, 0, 0, rfl, ?_⟩
  have e1 : nats (Na.dig 0) = [] := by rw [Na.dig_zero]; rfl
  show Ow w0 _ g M (L ++ [⟨none, 0, 0, nats (Na.dig 0)⟩] ++ [⟨none, 0, 0, nats (Na.dig 0)⟩]) O
  rw [e1]
  exact (h.old (A := none) (n := 0) (c := 0) (vs := []) (Sl.nil _ _ _) rfl (Nat.le_refl _) (by decide)).old (A := none) (n := 0) (c := 0) (vs := []) (Sl.nil _ _ _) rfl (Nat.le_refl _) (by decide)
set_option maxHeartbeats 4000000 in
theorem qboth_ow (h : Ow w0 w g M L O) (i j k l : Nat) (hi : L[i]? = some ⟨A, n, c, ints p⟩) (hj : L[j]? = some ⟨A2, m, c2, ints q⟩) (hk : L[k]? = some ⟨A3, n3, c3, ints r⟩) (hl : L[l]? = some ⟨A4, n4, c4, ints s⟩) (ht : Tab w0) :
    Calls Tryz.prog 49 #[.agg #[.slice A n c, .slice A2 m c2], .agg #[.slice A3 n3 c3, .slice A4 n4 c4]] w fun e w' => e = .returned (.bool (rv p q && rv r s)) ∧ Ow w0 w' g M L O := by
  have H0 := (h.pair (.slice A n c) (.slice A2 m c2) 26).pair (.slice A3 n3 c3) (.slice A4 n4 c4) 26
  simp only [World.size_alloc, List.append_assoc, List.cons_append, List.nil_append] at H0
  have a0 := H0.p0 (O.length + 0) (by rw [get_r]; rfl)
  have a1 := H0.p1 (O.length + 0) (by rw [get_r]; rfl)
  have HV := Lib.hid (qvalid_ow H0 i j hi hj ht)
  have HI := Lib.hid (And.intro hk (And.intro hl ht))
  clear h H0 hi hj hk hl ht
  cases h1 : rv p q
  · rw [h1] at HV
    rw [Bool.false_and]
    clear h1
    go_enter Tryz.func49, Tryz.ntmps49
    go_wp2_with fail
    refine HV.out.mono ?_
    rintro e w1 ⟨rfl, H1⟩
    have HB := Lib.hid H1.fewO
    clear H1 HV
    go_wp2_with fail
    go_ret
    exact ⟨rfl, HB.out⟩
  · rw [h1] at HV
    rw [Bool.true_and]
    obtain ⟨vb, hvb⟩ : ∃ vb, rv r s = vb := ⟨_, rfl⟩
    rw [hvb]
    have HVb := Lib.hid hvb
    clear h1 hvb
    go_enter Tryz.func49, Tryz.ntmps49
    go_wp2_with fail
    refine HV.out.mono ?_
    rintro e w1 ⟨rfl, H1⟩
    have b0 := H1.p0 (O.length + 1) (by rw [get_r]; rfl)
    have b1 := H1.p1 (O.length + 1) (by rw [get_r]; rfl)
    have HK := Lib.hid (qvalid_ow H1 k l HI.out.1 HI.out.2.1 HI.out.2.2)
    rw [HVb.out] at HK
    clear H1 HV a0 a1
    go_wp2_with fail
    refine HK.out.mono ?_
    rintro e w1 ⟨rfl, H1⟩
    have HB := Lib.hid H1.fewO
    clear H1 HK
    go_wp2_with fail
    go_ret
    exact ⟨rfl, HB.out⟩
set_option maxHeartbeats 8000000 in
theorem qmul_bad (h : Ow w0 w g M L O) (i j k l : Nat) (hi : L[i]? = some ⟨A, n, c, ints p⟩) (hj : L[j]? = some ⟨A2, m, c2, ints q⟩) (hk : L[k]? = some ⟨A3, n3, c3, ints r⟩) (hl : L[l]? = some ⟨A4, n4, c4, ints s⟩) (ht : Tab w0) (hb : (rv p q && rv r s) = false) :
    Calls Tryz.prog 21 #[.agg #[.slice A n c, .slice A2 m c2], .agg #[.slice A3 n3 c3, .slice A4 n4 c4]] w (GotF w0 g M L O (frE 1)) := by
  have H0 := ((h.pair (.slice A n c) (.slice A2 m c2) 26).pair (.slice A3 n3 c3) (.slice A4 n4 c4) 26).pair (.slice none 0 0) (.slice none 0 0) 26
  simp only [World.size_alloc, List.append_assoc, List.cons_append, List.nil_append] at H0
  have a0 := H0.p0 (O.length + 0) (by rw [get_r]; rfl)
  have a1 := H0.p1 (O.length + 0) (by rw [get_r]; rfl)
  have b0 := H0.p0 (O.length + 1) (by rw [get_r]; rfl)
  have b1 := H0.p1 (O.length + 1) (by rw [get_r]; rfl)
  have HV := Lib.hid (qboth_ow H0 i j k l hi hj hk hl ht)
  rw [hb] at HV
  clear h H0 hi hj hk hl ht hb
  go_enter Tryz.func21, Tryz.ntmps21
  go_wp2_with fail
  refine HV.out.mono ?_
  rintro e w1 ⟨rfl, H1⟩
  have k0 := H1.p0 (O.length + 2) (by rw [get_r]; rfl)
  have k1 := H1.p1 (O.length + 2) (by rw [get_r]; rfl)
  have f0 := H1.pf (O.length + 2) (by rw [get_r]; rfl) 0
  have f1 := H1.pf (O.length + 2) (by rw [get_r]; rfl) 1
  have H3 := H1.set0 (O.length + 2) (by rw [get_r]; rfl) (.slice none 0 0)
  rw [set_r] at H3
  simp only [List.set_cons_succ, List.set_cons_zero] at H3
  have H4 := H3.set1 (O.length + 2) (by rw [get_r]; rfl) (.slice none 0 0)
  rw [set_r] at H4
  simp only [List.set_cons_succ, List.set_cons_zero] at H4
  have s0 := H4.p0 (O.length + 2) (by rw [get_r]; rfl)
  have s1 := H4.p1 (O.length + 2) (by rw [get_r]; rfl)
  have HF := Lib.hid H4.fewO
  clear HV H1 H3 H4 a0 a1 b0 b1
  go_wp2_with fail
  refine bodyPost_ret (v := .tuple #[.agg #[.slice none 0 0, .slice none 0 0], .int .i64 1]) (by simp [results, Tryz.results21, go_sem, s0, s1]) rfl ?_
  exact gotF_nil HF.out 1
end
end Go.Proofs.YtnfjnlnphdmdmaaGreatDoor

/- The product of two valid fractions. -/
namespace Go.Proofs.YtnfjnlnphdmdmaaGreatDoor
open Go.RowKit Go.Sort
set_option linter.unusedVariables false
set_option maxRecDepth 100000
theorem mid_less (L l : List Ob) (x y : Ob) : ∀ o ∈ L ++ [x] ++ [y], o ∈ L ++ l ++ [x] ++ [y] := fun o ho => by
  simp only [List.mem_append] at ho ⊢
  rcases ho with (h | h) | h
  · exact .inl (.inl (.inl h))
  · exact .inl (.inr h)
  · exact .inr h
def DoR (w0 : World) (g : Option Nat) (M M2 : List (Nat × Value)) (b : Nat) (L : List Ob) (O : List Rw) (er : Int) (l : List Nat) (e : Ending) (w' : World) : Prop :=
  ∃ (A' : Option Addr) (n' c' : Nat), e = .returned (.agg #[.slice A' n' c']) ∧ Ow w0 w' g (M ++ (b, .int .i64 er) :: M2) (L ++ [⟨A', n', c', nats l⟩]) O
section
variable {w0 w w' : World} {g : Option Nat} {M M2 : List (Nat × Value)} {L : List Ob} {O : List Rw} {A A2 A3 A4 : Option Addr} {b n c m c2 n3 c3 n4 c4 x y : Nat}
theorem do_mul (h : Ow w0 w g (M ++ (b, .int .i64 0) :: M2) L O) (i j : Nat) (hi : L[i]? = some ⟨A, n, c, nats (Na.dig x)⟩) (hj : L[j]? = some ⟨A2, m, c2, nats (Na.dig y)⟩) (hx : x < Na.top) (hy : y < Na.top) :
    Calls Tryz.prog 51 #[.pointer (some ⟨b, 0, none⟩), .func (.func 52) #[] #[], .agg #[.slice A n c], .agg #[.slice A2 m c2]] w (DoR w0 g M M2 b L O (resE (x * y)) (resL (x * y))) :=
  (qdo_mul_go h (M.length + 0) b (by rw [get_r]; rfl) i j (p := Na.up (Na.dig x)) (q := Na.up (Na.dig y)) (by rw [nats_up]; exact hi) (by rw [nats_up]; exact hj)).mono fun e w' ⟨A', n', c', he, ho⟩ => by
    rw [set_r, List.set_cons_zero, (mul_ok hx hy).1, (mul_ok hx hy).2] at ho
    exact ⟨A', n', c', he, ho⟩
theorem do_no {e0 : Int} (h : Ow w0 w g (M ++ (b, .int .i64 e0) :: M2) L O) (he : (e0 != 0) = true) (f : Value) :
    Calls Tryz.prog 51 #[.pointer (some ⟨b, 0, none⟩), f, .agg #[.slice A n c], .agg #[.slice A2 m c2]] w (DoR w0 g M M2 b L O e0 []) :=
  (qdo_no h (M.length + 0) b e0 (by rw [get_r]; rfl) he f).mono fun e w' ho => ho
theorem smake_d (h : Ow w0 w g (M ++ (b, .int .i64 0) :: M2) L O) (i j : Nat) (hi : L[i]? = some ⟨A, n, c, nats (Na.dig x)⟩) (hj : L[j]? = some ⟨A2, m, c2, nats (Na.dig y)⟩) (hx : x < Na.top) (hy : y < Na.top) (ht : Tab w0) :
    Calls Tryz.prog 50 #[.pointer (some ⟨b, 0, none⟩), .agg #[.slice A n c], .agg #[.slice A2 m c2]] w (GotF w0 g (M ++ (b, .int .i64 0) :: M2) L O (frM x y)) := by
  have := qsmake_go h (M.length + 0) b (by rw [get_r]; rfl) i j (p := Na.up (Na.dig x)) (q := Na.up (Na.dig y)) (by rw [nats_up]; exact hi) (by rw [nats_up]; exact hj) ht
  unfold makeF at this
  rw [Na.vld_dig hx, Na.vld_dig hy, num_dig, num_dig] at this
  exact this
theorem smake_no {e0 : Int} (h : Ow w0 w g (M ++ (b, .int .i64 e0) :: M2) L O) (he : (e0 != 0) = true) :
    Calls Tryz.prog 50 #[.pointer (some ⟨b, 0, none⟩), .agg #[.slice A n c], .agg #[.slice A2 m c2]] w (GotF w0 g (M ++ (b, .int .i64 e0) :: M2) L O (frE e0)) :=
  qsmake_no h (M.length + 0) b e0 (by rw [get_r]; rfl) he
set_option maxHeartbeats 8000000 in
theorem qmul_ok {x y u v : Nat} (h : Ow w0 w g M L O) (i j k l : Nat) (hi : L[i]? = some ⟨A, n, c, nats (Na.dig x)⟩) (hj : L[j]? = some ⟨A2, m, c2, nats (Na.dig y)⟩) (hk : L[k]? = some ⟨A3, n3, c3, nats (Na.dig u)⟩) (hl : L[l]? = some ⟨A4, n4, c4, nats (Na.dig v)⟩) (ht : Tab w0)
    (hx : x < Na.top) (hy : y < Na.top) (hu : u < Na.top) (hv : v < Na.top) (h1 : rv (Na.up (Na.dig x)) (Na.up (Na.dig y)) = true) (h2 : rv (Na.up (Na.dig u)) (Na.up (Na.dig v)) = true) (hX : x * u < Na.top) (hZ : y * v < Na.top) :
    Calls Tryz.prog 21 #[.agg #[.slice A n c, .slice A2 m c2], .agg #[.slice A3 n3 c3, .slice A4 n4 c4]] w (GotF w0 g M L O (frM (x * u) (y * v))) := by
  have H0 := ((h.pair (.slice A n c) (.slice A2 m c2) 26).pair (.slice A3 n3 c3) (.slice A4 n4 c4) 26).pair (.slice none 0 0) (.slice none 0 0) 26
  simp only [World.size_alloc, List.append_assoc, List.cons_append, List.nil_append] at H0
  have a0 := H0.p0 (O.length + 0) (by rw [get_r]; rfl)
  have a1 := H0.p1 (O.length + 0) (by rw [get_r]; rfl)
  have b0 := H0.p0 (O.length + 1) (by rw [get_r]; rfl)
  have b1 := H0.p1 (O.length + 1) (by rw [get_r]; rfl)
  have HV := Lib.hid (qboth_ow (p := Na.up (Na.dig x)) (q := Na.up (Na.dig y)) (r := Na.up (Na.dig u)) (s := Na.up (Na.dig v)) H0 i j k l (by rw [nats_up]; exact hi) (by rw [nats_up]; exact hj) (by rw [nats_up]; exact hk) (by rw [nats_up]; exact hl) ht)
  rw [h1, h2, Bool.and_true] at HV
  have HI := Lib.hid (And.intro hi (And.intro hj (And.intro hk (And.intro hl ht))))
  have HX := Lib.hid (And.intro hx (And.intro hy (And.intro hu (And.intro hv (And.intro hX hZ)))))
  obtain ⟨t, hmk⟩ : ∃ t, frM (x * u) (y * v) = t := ⟨_, rfl⟩
  have HMk := Lib.hid hmk
  rw [hmk]
  clear h H0 hi hj hk hl ht h1 h2 hx hy hu hv hX hZ hmk
  go_enter Tryz.func21, Tryz.ntmps21
  go_wp2_with fail
  refine HV.out.mono ?_
  rintro e w1 ⟨rfl, H1⟩
  have HD := Lib.hid (H1.boxed (.int .i64 0) 60).drew
  clear HV H1 a0 a1 b0 b1
  go_upto_region 4 with (fail)
  have a0 := HD.out.p0 (O.length + 0) (by rw [get_r]; rfl)
  have a1 := HD.out.p1 (O.length + 0) (by rw [get_r]; rfl)
  have b0 := HD.out.p0 (O.length + 1) (by rw [get_r]; rfl)
  have b1 := HD.out.p1 (O.length + 1) (by rw [get_r]; rfl)
  have HA1 := Lib.hid (do_mul HD.out i k HI.out.1 HI.out.2.2.1 HX.out.1 HX.out.2.2.1)
  rw [resE_ok HX.out.2.2.2.2.1, resL_ok HX.out.2.2.2.2.1] at HA1
  go_region_held3 (fun W => W.cell? ⟨w.heap.size, 0, none⟩ = some (.slice A n c) ∧ W.cell? ⟨w.heap.size, 1, none⟩ = some (.slice A2 m c2) ∧ W.cell? ⟨w.heap.size + 1, 0, none⟩ = some (.slice A3 n3 c3) ∧ W.cell? ⟨w.heap.size + 1, 1, none⟩ = some (.slice A4 n4 c4)) (first | exact ⟨a0, a1, b0, b1⟩ | exact ⟨how4.p0 (O.length + 0) (by rw [get_r]; rfl), how4.p1 (O.length + 0) (by rw [get_r]; rfl), how4.p0 (O.length + 1) (by rw [get_r]; rfl), how4.p1 (O.length + 1) (by rw [get_r]; rfl)⟩ | exact ⟨how.p0 (O.length + 0) (by rw [get_r]; rfl), how.p1 (O.length + 0) (by rw [get_r]; rfl), how.p0 (O.length + 1) (by rw [get_r]; rfl), how.p1 (O.length + 1) (by rw [get_r]; rfl)⟩ | exact ⟨how2.p0 (O.length + 0) (by rw [get_r]; rfl), how2.p1 (O.length + 0) (by rw [get_r]; rfl), how2.p0 (O.length + 1) (by rw [get_r]; rfl), how2.p1 (O.length + 1) (by rw [get_r]; rfl)⟩ | exact ⟨how3.p0 (O.length + 0) (by rw [get_r]; rfl), how3.p1 (O.length + 0) (by rw [get_r]; rfl), how3.p0 (O.length + 1) (by rw [get_r]; rfl), how3.p1 (O.length + 1) (by rw [get_r]; rfl)⟩) ((first | (go_at_call 51; (with_reducible refine HA1.out.mono ?_); rintro e v2 ⟨B1, m1, d1, rfl, how⟩; have hl1 : (L ++ [(⟨B1, m1, d1, nats (Na.dig (x * u))⟩ : Ob)])[L.length + 0]? = some ⟨B1, m1, d1, nats (Na.dig (x * u))⟩ := (by rw [get_r]; rfl); have HA2 := Lib.hid (do_mul how j l ((get_l _ _ (get_lt HI.out.2.1)).trans HI.out.2.1) ((get_l _ _ (get_lt HI.out.2.2.2.1)).trans HI.out.2.2.2.1) HX.out.2.1 HX.out.2.2.2.1); rw [resE_ok HX.out.2.2.2.2.2, resL_ok HX.out.2.2.2.2.2] at HA2) | (go_at_call 51; (with_reducible refine HA2.out.mono ?_); rintro e v3 ⟨B2, m2, d2, rfl, how2⟩; rw [List.append_assoc] at how2; have HA3 := Lib.hid (smake_d how2 (L.length + 0) (L.length + 1) (by rw [get_r]; rfl) (by rw [get_r]; rfl) HX.out.2.2.2.2.1 HX.out.2.2.2.2.2 HI.out.2.2.2.2); rw [HMk.out] at HA3) | (go_at_call 50; (with_reducible refine HA3.out.mono ?_); rintro e v4 ⟨C1, k1, e1, C2, k2, e2, rfl, how3⟩; have z0 := how3.p0 (O.length + 2) (by rw [get_r]; rfl); have z1 := how3.p1 (O.length + 2) (by rw [get_r]; rfl); have f0 := how3.pf (O.length + 2) (by rw [get_r]; rfl) 0; have f1 := how3.pf (O.length + 2) (by rw [get_r]; rfl) 1; have how4' := how3.set0 (O.length + 2) (by rw [get_r]; rfl) (.slice C1 k1 e1); rw [set_r] at how4'; simp only [List.set_cons_succ, List.set_cons_zero] at how4'; have how4 := how4'.set1 (O.length + 2) (by rw [get_r]; rfl) (.slice C2 k2 e2); rw [set_r] at how4; simp only [List.set_cons_succ, List.set_cons_zero] at how4)))
  have s0 := how4.p0 (O.length + 2) (by rw [get_r]; rfl)
  have s1 := how4.p1 (O.length + 2) (by rw [get_r]; rfl)
  have HF := Lib.hid (how4.fewM.fewO.less (mid_less L _ _ _))
  clear how how2 how3 how4' how4 a0 a1 b0 b1 z0 z1 f0 f1 HA1 HA2 HA3
  go_wp2_with fail
  refine bodyPost_ret (v := .tuple #[.agg #[.slice C1 k1 e1, .slice C2 k2 e2], .int .i64 t.2.2]) (by simp [results, Tryz.results21, go_sem, s0, s1]) rfl ?_
  exact ⟨C1, k1, e1, C2, k2, e2, rfl, HF.out⟩
end
end Go.Proofs.YtnfjnlnphdmdmaaGreatDoor
