/- Dd Df Gf Sa Poly PolyH FieldA PolyB -/
import Derived.Test.YtdjfbbfbdgiblaaGreatDoorS01
import Derived.Test.YtdjfbbfbdgiblaaGreatDoorS09
import Derived.Test.YtdjfbbfbdgiblaaGreatDoorChecked
import Derived.WalkKit
import Derived.WalkLawsBesides
import Derived.WalkSpells
import Derived.Lib.Hide
import Derived.Laws.BitsAllLaws
import Derived.StillTailTactics
namespace Go.Proofs.YtdjfbbfbdgiblaaGreatDoor
open Go.RowKit Go.Sort
set_option linter.unusedVariables false
set_option maxRecDepth 100000
/-- a number that a call has handed back, if it is done -/
def GN (L : Nat → Bool) (k : Nat) (u : Value) (X : Nat) (Ls : List Ob) : Prop :=
  L k = true → ∃ (t : Nat) (A : Option Addr) (n c : Nat), u = .agg #[.slice A n c] ∧ Ls[t]? = some ⟨A, n, c, nats (Na.dig X)⟩
theorem GN.more {L : Nat → Bool} {k : Nat} {u : Value} {X : Nat} {Ls l : List Ob} (h : GN L k u X Ls) : GN L k u X (Ls ++ l) := fun e => by
  obtain ⟨t, B, m, d, h1, h2⟩ := h e
  exact ⟨t, B, m, d, h1, by rw [List.getElem?_append_left (get_lt h2)]; exact h2⟩
theorem GN.new (L : Nat → Bool) (k : Nat) (A : Option Addr) (n c X : Nat) (Ls : List Ob) : GN L k (.agg #[.slice A n c]) X (Ls ++ [⟨A, n, c, nats (Na.dig X)⟩]) := fun _ => ⟨Ls.length, A, n, c, rfl, by simp⟩
/-- a variable that has got a number, if the store is done -/
def GV (L : Nat → Bool) (k : Nat) (u : Value) (X : Nat) (Ls : List Ob) : Prop :=
  L k = true → ∃ (t : Nat) (A : Option Addr) (n c : Nat), u = .slice A n c ∧ Ls[t]? = some ⟨A, n, c, nats (Na.dig X)⟩
theorem GV.more {L : Nat → Bool} {k : Nat} {u : Value} {X : Nat} {Ls l : List Ob} (h : GV L k u X Ls) : GV L k u X (Ls ++ l) := fun e => by
  obtain ⟨t, B, m, d, h1, h2⟩ := h e
  exact ⟨t, B, m, d, h1, by rw [List.getElem?_append_left (get_lt h2)]; exact h2⟩
/-- a literal of numbers, if it is done -/
def GL (L : Nat → Bool) (k : Nat) (u : Value) (xs : List Nat) (m : Nat) (LL Ls : List Ob) : Prop :=
  L k = true → ∃ (t : Nat) (A : Option Addr) (vs : List Value), u = .slice A m m ∧ Ls[t]? = some ⟨A, m, m, vs⟩ ∧ Nums (LL ++ Ls) vs xs
theorem Nums.more {L l : List Ob} {vs : List Value} {xs : List Nat} (h : Nums L vs xs) : Nums (L ++ l) vs xs := fun k x hx => by
  obtain ⟨A, n, c, t, h1, h2⟩ := h k x hx
  exact ⟨A, n, c, t, h1, by rw [List.getElem?_append_left (get_lt h2)]; exact h2⟩
theorem GL.more {L : Nat → Bool} {k : Nat} {u : Value} {xs : List Nat} {m : Nat} {LL Ls l : List Ob} (h : GL L k u xs m LL Ls) : GL L k u xs m LL (Ls ++ l) := fun e => by
  obtain ⟨t, A, vs, h1, h2, h3⟩ := h e
  exact ⟨t, A, vs, h1, by rw [List.getElem?_append_left (get_lt h2)]; exact h2, by rw [← List.append_assoc]; exact h3.more⟩
theorem GL.new (L : Nat → Bool) (k : Nat) (A : Option Addr) (m : Nat) (vs : List Value) (LL Ls : List Ob) {xs : List Nat} (h : Nums (LL ++ Ls) vs xs) : GL L k (.slice A m m) xs m LL (Ls ++ [⟨A, m, m, vs⟩]) := fun _ => ⟨Ls.length, A, vs, rfl, by simp, by rw [← List.append_assoc]; exact h.more⟩
theorem Nums.three {L : List Ob} {A1 A2 A3 : Option Addr} {n1 c1 n2 c2 n3 c3 x1 x2 x3 t1 t2 t3 : Nat} (h1 : L[t1]? = some ⟨A1, n1, c1, nats (Na.dig x1)⟩) (h2 : L[t2]? = some ⟨A2, n2, c2, nats (Na.dig x2)⟩) (h3 : L[t3]? = some ⟨A3, n3, c3, nats (Na.dig x3)⟩) : Nums L [.slice A1 n1 c1, .slice A2 n2 c2, .slice A3 n3 c3] [x1, x2, x3] := fun k x hx => by
  match k, hx with
  | 0, hx => obtain rfl : x1 = x := by simpa using hx
             exact ⟨A1, n1, c1, t1, rfl, h1⟩
  | 1, hx => obtain rfl : x2 = x := by simpa using hx
             exact ⟨A2, n2, c2, t2, rfl, h2⟩
  | 2, hx => obtain rfl : x3 = x := by simpa using hx
             exact ⟨A3, n3, c3, t3, rfl, h3⟩
theorem Nums.two {L : List Ob} {A1 A2 : Option Addr} {n1 c1 n2 c2 x1 x2 t1 t2 : Nat} (h1 : L[t1]? = some ⟨A1, n1, c1, nats (Na.dig x1)⟩) (h2 : L[t2]? = some ⟨A2, n2, c2, nats (Na.dig x2)⟩) : Nums L [.slice A1 n1 c1, .slice A2 n2 c2] [x1, x2] := fun k x hx => by
  match k, hx with
  | 0, hx => obtain rfl : x1 = x := by simpa using hx
             exact ⟨A1, n1, c1, t1, rfl, h1⟩
  | 1, hx => obtain rfl : x2 = x := by simpa using hx
             exact ⟨A2, n2, c2, t2, rfl, h2⟩
/-- a number and an error that a call has handed back, if it is done -/
def GT (L : Nat → Bool) (k : Nat) (u : Value) (X : Nat) (e : Int) (Ls : List Ob) : Prop :=
  L k = true → ∃ (t : Nat) (A : Option Addr) (n c : Nat), u = .tuple #[.agg #[.slice A n c], .int .i64 e] ∧ Ls[t]? = some ⟨A, n, c, nats (Na.dig X)⟩
theorem GT.more {L : Nat → Bool} {k : Nat} {u : Value} {X : Nat} {e : Int} {Ls l : List Ob} (h : GT L k u X e Ls) : GT L k u X e (Ls ++ l) := fun e => by
  obtain ⟨t, B, m, d, h1, h2⟩ := h e
  exact ⟨t, B, m, d, h1, by rw [List.getElem?_append_left (get_lt h2)]; exact h2⟩
theorem GT.new (L : Nat → Bool) (k : Nat) (A : Option Addr) (n c X : Nat) (e : Int) (Ls : List Ob) : GT L k (.tuple #[.agg #[.slice A n c], .int .i64 e]) X e (Ls ++ [⟨A, n, c, nats (Na.dig X)⟩]) := fun _ => ⟨Ls.length, A, n, c, rfl, by simp⟩
theorem GV.new (L : Nat → Bool) (k : Nat) (A : Option Addr) (n c X : Nat) (Ls : List Ob) : GV L k (.slice A n c) X (Ls ++ [⟨A, n, c, nats (Na.dig X)⟩]) := fun _ => ⟨Ls.length, A, n, c, rfl, by simp⟩
section
variable {w0 w w' : World} {g : Option Nat} {M M2 : List (Nat × Value)} {L : List Ob} {O : List Rw} {A A2 A3 A4 : Option Addr} {b n c m c2 n3 c3 n4 c4 x y p sb : Nat} {P Q : Option Addr} {np cp nq cq : Nat}
theorem nadd_fr0 (h : Ow w0 w g M L O) (i j : Nat) (hi : L[i]? = some ⟨A, n, c, nats (Na.dig x)⟩) (hj : L[j]? = some ⟨A2, m, c2, nats (Na.dig y)⟩) (hx : x < Na.top) (hy : y < Na.top) (hs : x + y < Na.top) :
    Calls Tryz.prog 88 #[.agg #[.slice A n c], .agg #[.slice A2 m c2]] w (GotO w0 g M L O (Na.dig (x + y)) 0) := by
  have := nadd_fr h i j hi hj hx hy
  rwa [resL_ok hs, resE_ok hs] at this
theorem nsub_fr0 (h : Ow w0 w g M L O) (i j : Nat) (hi : L[i]? = some ⟨A, n, c, nats (Na.dig x)⟩) (hj : L[j]? = some ⟨A2, m, c2, nats (Na.dig y)⟩) (hx : x < Na.top) (hy : y ≤ x) :
    Calls Tryz.prog 85 #[.agg #[.slice A n c], .agg #[.slice A2 m c2]] w (GotO w0 g M L O (Na.dig (x - y)) 0) := by
  have := ag_sub (zs := Na.up (Na.dig x)) (ys := Na.up (Na.dig y)) h i j (by rw [nats_up]; exact hi) (by rw [nats_up]; exact hj)
  unfold subL subE at this
  rw [Na.vld_dig hx, Na.vld_dig (Nat.lt_of_le_of_lt hy hx), num_dig, num_dig] at this
  simpa [Nat.not_lt.2 hy] using this
structure SaK (w0 : World) (g : Option Nat) (M : List (Nat × Value)) (L : List Ob) (O : List Rw) (sb xb : Nat) (P : Option Addr) (np cp : Nat) (Q : Option Addr) (nq cq : Nat) (A : Option Addr) (n c p x : Nat) (Ld : Nat → Bool) (u0 u1 u2 u3 u4 u5 u6 u7 u8 u9 : Value) (va : Value) (Ls : List Ob) (W : World) : Prop where
  ow : Ow w0 W g (M ++ [(xb, .slice A n c)]) (L ++ Ls) (O ++ [Rw.pair sb 71 (va) (.slice Q nq cq)])
  h0 : Ld 0 = true → u0 = .pointer (some ⟨sb, 0, none⟩)
  h1 : Ld 1 = true → u1 = .pointer (some ⟨sb, 0, none⟩)
  h2 : Ld 2 = true → u2 = .pointer (some ⟨sb, 0, none⟩)
  h3 : Ld 3 = true → u3 = .agg #[.slice P np cp]
  h4 : Ld 4 = true → u4 = .agg #[.slice A n c]
  h5 : GT Ld 5 u5 (p + x) 0 Ls
  h6 : GT Ld 6 u6 (p + x) 0 Ls
  h7 : GN Ld 7 u7 (p + x) Ls
  h8 : Ld 8 = true → u8 = .int .i64 0
  h9 : Ld 9 = true → u9 = .pointer (some ⟨sb, 0, none⟩)
  v0 : Ld 10 = false → va = .slice P np cp
  v1 : GV Ld 10 va (p + x) Ls
def SaI (w0 : World) (g : Option Nat) (M : List (Nat × Value)) (L : List Ob) (O : List Rw) (sb xb : Nat) (P : Option Addr) (np cp : Nat) (Q : Option Addr) (nq cq : Nat) (A : Option Addr) (n c p x : Nat) (A0 : Act) (Ld : Nat → Bool) (a : Act) (W : World) : Prop :=
  ∃ (u0 u1 u2 u3 u4 u5 u6 u7 u8 u9 : Value) (va : Value) (Ls : List Ob), a = ((((((((((A0.put (some 15) u0).put (some 16) u1).put (some 17) u2).put (some 18) u3).put (some 19) u4).put (some 20) u5).put (some 14) u6).put (some 21) u7).put (some 22) u8).put (some 23) u9) ∧ SaK w0 g M L O sb xb P np cp Q nq cq A n c p x Ld u0 u1 u2 u3 u4 u5 u6 u7 u8 u9 va Ls W
structure SgK (w0 : World) (g : Option Nat) (M : List (Nat × Value)) (L : List Ob) (O : List Rw) (sb xb : Nat) (P : Option Addr) (np cp : Nat) (Q : Option Addr) (nq cq : Nat) (A : Option Addr) (n c p x : Nat) (Ld : Nat → Bool) (u0 u1 u2 u3 u4 u5 u6 u7 u8 u9 : Value) (va : Value) (Ls : List Ob) (W : World) : Prop where
  ow : Ow w0 W g (M ++ [(xb, .slice A n c)]) (L ++ Ls) (O ++ [Rw.pair sb 71 (.slice P np cp) (va)])
  h0 : Ld 0 = true → u0 = .pointer (some ⟨sb, 1, none⟩)
  h1 : Ld 1 = true → u1 = .pointer (some ⟨sb, 1, none⟩)
  h2 : Ld 2 = true → u2 = .pointer (some ⟨sb, 1, none⟩)
  h3 : Ld 3 = true → u3 = .agg #[.slice Q nq cq]
  h4 : Ld 4 = true → u4 = .agg #[.slice A n c]
  h5 : GT Ld 5 u5 (p + x) 0 Ls
  h6 : GT Ld 6 u6 (p + x) 0 Ls
  h7 : GN Ld 7 u7 (p + x) Ls
  h8 : Ld 8 = true → u8 = .int .i64 0
  h9 : Ld 9 = true → u9 = .pointer (some ⟨sb, 1, none⟩)
  v0 : Ld 10 = false → va = .slice Q nq cq
  v1 : GV Ld 10 va (p + x) Ls
def SgI (w0 : World) (g : Option Nat) (M : List (Nat × Value)) (L : List Ob) (O : List Rw) (sb xb : Nat) (P : Option Addr) (np cp : Nat) (Q : Option Addr) (nq cq : Nat) (A : Option Addr) (n c p x : Nat) (A0 : Act) (Ld : Nat → Bool) (a : Act) (W : World) : Prop :=
  ∃ (u0 u1 u2 u3 u4 u5 u6 u7 u8 u9 : Value) (va : Value) (Ls : List Ob), a = ((((((((((A0.put (some 15) u0).put (some 16) u1).put (some 17) u2).put (some 18) u3).put (some 19) u4).put (some 20) u5).put (some 14) u6).put (some 21) u7).put (some 22) u8).put (some 23) u9) ∧ SgK w0 g M L O sb xb P np cp Q nq cq A n c p x Ld u0 u1 u2 u3 u4 u5 u6 u7 u8 u9 va Ls W
set_option maxHeartbeats 8000000 in
theorem c_sadd (h : Ow w0 w g M L (O ++ [Rw.pair sb 71 (.slice P np cp) (.slice Q nq cq)])) (i jp : Nat) (hi : L[i]? = some ⟨A, n, c, nats (Na.dig x)⟩) (hp : L[jp]? = some ⟨P, np, cp, nats (Na.dig p)⟩) (hpt : p < Na.top) (hx : x < Na.top) (hs : p + x < Na.top) :
    Calls Tryz.prog 44 #[.pointer (some ⟨sb, 0, none⟩), .agg #[.slice A n c], .bool false] w fun e w' => ∃ (A1 : Option Addr) (n1 c1 : Nat), e = .returned (.tuple #[]) ∧ Ow w0 w' g M (L ++ [⟨A1, n1, c1, nats (Na.dig (p + x))⟩]) (O ++ [Rw.pair sb 71 (.slice A1 n1 c1) (.slice Q nq cq)]) := by
  have H0 := h.boxed (.slice A n c) 31
  have HI := Lib.hid (And.intro hi hp)
  have HB := Lib.hid (And.intro hpt (And.intro hx hs))
  have HO := Lib.hid H0
  have k0 := H0.cell (M.length + 0) (by rw [get_r]; rfl)
  have p0 := H0.p0 (O.length + 0) (by rw [get_r]; rfl)
  clear h H0 hi hp hpt hx hs
  go_enter Tryz.func44, Tryz.ntmps44
  go_wp2_with fail
  refine reg_inv34 (SaI w0 g M L O sb w.heap.size P np cp Q nq cq A n c p x) (by kernel_rfl) (by kernel_rfl) ?_ ?_ ?_
  · refine ⟨undef, undef, undef, undef, undef, undef, undef, undef, undef, undef, .slice P np cp, [], ?_, ⟨by rw [List.append_nil]; exact HO.out.drew, ?_, ?_, ?_, ?_, ?_, ?_, ?_, ?_, ?_, ?_, fun _ => rfl, ?_⟩⟩
    · simp only [Act.put, List.setIfInBounds_toArray, List.set_cons_zero, List.set_cons_succ]
    all_goals (intro h; cases h)
  · rintro jj Ld b W hj hf hcl hd ⟨u0, u1, u2, u3, u4, u5, u6, u7, u8, u9, va, Ls, rfl, hC⟩
    have hj' : jj < 11 := hj
    have hcase : jj = 0 ∨ jj = 1 ∨ jj = 2 ∨ jj = 3 ∨ jj = 4 ∨ jj = 5 ∨ jj = 6 ∨ jj = 7 ∨ jj = 8 ∨ jj = 9 ∨ jj = 10 := by omega
    have q0 := hC.ow.p0 (O.length + 0) (by rw [get_r]; rfl)
    have qz := hC.ow.pf (O.length + 0) (by rw [get_r]; rfl) 0
    have qx := hC.ow.cell (M.length + 0) (by rw [get_r]; rfl)
    clear hj hj' k0 p0
    simp only [Act.put, List.setIfInBounds_toArray, List.set_cons_zero, List.set_cons_succ]
    rcases hcase with rfl | rfl | rfl | rfl | rfl | rfl | rfl | rfl | rfl | rfl | rfl
    · clear hd hcl
      refine wpOp_step rfl (fun K hK => ?_)
      go_simp
      refine hK _ _ ⟨_, u1, u2, u3, u4, u5, u6, u7, u8, u9, va, Ls, ?_, ⟨hC.ow, fun _ => rfl, hC.h1, hC.h2, hC.h3, hC.h4, hC.h5, hC.h6, hC.h7, hC.h8, hC.h9, hC.v0, hC.v1⟩⟩
      simp only [Act.put, List.setIfInBounds_toArray, List.set_cons_zero, List.set_cons_succ]
    · clear hd hcl
      refine wpOp_step rfl (fun K hK => ?_)
      go_simp
      refine hK _ _ ⟨u0, _, u2, u3, u4, u5, u6, u7, u8, u9, va, Ls, ?_, ⟨hC.ow, hC.h0, fun _ => rfl, hC.h2, hC.h3, hC.h4, hC.h5, hC.h6, hC.h7, hC.h8, hC.h9, hC.v0, hC.v1⟩⟩
      simp only [Act.put, List.setIfInBounds_toArray, List.set_cons_zero, List.set_cons_succ]
    · obtain rfl := hC.h1 (hd 1 (by kernel_rfl))
      clear hd hcl
      refine wpOp_step rfl (fun K hK => ?_)
      go_simp
      refine hK _ _ ⟨u0, _, _, u3, u4, u5, u6, u7, u8, u9, va, Ls, ?_, ⟨hC.ow, hC.h0, hC.h1, fun _ => rfl, hC.h3, hC.h4, hC.h5, hC.h6, hC.h7, hC.h8, hC.h9, hC.v0, hC.v1⟩⟩
      simp only [Act.put, List.setIfInBounds_toArray, List.set_cons_zero, List.set_cons_succ]
    · obtain rfl := hC.h2 (hd 2 (by kernel_rfl))
      have g5 : Ld 5 = false := by cases e : Ld 5 with | false => rfl | true => (rw [hcl 5 3 e (by kernel_rfl)] at hf; cases hf)
      have g6 : Ld 6 = false := by cases e : Ld 6 with | false => rfl | true => (rw [hcl 6 5 e (by kernel_rfl)] at g5; cases g5)
      have g7 : Ld 7 = false := by cases e : Ld 7 with | false => rfl | true => (rw [hcl 7 6 e (by kernel_rfl)] at g6; cases g6)
      have g10 : Ld 10 = false := by cases e : Ld 10 with | false => rfl | true => (rw [hcl 10 7 e (by kernel_rfl)] at g7; cases g7)
      obtain rfl := hC.v0 g10
      clear hd hcl
      refine wpOp_step rfl (fun K hK => ?_)
      go_simp
      refine hK _ _ ⟨u0, u1, _, _, u4, u5, u6, u7, u8, u9, _, Ls, ?_, ⟨hC.ow, hC.h0, hC.h1, hC.h2, fun _ => rfl, hC.h4, hC.h5, hC.h6, hC.h7, hC.h8, hC.h9, hC.v0, hC.v1⟩⟩
      simp only [Act.put, List.setIfInBounds_toArray, List.set_cons_zero, List.set_cons_succ]
    · clear hd hcl
      refine wpOp_step rfl (fun K hK => ?_)
      go_simp
      refine hK _ _ ⟨u0, u1, u2, u3, _, u5, u6, u7, u8, u9, va, Ls, ?_, ⟨hC.ow, hC.h0, hC.h1, hC.h2, hC.h3, fun _ => rfl, hC.h5, hC.h6, hC.h7, hC.h8, hC.h9, hC.v0, hC.v1⟩⟩
      simp only [Act.put, List.setIfInBounds_toArray, List.set_cons_zero, List.set_cons_succ]
    · obtain rfl := hC.h3 (hd 3 (by kernel_rfl))
      obtain rfl := hC.h4 (hd 4 (by kernel_rfl))
      clear hd hcl
      refine wpOp_step rfl (fun K hK => ?_)
      go_simp
      refine (nadd_fr0 hC.ow jp i ((get_l _ _ (get_lt HI.out.2)).trans HI.out.2) ((get_l _ _ (get_lt HI.out.1)).trans HI.out.1) HB.out.1 HB.out.2.1 HB.out.2.2).mono ?_
      rintro e W' ⟨Az, nz, cz, rfl, ho⟩
      rw [List.append_assoc (L) Ls] at ho
      refine hK _ _ ⟨u0, u1, u2, _, _, _, u6, u7, u8, u9, va, _, ?_, ⟨ho, hC.h0, hC.h1, hC.h2, hC.h3, hC.h4, GT.new _ _ _ _ _ _ _ _, hC.h6.more, hC.h7.more, hC.h8, hC.h9, hC.v0, hC.v1.more⟩⟩
      simp only [Act.put, List.setIfInBounds_toArray, List.set_cons_zero, List.set_cons_succ]
    · obtain ⟨t5, A5, n5, c5, rfl, r5⟩ := hC.h5 (hd 5 (by kernel_rfl))
      clear hd hcl
      refine wpOp_step rfl (fun K hK => ?_)
      go_simp
      refine hK _ _ ⟨u0, u1, u2, u3, u4, _, _, u7, u8, u9, va, Ls, ?_, ⟨hC.ow, hC.h0, hC.h1, hC.h2, hC.h3, hC.h4, hC.h5, fun _ => ⟨t5, A5, n5, c5, rfl, r5⟩, hC.h7, hC.h8, hC.h9, hC.v0, hC.v1⟩⟩
      simp only [Act.put, List.setIfInBounds_toArray, List.set_cons_zero, List.set_cons_succ]
    · obtain ⟨t6, A6, n6, c6, rfl, r6⟩ := hC.h6 (hd 6 (by kernel_rfl))
      clear hd hcl
      refine wpOp_step rfl (fun K hK => ?_)
      go_simp
      refine hK _ _ ⟨u0, u1, u2, u3, u4, u5, _, _, u8, u9, va, Ls, ?_, ⟨hC.ow, hC.h0, hC.h1, hC.h2, hC.h3, hC.h4, hC.h5, hC.h6, fun _ => ⟨t6, A6, n6, c6, rfl, r6⟩, hC.h8, hC.h9, hC.v0, hC.v1⟩⟩
      simp only [Act.put, List.setIfInBounds_toArray, List.set_cons_zero, List.set_cons_succ]
    · obtain ⟨t6, A6, n6, c6, rfl, r6⟩ := hC.h6 (hd 6 (by kernel_rfl))
      clear hd hcl
      refine wpOp_step rfl (fun K hK => ?_)
      go_simp
      refine hK _ _ ⟨u0, u1, u2, u3, u4, u5, _, u7, _, u9, va, Ls, ?_, ⟨hC.ow, hC.h0, hC.h1, hC.h2, hC.h3, hC.h4, hC.h5, hC.h6, hC.h7, fun _ => rfl, hC.h9, hC.v0, hC.v1⟩⟩
      simp only [Act.put, List.setIfInBounds_toArray, List.set_cons_zero, List.set_cons_succ]
    · obtain rfl := hC.h0 (hd 0 (by kernel_rfl))
      clear hd hcl
      refine wpOp_step rfl (fun K hK => ?_)
      go_simp
      refine hK _ _ ⟨_, u1, u2, u3, u4, u5, u6, u7, u8, _, va, Ls, ?_, ⟨hC.ow, hC.h0, hC.h1, hC.h2, hC.h3, hC.h4, hC.h5, hC.h6, hC.h7, hC.h8, fun _ => rfl, hC.v0, hC.v1⟩⟩
      simp only [Act.put, List.setIfInBounds_toArray, List.set_cons_zero, List.set_cons_succ]
    · obtain ⟨t7, A7, n7, c7, rfl, r7⟩ := hC.h7 (hd 7 (by kernel_rfl))
      have R7 : (L ++ Ls)[(L).length + t7]? = some ⟨A7, n7, c7, nats (Na.dig (p + x))⟩ := (get_r _ _ _).trans r7
      obtain rfl := hC.h9 (hd 9 (by kernel_rfl))
      clear hd hcl
      refine wpOp_step rfl (fun K hK => ?_)
      go_simp
      have ho := hC.ow.set0 (O.length + 0) (by rw [get_r]; rfl) (.slice A7 n7 c7)
      rw [set_r, List.set_cons_zero] at ho
      refine hK _ _ ⟨u0, u1, u2, u3, u4, u5, u6, _, u8, _, _, Ls, ?_, ⟨ho, hC.h0, hC.h1, hC.h2, hC.h3, hC.h4, hC.h5, hC.h6, hC.h7, hC.h8, hC.h9, fun e => absurd (show true = false from e) (by decide), fun _ => ⟨t7, A7, n7, c7, rfl, r7⟩⟩⟩
      simp only [Act.put, List.setIfInBounds_toArray, List.set_cons_zero, List.set_cons_succ]
  · rintro Ld b W hL ⟨u0, u1, u2, u3, u4, u5, u6, u7, u8, u9, va, Ls, rfl, hC⟩
    obtain ⟨tz, Az, nz, cz, rfl, rz⟩ := hC.v1 (hL 10 (by show 10 < 11; decide))
    have HF := Lib.hid (hC.ow.fewM.less (L' := L ++ [⟨Az, nz, cz, nats (Na.dig (p + x))⟩]) (fun o ho => by
      rcases List.mem_append.1 ho with h | h
      · exact List.mem_append_left _ h
      · rw [List.mem_singleton] at h
        subst h
        exact List.mem_append_right _ (List.mem_of_getElem? rz)))
    clear hC
    go_end0
    exact ⟨Az, nz, cz, rfl, HF.out⟩
set_option maxHeartbeats 8000000 in
theorem c_sneg (h : Ow w0 w g M L (O ++ [Rw.pair sb 71 (.slice P np cp) (.slice Q nq cq)])) (i jp : Nat) (hi : L[i]? = some ⟨A, n, c, nats (Na.dig x)⟩) (hp : L[jp]? = some ⟨Q, nq, cq, nats (Na.dig p)⟩) (hpt : p < Na.top) (hx : x < Na.top) (hs : p + x < Na.top) :
    Calls Tryz.prog 44 #[.pointer (some ⟨sb, 0, none⟩), .agg #[.slice A n c], .bool true] w fun e w' => ∃ (A1 : Option Addr) (n1 c1 : Nat), e = .returned (.tuple #[]) ∧ Ow w0 w' g M (L ++ [⟨A1, n1, c1, nats (Na.dig (p + x))⟩]) (O ++ [Rw.pair sb 71 (.slice P np cp) (.slice A1 n1 c1)]) := by
  have H0 := h.boxed (.slice A n c) 31
  have HI := Lib.hid (And.intro hi hp)
  have HB := Lib.hid (And.intro hpt (And.intro hx hs))
  have HO := Lib.hid H0
  have k0 := H0.cell (M.length + 0) (by rw [get_r]; rfl)
  have p0 := H0.p0 (O.length + 0) (by rw [get_r]; rfl)
  clear h H0 hi hp hpt hx hs
  go_enter Tryz.func44, Tryz.ntmps44
  go_wp2_with fail
  refine reg_inv34 (SgI w0 g M L O sb w.heap.size P np cp Q nq cq A n c p x) (by kernel_rfl) (by kernel_rfl) ?_ ?_ ?_
  · refine ⟨undef, undef, undef, undef, undef, undef, undef, undef, undef, undef, .slice Q nq cq, [], ?_, ⟨by rw [List.append_nil]; exact HO.out.drew, ?_, ?_, ?_, ?_, ?_, ?_, ?_, ?_, ?_, ?_, fun _ => rfl, ?_⟩⟩
    · simp only [Act.put, List.setIfInBounds_toArray, List.set_cons_zero, List.set_cons_succ]
    all_goals (intro h; cases h)
  · rintro jj Ld b W hj hf hcl hd ⟨u0, u1, u2, u3, u4, u5, u6, u7, u8, u9, va, Ls, rfl, hC⟩
    have hj' : jj < 11 := hj
    have hcase : jj = 0 ∨ jj = 1 ∨ jj = 2 ∨ jj = 3 ∨ jj = 4 ∨ jj = 5 ∨ jj = 6 ∨ jj = 7 ∨ jj = 8 ∨ jj = 9 ∨ jj = 10 := by omega
    have q0 := hC.ow.p1 (O.length + 0) (by rw [get_r]; rfl)
    have qz := hC.ow.pf (O.length + 0) (by rw [get_r]; rfl) 1
    have qx := hC.ow.cell (M.length + 0) (by rw [get_r]; rfl)
    clear hj hj' k0 p0
    simp only [Act.put, List.setIfInBounds_toArray, List.set_cons_zero, List.set_cons_succ]
    rcases hcase with rfl | rfl | rfl | rfl | rfl | rfl | rfl | rfl | rfl | rfl | rfl
    · clear hd hcl
      refine wpOp_step rfl (fun K hK => ?_)
      go_simp
      refine hK _ _ ⟨_, u1, u2, u3, u4, u5, u6, u7, u8, u9, va, Ls, ?_, ⟨hC.ow, fun _ => rfl, hC.h1, hC.h2, hC.h3, hC.h4, hC.h5, hC.h6, hC.h7, hC.h8, hC.h9, hC.v0, hC.v1⟩⟩
      simp only [Act.put, List.setIfInBounds_toArray, List.set_cons_zero, List.set_cons_succ]
    · clear hd hcl
      refine wpOp_step rfl (fun K hK => ?_)
      go_simp
      refine hK _ _ ⟨u0, _, u2, u3, u4, u5, u6, u7, u8, u9, va, Ls, ?_, ⟨hC.ow, hC.h0, fun _ => rfl, hC.h2, hC.h3, hC.h4, hC.h5, hC.h6, hC.h7, hC.h8, hC.h9, hC.v0, hC.v1⟩⟩
      simp only [Act.put, List.setIfInBounds_toArray, List.set_cons_zero, List.set_cons_succ]
    · obtain rfl := hC.h1 (hd 1 (by kernel_rfl))
      clear hd hcl
      refine wpOp_step rfl (fun K hK => ?_)
      go_simp
      refine hK _ _ ⟨u0, _, _, u3, u4, u5, u6, u7, u8, u9, va, Ls, ?_, ⟨hC.ow, hC.h0, hC.h1, fun _ => rfl, hC.h3, hC.h4, hC.h5, hC.h6, hC.h7, hC.h8, hC.h9, hC.v0, hC.v1⟩⟩
      simp only [Act.put, List.setIfInBounds_toArray, List.set_cons_zero, List.set_cons_succ]
    · obtain rfl := hC.h2 (hd 2 (by kernel_rfl))
      have g5 : Ld 5 = false := by cases e : Ld 5 with | false => rfl | true => (rw [hcl 5 3 e (by kernel_rfl)] at hf; cases hf)
      have g6 : Ld 6 = false := by cases e : Ld 6 with | false => rfl | true => (rw [hcl 6 5 e (by kernel_rfl)] at g5; cases g5)
      have g7 : Ld 7 = false := by cases e : Ld 7 with | false => rfl | true => (rw [hcl 7 6 e (by kernel_rfl)] at g6; cases g6)
      have g10 : Ld 10 = false := by cases e : Ld 10 with | false => rfl | true => (rw [hcl 10 7 e (by kernel_rfl)] at g7; cases g7)
      obtain rfl := hC.v0 g10
      clear hd hcl
      refine wpOp_step rfl (fun K hK => ?_)
      go_simp
      refine hK _ _ ⟨u0, u1, _, _, u4, u5, u6, u7, u8, u9, _, Ls, ?_, ⟨hC.ow, hC.h0, hC.h1, hC.h2, fun _ => rfl, hC.h4, hC.h5, hC.h6, hC.h7, hC.h8, hC.h9, hC.v0, hC.v1⟩⟩
      simp only [Act.put, List.setIfInBounds_toArray, List.set_cons_zero, List.set_cons_succ]
    · clear hd hcl
      refine wpOp_step rfl (fun K hK => ?_)
      go_simp
      refine hK _ _ ⟨u0, u1, u2, u3, _, u5, u6, u7, u8, u9, va, Ls, ?_, ⟨hC.ow, hC.h0, hC.h1, hC.h2, hC.h3, fun _ => rfl, hC.h5, hC.h6, hC.h7, hC.h8, hC.h9, hC.v0, hC.v1⟩⟩
      simp only [Act.put, List.setIfInBounds_toArray, List.set_cons_zero, List.set_cons_succ]
    · obtain rfl := hC.h3 (hd 3 (by kernel_rfl))
      obtain rfl := hC.h4 (hd 4 (by kernel_rfl))
      clear hd hcl
      refine wpOp_step rfl (fun K hK => ?_)
      go_simp
      refine (nadd_fr0 hC.ow jp i ((get_l _ _ (get_lt HI.out.2)).trans HI.out.2) ((get_l _ _ (get_lt HI.out.1)).trans HI.out.1) HB.out.1 HB.out.2.1 HB.out.2.2).mono ?_
      rintro e W' ⟨Az, nz, cz, rfl, ho⟩
      rw [List.append_assoc (L) Ls] at ho
      refine hK _ _ ⟨u0, u1, u2, _, _, _, u6, u7, u8, u9, va, _, ?_, ⟨ho, hC.h0, hC.h1, hC.h2, hC.h3, hC.h4, GT.new _ _ _ _ _ _ _ _, hC.h6.more, hC.h7.more, hC.h8, hC.h9, hC.v0, hC.v1.more⟩⟩
      simp only [Act.put, List.setIfInBounds_toArray, List.set_cons_zero, List.set_cons_succ]
    · obtain ⟨t5, A5, n5, c5, rfl, r5⟩ := hC.h5 (hd 5 (by kernel_rfl))
      clear hd hcl
      refine wpOp_step rfl (fun K hK => ?_)
      go_simp
      refine hK _ _ ⟨u0, u1, u2, u3, u4, _, _, u7, u8, u9, va, Ls, ?_, ⟨hC.ow, hC.h0, hC.h1, hC.h2, hC.h3, hC.h4, hC.h5, fun _ => ⟨t5, A5, n5, c5, rfl, r5⟩, hC.h7, hC.h8, hC.h9, hC.v0, hC.v1⟩⟩
      simp only [Act.put, List.setIfInBounds_toArray, List.set_cons_zero, List.set_cons_succ]
    · obtain ⟨t6, A6, n6, c6, rfl, r6⟩ := hC.h6 (hd 6 (by kernel_rfl))
      clear hd hcl
      refine wpOp_step rfl (fun K hK => ?_)
      go_simp
      refine hK _ _ ⟨u0, u1, u2, u3, u4, u5, _, _, u8, u9, va, Ls, ?_, ⟨hC.ow, hC.h0, hC.h1, hC.h2, hC.h3, hC.h4, hC.h5, hC.h6, fun _ => ⟨t6, A6, n6, c6, rfl, r6⟩, hC.h8, hC.h9, hC.v0, hC.v1⟩⟩
      simp only [Act.put, List.setIfInBounds_toArray, List.set_cons_zero, List.set_cons_succ]
    · obtain ⟨t6, A6, n6, c6, rfl, r6⟩ := hC.h6 (hd 6 (by kernel_rfl))
      clear hd hcl
      refine wpOp_step rfl (fun K hK => ?_)
      go_simp
      refine hK _ _ ⟨u0, u1, u2, u3, u4, u5, _, u7, _, u9, va, Ls, ?_, ⟨hC.ow, hC.h0, hC.h1, hC.h2, hC.h3, hC.h4, hC.h5, hC.h6, hC.h7, fun _ => rfl, hC.h9, hC.v0, hC.v1⟩⟩
      simp only [Act.put, List.setIfInBounds_toArray, List.set_cons_zero, List.set_cons_succ]
    · obtain rfl := hC.h0 (hd 0 (by kernel_rfl))
      clear hd hcl
      refine wpOp_step rfl (fun K hK => ?_)
      go_simp
      refine hK _ _ ⟨_, u1, u2, u3, u4, u5, u6, u7, u8, _, va, Ls, ?_, ⟨hC.ow, hC.h0, hC.h1, hC.h2, hC.h3, hC.h4, hC.h5, hC.h6, hC.h7, hC.h8, fun _ => rfl, hC.v0, hC.v1⟩⟩
      simp only [Act.put, List.setIfInBounds_toArray, List.set_cons_zero, List.set_cons_succ]
    · obtain ⟨t7, A7, n7, c7, rfl, r7⟩ := hC.h7 (hd 7 (by kernel_rfl))
      have R7 : (L ++ Ls)[(L).length + t7]? = some ⟨A7, n7, c7, nats (Na.dig (p + x))⟩ := (get_r _ _ _).trans r7
      obtain rfl := hC.h9 (hd 9 (by kernel_rfl))
      clear hd hcl
      refine wpOp_step rfl (fun K hK => ?_)
      go_simp
      have ho := hC.ow.set1 (O.length + 0) (by rw [get_r]; rfl) (.slice A7 n7 c7)
      rw [set_r, List.set_cons_zero] at ho
      refine hK _ _ ⟨u0, u1, u2, u3, u4, u5, u6, _, u8, _, _, Ls, ?_, ⟨ho, hC.h0, hC.h1, hC.h2, hC.h3, hC.h4, hC.h5, hC.h6, hC.h7, hC.h8, hC.h9, fun e => absurd (show true = false from e) (by decide), fun _ => ⟨t7, A7, n7, c7, rfl, r7⟩⟩⟩
      simp only [Act.put, List.setIfInBounds_toArray, List.set_cons_zero, List.set_cons_succ]
  · rintro Ld b W hL ⟨u0, u1, u2, u3, u4, u5, u6, u7, u8, u9, va, Ls, rfl, hC⟩
    obtain ⟨tz, Az, nz, cz, rfl, rz⟩ := hC.v1 (hL 10 (by show 10 < 11; decide))
    have HF := Lib.hid (hC.ow.fewM.less (L' := L ++ [⟨Az, nz, cz, nats (Na.dig (p + x))⟩]) (fun o ho => by
      rcases List.mem_append.1 ho with h | h
      · exact List.mem_append_left _ h
      · rw [List.mem_singleton] at h
        subst h
        exact List.mem_append_right _ (List.mem_of_getElem? rz)))
    clear hC
    go_end0
    exact ⟨Az, nz, cz, rfl, HF.out⟩
structure SvK (w0 : World) (g : Option Nat) (M : List (Nat × Value)) (L : List Ob) (O : List Rw) (sb rb : Nat) (P : Option Addr) (np cp : Nat) (Q : Option Addr) (nq cq : Nat) (p x : Nat) (Ld : Nat → Bool) (u0 u1 u2 u3 u4 u5 u6 u7 u8 u9 u10 u11 u12 u14 : Value) (va : Value) (MV : List (Nat × Value)) (Ls : List Ob) (W : World) : Prop where
  ow : Ow w0 W g (M ++ [(rb, .slice none 0 0)] ++ MV) (L ++ Ls) (O ++ [Rw.pair sb 71 (.slice P np cp) (.slice Q nq cq)])
  h0 : Ld 0 = true → u0 = .pointer (some ⟨sb, 0, none⟩)
  h1 : Ld 1 = true → u1 = .pointer (some ⟨sb, 0, none⟩)
  h2 : Ld 2 = true → u2 = .pointer (some ⟨sb, 0, none⟩)
  h3 : Ld 3 = true → u3 = .agg #[.slice P np cp]
  h4 : Ld 4 = true → u4 = .pointer (some ⟨sb, 0, none⟩)
  h5 : Ld 5 = true → u5 = .pointer (some ⟨sb, 0, none⟩)
  h6 : Ld 6 = true → u6 = .pointer (some ⟨sb, 1, none⟩)
  h7 : Ld 7 = true → u7 = .agg #[.slice Q nq cq]
  h8 : GT Ld 8 u8 (p - x) 0 Ls
  h9 : GT Ld 9 u9 (p - x) 0 Ls
  h10 : GN Ld 10 u10 (p - x) Ls
  h11 : Ld 11 = true → u11 = .int .i64 0
  h14 : Ld 14 = true → u14 = .int .i64 0
  a0 : Ld 12 = false → MV = []
  a1 : Ld 12 = true → ∃ vb, u12 = .pointer (some ⟨vb, 0, none⟩) ∧ MV = [(vb, va)]
  v0 : Ld 13 = false → va = .slice none 0 0
  v1 : GV Ld 13 va (p - x) Ls
def SvI (w0 : World) (g : Option Nat) (M : List (Nat × Value)) (L : List Ob) (O : List Rw) (sb rb : Nat) (P : Option Addr) (np cp : Nat) (Q : Option Addr) (nq cq : Nat) (p x : Nat) (A0 : Act) (Ld : Nat → Bool) (a : Act) (W : World) : Prop :=
  ∃ (u0 u1 u2 u3 u4 u5 u6 u7 u8 u9 u10 u11 u12 u14 : Value) (va : Value) (MV : List (Nat × Value)) (Ls : List Ob), a = ((((((((((((((A0.put (some 6) u0).put (some 7) u1).put (some 8) u2).put (some 9) u3).put (some 10) u4).put (some 11) u5).put (some 12) u6).put (some 13) u7).put (some 14) u8).put (some 5) u9).put (some 15) u10).put (some 16) u11).put (some 3) u12).put (some 4) u14) ∧ SvK w0 g M L O sb rb P np cp Q nq cq p x Ld u0 u1 u2 u3 u4 u5 u6 u7 u8 u9 u10 u11 u12 u14 va MV Ls W
set_option maxHeartbeats 8000000 in
theorem c_sval (h : Ow w0 w g M L (O ++ [Rw.pair sb 71 (.slice P np cp) (.slice Q nq cq)])) (i j : Nat) (hi : L[i]? = some ⟨P, np, cp, nats (Na.dig p)⟩) (hj : L[j]? = some ⟨Q, nq, cq, nats (Na.dig x)⟩) (hp : p < Na.top) (hx : x ≤ p) :
    Calls Tryz.prog 47 #[.pointer (some ⟨sb, 0, none⟩)] w (GotU w0 g M L (O ++ [Rw.pair sb 71 (.slice P np cp) (.slice Q nq cq)]) (Na.dig (p - x))) := by
  have H0 := h.boxed (.slice none 0 0) 31
  have HI := Lib.hid (And.intro hi hj)
  have HB := Lib.hid (And.intro hp hx)
  have HO := Lib.hid H0
  clear h H0 hi hj hp hx
  go_enter Tryz.func47, Tryz.ntmps47
  go_wp2_with fail
  refine reg_inv34 (SvI w0 g M L O sb w.heap.size P np cp Q nq cq p x) (by kernel_rfl) (by kernel_rfl) ?_ ?_ ?_
  · refine ⟨undef, undef, undef, undef, undef, undef, undef, undef, undef, undef, undef, undef, undef, undef, .slice none 0 0, [], [], ?_, ⟨by rw [List.append_nil, List.append_nil]; exact HO.out.drew, ?_, ?_, ?_, ?_, ?_, ?_, ?_, ?_, ?_, ?_, ?_, ?_, ?_, fun _ => rfl, ?_, fun _ => rfl, ?_⟩⟩
    · simp only [Act.put, List.setIfInBounds_toArray, List.set_cons_zero, List.set_cons_succ]
    all_goals (intro h; cases h)
  · rintro jj Ld b W hj hf hcl hd ⟨u0, u1, u2, u3, u4, u5, u6, u7, u8, u9, u10, u11, u12, u14, va, MV, Ls, rfl, hC⟩
    have hj' : jj < 15 := hj
    have hcase : jj = 0 ∨ jj = 1 ∨ jj = 2 ∨ jj = 3 ∨ jj = 4 ∨ jj = 5 ∨ jj = 6 ∨ jj = 7 ∨ jj = 8 ∨ jj = 9 ∨ jj = 10 ∨ jj = 11 ∨ jj = 12 ∨ jj = 13 ∨ jj = 14 := by omega
    have q0 := hC.ow.p0 (O.length + 0) (by rw [get_r]; rfl)
    have q1 := hC.ow.p1 (O.length + 0) (by rw [get_r]; rfl)
    clear hj hj'
    simp only [Act.put, List.setIfInBounds_toArray, List.set_cons_zero, List.set_cons_succ]
    rcases hcase with rfl | rfl | rfl | rfl | rfl | rfl | rfl | rfl | rfl | rfl | rfl | rfl | rfl | rfl | rfl
    · clear hd hcl
      refine wpOp_step rfl (fun K hK => ?_)
      go_simp
      refine hK _ _ ⟨_, u1, u2, u3, u4, u5, u6, u7, u8, u9, u10, u11, u12, u14, va, MV, Ls, ?_, ⟨hC.ow, fun _ => rfl, hC.h1, hC.h2, hC.h3, hC.h4, hC.h5, hC.h6, hC.h7, hC.h8, hC.h9, hC.h10, hC.h11, hC.h14, hC.a0, hC.a1, hC.v0, hC.v1⟩⟩
      simp only [Act.put, List.setIfInBounds_toArray, List.set_cons_zero, List.set_cons_succ]
    · obtain rfl := hC.h0 (hd 0 (by kernel_rfl))
      clear hd hcl
      refine wpOp_step rfl (fun K hK => ?_)
      go_simp
      refine hK _ _ ⟨_, _, u2, u3, u4, u5, u6, u7, u8, u9, u10, u11, u12, u14, va, MV, Ls, ?_, ⟨hC.ow, hC.h0, fun _ => rfl, hC.h2, hC.h3, hC.h4, hC.h5, hC.h6, hC.h7, hC.h8, hC.h9, hC.h10, hC.h11, hC.h14, hC.a0, hC.a1, hC.v0, hC.v1⟩⟩
      simp only [Act.put, List.setIfInBounds_toArray, List.set_cons_zero, List.set_cons_succ]
    · obtain rfl := hC.h1 (hd 1 (by kernel_rfl))
      clear hd hcl
      refine wpOp_step rfl (fun K hK => ?_)
      go_simp
      refine hK _ _ ⟨u0, _, _, u3, u4, u5, u6, u7, u8, u9, u10, u11, u12, u14, va, MV, Ls, ?_, ⟨hC.ow, hC.h0, hC.h1, fun _ => rfl, hC.h3, hC.h4, hC.h5, hC.h6, hC.h7, hC.h8, hC.h9, hC.h10, hC.h11, hC.h14, hC.a0, hC.a1, hC.v0, hC.v1⟩⟩
      simp only [Act.put, List.setIfInBounds_toArray, List.set_cons_zero, List.set_cons_succ]
    · obtain rfl := hC.h2 (hd 2 (by kernel_rfl))
      clear hd hcl
      refine wpOp_step rfl (fun K hK => ?_)
      go_simp
      refine hK _ _ ⟨u0, u1, _, _, u4, u5, u6, u7, u8, u9, u10, u11, u12, u14, va, MV, Ls, ?_, ⟨hC.ow, hC.h0, hC.h1, hC.h2, fun _ => rfl, hC.h4, hC.h5, hC.h6, hC.h7, hC.h8, hC.h9, hC.h10, hC.h11, hC.h14, hC.a0, hC.a1, hC.v0, hC.v1⟩⟩
      simp only [Act.put, List.setIfInBounds_toArray, List.set_cons_zero, List.set_cons_succ]
    · clear hd hcl
      refine wpOp_step rfl (fun K hK => ?_)
      go_simp
      refine hK _ _ ⟨u0, u1, u2, u3, _, u5, u6, u7, u8, u9, u10, u11, u12, u14, va, MV, Ls, ?_, ⟨hC.ow, hC.h0, hC.h1, hC.h2, hC.h3, fun _ => rfl, hC.h5, hC.h6, hC.h7, hC.h8, hC.h9, hC.h10, hC.h11, hC.h14, hC.a0, hC.a1, hC.v0, hC.v1⟩⟩
      simp only [Act.put, List.setIfInBounds_toArray, List.set_cons_zero, List.set_cons_succ]
    · obtain rfl := hC.h4 (hd 4 (by kernel_rfl))
      clear hd hcl
      refine wpOp_step rfl (fun K hK => ?_)
      go_simp
      refine hK _ _ ⟨u0, u1, u2, u3, _, _, u6, u7, u8, u9, u10, u11, u12, u14, va, MV, Ls, ?_, ⟨hC.ow, hC.h0, hC.h1, hC.h2, hC.h3, hC.h4, fun _ => rfl, hC.h6, hC.h7, hC.h8, hC.h9, hC.h10, hC.h11, hC.h14, hC.a0, hC.a1, hC.v0, hC.v1⟩⟩
      simp only [Act.put, List.setIfInBounds_toArray, List.set_cons_zero, List.set_cons_succ]
    · obtain rfl := hC.h5 (hd 5 (by kernel_rfl))
      clear hd hcl
      refine wpOp_step rfl (fun K hK => ?_)
      go_simp
      refine hK _ _ ⟨u0, u1, u2, u3, u4, _, _, u7, u8, u9, u10, u11, u12, u14, va, MV, Ls, ?_, ⟨hC.ow, hC.h0, hC.h1, hC.h2, hC.h3, hC.h4, hC.h5, fun _ => rfl, hC.h7, hC.h8, hC.h9, hC.h10, hC.h11, hC.h14, hC.a0, hC.a1, hC.v0, hC.v1⟩⟩
      simp only [Act.put, List.setIfInBounds_toArray, List.set_cons_zero, List.set_cons_succ]
    · obtain rfl := hC.h6 (hd 6 (by kernel_rfl))
      clear hd hcl
      refine wpOp_step rfl (fun K hK => ?_)
      go_simp
      refine hK _ _ ⟨u0, u1, u2, u3, u4, u5, _, _, u8, u9, u10, u11, u12, u14, va, MV, Ls, ?_, ⟨hC.ow, hC.h0, hC.h1, hC.h2, hC.h3, hC.h4, hC.h5, hC.h6, fun _ => rfl, hC.h8, hC.h9, hC.h10, hC.h11, hC.h14, hC.a0, hC.a1, hC.v0, hC.v1⟩⟩
      simp only [Act.put, List.setIfInBounds_toArray, List.set_cons_zero, List.set_cons_succ]
    · obtain rfl := hC.h3 (hd 3 (by kernel_rfl))
      obtain rfl := hC.h7 (hd 7 (by kernel_rfl))
      clear hd hcl
      refine wpOp_step rfl (fun K hK => ?_)
      go_simp
      refine (nsub_fr0 hC.ow i j ((get_l _ _ (get_lt HI.out.1)).trans HI.out.1) ((get_l _ _ (get_lt HI.out.2)).trans HI.out.2) HB.out.1 HB.out.2).mono ?_
      rintro e W' ⟨Az, nz, cz, rfl, ho⟩
      rw [List.append_assoc (L) Ls] at ho
      refine hK _ _ ⟨u0, u1, u2, _, u4, u5, u6, _, _, u9, u10, u11, u12, u14, va, MV, _, ?_, ⟨ho, hC.h0, hC.h1, hC.h2, hC.h3, hC.h4, hC.h5, hC.h6, hC.h7, GT.new _ _ _ _ _ _ _ _, hC.h9.more, hC.h10.more, hC.h11, hC.h14, hC.a0, hC.a1, hC.v0, hC.v1.more⟩⟩
      simp only [Act.put, List.setIfInBounds_toArray, List.set_cons_zero, List.set_cons_succ]
    · obtain ⟨t8, A8, n8, c8, rfl, r8⟩ := hC.h8 (hd 8 (by kernel_rfl))
      clear hd hcl
      refine wpOp_step rfl (fun K hK => ?_)
      go_simp
      refine hK _ _ ⟨u0, u1, u2, u3, u4, u5, u6, u7, _, _, u10, u11, u12, u14, va, MV, Ls, ?_, ⟨hC.ow, hC.h0, hC.h1, hC.h2, hC.h3, hC.h4, hC.h5, hC.h6, hC.h7, hC.h8, fun _ => ⟨t8, A8, n8, c8, rfl, r8⟩, hC.h10, hC.h11, hC.h14, hC.a0, hC.a1, hC.v0, hC.v1⟩⟩
      simp only [Act.put, List.setIfInBounds_toArray, List.set_cons_zero, List.set_cons_succ]
    · obtain ⟨t9, A9, n9, c9, rfl, r9⟩ := hC.h9 (hd 9 (by kernel_rfl))
      clear hd hcl
      refine wpOp_step rfl (fun K hK => ?_)
      go_simp
      refine hK _ _ ⟨u0, u1, u2, u3, u4, u5, u6, u7, u8, _, _, u11, u12, u14, va, MV, Ls, ?_, ⟨hC.ow, hC.h0, hC.h1, hC.h2, hC.h3, hC.h4, hC.h5, hC.h6, hC.h7, hC.h8, hC.h9, fun _ => ⟨t9, A9, n9, c9, rfl, r9⟩, hC.h11, hC.h14, hC.a0, hC.a1, hC.v0, hC.v1⟩⟩
      simp only [Act.put, List.setIfInBounds_toArray, List.set_cons_zero, List.set_cons_succ]
    · obtain ⟨t9, A9, n9, c9, rfl, r9⟩ := hC.h9 (hd 9 (by kernel_rfl))
      clear hd hcl
      refine wpOp_step rfl (fun K hK => ?_)
      go_simp
      refine hK _ _ ⟨u0, u1, u2, u3, u4, u5, u6, u7, u8, _, u10, _, u12, u14, va, MV, Ls, ?_, ⟨hC.ow, hC.h0, hC.h1, hC.h2, hC.h3, hC.h4, hC.h5, hC.h6, hC.h7, hC.h8, hC.h9, hC.h10, fun _ => rfl, hC.h14, hC.a0, hC.a1, hC.v0, hC.v1⟩⟩
      simp only [Act.put, List.setIfInBounds_toArray, List.set_cons_zero, List.set_cons_succ]
    · have g13 : Ld 13 = false := by cases e : Ld 13 with | false => rfl | true => (rw [hcl 13 12 e (by kernel_rfl)] at hf; cases hf)
      obtain rfl := hC.v0 g13
      obtain rfl := hC.a0 hf
      clear hd hcl
      refine wpOp_step rfl (fun K hK => ?_)
      go_simp
      have ho := hC.ow.boxed (.slice none 0 0) 31
      rw [List.append_nil] at ho
      refine hK _ _ ⟨u0, u1, u2, u3, u4, u5, u6, u7, u8, u9, u10, u11, _, u14, _, _, Ls, ?_, ⟨ho, hC.h0, hC.h1, hC.h2, hC.h3, hC.h4, hC.h5, hC.h6, hC.h7, hC.h8, hC.h9, hC.h10, hC.h11, hC.h14, fun e => absurd (show true = false from e) (by decide), fun _ => ⟨_, rfl, rfl⟩, hC.v0, hC.v1⟩⟩
      simp only [Act.put, List.setIfInBounds_toArray, List.set_cons_zero, List.set_cons_succ]
    · have hal := hd 12 (by kernel_rfl)
      obtain ⟨t10, A10, n10, c10, rfl, r10⟩ := hC.h10 (hd 10 (by kernel_rfl))
      have R10 : (L ++ Ls)[(L).length + t10]? = some ⟨A10, n10, c10, nats (Na.dig (p - x))⟩ := (get_r _ _ _).trans r10
      obtain ⟨vb, rfl, rfl⟩ := hC.a1 (hd 12 (by kernel_rfl))
      have qz := hC.ow.cell ((M ++ [(w.heap.size, .slice none 0 0)] : List (Nat × Value)).length + 0) (by rw [get_r]; rfl)
      have qf := hC.ow.free ((M ++ [(w.heap.size, .slice none 0 0)] : List (Nat × Value)).length + 0) (by rw [get_r]; rfl)
      clear hd hcl
      refine wpOp_step rfl (fun K hK => ?_)
      go_simp
      have ho := hC.ow.setv ((M ++ [(w.heap.size, .slice none 0 0)] : List (Nat × Value)).length + 0) (by rw [get_r]; rfl) (.slice A10 n10 c10)
      rw [set_r, List.set_cons_zero] at ho
      refine hK _ _ ⟨u0, u1, u2, u3, u4, u5, u6, u7, u8, u9, _, u11, _, u14, _, _, Ls, ?_, ⟨ho, hC.h0, hC.h1, hC.h2, hC.h3, hC.h4, hC.h5, hC.h6, hC.h7, hC.h8, hC.h9, hC.h10, hC.h11, hC.h14, fun e => absurd (hal.symm.trans e) (by decide), fun _ => ⟨_, rfl, rfl⟩, fun e => absurd (show true = false from e) (by decide), fun _ => ⟨t10, A10, n10, c10, rfl, r10⟩⟩⟩
      simp only [Act.put, List.setIfInBounds_toArray, List.set_cons_zero, List.set_cons_succ]
    · obtain rfl := hC.h11 (hd 11 (by kernel_rfl))
      clear hd hcl
      refine wpOp_step rfl (fun K hK => ?_)
      go_simp
      refine hK _ _ ⟨u0, u1, u2, u3, u4, u5, u6, u7, u8, u9, u10, _, u12, _, va, MV, Ls, ?_, ⟨hC.ow, hC.h0, hC.h1, hC.h2, hC.h3, hC.h4, hC.h5, hC.h6, hC.h7, hC.h8, hC.h9, hC.h10, hC.h11, fun _ => rfl, hC.a0, hC.a1, hC.v0, hC.v1⟩⟩
      simp only [Act.put, List.setIfInBounds_toArray, List.set_cons_zero, List.set_cons_succ]
  · rintro Ld b W hL ⟨u0, u1, u2, u3, u4, u5, u6, u7, u8, u9, u10, u11, u12, u14, va, MV, Ls, rfl, hC⟩
    obtain ⟨vb, rfl, rfl⟩ := hC.a1 (hL 12 (by show 12 < 15; decide))
    obtain ⟨tz, Az, nz, cz, rfl, rz⟩ := hC.v1 (hL 13 (by show 13 < 15; decide))
    have H := hC.ow
    try simp only [List.append_assoc] at H
    try simp only [List.cons_append] at H
    try simp only [List.nil_append] at H
    have x0 := H.cell (M.length + 1) (by rw [get_r]; rfl)
    have r0 := H.cell (M.length + 0) (by rw [get_r]; rfl)
    have f0 := H.free (M.length + 0) (by rw [get_r]; rfl)
    have Z := H.setv (M.length + 0) (by rw [get_r]; rfl) (.slice Az nz cz)
    rw [set_r] at Z
    try simp only [List.set_cons_zero] at Z
    have s0 := Z.cell (M.length + 0) (by rw [get_r]; rfl)
    have HF := Lib.hid (Z.fewM.less (L' := L ++ [⟨Az, nz, cz, nats (Na.dig (p - x))⟩]) (fun o ho => by
      rcases List.mem_append.1 ho with h | h
      · exact List.mem_append_left _ h
      · rw [List.mem_singleton] at h
        subst h
        exact List.mem_append_right _ (List.mem_of_getElem? rz)))
    clear H Z hC
    simp only [Act.put, List.setIfInBounds_toArray, List.set_cons_zero, List.set_cons_succ]
    go_wp2_with fail
    refine bodyPost_ret (v := .agg #[.slice Az nz cz]) (by simp [results, Tryz.results47, go_sem, s0]) rfl ?_
    exact ⟨Az, nz, cz, rfl, HF.out⟩
end
end Go.Proofs.YtdjfbbfbdgiblaaGreatDoor

namespace Go.Proofs.YtdjfbbfbdgiblaaGreatDoor
open Go.RowKit Go.Sort
set_option linter.unusedVariables false
set_option maxRecDepth 100000
theorem num_top {a k : Nat} (ha : a ≤ 256) (hk : k ≤ 40) : a ^ k < Na.top := by
  have h1 : a ^ k ≤ 256 ^ k := Nat.pow_le_pow_left ha k
  have h2 : (256 : Nat) ^ k ≤ 256 ^ 40 := Nat.pow_le_pow_right (by omega) hk
  exact Nat.lt_of_le_of_lt (Nat.le_trans h1 h2) (by decide +kernel)
theorem byte_top {a : Nat} (ha : a ≤ 16777215) : a < Na.top := Nat.lt_of_le_of_lt ha (by decide +kernel)
section
variable {w0 w w' : World} {g : Option Nat} {M M2 : List (Nat × Value)} {L : List Ob} {O : List Rw} {A A2 A3 A4 : Option Addr} {b n c m c2 n3 c3 n4 c4 x y : Nat} {p q r s : List Int}
set_option maxHeartbeats 4000000 in
theorem c_power (h : Ow w0 w g M L O) (a k : Nat) (ha : a ≤ 255) (hk : k ≤ 40) :
    Calls Tryz.prog 86 #[.int .i64 (a : Int), .int .i64 (k : Int)] w (GotU w0 g M L O (Na.dig (a ^ k))) := by
  have H0 := h.boxed (.slice none 0 0) 31
  have HC := Lib.hid (c_number H0 a (by omega))
  have hA : ((a : Int) == 256) = false := by rw [beq_eq_false_iff_ne]; omega
  have HK : Hid (a ≤ 255 ∧ k ≤ 40) := ⟨ha, hk⟩
  obtain ⟨l0, hl0⟩ : ∃ z, Na.dig (a ^ k) = z := ⟨_, rfl⟩
  rw [hl0]
  clear h H0 ha hk
  go_enter Tryz.func86, Tryz.ntmps86
  go_wp2_with fail
  refine HC.out.mono ?_
  rintro e w1 ⟨B1, m1, d1, rfl, G⟩
  have HP := Lib.hid (ag_pow G (L.length + 0) (by rw [get_r]; rfl) (byte_top (by have := HK.out.1; omega)) (k : Int))
  rw [powL_nat (by have := HK.out.2; omega) (num_top (by have := HK.out.1; omega) HK.out.2), powE_nat (by have := HK.out.2; omega) (num_top (by have := HK.out.1; omega) HK.out.2), hl0] at HP
  clear HC G hl0
  go_wp2_with fail
  refine HP.out.mono ?_
  rintro e w2 ⟨B2, m2, d2, rfl, G2⟩
  have H5 := G2.boxed (.slice B2 m2 d2) 31
  try simp only [List.append_assoc] at H5
  try simp only [List.cons_append] at H5
  try simp only [List.nil_append] at H5
  clear HP G2
  have x0 := H5.cell (M.length + 1) (by rw [get_r]; rfl)
  have r0 := H5.cell (M.length + 0) (by rw [get_r]; rfl)
  have f0 := H5.free (M.length + 0) (by rw [get_r]; rfl)
  have Z := H5.setv (M.length + 0) (by rw [get_r]; rfl) (.slice B2 m2 d2)
  rw [set_r] at Z
  try simp only [List.set_cons_zero] at Z
  have s0 := Z.cell (M.length + 0) (by rw [get_r]; rfl)
  have HF := Lib.hid (Z.fewM.less (L' := L ++ [⟨B2, m2, d2, nats l0⟩]) (fun o ho => by
    rcases List.mem_append.1 ho with h | h
    · exact List.mem_append_left _ h
    · rw [List.mem_singleton] at h
      subst h
      exact List.mem_append_right _ (List.mem_cons_of_mem _ List.mem_cons_self)))
  clear H5 Z
  go_wp2_with fail
  refine bodyPost_ret (v := .agg #[.slice B2 m2 d2]) (by simp [results, Tryz.results86, go_sem, s0]) rfl ?_
  exact ⟨B2, m2, d2, rfl, HF.out⟩
theorem dig_shift : ∀ (q y : Nat), 0 < y → Na.dig (16777216 ^ q * y) = List.replicate q 0 ++ Na.dig y
  | 0, y, _ => by rw [Nat.pow_zero, Nat.one_mul]; rfl
  | q + 1, y, hy => by
    have h1 := dig_shift q y hy
    have h2 : 0 < 16777216 ^ q * y := Nat.mul_pos (Nat.pow_pos (by omega)) hy
    have e : 16777216 ^ (q + 1) * y = 16777216 * (16777216 ^ q * y) := by rw [Nat.pow_succ, Nat.mul_comm (16777216 ^ q), Nat.mul_assoc]
    rw [e, Na.dig_pos _ (Nat.mul_pos (by omega) h2), Nat.mul_mod_right, Nat.mul_div_cancel_left _ (by omega), h1, List.replicate_succ]
    rfl
theorem dig_256 (k : Nat) : Na.dig (256 ^ k) = List.replicate (k / 3) 0 ++ [2 ^ (8 * k % 24)] := by
  have e : 256 ^ k = 16777216 ^ (k / 3) * 2 ^ (8 * k % 24) := by
    have h1 : (256 : Nat) ^ k = 2 ^ (8 * k) := by rw [Nat.pow_mul]
    have h2 : (16777216 : Nat) ^ (k / 3) = 2 ^ (24 * (k / 3)) := by rw [Nat.pow_mul]
    rw [h1, h2, ← Nat.pow_add]
    congr 1
    omega
  rw [e, dig_shift _ _ (Nat.pow_pos (by omega)), Na.dig_small _ (Nat.pow_pos (by omega))]
  have h3 : 2 ^ (8 * k % 24) ≤ 2 ^ 16 := Nat.pow_le_pow_right (by omega) (by omega)
  omega
set_option maxHeartbeats 4000000 in
theorem c_power256 (h : Ow w0 w g M L O) (k : Nat) (hk : k ≤ 40) :
    Calls Tryz.prog 86 #[.int .i64 256, .int .i64 (k : Int)] w (GotU w0 g M L O (Na.dig (256 ^ k))) := by
  obtain ⟨q, hq⟩ : ∃ q, k / 3 = q := ⟨_, rfl⟩
  obtain ⟨s, hs⟩ : ∃ s, 8 * k % 24 = s := ⟨_, rfl⟩
  have hs2 : s < 24 := by omega
  have e1 : 8 * (k : Int) / 24 = (q : Int) := by omega
  have e2 : 8 * (k : Int) % 24 = (s : Int) := by omega
  have hq2 : q ≤ 13 := by omega
  have hmk := elemI.make .i64 .i64 ((q : Int) + 1) ((q : Int) + 1) (q + 1) (q + 1) (by omega) (by omega) (Nat.le_refl _) (by omega) (by omega) (w.alloc (.cells #[.slice none 0 0] 31))
  have H0 := ((h.boxed (.slice none 0 0) 31).made 3 (.int .i64 0) (q + 1) (q + 1) rfl (Nat.le_refl _) (by unfold maxLen; omega)).boxed (.slice (some ⟨w.heap.size + 1, 0, none⟩) (q + 1) (q + 1)) 31
  try simp only [World.size_alloc] at H0
  try simp only [List.append_assoc] at H0
  try simp only [List.cons_append] at H0
  try simp only [List.nil_append] at H0
  have HO := Lib.hid H0
  rw [dig_256, hq, hs]
  clear h H0 hq hs
  go_enter Tryz.func86, Tryz.ntmps86
  go_wp2_with fail
  obtain ⟨wz, hwz⟩ : ∃ z, ((w.alloc (.cells #[.slice none 0 0] 31)).alloc (.cells (madeCells #[.int .i64 0] (q + 1)) 3)).alloc (.cells #[.slice (some ⟨w.heap.size + 1, 0, none⟩) (q + 1) (q + 1)] 31) = z := ⟨_, rfl⟩
  rw [hwz] at HO
  rw [hwz]
  clear hwz hmk
  have c0 := cell_regrown (HO.out.cell (M.length + 1) (by rw [get_r]; rfl))
  refine region_below_tail 11 (by kernel_rfl) (by kernel_rfl) ?_
  simp only [List.take_succ_cons, List.take_zero, List.drop_succ_cons, List.drop_zero]
  have f0 : IntKind.i64.wrap (q : Int) = (q : Int) := IntWalk.i64_in _ (by omega)
  have f1 : IntKind.i64.wrap (8 * (k : Int)) = 8 * (k : Int) := IntWalk.i64_in _ (by omega)
  have f2 : (8 * (k : Int)).tmod 24 = (s : Int) := by rw [Int.tmod_eq_emod_of_nonneg (by omega)]; exact e2
  have f3 : IntKind.i64.wrap ((2 : Int) ^ s) = ((2 ^ s : Nat) : Int) := by
    obtain ⟨t, ht⟩ : ∃ t : Nat, 2 ^ s = t := ⟨_, rfl⟩
    have h5 : t ≤ 16777216 := by rw [← ht]; exact Nat.pow_le_pow_right (n := 2) (by omega) (show s ≤ 24 by omega)
    rw [show (2 : Int) ^ s = ((2 ^ s : Nat) : Int) by simp, ht]
    exact IntWalk.i64_in _ (by omega)
  have hqi : (q : Int) < (q : Int) + 1 := by omega
  repeat (quiet_step (fail))
  refine wpQuiet_nil ?_
  intro W hW
  have hbl := regrown_below hW
  clear hW c0 f0 f1 f2 f3 e1 e2
  have H2 := HO.out.go hbl
  have g0 := (H2.row (O.length + 0) (by rw [get_r]; rfl)).cellAt q (by omega)
  rw [List.getElem?_replicate, if_pos (by omega)] at g0
  have g1 := (H2.row (O.length + 0) (by rw [get_r]; rfl)).frozenAt q
  have H3 := H2.put (O.length + 0) (by rw [get_r]; rfl) q (.int .i64 ((2 : Int) ^ s))
  rw [set_r, List.set_cons_zero] at H3
  have v0 := H3.cell (M.length + 1) (by rw [get_r]; rfl)
  have r0 := H3.cell (M.length + 0) (by rw [get_r]; rfl)
  have z0 := H3.free (M.length + 0) (by rw [get_r]; rfl)
  have Z := H3.setv (M.length + 0) (by rw [get_r]; rfl) (.slice (some ⟨w.heap.size + 1, 0, none⟩) (q + 1) (q + 1))
  rw [set_r] at Z
  try simp only [List.set_cons_zero] at Z
  have s0 := Z.cell (M.length + 0) (by rw [get_r]; rfl)
  have e9 : (List.replicate (q + 1) (Value.int .i64 0)).set q (.int .i64 ((2 : Int) ^ s)) = nats (List.replicate q 0 ++ [2 ^ s]) := by
    rw [List.replicate_succ', List.set_append_right _ _ (by rw [List.length_replicate]; omega), List.length_replicate, Nat.sub_self, List.set_cons_zero]
    unfold nats
    rw [List.map_append, List.map_replicate]
    simp [encN]
  rw [e9] at Z
  have Z2 := Z.fewM.keep (O.length + 0) (by rw [get_r]; rfl) (by omega)
  rw [set_r, List.set_cons_zero] at Z2
  have HF := Lib.hid Z2.fewO
  clear HO hbl H2 H3 Z Z2 e9
  go_wp2_with fail
  refine bodyPost_ret (v := .agg #[.slice (some ⟨w.heap.size + 1, 0, none⟩) (q + 1) (q + 1)]) (by simp [results, Tryz.results86, go_sem, s0]) rfl ?_
  exact ⟨_, _, _, rfl, HF.out⟩
end
end Go.Proofs.YtdjfbbfbdgiblaaGreatDoor

namespace Go.Proofs.YtdjfbbfbdgiblaaGreatDoor
namespace Gf
/-- 'a' if the bit is set, else 0 -/
def sel (c : Bool) (a : UInt8) : UInt8 := if c then a else 0
def bit (a : UInt8) (k : Nat) : Bool := a.toNat.testBit k
/-- the product with 2 -/
def dbl (a : UInt8) : UInt8 := (a <<< 1) ^^^ sel (bit a 7) 29
def dblN : Nat → UInt8 → UInt8
  | 0, a => a
  | k + 1, a => dbl (dblN k a)
/-- the product: the sum of the doublings of 'a' at the bits of 'c' -/
def gmul (a c : UInt8) : UInt8 :=
  sel (bit c 0) (dblN 0 a) ^^^ sel (bit c 1) (dblN 1 a) ^^^ sel (bit c 2) (dblN 2 a) ^^^ sel (bit c 3) (dblN 3 a) ^^^
  sel (bit c 4) (dblN 4 a) ^^^ sel (bit c 5) (dblN 5 a) ^^^ sel (bit c 6) (dblN 6 a) ^^^ sel (bit c 7) (dblN 7 a)

theorem all_of {p : UInt8 → Prop} (h : ∀ n, n < 256 → p (UInt8.ofNat n)) (a : UInt8) : p a := by
  have := h a.toNat (UInt8.toNat_lt a)
  rwa [UInt8.ofNat_toNat] at this
theorem bits0 : ∀ n, n < 256 → UInt8.ofNat n = sel (bit (UInt8.ofNat n) 0) 1 ^^^ sel (bit (UInt8.ofNat n) 1) 2 ^^^ sel (bit (UInt8.ofNat n) 2) 4 ^^^ sel (bit (UInt8.ofNat n) 3) 8 ^^^
    sel (bit (UInt8.ofNat n) 4) 16 ^^^ sel (bit (UInt8.ofNat n) 5) 32 ^^^ sel (bit (UInt8.ofNat n) 6) 64 ^^^ sel (bit (UInt8.ofNat n) 7) 128 := by decide +kernel
theorem bits_sum (a : UInt8) : a = sel (bit a 0) 1 ^^^ sel (bit a 1) 2 ^^^ sel (bit a 2) 4 ^^^ sel (bit a 3) 8 ^^^ sel (bit a 4) 16 ^^^ sel (bit a 5) 32 ^^^ sel (bit a 6) 64 ^^^ sel (bit a 7) 128 :=
  all_of (p := fun a => a = sel (bit a 0) 1 ^^^ sel (bit a 1) 2 ^^^ sel (bit a 2) 4 ^^^ sel (bit a 3) 8 ^^^ sel (bit a 4) 16 ^^^ sel (bit a 5) 32 ^^^ sel (bit a 6) 64 ^^^ sel (bit a 7) 128) bits0 a
def Lin (f : UInt8 → UInt8) : Prop := ∀ x y, f (x ^^^ y) = f x ^^^ f y
theorem Lin.zero {f : UInt8 → UInt8} (h : Lin f) : f 0 = 0 := by
  have := h 0 0
  simp at this
  exact this
theorem Lin.sel {f : UInt8 → UInt8} (h : Lin f) (c : Bool) (x : UInt8) : f (sel c x) = Gf.sel c (f x) := by
  cases c
  · exact h.zero
  · rfl
theorem Lin.ext {f g : UInt8 → UInt8} (hf : Lin f) (hg : Lin g) (h : ∀ k, k < 8 → f (UInt8.ofNat (2 ^ k)) = g (UInt8.ofNat (2 ^ k))) (a : UInt8) : f a = g a := by
  rw [bits_sum a]
  have h0 : f 1 = g 1 := h 0 (by decide)
  have h1 : f 2 = g 2 := h 1 (by decide)
  have h2 : f 4 = g 4 := h 2 (by decide)
  have h3 : f 8 = g 8 := h 3 (by decide)
  have h4 : f 16 = g 16 := h 4 (by decide)
  have h5 : f 32 = g 32 := h 5 (by decide)
  have h6 : f 64 = g 64 := h 6 (by decide)
  have h7 : f 128 = g 128 := h 7 (by decide)
  simp only [hf _ _, hg _ _, hf.sel, hg.sel, h0, h1, h2, h3, h4, h5, h6, h7]
theorem bit_xor (a c : UInt8) (k : Nat) : bit (a ^^^ c) k = (bit a k ^^ bit c k) := by
  unfold bit
  rw [UInt8.toNat_xor, Nat.testBit_xor]
theorem sel_xor (c d : Bool) (a : UInt8) : sel (c ^^ d) a = sel c a ^^^ sel d a := by
  cases c <;> cases d <;> simp [sel]
theorem sel_xor' (c : Bool) (a d : UInt8) : sel c (a ^^^ d) = sel c a ^^^ sel c d := by
  cases c <;> simp [sel]
theorem xor4 (a b c d : UInt8) : (a ^^^ b) ^^^ (c ^^^ d) = (a ^^^ c) ^^^ (b ^^^ d) := by
  rw [UInt8.xor_assoc, UInt8.xor_assoc, ← UInt8.xor_assoc b, ← UInt8.xor_assoc c, UInt8.xor_comm b c]
theorem shl_xor (a c : UInt8) : (a ^^^ c) <<< (1 : UInt8) = (a <<< 1) ^^^ (c <<< 1) := by
  exact UInt8.shiftLeft_xor
theorem dbl_lin : Lin dbl := by
  intro x y
  unfold dbl
  rw [shl_xor, bit_xor, sel_xor, xor4]
theorem dblN_lin (k : Nat) : Lin (dblN k) := by
  induction k with
  | zero => intro x y; rfl
  | succ k ih => intro x y; show dbl _ = dbl _ ^^^ dbl _; rw [ih, dbl_lin]
theorem lin_sum {f g : UInt8 → UInt8} (hf : Lin f) (hg : Lin g) : Lin (fun a => f a ^^^ g a) := by
  intro x y
  show f (x ^^^ y) ^^^ g (x ^^^ y) = _
  rw [hf, hg, xor4]
theorem lin_sel {f : UInt8 → UInt8} (hf : Lin f) (c : Bool) : Lin (fun a => sel c (f a)) := by
  intro x y
  show sel c (f (x ^^^ y)) = _
  rw [hf, sel_xor']
theorem mul_lin_left (c : UInt8) : Lin (fun a => gmul a c) :=
  lin_sum (lin_sum (lin_sum (lin_sum (lin_sum (lin_sum (lin_sum (lin_sel (dblN_lin 0) _) (lin_sel (dblN_lin 1) _)) (lin_sel (dblN_lin 2) _)) (lin_sel (dblN_lin 3) _)) (lin_sel (dblN_lin 4) _)) (lin_sel (dblN_lin 5) _)) (lin_sel (dblN_lin 6) _)) (lin_sel (dblN_lin 7) _)
theorem lin_bit (k : Nat) (x : UInt8) : Lin (fun c => sel (bit c k) x) := by
  intro c d
  show sel (bit (c ^^^ d) k) x = _
  rw [bit_xor, sel_xor]
theorem mul_lin_right (a : UInt8) : Lin (gmul a) :=
  lin_sum (lin_sum (lin_sum (lin_sum (lin_sum (lin_sum (lin_sum (lin_bit 0 _) (lin_bit 1 _)) (lin_bit 2 _)) (lin_bit 3 _)) (lin_bit 4 _)) (lin_bit 5 _)) (lin_bit 6 _)) (lin_bit 7 _)
theorem lin_comp {f g : UInt8 → UInt8} (hf : Lin f) (hg : Lin g) : Lin (fun a => f (g a)) := by
  intro x y
  show f (g (x ^^^ y)) = _
  rw [hg, hf]
theorem comm0 : ∀ j, j < 8 → ∀ k, k < 8 → gmul (UInt8.ofNat (2 ^ j)) (UInt8.ofNat (2 ^ k)) = gmul (UInt8.ofNat (2 ^ k)) (UInt8.ofNat (2 ^ j)) := by decide +kernel
theorem gmul_comm (a c : UInt8) : gmul a c = gmul c a :=
  (mul_lin_left c).ext (mul_lin_right c) (fun j hj => (mul_lin_right _).ext (mul_lin_left _) (fun k hk => comm0 j hj k hk) c) a
theorem dblmul0 : ∀ j, j < 8 → ∀ k, k < 8 → dbl (gmul (UInt8.ofNat (2 ^ j)) (UInt8.ofNat (2 ^ k))) = gmul (UInt8.ofNat (2 ^ j)) (dbl (UInt8.ofNat (2 ^ k))) := by decide +kernel
theorem dbl_mul (a c : UInt8) : dbl (gmul a c) = gmul a (dbl c) :=
  (lin_comp dbl_lin (mul_lin_left c)).ext (mul_lin_left (dbl c)) (fun j hj => (lin_comp dbl_lin (mul_lin_right _)).ext (lin_comp (mul_lin_right _) dbl_lin) (fun k hk => dblmul0 j hj k hk) c) a
theorem dblN_mul (k : Nat) (a c : UInt8) : dblN k (gmul a c) = gmul a (dblN k c) := by
  induction k with
  | zero => rfl
  | succ k ih => show dbl (dblN k _) = gmul a (dbl _); rw [ih, dbl_mul]
theorem gmul_pow2 (a : UInt8) : ∀ k, k < 8 → gmul a (UInt8.ofNat (2 ^ k)) = dblN k a := by
  intro k hk
  match k, hk with
  | 0, _ => simp [gmul, sel, bit, Nat.testBit]
  | 1, _ => simp [gmul, sel, bit, Nat.testBit]
  | 2, _ => simp [gmul, sel, bit, Nat.testBit]
  | 3, _ => simp [gmul, sel, bit, Nat.testBit]
  | 4, _ => simp [gmul, sel, bit, Nat.testBit]
  | 5, _ => simp [gmul, sel, bit, Nat.testBit]
  | 6, _ => simp [gmul, sel, bit, Nat.testBit]
  | 7, _ => simp [gmul, sel, bit, Nat.testBit]
theorem gmul_assoc (a c d : UInt8) : gmul (gmul a c) d = gmul a (gmul c d) :=
  (mul_lin_right _).ext (lin_comp (mul_lin_right a) (mul_lin_right c)) (fun k hk => by rw [gmul_pow2 _ k hk, gmul_pow2 _ k hk, dblN_mul]) d
theorem gmul_one (a : UInt8) : gmul a 1 = a := gmul_pow2 a 0 (by decide)
theorem gmul_zero (a : UInt8) : gmul a 0 = 0 := (mul_lin_right a).zero
theorem gmul_two (a : UInt8) : gmul a 2 = dbl a := gmul_pow2 a 1 (by decide)
theorem gmul_add (a c d : UInt8) : gmul a (c ^^^ d) = gmul a c ^^^ gmul a d := mul_lin_right a c d
theorem gmul_add' (a c d : UInt8) : gmul (a ^^^ c) d = gmul a d ^^^ gmul c d := mul_lin_left d a c
theorem one_gmul (a : UInt8) : gmul 1 a = a := by rw [gmul_comm, gmul_one]
theorem zero_gmul (a : UInt8) : gmul 0 a = 0 := by rw [gmul_comm, gmul_zero]
theorem bit_shr (c : UInt8) (k : Nat) : bit (c >>> 1) k = bit c (k + 1) := by
  unfold bit
  rw [UInt8.toNat_shiftRight]
  simp [Nat.testBit_shiftRight, Nat.add_comm]
theorem bit_hi (c : UInt8) : bit c 8 = false := by
  unfold bit
  exact Nat.testBit_lt_two_pow (by have := UInt8.toNat_lt c; omega)
theorem sel_false (a : UInt8) : sel false a = 0 := rfl
theorem dblN_succ' (k : Nat) (a : UInt8) : dblN k (dbl a) = dblN (k + 1) a := by
  induction k with
  | zero => rfl
  | succ k ih => show dbl (dblN k (dbl a)) = dbl (dblN (k + 1) a); rw [ih]
theorem gmul_step (a c : UInt8) : gmul a c = sel (bit c 0) a ^^^ gmul (dbl a) (c >>> 1) := by
  unfold gmul
  simp only [bit_shr, dblN_succ', bit_hi, sel_false, Nat.zero_add, Nat.reduceAdd, UInt8.xor_zero]
  simp only [dblN, UInt8.xor_assoc]
/-- powers -/
def gpow (a : UInt8) : Nat → UInt8
  | 0 => 1
  | n + 1 => gmul (gpow a n) a
theorem gpow_add (a : UInt8) (m n : Nat) : gpow a (m + n) = gmul (gpow a m) (gpow a n) := by
  induction n with
  | zero => rw [Nat.add_zero]; exact (gmul_one _).symm
  | succ n ih => show gmul (gpow a (m + n)) a = gmul _ (gmul _ a); rw [ih, gmul_assoc]
theorem gpow_mul (a : UInt8) (m n : Nat) : gpow a (m * n) = gpow (gpow a m) n := by
  induction n with
  | zero => rfl
  | succ n ih => rw [Nat.mul_succ, gpow_add, ih]; rfl
theorem gpow_one (a : UInt8) : gpow a 1 = a := one_gmul a
theorem gpow_two (a : UInt8) : gpow a 2 = gmul a a := by show gmul (gmul 1 a) a = _; rw [one_gmul]
theorem one_gpow (n : Nat) : gpow 1 n = 1 := by
  induction n with
  | zero => rfl
  | succ n ih => show gmul (gpow 1 n) 1 = 1; rw [ih, gmul_one]
theorem gmul_mul4 (a c d e : UInt8) : gmul (gmul a c) (gmul d e) = gmul (gmul a d) (gmul c e) := by
  rw [gmul_assoc, gmul_assoc, ← gmul_assoc c, ← gmul_assoc d, gmul_comm c d]
theorem mul_gpow (a c : UInt8) (n : Nat) : gpow (gmul a c) n = gmul (gpow a n) (gpow c n) := by
  induction n with
  | zero => exact (gmul_one 1).symm
  | succ n ih => show gmul (gpow _ n) _ = gmul (gmul _ a) (gmul _ c); rw [ih, gmul_mul4]
theorem dblN_gpow (k : Nat) : dblN k 1 = gpow 2 k := by
  induction k with
  | zero => rfl
  | succ k ih => show dbl (dblN k 1) = gmul (gpow 2 k) 2; rw [ih, gmul_two]
theorem exp_255 : gpow 2 255 = 1 := by rw [← dblN_gpow]; decide +kernel
theorem exp_ne0 : ∀ k, k < 255 → 0 < k → dblN k 1 ≠ 1 := by decide +kernel
/-- the first power of 2 from x on that is a, if it is less than so many doublings away -/
def find (a : UInt8) : Nat → Nat → UInt8 → Nat
  | 0, n, _ => n
  | f + 1, n, x => if x = a then n else find a f (n + 1) (dbl x)
def glog (a : UInt8) : Nat := find a 255 0 1
theorem log0 : ∀ n, n < 256 → 0 < n → glog (UInt8.ofNat n) < 255 := by decide +kernel
theorem find_exp (a : UInt8) : ∀ f n, find a f n (dblN n 1) < n + f → dblN (find a f n (dblN n 1)) 1 = a := by
  intro f
  induction f with
  | zero => intro n h; simp only [find] at h; omega
  | succ f ih =>
    intro n h
    simp only [find] at h ⊢
    split
    · assumption
    · rename_i hx
      rw [if_neg hx] at h
      have e : dbl (dblN n 1) = dblN (n + 1) 1 := rfl
      rw [e] at h ⊢
      exact ih (n + 1) (by omega)
theorem log_lt (a : UInt8) (h : a ≠ 0) : glog a < 255 :=
  all_of (p := fun a => a ≠ 0 → glog a < 255) (fun n hn h0 => log0 n hn (by
    rcases Nat.eq_zero_or_pos n with h' | h'
    · subst h'; exact absurd rfl h0
    · exact h')) a h
theorem exp_log (a : UInt8) (h : a ≠ 0) : gpow 2 (glog a) = a := by
  have := find_exp a 255 0 (by have := log_lt a h; unfold glog at this; exact this)
  rw [← dblN_gpow]
  exact this
theorem gpow_255 (a : UInt8) (h : a ≠ 0) : gpow a 255 = 1 := by
  rw [← exp_log a h, ← gpow_mul, Nat.mul_comm, gpow_mul, exp_255, one_gpow]
def ginv (a : UInt8) : UInt8 := gpow a 254
theorem gmul_inv (a : UInt8) (h : a ≠ 0) : gmul a (ginv a) = 1 := by
  have := gpow_255 a h
  rw [gmul_comm]
  exact this
theorem ginv_mul (a : UInt8) (h : a ≠ 0) : gmul (ginv a) a = 1 := gpow_255 a h
theorem one_ne : (1 : UInt8) ≠ 0 := by decide
theorem gmul_ne (a c : UInt8) (ha : a ≠ 0) (hc : c ≠ 0) : gmul a c ≠ 0 := by
  intro h
  have h1 : gmul (ginv a) (gmul a c) = c := by rw [← gmul_assoc, ginv_mul a ha, one_gmul]
  rw [h, gmul_zero] at h1
  exact hc h1.symm
theorem gmul_eq_zero (a c : UInt8) : gmul a c = 0 ↔ a = 0 ∨ c = 0 := by
  constructor
  · intro h
    by_cases ha : a = 0
    · exact Or.inl ha
    · by_cases hc : c = 0
      · exact Or.inr hc
      · exact absurd h (gmul_ne a c ha hc)
  · rintro (h | h)
    · rw [h, zero_gmul]
    · rw [h, gmul_zero]
theorem gpow_ne (a : UInt8) (h : a ≠ 0) (n : Nat) : gpow a n ≠ 0 := by
  induction n with
  | zero => exact one_ne
  | succ n ih => exact gmul_ne _ _ ih h
theorem ginv_ne (a : UInt8) (h : a ≠ 0) : ginv a ≠ 0 := gpow_ne a h 254
theorem exp_inj (i j : Nat) (hi : i < 255) (hj : j < 255) (h : gpow 2 i = gpow 2 j) : i = j := by
  have key : ∀ i j, i < j → j < 255 → gpow 2 i = gpow 2 j → False := by
    intro i j hij hj h
    have e : gpow 2 j = gmul (gpow 2 i) (gpow 2 (j - i)) := by rw [← gpow_add]; congr 1; omega
    have h1 : gpow 2 (j - i) = 1 := by
      have h2 : gmul (gpow 2 i) (gpow 2 (j - i)) = gmul (gpow 2 i) 1 := by rw [← e, ← h, gmul_one]
      have h3 := congrArg (gmul (ginv (gpow 2 i))) h2
      have hn : gpow 2 i ≠ 0 := gpow_ne 2 (by decide) i
      rwa [← gmul_assoc, ← gmul_assoc, ginv_mul _ hn, one_gmul, one_gmul] at h3
    rw [← dblN_gpow] at h1
    exact exp_ne0 (j - i) (by omega) (by omega) h1
  rcases Nat.lt_trichotomy i j with h' | h' | h'
  · exact (key i j h' hj h).elim
  · exact h'
  · exact (key j i h' hi h.symm).elim
theorem exp_ne_zero (n : Nat) : gpow 2 n ≠ 0 := gpow_ne 2 (by decide) n
/-- an exponent of whatever sign, from 0 to 254 -/
def emod (n : Int) : Nat := (n % 255).toNat
theorem emod_lt (n : Int) : emod n < 255 := by unfold emod; omega
theorem emod_cast (n : Int) : (emod n : Int) = n % 255 := by unfold emod; omega
/-- a power with an exponent of whatever sign, for an element that is not 0 -/
def zpow (a : UInt8) (n : Int) : UInt8 := gpow a (emod n)
theorem ginv_zero : ginv 0 = 0 := by decide +kernel
attribute [irreducible] gmul
end Gf
end Go.Proofs.YtdjfbbfbdgiblaaGreatDoor

namespace Go.Proofs.YtdjfbbfbdgiblaaGreatDoor
namespace Sy
open Gf
set_option linter.unusedVariables false
theorem x4 (a b c d : UInt8) : (a ^^^ b) ^^^ (c ^^^ d) = (a ^^^ c) ^^^ (b ^^^ d) := Gf.xor4 a b c d
/-- the sum over a list of places -/
def ls (f : Nat → UInt8) : List Nat → UInt8
  | [] => 0
  | p :: ps => f p ^^^ ls f ps
theorem ls_congr {f g : Nat → UInt8} {ps : List Nat} (h : ∀ p ∈ ps, f p = g p) : ls f ps = ls g ps := by
  induction ps with
  | nil => rfl
  | cons p ps ih =>
    show f p ^^^ ls f ps = g p ^^^ ls g ps
    rw [h p List.mem_cons_self, ih fun q hq => h q (List.mem_cons_of_mem _ hq)]
theorem ls_zero {f : Nat → UInt8} {ps : List Nat} (h : ∀ p ∈ ps, f p = 0) : ls f ps = 0 := by
  induction ps with
  | nil => rfl
  | cons p ps ih =>
    show f p ^^^ ls f ps = 0
    rw [h p List.mem_cons_self, ih fun q hq => h q (List.mem_cons_of_mem _ hq)]; rfl
theorem ls_add (f g : Nat → UInt8) (ps : List Nat) : ls (fun p => f p ^^^ g p) ps = ls f ps ^^^ ls g ps := by
  induction ps with
  | nil => exact UInt8.xor_self.symm
  | cons p ps ih =>
    show f p ^^^ g p ^^^ ls _ ps = (f p ^^^ ls f ps) ^^^ (g p ^^^ ls g ps)
    rw [ih, x4]
theorem ls_mul (c : UInt8) (f : Nat → UInt8) (ps : List Nat) : ls (fun p => gmul c (f p)) ps = gmul c (ls f ps) := by
  induction ps with
  | nil => exact (gmul_zero c).symm
  | cons p ps ih =>
    show gmul c (f p) ^^^ ls _ ps = gmul c (f p ^^^ ls f ps)
    rw [ih, gmul_add]
theorem ls_append (f : Nat → UInt8) (ps qs : List Nat) : ls f (ps ++ qs) = ls f ps ^^^ ls f qs := by
  induction ps with
  | nil => exact UInt8.zero_xor.symm
  | cons p ps ih =>
    show f p ^^^ ls f (ps ++ qs) = (f p ^^^ ls f ps) ^^^ ls f qs
    rw [ih, UInt8.xor_assoc]
theorem ls_filter (f : Nat → UInt8) (t : Nat → Bool) (ps : List Nat) (h : ∀ p ∈ ps, t p = false → f p = 0) : ls f (ps.filter t) = ls f ps := by
  induction ps with
  | nil => rfl
  | cons p ps ih =>
    have h1 := ih fun q hq => h q (List.mem_cons_of_mem _ hq)
    rw [List.filter_cons]
    cases e : t p with
    | true => rw [if_pos rfl]; show f p ^^^ _ = f p ^^^ _; rw [h1]
    | false =>
      rw [if_neg (by simp), h1]
      show _ = f p ^^^ _
      rw [h p List.mem_cons_self e, UInt8.zero_xor]
/-- few unknowns, as many powers: all are 0 -/
theorem vand (X : Nat → UInt8) : ∀ (ps : List Nat) (e : Nat → UInt8), ps.Pairwise (fun i j => X i ≠ X j) → (∀ k, k < ps.length → ls (fun i => gmul (e i) (gpow (X i) k)) ps = 0) → ∀ i ∈ ps, e i = 0
  | [], _, _, _ => fun i hi => by cases hi
  | p :: ps, e, hd, hk => by
    obtain ⟨hp, hd'⟩ := List.pairwise_cons.1 hd
    have key : ∀ k, k < ps.length → ls (fun i => gmul (gmul (e i) (X i ^^^ X p)) (gpow (X i) k)) ps = 0 := by
      intro k hlt
      have h0 := hk k (by simp; omega)
      have h1 := hk (k + 1) (by simp; omega)
      have h2 : ls (fun i => gmul (e i) (gpow (X i) (k + 1)) ^^^ gmul (X p) (gmul (e i) (gpow (X i) k))) (p :: ps) = 0 := by
        rw [ls_add, ls_mul, h0, h1, gmul_zero]; rfl
      have h3 : ∀ i, gmul (e i) (gpow (X i) (k + 1)) ^^^ gmul (X p) (gmul (e i) (gpow (X i) k)) = gmul (gmul (e i) (X i ^^^ X p)) (gpow (X i) k) := by
        intro i
        have e1 : gpow (X i) (k + 1) = gmul (gpow (X i) k) (X i) := by rw [gpow_add, gpow_one]
        rw [e1, gmul_assoc (e i), gmul_comm (X i ^^^ X p), gmul_add, gmul_add, ← gmul_assoc (e i) _ (X i), ← gmul_assoc (e i) _ (X p), gmul_comm (X p)]
      have h4 : gmul (gmul (e p) (X p ^^^ X p)) (gpow (X p) k) ^^^ ls (fun i => gmul (gmul (e i) (X i ^^^ X p)) (gpow (X i) k)) ps = 0 := by
        rw [← h2]
        show _ = (gmul (e p) (gpow (X p) (k + 1)) ^^^ gmul (X p) (gmul (e p) (gpow (X p) k))) ^^^ _
        rw [h3 p]
        congr 1
        exact ls_congr fun i _ => (h3 i).symm
      rw [UInt8.xor_self, gmul_zero, zero_gmul, UInt8.zero_xor] at h4
      exact h4
    have h5 := vand X ps (fun i => gmul (e i) (X i ^^^ X p)) hd' key
    have h6 : ∀ i ∈ ps, e i = 0 := fun i hi => by
      rcases (gmul_eq_zero _ _).1 (h5 i hi) with h | h
      · exact h
      · exact absurd (UInt8.xor_eq_zero_iff.1 h).symm (hp i hi)
    intro i hi
    rcases List.mem_cons.1 hi with rfl | hi
    · have h7 := hk 0 (by simp)
      have h8 : gmul (e i) (gpow (X i) 0) ^^^ ls (fun j => gmul (e j) (gpow (X j) 0)) ps = 0 := h7
      rw [ls_zero (fun j hj => by rw [h6 j hj, zero_gmul]), UInt8.xor_zero] at h8
      rcases (gmul_eq_zero _ _).1 h8 with h | h
      · exact h
      · exact absurd h one_ne
    · exact h6 i hi
/-- the value of a word: its first byte has the highest power -/
def hor (x : UInt8) (l : List UInt8) : UInt8 := l.foldl (fun v b => gmul v x ^^^ b) 0
theorem hor_snoc (x : UInt8) (l : List UInt8) (b : UInt8) : hor x (l ++ [b]) = gmul (hor x l) x ^^^ b := by simp [hor]
/-- an element, 0 behind the last one -/
def wd (l : List UInt8) (i : Nat) : UInt8 := l[i]?.getD 0
theorem wd_some {l : List UInt8} {i : Nat} {b : UInt8} (h : l[i]? = some b) : wd l i = b := by unfold wd; rw [h]; rfl
theorem wd_lt {l : List UInt8} {i : Nat} (h : i < l.length) : l[i]? = some (wd l i) := by unfold wd; rw [List.getElem?_eq_getElem h]; rfl
theorem wd_left {l r : List UInt8} {i : Nat} (h : i < l.length) : wd (l ++ r) i = wd l i := by unfold wd; rw [List.getElem?_append_left h]
theorem wd_right (l r : List UInt8) (i : Nat) : wd (l ++ r) (l.length + i) = wd r i := by unfold wd; rw [List.getElem?_append_right (by omega), Nat.add_sub_cancel_left]
theorem wd_ext {l r : List UInt8} (hl : l.length = r.length) (h : ∀ i, i < l.length → wd l i = wd r i) : l = r := by
  refine List.ext_getElem? fun i => ?_
  rcases Nat.lt_or_ge i l.length with h1 | h1
  · rw [wd_lt h1, wd_lt (by omega), h i h1]
  · rw [List.getElem?_eq_none h1, List.getElem?_eq_none (by omega)]
theorem ls_range_succ (f : Nat → UInt8) (n : Nat) : ls f (List.range (n + 1)) = ls f (List.range n) ^^^ f n := by
  rw [List.range_succ, ls_append]
  show _ ^^^ (f n ^^^ 0) = _
  rw [UInt8.xor_zero]
theorem snoc_ind {P : List UInt8 → Prop} (h0 : P []) (h1 : ∀ l b, P l → P (l ++ [b])) (l : List UInt8) : P l := by
  have : ∀ r : List UInt8, P r.reverse := by
    intro r
    induction r with
    | nil => exact h0
    | cons b r ih => rw [List.reverse_cons]; exact h1 _ _ ih
  have h2 := this l.reverse
  rwa [List.reverse_reverse] at h2
theorem hor_sum (x : UInt8) (l : List UInt8) : hor x l = ls (fun i => gmul (wd l i) (gpow x (l.length - 1 - i))) (List.range l.length) := by
  induction l using snoc_ind with
  | h0 => rfl
  | h1 l b ih =>
    rw [hor_snoc, ih, List.length_append, List.length_singleton, ls_range_succ, gmul_comm, ← ls_mul]
    congr 1
    · refine ls_congr fun i hi => ?_
      have hi := List.mem_range.1 hi
      rw [wd_left hi, show l.length + 1 - 1 - i = (l.length - 1 - i) + 1 by omega, gpow_add, gpow_one, ← gmul_assoc, gmul_comm x, gmul_assoc, gmul_comm x]
    · have h := wd_right l [b] 0
      rw [Nat.add_zero] at h
      rw [h, show l.length + 1 - 1 - l.length = 0 by omega]
      show b = gmul b 1
      rw [gmul_one]
/-- the power of 2 that stands for a place -/
def loc (n i : Nat) : UInt8 := gpow 2 (n - 1 - i)
theorem loc_ne (n i : Nat) : loc n i ≠ 0 := exp_ne_zero _
theorem loc_inj {n i j : Nat} (hn : n ≤ 255) (hi : i < n) (hj : j < n) (h : loc n i = loc n j) : i = j := by
  have := exp_inj (n - 1 - i) (n - 1 - j) (by omega) (by omega) h
  omega
/-- the values of a word at powers of 2 -/
def syn (l : List UInt8) (k : Nat) : UInt8 := hor (gpow 2 k) l
def dsyn (D : Nat → UInt8) (n k : Nat) : UInt8 := ls (fun i => gmul (D i) (gpow (loc n i) k)) (List.range n)
theorem syn_eq (l : List UInt8) (k : Nat) : syn l k = dsyn (wd l) l.length k := by
  unfold syn dsyn
  rw [hor_sum]
  refine ls_congr fun i _ => ?_
  unfold loc
  rw [← gpow_mul, ← gpow_mul, Nat.mul_comm]
theorem dsyn_congr {D E : Nat → UInt8} {n k : Nat} (h : ∀ i, i < n → D i = E i) : dsyn D n k = dsyn E n k := ls_congr fun i hi => by rw [h i (List.mem_range.1 hi)]
theorem dsyn_add (D E : Nat → UInt8) (n k : Nat) : dsyn (fun i => D i ^^^ E i) n k = dsyn D n k ^^^ dsyn E n k := by
  unfold dsyn
  rw [← ls_add]
  exact ls_congr fun i _ => gmul_add' _ _ _
/-- how many of the first n places are not 0 -/
def wt (D : Nat → UInt8) (n : Nat) : Nat := (List.range n).countP (fun i => D i != 0)
theorem pair_range (n : Nat) : (List.range n).Pairwise (fun i j => i < j) := List.pairwise_lt_range
/-- a word of few places that is 0 at so many powers is 0 -/
theorem dist {D : Nat → UInt8} {n m : Nat} (hn : n ≤ 255) (hc : wt D n ≤ m) (hs : ∀ k, k < m → dsyn D n k = 0) : ∀ i, i < n → D i = 0 := by
  intro i hi
  have hp : ((List.range n).filter (fun i => D i != 0)).Pairwise (fun i j => loc n i ≠ loc n j) := by
    refine List.Pairwise.imp_of_mem ?_ (List.Pairwise.filter _ (pair_range n))
    intro a b ha hb hab e
    have ha := List.mem_range.1 (List.mem_filter.1 ha).1
    have hb := List.mem_range.1 (List.mem_filter.1 hb).1
    have := loc_inj hn ha hb e
    omega
  have hl : ((List.range n).filter (fun i => D i != 0)).length ≤ m := by rw [← List.countP_eq_length_filter]; exact hc
  have h := vand (loc n) _ D hp (fun k hk => by
    rw [ls_filter _ _ _ (fun p _ hp => by
      have : D p = 0 := by simpa using hp
      rw [this, zero_gmul])]
    exact hs k (by omega))
  cases e : D i != 0 with
  | false => simpa using e
  | true => exact h i (List.mem_filter.2 ⟨List.mem_range.2 hi, e⟩)
end Sy
end Go.Proofs.YtdjfbbfbdgiblaaGreatDoor

namespace Go.Proofs.YtdjfbbfbdgiblaaGreatDoor
namespace Po
/-- P4.1 -/
def vld (l : List UInt8) : Bool := decide (l.length ≤ 255) && (l.getLast? != some 0)
/-- the length without zeros at the end -/
def tl (l : List UInt8) : Nat → Nat
  | 0 => 0
  | n + 1 => if l[n]? = some 0 then tl l n else n + 1
def trim (l : List UInt8) : List UInt8 := l.take (tl l l.length)
theorem tl_le (l : List UInt8) : ∀ n, tl l n ≤ n := by
  intro n
  induction n with
  | zero => exact Nat.le_refl _
  | succ n ih =>
    unfold tl
    split
    · omega
    · exact Nat.le_refl _
theorem tl_zero (l : List UInt8) (n : Nat) (h : l[n]? = some 0) : tl l (n + 1) = tl l n := by
  rw [tl, if_pos h]
theorem tl_stop (l : List UInt8) (n : Nat) (h : l[n]? ≠ some 0) : tl l (n + 1) = n + 1 := by
  rw [tl, if_neg h]
theorem trim_length (l : List UInt8) : (trim l).length = tl l l.length := by
  unfold trim
  rw [List.length_take]
  have := tl_le l l.length
  omega
theorem vld_nil (l : List UInt8) (h : l.length = 0) : vld l = true := by
  have : l = [] := List.eq_nil_of_length_eq_zero h
  subst this
  rfl
theorem vld_last (l : List UInt8) (b : UInt8) (h1 : l.length ≤ 255) (hb : l[l.length - 1]? = some b) : vld l = (b != 0) := by
  unfold vld
  rw [List.getLast?_eq_getElem?, hb, decide_eq_true h1, Bool.true_and, Bool.eq_iff_iff]
  simp
theorem tl_last (l : List UInt8) : ∀ n, tl l n = 0 ∨ l[tl l n - 1]? ≠ some 0 := by
  intro n
  induction n with
  | zero => exact .inl rfl
  | succ n ih =>
    by_cases h : l[n]? = some 0
    · rw [tl_zero l n h]
      exact ih
    · rw [tl_stop l n h]
      exact .inr h
theorem take_vld (l : List UInt8) (k : Nat) (hk : k ≤ l.length) (h : k = 0 ∨ l[k - 1]? ≠ some 0) (h2 : k ≤ 255) : vld (l.take k) = true := by
  have hl : (l.take k).length = k := by rw [List.length_take]; omega
  unfold vld
  rw [hl, decide_eq_true h2, Bool.true_and, bne_iff_ne, List.getLast?_eq_getElem?, hl, List.getElem?_take]
  rcases h with h | h
  · subst h
    simp
  · split
    · exact h
    · simp
theorem trim_vld (l : List UInt8) (h : l.length ≤ 255) : vld (trim l) = true := by
  have h1 := tl_le l l.length
  exact take_vld l _ h1 (tl_last l l.length) (by omega)
/-- so many rounds of adding t times r, from 'at' on -/
def addTo (l r : List UInt8) (t : UInt8) (i : Nat) : Nat → List UInt8
  | 0 => l
  | k + 1 => (addTo l r t i k).set (i + k) (((addTo l r t i k)[i + k]?.getD 0) ^^^ Gf.gmul t (r[k]?.getD 0))
theorem addTo_length (l r : List UInt8) (t : UInt8) (i : Nat) : ∀ k, (addTo l r t i k).length = l.length := by
  intro k
  induction k with
  | zero => rfl
  | succ k ih => rw [addTo, List.length_set, ih]
theorem addTo_succ (l r : List UInt8) (t d b x : UInt8) (i k : Nat) (hd : (addTo l r t i k)[i + k]? = some d) (hb : r[k]? = some b) (hx : x = d ^^^ Gf.gmul t b) : addTo l r t i (k + 1) = (addTo l r t i k).set (i + k) x := by
  rw [addTo, hd, hb, hx]
  rfl
def addAt (l r : List UInt8) (t : UInt8) (i : Nat) : List UInt8 := addTo l r t i r.length
/-- P4.2: the sum, before zeros are cut off -/
def padd (p q : List UInt8) : List UInt8 := addAt (addAt (List.replicate (max p.length q.length) 0) p 1 0) q 1 0
theorem addAt_length (l r : List UInt8) (t : UInt8) (i : Nat) : (addAt l r t i).length = l.length := addTo_length l r t i _
theorem vld_len {p : List UInt8} (h : vld p = true) : p.length ≤ 255 := by
  unfold vld at h
  simp at h
  exact h.1
/-- P4.2: so many rounds of a product -/
def mulTo (p q : List UInt8) : Nat → List UInt8
  | 0 => List.replicate (p.length + q.length - 1) 0
  | k + 1 => addAt (mulTo p q k) q (p[k]?.getD 0) k
def mulA (p q : List UInt8) : List UInt8 := mulTo p q p.length
theorem mulTo_length (p q : List UInt8) : ∀ k, (mulTo p q k).length = p.length + q.length - 1 := by
  intro k
  induction k with
  | zero => exact List.length_replicate
  | succ k ih => rw [mulTo, addAt_length, ih]
def mulB (p q : List UInt8) : Bool := decide (p.length = 0) || decide (q.length = 0)
def mulE (p q : List UInt8) : Int := if vld p && vld q then (if mulB p q then 0 else if p.length + q.length - 1 ≤ 255 then 0 else 3) else 1
end Po
end Go.Proofs.YtdjfbbfbdgiblaaGreatDoor

namespace Go.Proofs.YtdjfbbfbdgiblaaGreatDoor
namespace Po
/-- so many rounds of a division of p by q, the inverse of q's last element at hand: what is left of p, and the quotient -/
def dv (p q : List UInt8) (lead : UInt8) : Nat → List UInt8 × List UInt8
  | 0 => (p, List.replicate (p.length - q.length + 1) 0)
  | j + 1 =>
    (addAt (dv p q lead j).1 q (Gf.gmul ((dv p q lead j).1[p.length - q.length - j + q.length - 1]?.getD 0) lead) (p.length - q.length - j),
     (dv p q lead j).2.set (p.length - q.length - j) (Gf.gmul ((dv p q lead j).1[p.length - q.length - j + q.length - 1]?.getD 0) lead))
theorem dv_len (p q : List UInt8) (lead : UInt8) : ∀ j, (dv p q lead j).1.length = p.length ∧ (dv p q lead j).2.length = p.length - q.length + 1 := by
  intro j
  induction j with
  | zero => exact ⟨rfl, List.length_replicate⟩
  | succ j ih => exact ⟨by rw [dv, addAt_length, ih.1], by rw [dv, List.length_set, ih.2]⟩
def lastOf (q : List UInt8) : UInt8 := q[q.length - 1]?.getD 0
def dvAll (p q : List UInt8) : List UInt8 × List UInt8 := dv p q (Gf.ginv (lastOf q)) (p.length - q.length + 1)
def quo (p q : List UInt8) : List UInt8 := if p.length < q.length then [] else (dvAll p q).2
def rem (p q : List UInt8) : List UInt8 := if p.length < q.length then p else trim ((dvAll p q).1.take (q.length - 1))
theorem rem_lt (p q : List UInt8) (h : 0 < q.length) : (rem p q).length < q.length := by
  unfold rem
  split
  · assumption
  · rw [trim_length]
    have h1 := tl_le ((dvAll p q).1.take (q.length - 1)) ((dvAll p q).1.take (q.length - 1)).length
    have h2 : ((dvAll p q).1.take (q.length - 1)).length ≤ q.length - 1 := List.length_take_le _ _
    omega
/-- Euclid's rounds, so many at most -/
def gcdF : Nat → List UInt8 → List UInt8 → List UInt8
  | 0, a, _ => a
  | f + 1, a, b => if b.length = 0 then a else gcdF f b (rem a b)
theorem gcdF_more : ∀ (f : Nat) (a b : List UInt8), b.length ≤ f → gcdF f a b = gcdF b.length a b := by
  intro f
  induction f using Nat.strongRecOn with
  | _ f ih =>
    intro a b h
    match f, h with
    | 0, h => rw [Nat.le_zero.1 h]
    | f + 1, h =>
      rcases Nat.eq_zero_or_pos b.length with h0 | h0
      · rw [gcdF, if_pos h0, h0]
        rfl
      · have hr := rem_lt a b h0
        obtain ⟨k, hk⟩ : ∃ k, b.length = k + 1 := ⟨b.length - 1, by omega⟩
        rw [gcdF, if_neg (by omega), ih f (by omega) b (rem a b) (by omega)]
        conv => rhs; rw [hk, gcdF, if_neg (by omega)]
        rw [ih k (by omega) b (rem a b) (by omega)]
theorem gcd_end (a b : List UInt8) (h : b.length = 0) : gcdF b.length a b = a := by
  rw [h]
  rfl
theorem gcd_step (a b : List UInt8) (h : 0 < b.length) : gcdF b.length a b = gcdF (rem a b).length b (rem a b) := by
  have hr := rem_lt a b h
  obtain ⟨k, hk⟩ : ∃ k, b.length = k + 1 := ⟨b.length - 1, by omega⟩
  conv => lhs; rw [hk, gcdF, if_neg (by omega)]
  exact gcdF_more k b (rem a b) (by omega)
end Po
end Go.Proofs.YtdjfbbfbdgiblaaGreatDoor

namespace Go.Proofs.YtdjfbbfbdgiblaaGreatDoor
open Go.RowKit
set_option linter.unusedVariables false
set_option maxRecDepth 100000

/-- a byte as a value -/
theorem u8_lt (a : UInt8) : ((a.toNat : Nat) : Int) < 256 := by have := UInt8.toNat_lt a; omega
theorem ret_u8 {a b : UInt8} (h : a = b) : Ending.returned (.int .u8 (a.toNat : Int)) = .returned (.int .u8 (b.toNat : Int)) := by rw [h]
theorem u8_xor8 (a c : UInt8) : bits .xor .u8 (a.toNat : Int) (c.toNat : Int) = ((a ^^^ c).toNat : Int) := by
  rw [u8_xor_nat _ _ (UInt8.toNat_lt a) (UInt8.toNat_lt c), UInt8.toNat_xor]

theorem dbl_lo0 : ∀ n, n < 256 → n < 128 → n * 2 = (Gf.dbl (UInt8.ofNat n)).toNat := by decide +kernel
theorem dbl_hi0 : ∀ n : Nat, n < 256 → ¬ n < 128 → bits .xor .u8 ((n : Int) * 2 % 256) 29 = ((Gf.dbl (UInt8.ofNat n)).toNat : Int) := by decide +kernel
theorem dbl_lo (a : UInt8) (h : (a.toNat : Int) < 128) : (a.toNat : Int) * 2 = ((Gf.dbl a).toNat : Int) := by
  have := dbl_lo0 a.toNat (UInt8.toNat_lt a) (by omega)
  rw [UInt8.ofNat_toNat] at this
  omega
theorem dbl_hi (a : UInt8) (h : ¬ (a.toNat : Int) < 128) : bits .xor .u8 ((a.toNat : Int) * 2 % 256) 29 = ((Gf.dbl a).toNat : Int) := by
  have := dbl_hi0 a.toNat (UInt8.toNat_lt a) (by omega)
  rwa [UInt8.ofNat_toNat] at this
theorem double_any (a : UInt8) (w : World) : Calls Tryz.prog 139 #[.int .u8 (a.toNat : Int)] w fun e w' => e = .returned (.int .u8 ((Gf.dbl a).toNat : Int)) ∧ w = w' := by
  have hl := u8_lt a
  by_cases h : (a.toNat : Int) < 128
  · have H := Lib.hid (dbl_lo a h)
    go_enter Tryz.func139, Tryz.ntmps139
    go_wp2
    go_ret
    exact ⟨ret_int H.out, rfl⟩
  · have H := Lib.hid (dbl_hi a h)
    go_enter Tryz.func139, Tryz.ntmps139
    go_wp2
    go_ret
    exact ⟨ret_int H.out, rfl⟩

theorem int_eq {k : IntKind} {a b : Int} (h : a = b) : (Value.int k a) = .int k b := by rw [h]
theorem u8_shr1 (y : UInt8) : Value.int .u8 ((y.toNat : Int) / 2) = .int .u8 ((y >>> 1).toNat : Int) := by
  refine int_eq ?_
  rw [UInt8.toNat_shiftRight]
  simp [Nat.shiftRight_eq_div_pow]
theorem i64_shr1 (k : Nat) : Value.int .i64 ((k : Int) / 2) = .int .i64 ((k / 2 : Nat) : Int) := by
  refine int_eq ?_
  omega
theorem ofInt_i64 (a : Nat) (ha : a < 9223372036854775808) : (BitVec.ofInt 64 (a : Int)).toNat = a := by
  rw [BitVec.ofInt_natCast, BitVec.toNat_ofNat]; exact Nat.mod_eq_of_lt (by omega)
theorem i64_and_nat (a b : Nat) (ha : a < 9223372036854775808) (hb : b < 9223372036854775808) : bits .and .i64 (a : Int) (b : Int) = ((a &&& b : Nat) : Int) := by
  have hx : a &&& b < 2 ^ 63 := Nat.and_lt_two_pow _ (by omega)
  show IntKind.i64.wrap ((BitVec.ofInt 64 (a : Int) &&& BitVec.ofInt 64 (b : Int)).toNat : Int) = _
  rw [BitVec.toNat_and, ofInt_i64 a ha, ofInt_i64 b hb, IntKind.wrap_i64]
  omega
theorem xor_ex (a c : UInt8) : ∃ d : UInt8, bits .xor .u8 (a.toNat : Int) (c.toNat : Int) = (d.toNat : Int) ∧ Hid (d = a ^^^ c) := ⟨_, u8_xor8 a c, rfl⟩
/-- the product that is still to come, and what is gathered -/
def MulRel (a0 c0 : UInt8) (a c p : Value) : Prop := ∃ x y z : UInt8, a = .int .u8 (x.toNat : Int) ∧ c = .int .u8 (y.toNat : Int) ∧ p = .int .u8 (z.toNat : Int) ∧ Gf.gmul a0 c0 = z ^^^ Gf.gmul x y
theorem u8_pos {y : UInt8} (h : y ≠ 0) : 0 < (y.toNat : Int) := by
  have : y.toNat ≠ 0 := fun e => h (UInt8.toNat_inj.1 (by simpa using e))
  omega
theorem u8_bit0 (y : UInt8) : bits .and .u8 (y.toNat : Int) 1 = if Gf.bit y 0 then 1 else 0 := by
  have := u8_and_nat y.toNat 1 (UInt8.toNat_lt y) (by decide)
  rw [show ((1 : Nat) : Int) = 1 from rfl] at this
  rw [this]
  unfold Gf.bit
  rw [Nat.and_one_is_mod, Nat.testBit_zero]
  by_cases h : y.toNat % 2 = 1
  · simp [h]
  · have h0 : y.toNat % 2 = 0 := by omega
    simp [h0]
theorem mul_any (a0 c0 : UInt8) (w : World) : Calls Tryz.prog 103 #[.int .u8 (a0.toNat : Int), .int .u8 (c0.toNat : Int)] w fun e w' => e = .returned (.int .u8 ((Gf.gmul a0 c0).toNat : Int)) ∧ w = w' := by
  go_enter Tryz.func103, Tryz.ntmps103
  go_wp2_with fail
  go_loop [0, 1, 5] (fun a c p => MulRel a0 c0 a c p) (fun _ c _ => (intOf c).toNat)
  case atStart => exact ⟨a0, c0, 0, rfl, rfl, rfl, by rw [UInt8.zero_xor]⟩
  case round =>
    obtain ⟨x, y, z, rfl, rfl, rfl, hm⟩ := hrel
    have hx := u8_lt x
    have hy := u8_lt y
    have hz := u8_lt z
    have HM := Lib.hid hm
    clear hm
    by_cases h0 : y = 0
    · subst h0
      go_wp2_with fail
      go_ret
      exact ⟨ret_u8 (by rw [HM.out, Gf.gmul_zero, UInt8.xor_zero]), rfl⟩
    · have h1 := u8_pos h0
      have hs := Lib.hid (Gf.gmul_step x y)
      cases hbit : Gf.bit y 0
      · have hb : bits .and .u8 (y.toNat : Int) 1 = 0 := by rw [u8_bit0, hbit]; rfl
        have HB := Lib.hid hbit
        clear hbit h0
        go_wp2_with (go_at_call 139; refine (double_any _ _).mono ?_; rintro e w' ⟨rfl, rfl⟩)
        go_round
        case rel => exact ⟨Gf.dbl x, y >>> 1, z, rfl, u8_shr1 y, rfl, by rw [HM.out, hs.out, HB.out]; simp [Gf.sel]⟩
        case measure => simp [intOf]; omega
      · have hb : bits .and .u8 (y.toNat : Int) 1 = 1 := by rw [u8_bit0, hbit]; rfl
        have HB := Lib.hid hbit
        clear hbit h0
        go_wp2_with (go_at_call 139; refine (double_any _ _).mono ?_; rintro e w' ⟨rfl, rfl⟩)
        go_round
        case rel => exact ⟨Gf.dbl x, y >>> 1, z ^^^ x, rfl, u8_shr1 y, int_eq (u8_xor8 z x), by rw [HM.out, hs.out, HB.out, ← UInt8.xor_assoc]; simp [Gf.sel]⟩
        case measure => simp [intOf]; omega

/-- what is still to come, and what is gathered -/
def RaiseRel (a0 : UInt8) (n0 : Nat) (a n p : Value) : Prop := ∃ (x z : UInt8) (k : Nat), k ≤ 9223372036854775807 ∧ a = .int .u8 (x.toNat : Int) ∧ n = .int .i64 (k : Int) ∧ p = .int .u8 (z.toNat : Int) ∧ Gf.gpow a0 n0 = Gf.gmul z (Gf.gpow x k)
theorem i64_bit0 (k : Nat) (h : k ≤ 9223372036854775807) : bits .and .i64 (k : Int) 1 = ((k % 2 : Nat) : Int) := by
  have := i64_and_nat k 1 (by omega) (by decide)
  rw [show ((1 : Nat) : Int) = 1 from rfl] at this
  rw [this, Nat.and_one_is_mod]
theorem pow_even (x : UInt8) (k : Nat) (h : k % 2 = 0) : Gf.gpow x k = Gf.gpow (Gf.gmul x x) (k / 2) := by
  rw [← Gf.gpow_two, ← Gf.gpow_mul]
  congr 1
  omega
theorem pow_odd (x : UInt8) (k : Nat) (h : k % 2 = 1) : Gf.gpow x k = Gf.gmul x (Gf.gpow (Gf.gmul x x) (k / 2)) := by
  rw [← Gf.gpow_two, ← Gf.gpow_mul]
  conv => rhs; arg 1; rw [← Gf.gpow_one x]
  rw [← Gf.gpow_add]
  congr 1
  omega
theorem raise_any (a0 : UInt8) (n0 : Int) (h0 : 0 ≤ n0) (hn : n0 ≤ 9223372036854775807) (w : World) : Calls Tryz.prog 137 #[.int .u8 (a0.toNat : Int), .int .i64 n0] w fun e w' => e = .returned (.int .u8 ((Gf.gpow a0 n0.toNat).toNat : Int)) ∧ w = w' := by
  obtain ⟨n, rfl⟩ := Int.eq_ofNat_of_zero_le h0
  rw [Int.toNat_natCast]
  go_enter Tryz.func137, Tryz.ntmps137
  go_wp2_with fail
  go_loop [0, 1, 5] (fun a c p => RaiseRel a0 n a c p) (fun _ c _ => (intOf c).toNat)
  case atStart => exact ⟨a0, 1, n, by omega, rfl, rfl, rfl, by rw [Gf.one_gmul]⟩
  case round =>
    obtain ⟨x, z, k, hk, rfl, rfl, rfl, hm⟩ := hrel
    have hx := u8_lt x
    have hz := u8_lt z
    have HM := Lib.hid hm
    clear hm
    by_cases hk0 : k = 0
    · subst hk0
      go_wp2_with fail
      go_ret
      exact ⟨ret_u8 (by rw [HM.out]; exact (Gf.gmul_one z).symm), rfl⟩
    · have h1 : 0 < (k : Int) := by omega
      by_cases hbit : k % 2 = 1
      · have hb : bits .and .i64 (k : Int) 1 = 1 := by rw [i64_bit0 k hk, hbit]; rfl
        have HB := Lib.hid (pow_odd x k hbit)
        clear hbit hk0
        go_wp2_with (go_at_call 103; refine (mul_any _ _ _).mono ?_; rintro e w' ⟨rfl, rfl⟩)
        go_round
        case rel => exact ⟨Gf.gmul x x, Gf.gmul z x, k / 2, by omega, rfl, i64_shr1 k, rfl, by rw [HM.out, HB.out, Gf.gmul_assoc]⟩
        case measure => simp [intOf]; omega
      · have hb : bits .and .i64 (k : Int) 1 = 0 := by rw [i64_bit0 k hk, show k % 2 = 0 from by omega]; rfl
        have HB := Lib.hid (pow_even x k (by omega))
        clear hbit hk0
        go_wp2_with (go_at_call 103; refine (mul_any _ _ _).mono ?_; rintro e w' ⟨rfl, rfl⟩)
        go_round
        case rel => exact ⟨Gf.gmul x x, z, k / 2, by omega, rfl, i64_shr1 k, rfl, by rw [HM.out, HB.out]⟩
        case measure => simp [intOf]; omega

theorem turn_num (n : Int) : ((n.tmod 255) + 255) % 255 = (Gf.emod n : Int) := by
  rw [Gf.emod_cast]
  have h1 := Int.tmod_eq_emod (a := n) (b := 255)
  split at h1 <;> omega
theorem turn_any (n : Int) (w : World) : Calls Tryz.prog 138 #[.int .i64 n] w fun e w' => e = .returned (.int .i64 (Gf.emod n : Int)) ∧ w = w' := by
  have hb : -255 < n.tmod 255 ∧ n.tmod 255 < 255 := by
    have h1 := Int.tmod_eq_emod (a := n) (b := 255)
    split at h1 <;> omega
  have h1 := hb.1
  have h2 := hb.2
  clear hb
  have H := Lib.hid (turn_num n)
  go_enter Tryz.func138, Tryz.ntmps138
  go_wp2
  go_ret
  exact ⟨ret_int H.out, rfl⟩
end Go.Proofs.YtdjfbbfbdgiblaaGreatDoor

namespace Go.Proofs.YtdjfbbfbdgiblaaGreatDoor
open Go.RowKit
set_option linter.unusedVariables false
set_option maxRecDepth 100000

theorem infoB : (Tryz.prog.info? 5).map (fun i => (i.zero, i.size, i.bytes)) = some (some (.int .u8 0), 1, 1) := by kernel_rfl
theorem cloneB_any (A : Option Addr) (n c B : Nat) (l : List UInt8) (w : World) (hn : l.length = n) (hs : Sl w B A (bys l)) (hB : B ≤ w.heap.size) (hl : n ≤ 140737488355328) :
    Calls Tryz.prog 65 #[.slice A n c] w (Fresh 5 w n (bys l)) := by
  obtain ⟨i0, hi, hz0, hz1, hz2⟩ := info_parts infoB
  cases A with
  | none =>
    have h0 : n = 0 := by
      rcases Nat.eq_zero_or_pos n with h | h
      · exact h
      · obtain ⟨ad, h, _⟩ := hs (by rw [bys_length]; omega)
        cases h
    subst h0
    have hl0 : l = [] := List.eq_nil_of_length_eq_zero hn
    subst hl0
    have heq := fun w => Lib.run_eql_slice_nil (P := Tryz.prog) w 46 5 none 0 c 0 0 Tryz.underlying46
    clear hs hn
    go_enter Tryz.func65, Tryz.ntmps65
    go_wp2_with fail
    go_ret
    exact ret_fresh (World.ownsRow_nil _ _ _ _) (Below.refl _ _) rfl
  | some ad =>
    have heq := fun w => Lib.run_eql_slice_nil (P := Tryz.prog) w 46 5 (some ad) n c 0 0 Tryz.underlying46
    have HN := Lib.hid ((bys_length l).trans hn)
    have hbw := (Below.refl w.heap.size w).alloc (Nat.le_refl _) (.cells #[] 5)
    have HS : Hid (Sl (w.alloc (.cells #[] 5)) B (some ad) (bys l)) := hs.alloc hB _
    have HO := Lib.hid (own_empty w 5)
    clear hn hs
    go_enter Tryz.func65, Tryz.ntmps65
    go_wp2_with (at_builtin; refine wpList_append_sl _ rfl (.tmp 5) (.tmp 6) 46 rfl w.heap.size 5 i0 (.int .u8 0) 1 Tryz.underlying46 hi hz0 hz1 hz2 rfl _ _ _ _ rfl HO.out B _ _ _ _ rfl HN.out HS.out (bys_one l) (by unfold maxLen; omega) (by omega) (by simp) ?_; intro A' c' w1 hown hgrow hblk)
    go_ret
    rw [Nat.zero_add] at hown
    exact ret_fresh hown (hbw.grown hgrow (by simp) (fun g hg => by cases hg; exact Nat.le_refl _)) rfl
theorem flip_sameB {P : Program} {f : FuncId} {args : Array Value} {w : World} {v : Value} (h : Calls P f args w fun e w' => e = .returned v ∧ w = w') : Calls P f args w fun e w' => e = .returned v ∧ w' = w := h.mono fun _ _ ⟨he, hw⟩ => ⟨he, hw.symm⟩
/-- what a call leaves that hands back a list of bytes of its own -/
def FreshB (w : World) (l : List UInt8) (en : Ending) (w' : World) : Prop :=
  ∃ (A : Option Addr) (n c : Nat), en = .returned (.slice A n c) ∧ l.length = n ∧ w'.ownsRow w.heap.size 5 1 (.slice A n c) n (bys l) ∧ Below w.heap.size w w'
theorem cloneB_fresh (A : Option Addr) (n c B : Nat) (l : List UInt8) (w : World) (hn : l.length = n) (hs : Sl w B A (bys l)) (hB : B ≤ w.heap.size) (hl : n ≤ 140737488355328) :
    Calls Tryz.prog 65 #[.slice A n c] w (FreshB w l) :=
  (cloneB_any A n c B l w hn hs hB hl).mono fun e w' ⟨A', c', he, ho, hb⟩ => ⟨A', n, c', he, hn, ho, hb⟩
end Go.Proofs.YtdjfbbfbdgiblaaGreatDoor
