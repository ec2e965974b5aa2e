/- Power out of range; Parse of any text: the program and the document. -/
import Derived.Test.YtflgfkelbniblaaDoorRz
import Derived.Test.YtflgfkelbniblaaDoorAg
import Derived.Test.YtflgfkelbniblaaDoorNPow
namespace Go.Proofs.YtflgfkelbniblaaDoor
open Go.RowKit Go.Sort
set_option linter.unusedVariables false
set_option maxRecDepth 100000
section
variable {w0 w w' : World} {g : Option Nat} {M : List (Nat × Value)} {L : List Ob} {O : List Rw} {A A2 : Option Addr} {n c m c2 x y : Nat}
theorem valid_ok (h : Ow w0 w g M L O) (i : Nat) (hi : L[i]? = some ⟨A, n, c, nats (Na.dig x)⟩) (hx : x < Na.top) :
    Calls Tryd.prog 36 #[.agg #[.slice A n c]] w fun e w' => e = .returned (.bool true) ∧ Ow w0 w' g M L O := by
  rw [← nats_up] at hi
  have := ag_vld h i hi
  rwa [Na.vld_dig hx] at this
end
theorem npower_range (A : Option Addr) (n c x : Nat) (v : Int) (w : World) (hn : (Na.dig x).length = n) (hnc : n ≤ c) (hs : Sl w w.heap.size A (nats (Na.dig x))) (hx : x < Na.top) (hv : v < 0 ∨ 4800 < v) :
    Calls Tryd.prog 23 #[.agg #[.slice A n c], .int .i64 v] w (ResN w [] 2) := by
  have hn2 : n ≤ 200 := by rw [← hn]; exact (Na.dig_200 x).2 hx
  have H0 := (((Ow.of (St.refl w)).old hs (by rw [nats_length]; exact hn) hnc (by omega)).boxed (.slice A n c) 29).boxed (.slice none 0 0) 29
  simp only [World.size_alloc, List.nil_append, List.cons_append] at H0
  have hc0 := H0.cell 0 rfl
  have HH := Lib.hid (valid_ok H0 0 rfl hx)
  clear hn hs H0 hx
  rcases hv with hv | hv
  · have hd : decide (v < 0) = true := decide_eq_true hv
    go_enter Tryd.func23, Tryd.ntmps23
    go_wp2_with fail
    refine HH.out.mono ?_
    rintro e w1 ⟨rfl, H1⟩
    have hs1 := H1.cell 1 rfl
    have hf1 := H1.free 1 rfl
    clear hc0 HH
    go_wp2_with fail
    have G := H1.setv 1 rfl (.slice none 0 0)
    have hz := G.cell 1 rfl
    refine bodyPost_ret (v := .tuple #[.agg #[.slice none 0 0], .int .i64 2]) (by simp [results, Tryd.results23, go_sem, hz]) rfl ?_
    exact resN_nil _ _ _ G.below
  · have hd : decide (v < 0) = false := decide_eq_false (by omega)
    have hd2 : decide (4800 < v) = true := decide_eq_true hv
    go_enter Tryd.func23, Tryd.ntmps23
    go_wp2_with fail
    refine HH.out.mono ?_
    rintro e w1 ⟨rfl, H1⟩
    have hs1 := H1.cell 1 rfl
    have hf1 := H1.free 1 rfl
    clear hc0 HH
    go_wp2_with fail
    have G := H1.setv 1 rfl (.slice none 0 0)
    have hz := G.cell 1 rfl
    refine bodyPost_ret (v := .tuple #[.agg #[.slice none 0 0], .int .i64 2]) (by simp [results, Tryd.results23, go_sem, hz]) rfl ?_
    exact resN_nil _ _ _ G.below
theorem nrpower_range (A : Option Addr) (n c x : Nat) (v : Int) (w : World) (hn : (Na.dig x).length = n) (hnc : n ≤ c) (hs : Sl w w.heap.size A (nats (Na.dig x))) (hx : x < Na.top) (hv : v < 0 ∨ 4800 < v) :
    Calls Tryd.prog 26 #[.agg #[.slice A n c], .int .i64 v] w (ResN w [] 2) := by
  have hn2 : n ≤ 200 := by rw [← hn]; exact (Na.dig_200 x).2 hx
  have H0 := (((Ow.of (St.refl w)).old hs (by rw [nats_length]; exact hn) hnc (by omega)).boxed (.slice A n c) 29).boxed (.slice none 0 0) 29
  simp only [World.size_alloc, List.nil_append, List.cons_append] at H0
  have hc0 := H0.cell 0 rfl
  have HH := Lib.hid (rvalid_ok H0 0 rfl hx)
  clear hn hs H0 hx
  rcases hv with hv | hv
  · have hd : decide (v < 0) = true := decide_eq_true hv
    go_enter Tryd.func26, Tryd.ntmps26
    go_wp2_with fail
    refine HH.out.mono ?_
    rintro e w1 ⟨rfl, H1⟩
    have hs1 := H1.cell 1 rfl
    have hf1 := H1.free 1 rfl
    clear hc0 HH
    go_wp2_with fail
    have G := H1.setv 1 rfl (.slice none 0 0)
    have hz := G.cell 1 rfl
    refine bodyPost_ret (v := .tuple #[.agg #[.slice none 0 0], .int .i64 2]) (by simp [results, Tryd.results26, go_sem, hz]) rfl ?_
    exact resN_nil _ _ _ G.below
  · have hd : decide (v < 0) = false := decide_eq_false (by omega)
    have hd2 : decide (4800 < v) = true := decide_eq_true hv
    go_enter Tryd.func26, Tryd.ntmps26
    go_wp2_with fail
    refine HH.out.mono ?_
    rintro e w1 ⟨rfl, H1⟩
    have hs1 := H1.cell 1 rfl
    have hf1 := H1.free 1 rfl
    clear hc0 HH
    go_wp2_with fail
    have G := H1.setv 1 rfl (.slice none 0 0)
    have hz := G.cell 1 rfl
    refine bodyPost_ret (v := .tuple #[.agg #[.slice none 0 0], .int .i64 2]) (by simp [results, Tryd.results26, go_sem, hz]) rfl ?_
    exact resN_nil _ _ _ G.below
def powL (x : Nat) (v : Int) : List Nat := if v < 0 ∨ 4800 < v then [] else resL (x ^ v.toNat)
def powE (x : Nat) (v : Int) : Int := if v < 0 ∨ 4800 < v then 2 else resE (x ^ v.toNat)
theorem powL_1000 (x : Nat) (v : Int) : (powL x v).length ≤ 1000 := by
  unfold powL
  split
  · exact Nat.zero_le _
  · exact resL_1000 _
theorem choL_1000 (n k : Int) : (choL n k).length ≤ 1000 := by
  unfold choL
  split
  · exact Nat.zero_le _
  · split
    · exact Nat.zero_le _
    · exact Nat.le_trans (Na.bin_top n.toNat k.toNat (by omega)).2 (by omega)
theorem ofL_1000 {v : Int} (h : v ≤ 9223372036854775807) : (ofL v).length ≤ 1000 := by
  unfold ofL
  split
  · exact Nat.zero_le _
  · exact Nat.le_trans (Na.dig_len_le (n := 3) (Nat.lt_of_le_of_lt (show v.toNat ≤ 9223372036854775807 by omega) (by decide))) (by omega)
theorem digs_or : ∀ l : List UInt8, De.Digs l ∨ ∃ (j : Nat) (d : UInt8), l[j]? = some d ∧ (d.toNat < 48 ∨ 57 < d.toNat) ∧ De.Digs (l.take j)
  | [] => .inl (fun c hc => by cases hc)
  | c :: l => by
    by_cases h : 48 ≤ c.toNat ∧ c.toNat ≤ 57
    · rcases digs_or l with h1 | ⟨j, d, h1, h2, h3⟩
      · exact .inl (fun x hx => by rcases List.mem_cons.1 hx with rfl | hx; exact h; exact h1 x hx)
      · exact .inr ⟨j + 1, d, by simpa using h1, h2, fun x hx => by rw [List.take_succ_cons] at hx; rcases List.mem_cons.1 hx with rfl | hx; exact h; exact h3 x hx⟩
    · exact .inr ⟨0, c, rfl, by omega, fun x hx => by simp at hx⟩
/-- what the program and the document both make of a text -/
theorem parse_both (l : List UInt8) (hl : l.length ≤ 3000) : ∃ (r : List Nat) (e : Int), r.length ≤ 1000 ∧ (∀ w, Calls Tryd.prog 29 #[.string (str l)] w (ResN w r e)) ∧ ∀ w, Calls Tryd.prog 30 #[.string (str l)] w (ResN w r e) := by
  rcases Nat.lt_or_ge 1445 l.length with h1 | h1
  · exact ⟨[], 3, Nat.zero_le _, fun w => nparse_long l w h1 (by omega), fun w => nrparse_long l w h1 (by omega)⟩
  by_cases h0 : l = []
  · subst h0
    exact ⟨[], 12, Nat.zero_le _, nparse_none, nrparse_none⟩
  by_cases hz : 1 < l.length ∧ l[0]? = some 48
  · exact ⟨[], 12, Nat.zero_le _, fun w => nparse_zero l w h1 hz.1 hz.2, fun w => nrparse_zero l w h1 hz.1 hz.2⟩
  have h2 : l.length ≤ 1 ∨ ∃ b, l[0]? = some b ∧ b ≠ 48 := by
    rcases Nat.lt_or_ge 1 l.length with h | h
    · refine .inr ⟨l[0], List.getElem?_eq_getElem (by omega), fun e => hz ⟨h, ?_⟩⟩
      rw [List.getElem?_eq_getElem (by omega), e]
    · exact .inl h
  rcases digs_or l with h3 | ⟨j, d, h3, h4, h5⟩
  · exact ⟨_, _, resL_1000 _, fun w => nparse_ok l w h0 h1 h2 h3, fun w => nrparse_ok l w h0 h1 h2 h3⟩
  · exact ⟨[], 12, Nat.zero_le _, fun w => nparse_bad l w h0 h1 h2 j d h3 h4 h5, fun w => nrparse_bad l w h0 h1 h2 j d h3 h4 h5⟩
section
variable {w0 w w' : World} {g : Option Nat} {M : List (Nat × Value)} {L : List Ob} {O : List Rw} {A A2 : Option Addr} {n c m c2 x y : Nat}
theorem ag_pow (h : Ow w0 w g M L O) (i : Nat) (hi : L[i]? = some ⟨A, n, c, nats (Na.dig x)⟩) (hx : x < Na.top) (v : Int) :
    Calls Tryd.prog 23 #[.agg #[.slice A n c], .int .i64 v] w (GotO w0 g M L O (powL x v) (powE x v)) := by
  obtain ⟨h1, h2, h3, h4⟩ := h.sl hi
  rw [nats_length] at h1
  have key : Calls Tryd.prog 23 #[.agg #[.slice A n c], .int .i64 v] w (ResN w (powL x v) (powE x v)) := by
    by_cases hv : v < 0 ∨ 4800 < v
    · have e1 : powL x v = [] := if_pos hv
      have e2 : powE x v = 2 := if_pos hv
      rw [e1, e2]
      exact npower_range A n c x v w h1 h2 h4 hx hv
    · have e1 : powL x v = resL (x ^ v.toNat) := if_neg hv
      have e2 : powE x v = resE (x ^ v.toNat) := if_neg hv
      rw [e1, e2]
      have h0 : 0 ≤ v := by omega
      obtain ⟨k, rfl⟩ := Int.eq_ofNat_of_zero_le h0
      exact npower_ok A n c x k w h1 h4 hx (by omega)
  exact key.mono fun en w' hr => got_o h (powL_1000 x v) hr
theorem ag_rpow (h : Ow w0 w g M L O) (i : Nat) (hi : L[i]? = some ⟨A, n, c, nats (Na.dig x)⟩) (hx : x < Na.top) (v : Int) :
    Calls Tryd.prog 26 #[.agg #[.slice A n c], .int .i64 v] w (GotO w0 g M L O (powL x v) (powE x v)) := by
  obtain ⟨h1, h2, h3, h4⟩ := h.sl hi
  rw [nats_length] at h1
  have key : Calls Tryd.prog 26 #[.agg #[.slice A n c], .int .i64 v] w (ResN w (powL x v) (powE x v)) := by
    by_cases hv : v < 0 ∨ 4800 < v
    · have e1 : powL x v = [] := if_pos hv
      have e2 : powE x v = 2 := if_pos hv
      rw [e1, e2]
      exact nrpower_range A n c x v w h1 h2 h4 hx hv
    · have e1 : powL x v = resL (x ^ v.toNat) := if_neg hv
      have e2 : powE x v = resE (x ^ v.toNat) := if_neg hv
      rw [e1, e2]
      have h0 : 0 ≤ v := by omega
      obtain ⟨k, rfl⟩ := Int.eq_ofNat_of_zero_le h0
      exact nrpower_ok A n c x k w h1 h2 h4 hx (by omega)
  exact key.mono fun en w' hr => got_o h (powL_1000 x v) hr
theorem ag_of (h : Ow w0 w g M L O) (v : Int) (hv : v ≤ 9223372036854775807) : Calls Tryd.prog 24 #[.int .i64 v] w (GotO w0 g M L O (ofL v) (ofE v)) :=
  (nof_any v w hv).mono fun en w' hr => got_o h (ofL_1000 hv) hr
theorem ag_rof (h : Ow w0 w g M L O) (v : Int) (hv : v ≤ 9223372036854775807) : Calls Tryd.prog 25 #[.int .i64 v] w (GotO w0 g M L O (ofL v) (ofE v)) :=
  (nrof_any v w hv).mono fun en w' hr => got_o h (ofL_1000 hv) hr
theorem ag_cho (h : Ow w0 w g M L O) (u v : Int) : Calls Tryd.prog 27 #[.int .i64 u, .int .i64 v] w (GotO w0 g M L O (choL u v) (choE u v)) :=
  (nchoose_any u v w).mono fun en w' hr => got_o h (choL_1000 u v) hr
theorem ag_rcho (h : Ow w0 w g M L O) (u v : Int) : Calls Tryd.prog 28 #[.int .i64 u, .int .i64 v] w (GotO w0 g M L O (choL u v) (choE u v)) :=
  (nrchoose_any u v w).mono fun en w' hr => got_o h (choL_1000 u v) hr
end
end Go.Proofs.YtflgfkelbniblaaDoor
