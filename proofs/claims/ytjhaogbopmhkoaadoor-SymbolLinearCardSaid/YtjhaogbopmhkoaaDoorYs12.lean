/- Sy LawSl -/
import Derived.Test.YtjhaogbopmhkoaaDoorYs01
import Derived.Test.YtjhaogbopmhkoaaDoorYs03
import Derived.Test.YtjhaogbopmhkoaaDoorYs04
import Derived.Test.YtjhaogbopmhkoaaDoorYs11
import Derived.WalkKit
import Derived.ProofKit
import Derived.OpenShut
import Derived.Below
import Derived.Carry
namespace Go.Proofs.YtjhaogbopmhkoaaDoor
open Go.RowKit
set_option linter.unusedVariables false
set_option maxRecDepth 100000
theorem addr_add0 (g k : Nat) : (⟨g, 0, none⟩ : Addr).add k = ⟨g, k, none⟩ := by cases k <;> simp [Addr.add]
section
variable {w0 w w' : World} {g B : Nat} {M : List (Nat × Value)} {L : List Ob} {O : List Rw}
theorem Dice.alloc1 (hd : Dice w g B) (o : Obj) : Dice (w.alloc o) g B := hd.grown (row := none) (World.grownBy_alloc _ _ _) (fun _ e => by cases e)
/-- bytes that the dice give -/
theorem bytes_ow (h : Ow w0 w (some g) M L O) (hd : Dice w g B) (n : Nat) (hn : n ≤ 140737488355328) :
    Calls Tryd.prog 30 #[.pointer (some ⟨g, 0, none⟩), .int .i64 (n : Int)] w fun e w' => ∃ (A : Option Addr) (c : Nat) (l : List UInt8), e = .returned (.slice A n c) ∧ l.length = n ∧ Ow w0 w' (some g) M L (O ++ [⟨A, n, c, 5, bys l⟩]) ∧ Dice w' g B :=
  (bytes_any g B n w hn hd).mono fun e w' ⟨A, c, l, he, hl, ho, hd', hg⟩ => ⟨A, c, l, he, hl, h.addG ho hg, hd'⟩
end
def short9 (w : World) (g cb lb d m f e k : Nat) (A3 : Option Addr) (c3 : Nat) (data : List UInt8) (O : List Rw) (i : Nat) (x : Value) (v : World) : Prop :=
  match i with
  | 0 => x = .agg #[.int .i64 2, .int .i64 (e : Int), .int .i64 (m : Int), .int .i64 (f : Int)]
  | 1 => x = .pointer (some ⟨lb, 1, none⟩)
  | 2 => x = .int .i64 (e : Int)
  | 3 => x = .pointer (some ⟨cb, 1, none⟩)
  | 4 => x = .int .i64 (d : Int)
  | 5 => x = .int .i64 (k : Int)
  | 6 => ∃ (A1 : Option Addr) (c1 : Nat), x = .slice A1 k c1 ∧ Ow w v (some g) [] [] (O ++ [⟨A1, k, c1, 5, bys (List.replicate k 0)⟩])
  | 7 => x = .slice A3 d c3
  | 8 => ∃ (A1 : Option Addr) (c1 : Nat), x = .slice A1 (k + d) c1 ∧ Ow w v (some g) [] [] (O ++ [⟨A1, k + d, c1, 5, bys (List.replicate k 0 ++ data)⟩])
  | 9 => ∃ (A1 : Option Addr) (c1 : Nat), x = .tuple #[.slice A1 (e + m) c1, .int .i64 0] ∧ Ow w v (some g) [] [] (O ++ [⟨A1, e + m, c1, 5, bys (Sy.enc m (List.replicate k 0 ++ data))⟩])
  | 10 => ∃ (A1 : Option Addr) (c1 : Nat), x = .tuple #[.slice A1 (e + m) c1, .int .i64 0] ∧ Ow w v (some g) [] [] (O ++ [⟨A1, e + m, c1, 5, bys (Sy.enc m (List.replicate k 0 ++ data))⟩])
  | 11 => ∃ (A1 : Option Addr) (c1 : Nat), x = .slice A1 (e + m) c1 ∧ Ow w v (some g) [] [] (O ++ [⟨A1, e + m, c1, 5, bys (Sy.enc m (List.replicate k 0 ++ data))⟩])
  | 12 => x = .int .i64 0
  | 13 => ∃ (A1 : Option Addr) (c1 : Nat), x = .slice A1 (e + m) c1 ∧ Ow w v (some g) [] [] (O ++ [⟨A1, e + m, c1, 5, bys (Sy.enc m (List.replicate k 0 ++ data))⟩])
  | 14 => x = .int .i64 0
  | _ => True
theorem short9_go {w : World} {g cb lb d m f e k : Nat} {A3 : Option Addr} {c3 : Nat} {data : List UInt8} {O : List Rw} {v v' : World} (hb : Below v.heap.size v v') : ∀ (i : Nat) (x : Value), short9 w g cb lb d m f e k A3 c3 data O i x v → short9 w g cb lb d m f e k A3 c3 data O i x v'
  | 0, _, h => h
  | 1, _, h => h
  | 2, _, h => h
  | 3, _, h => h
  | 4, _, h => h
  | 5, _, h => h
  | 6, _, ⟨A1, c1, h1, h2⟩ => ⟨A1, c1, h1, h2.go hb⟩
  | 7, _, h => h
  | 8, _, ⟨A1, c1, h1, h2⟩ => ⟨A1, c1, h1, h2.go hb⟩
  | 9, _, ⟨A1, c1, h1, h2⟩ => ⟨A1, c1, h1, h2.go hb⟩
  | 10, _, ⟨A1, c1, h1, h2⟩ => ⟨A1, c1, h1, h2.go hb⟩
  | 11, _, ⟨A1, c1, h1, h2⟩ => ⟨A1, c1, h1, h2.go hb⟩
  | 12, _, h => h
  | 13, _, ⟨A1, c1, h1, h2⟩ => ⟨A1, c1, h1, h2.go hb⟩
  | 14, _, h => h
  | _ + 15, _, _ => trivial
def shortP (w : World) (g cb lb d k e : Nat) (more : Int) (O : List Rw) (i : Nat) (x : Value) (v : World) : Prop :=
  match i with
  | 0 => x = .pointer (some ⟨lb, 1, none⟩)
  | 1 => x = .int .i64 (d : Int)
  | 2 => x = .int .i64 more
  | 3 => x = .pointer (some ⟨cb, 1, none⟩)
  | 4 => x = .int .i64 (d : Int)
  | 5 => x = .int .i64 (32 - (d : Int))
  | 6 => x = .int .i64 (32 - (d : Int) + 1)
  | 7 => x = .int .i64 (k : Int)
  | 8 => x = .int .i64 (e : Int)
  | 9 => x = .pointer (some ⟨lb, 1, none⟩)
  | 10 => Ow w v (some g) [] [] O
  | _ => True
theorem shortP_any {w : World} {g cb lb d k e : Nat} {more : Int} {O : List Rw} {v v' : World} : ∀ (i : Nat) (x : Value), i ≠ 10 → shortP w g cb lb d k e more O i x v → shortP w g cb lb d k e more O i x v'
  | 0, _, _, h => h
  | 1, _, _, h => h
  | 2, _, _, h => h
  | 3, _, _, h => h
  | 4, _, _, h => h
  | 5, _, _, h => h
  | 6, _, _, h => h
  | 7, _, _, h => h
  | 8, _, _, h => h
  | 9, _, _, h => h
  | 10, _, h, _ => absurd rfl h
  | _ + 11, _, _, _ => trivial
set_option maxHeartbeats 4000000 in
theorem symbolShort_any (A : Option Addr) (n c : Nat) (ts : List Int) (more : Int) (w : World) (hn : ts.length = n) (hl : n ≤ 9223372036854775807) (hs : Sl w w.heap.size A (ints ts)) :
    Calls Tryd.prog 8 #[.slice A n c, .int .i64 more] w fun e w' => e = .returned (.bool true) ∧ Below w.heap.size w w' := by
  rcases Nat.lt_or_ge 400 n with hbig | hsm
  · have HLi := Lib.hid (light_no A n c w hbig hl)
    have HAw := Lib.hid (awake07_any w)
    clear hs
    go_enter Tryd.func8, Tryd.ntmps8
    go_wp2_with (first | (go_at_call 26; refine HLi.out.mono ?_; rintro e w1 ⟨rfl, rfl⟩) | (go_at_call 27; refine HAw.out.mono ?_; rintro e w2 ⟨rfl, hb⟩))
    go_ret
    exact ⟨rfl, hb⟩
  have HLi := Lib.hid (light_yes A n c w hsm)
  have HR := Lib.hid (roll_at (St.refl w) A n c w.heap.size ts hn (by omega) (Nat.le_refl _) hs)
  clear hs
  go_enter Tryd.func8, Tryd.ntmps8
  go_wp2_with fail
  refine HLi.out.mono ?_
  rintro e w1 ⟨rfl, rfl⟩
  go_wp2_with fail
  refine HR.out.mono ?_
  rintro e w1 ⟨g, rfl, hd1, hst1⟩
  have HN := Lib.hid (symbols_ow (Ow.of hst1) hd1 (Nat.le_refl _))
  clear HR HLi hd1 hst1
  go_wp2_with fail
  refine HN.out.mono ?_
  rintro e w2 ⟨d, m, f, rfl, hcd, hfm, hd2, h2⟩
  have h3 := h2.code d m f
  obtain ⟨hc0, hc1, hc2, hc3⟩ := h3.cdc 0 rfl
  have HN := Lib.hid (bytes_ow h3 (hd2.alloc1 _) d (by have := hcd.d2; omega))
  clear h2 hd2 h3
  go_wp2_with fail
  refine HN.out.mono ?_
  rintro e w3 ⟨A3, c3, data, rfl, hdl, h4, -⟩
  have h5 := h4.code d m f
  obtain ⟨hd0, hd1, hd2, hd3⟩ := h4.cdc 0 rfl
  have HO := Lib.hid h5
  have HDL := Lib.hid hdl
  clear HN hc0 hc1 hc2 hc3 h5 h4 hdl
  go_upto_region 7 with (fail)
  have hcd0 := Lib.hid hcd
  obtain ⟨hd1', hd2', hm1', hm2', -⟩ := hcd
  obtain ⟨k, hk⟩ : ∃ k : Nat, Hid ((k : Int) = more % (32 - (d : Int) + 1)) := ⟨(more % (32 - (d : Int) + 1)).toNat, Int.toNat_of_nonneg (Int.emod_nonneg _ (by omega))⟩
  obtain ⟨e, he⟩ : ∃ e : Nat, Hid (e = d + k) := ⟨_, rfl⟩
  have hw1 : IntKind.i64.wrap (32 - (d : Int)) = 32 - (d : Int) := IntWalk.i64_in _ (by omega)
  have hw2 : IntKind.i64.wrap (32 - (d : Int) + 1) = 32 - (d : Int) + 1 := IntWalk.i64_in _ (by omega)
  have hk32 : d + k ≤ 32 := by have h1 := hk.out; have h2 := Int.emod_lt_of_pos more (show 0 < 32 - (d : Int) + 1 by omega); omega
  have HK : Hid (∀ v : World, Calls Tryd.prog 14 #[.int .i64 more, .int .i64 (32 - (d : Int) + 1)] v fun e w' => e = .returned (.int .i64 (k : Int)) ∧ v = w') := fun v => by rw [hk.out]; exact mod_any _ _ v (by omega) (by omega)
  have hw3 : IntKind.i64.wrap ((d : Int) + (k : Int)) = (e : Int) := by have := he.out; rw [IntWalk.i64_in _ (by omega)]; omega
  have hw5 : IntKind.i64.wrap ((e : Int) - (d : Int)) = (k : Int) := by have := he.out; rw [IntWalk.i64_in _ (by omega)]; omega
  have he32 : e ≤ 32 := by have := he.out; omega
  have HO : Hid (Ow w (w3.alloc (.cells #[.int .i64 2, .int .i64 (d : Int), .int .i64 (m : Int), .int .i64 (f : Int)] 50)) (some g) [] [] [codeR w2.heap.size d m f, ⟨A3, d, c3, 5, bys data⟩, codeR w3.heap.size d m f]) := HO.out
  clear hd0 hd1 hd2 hd3 hk
  refine reg_mono [some 26, some 27, some 28, some 29, some 30, some 31, some 32, some 33, some 34, some 35, none] (fun v => Ow w v (some g) [] [] [codeR w2.heap.size d m f, ⟨A3, d, c3, 5, bys data⟩, codeR w3.heap.size d m f]) 10 (fun _ => 11) (shortP w g w2.heap.size w3.heap.size d k e more [codeR w2.heap.size d m f, ⟨A3, d, c3, 5, bys data⟩, codeR w3.heap.size e m f]) (by kernel_rfl) (by kernel_rfl) (by kernel_rfl) ?_ ?_ ?_
  · exact HO.out.drew
  · rintro j us v hj hl hS hp
    replace hl : us.length = 11 := hl
    obtain ⟨u0, us0, rfl, hl0⟩ := us_cons (n := 10) hl
    obtain ⟨u1, us1, rfl, hl1⟩ := us_cons (n := 9) hl0
    obtain ⟨u2, us2, rfl, hl2⟩ := us_cons (n := 8) hl1
    obtain ⟨u3, us3, rfl, hl3⟩ := us_cons (n := 7) hl2
    obtain ⟨u4, us4, rfl, hl4⟩ := us_cons (n := 6) hl3
    obtain ⟨u5, us5, rfl, hl5⟩ := us_cons (n := 5) hl4
    obtain ⟨u6, us6, rfl, hl6⟩ := us_cons (n := 4) hl5
    obtain ⟨u7, us7, rfl, hl7⟩ := us_cons (n := 3) hl6
    obtain ⟨u8, us8, rfl, hl8⟩ := us_cons (n := 2) hl7
    obtain ⟨u9, us9, rfl, hl9⟩ := us_cons (n := 1) hl8
    obtain ⟨u10, us10, rfl, hl10⟩ := us_cons (n := 0) hl9
    obtain rfl := us_nil hl10
    clear hl hl0 hl1 hl2 hl3 hl4 hl5 hl6 hl7 hl8 hl9
    have hj' : j < 11 := hj
    have hcase : j = 0 ∨ j = 1 ∨ j = 2 ∨ j = 3 ∨ j = 4 ∨ j = 5 ∨ j = 6 ∨ j = 7 ∨ j = 8 ∨ j = 9 ∨ j = 10 := by omega
    clear hj hj'
    rcases hcase with rfl | rfl | rfl | rfl | rfl | rfl | rfl | rfl | rfl | rfl | rfl
    · clear hS hp
      refine wpOp_step rfl (fun K hK => ?_)
      simp only [putL, Act.put, List.setIfInBounds_toArray, List.set_cons_zero, List.set_cons_succ]
      go_simp
      refine hK _ _ ⟨.pointer (some ⟨w3.heap.size, 1, none⟩), ?_, fun _ _ h => h, rfl, fun _ _ _ _ _ _ h => h⟩
      simp only [putL, Act.put, List.getD_cons_zero, List.setIfInBounds_toArray, List.set_cons_zero, List.set_cons_succ]
    · obtain rfl : u0 = .pointer (some ⟨w3.heap.size, 1, none⟩) := hp 0 (by kernel_rfl) (.inr (by decide))
      have HS : Ow w v (some g) [] [] [codeR w2.heap.size d m f, ⟨A3, d, c3, 5, bys data⟩, codeR w3.heap.size d m f] := hS (.inl (by kernel_rfl))
      obtain ⟨-, hx, -, -⟩ := HS.cdc 2 rfl
      clear hS hp
      refine wpOp_step rfl (fun K hK => ?_)
      simp only [putL, Act.put, List.setIfInBounds_toArray, List.set_cons_zero, List.set_cons_succ]
      go_simp
      refine hK _ _ ⟨.int .i64 (d : Int), ?_, fun _ _ h => h, rfl, fun _ _ _ _ _ _ h => h⟩
      simp only [putL, Act.put, List.getD_cons_zero, List.getD_cons_succ, List.setIfInBounds_toArray, List.set_cons_zero, List.set_cons_succ]
    · clear hS hp
      refine wpOp_step rfl (fun K hK => ?_)
      simp only [putL, Act.put, List.setIfInBounds_toArray, List.set_cons_zero, List.set_cons_succ]
      go_simp
      refine hK _ _ ⟨.int .i64 more, ?_, fun _ _ h => h, rfl, fun _ _ _ _ _ _ h => h⟩
      simp only [putL, Act.put, List.getD_cons_zero, List.getD_cons_succ, List.setIfInBounds_toArray, List.set_cons_zero, List.set_cons_succ]
    · clear hS hp
      refine wpOp_step rfl (fun K hK => ?_)
      simp only [putL, Act.put, List.setIfInBounds_toArray, List.set_cons_zero, List.set_cons_succ]
      go_simp
      refine hK _ _ ⟨.pointer (some ⟨w2.heap.size, 1, none⟩), ?_, fun _ _ h => h, rfl, fun _ _ _ _ _ _ h => h⟩
      simp only [putL, Act.put, List.getD_cons_zero, List.getD_cons_succ, List.setIfInBounds_toArray, List.set_cons_zero, List.set_cons_succ]
    · obtain rfl : u3 = .pointer (some ⟨w2.heap.size, 1, none⟩) := hp 3 (by kernel_rfl) (.inr (by decide))
      have HS : Ow w v (some g) [] [] [codeR w2.heap.size d m f, ⟨A3, d, c3, 5, bys data⟩, codeR w3.heap.size d m f] := hS (.inl (by kernel_rfl))
      obtain ⟨-, hx, -, -⟩ := HS.cdc 0 rfl
      clear hS hp
      refine wpOp_step rfl (fun K hK => ?_)
      simp only [putL, Act.put, List.setIfInBounds_toArray, List.set_cons_zero, List.set_cons_succ]
      go_simp
      refine hK _ _ ⟨.int .i64 (d : Int), ?_, fun _ _ h => h, rfl, fun _ _ _ _ _ _ h => h⟩
      simp only [putL, Act.put, List.getD_cons_zero, List.getD_cons_succ, List.setIfInBounds_toArray, List.set_cons_zero, List.set_cons_succ]
    · obtain rfl : u4 = .int .i64 (d : Int) := hp 4 (by kernel_rfl) (.inr (by decide))
      clear hS hp
      refine wpOp_step rfl (fun K hK => ?_)
      simp only [putL, Act.put, List.setIfInBounds_toArray, List.set_cons_zero, List.set_cons_succ]
      go_simp
      refine hK _ _ ⟨.int .i64 (32 - (d : Int)), ?_, fun _ _ h => h, rfl, fun _ _ _ _ _ _ h => h⟩
      simp only [putL, Act.put, List.getD_cons_zero, List.getD_cons_succ, List.setIfInBounds_toArray, List.set_cons_zero, List.set_cons_succ]
    · obtain rfl : u5 = .int .i64 (32 - (d : Int)) := hp 5 (by kernel_rfl) (.inr (by decide))
      clear hS hp
      refine wpOp_step rfl (fun K hK => ?_)
      simp only [putL, Act.put, List.setIfInBounds_toArray, List.set_cons_zero, List.set_cons_succ]
      go_simp
      refine hK _ _ ⟨.int .i64 (32 - (d : Int) + 1), ?_, fun _ _ h => h, rfl, fun _ _ _ _ _ _ h => h⟩
      simp only [putL, Act.put, List.getD_cons_zero, List.getD_cons_succ, List.setIfInBounds_toArray, List.set_cons_zero, List.set_cons_succ]
    · obtain rfl : u2 = .int .i64 more := hp 2 (by kernel_rfl) (.inr (by decide))
      obtain rfl : u6 = .int .i64 (32 - (d : Int) + 1) := hp 6 (by kernel_rfl) (.inr (by decide))
      clear hS hp
      refine wpOp_step rfl (fun K hK => ?_)
      simp only [putL, Act.put, List.setIfInBounds_toArray, List.set_cons_zero, List.set_cons_succ]
      go_simp
      refine (HK.out v).mono ?_
      rintro e v' ⟨rfl, rfl⟩
      refine hK _ _ ⟨.int .i64 (k : Int), ?_, fun _ _ h => h, rfl, fun _ _ _ _ _ _ h => h⟩
      simp only [putL, Act.put, List.getD_cons_zero, List.getD_cons_succ, List.setIfInBounds_toArray, List.set_cons_zero, List.set_cons_succ]
    · obtain rfl : u1 = .int .i64 (d : Int) := hp 1 (by kernel_rfl) (.inr (by decide))
      obtain rfl : u7 = .int .i64 (k : Int) := hp 7 (by kernel_rfl) (.inr (by decide))
      clear hS hp
      refine wpOp_step rfl (fun K hK => ?_)
      simp only [putL, Act.put, List.setIfInBounds_toArray, List.set_cons_zero, List.set_cons_succ]
      go_simp
      refine hK _ _ ⟨.int .i64 (e : Int), ?_, fun _ _ h => h, rfl, fun _ _ _ _ _ _ h => h⟩
      simp only [putL, Act.put, List.getD_cons_zero, List.getD_cons_succ, List.setIfInBounds_toArray, List.set_cons_zero, List.set_cons_succ]
    · clear hS hp
      refine wpOp_step rfl (fun K hK => ?_)
      simp only [putL, Act.put, List.setIfInBounds_toArray, List.set_cons_zero, List.set_cons_succ]
      go_simp
      refine hK _ _ ⟨.pointer (some ⟨w3.heap.size, 1, none⟩), ?_, fun _ _ h => h, rfl, fun _ _ _ _ _ _ h => h⟩
      simp only [putL, Act.put, List.getD_cons_zero, List.getD_cons_succ, List.setIfInBounds_toArray, List.set_cons_zero, List.set_cons_succ]
    · obtain rfl : u8 = .int .i64 (e : Int) := hp 8 (by kernel_rfl) (.inr (by decide))
      obtain rfl : u9 = .pointer (some ⟨w3.heap.size, 1, none⟩) := hp 9 (by kernel_rfl) (.inr (by decide))
      have HS : Ow w v (some g) [] [] [codeR w2.heap.size d m f, ⟨A3, d, c3, 5, bys data⟩, codeR w3.heap.size d m f] := hS (.inr (.inl rfl))
      obtain ⟨-, hx, -, -⟩ := HS.cdc 2 rfl
      have hf1 := HS.frzO 2 rfl 1
      have h5 : Ow w (v.setCell ⟨w3.heap.size, 1, none⟩ (.int .i64 (e : Int))) (some g) [] [] [codeR w2.heap.size d m f, ⟨A3, d, c3, 5, bys data⟩, codeR w3.heap.size e m f] := HS.put 2 rfl 1 (.int .i64 (e : Int))
      clear hS hp
      refine wpOp_step rfl (fun K hK => ?_)
      simp only [putL, Act.put, List.setIfInBounds_toArray, List.set_cons_zero, List.set_cons_succ]
      go_simp
      refine hK _ _ ⟨undef, ?_, fun h => absurd rfl h, h5, fun i y hi _ _ _ h => shortP_any i y hi h⟩
      simp only [putL, Act.put, List.getD_cons_zero, List.getD_cons_succ, List.setIfInBounds_toArray, List.set_cons_zero, List.set_cons_succ]
  · rintro us v hl hS hP
    replace hl : us.length = 11 := hl
    obtain ⟨u0, us0, rfl, hl0⟩ := us_cons (n := 10) hl
    obtain ⟨u1, us1, rfl, hl1⟩ := us_cons (n := 9) hl0
    obtain ⟨u2, us2, rfl, hl2⟩ := us_cons (n := 8) hl1
    obtain ⟨u3, us3, rfl, hl3⟩ := us_cons (n := 7) hl2
    obtain ⟨u4, us4, rfl, hl4⟩ := us_cons (n := 6) hl3
    obtain ⟨u5, us5, rfl, hl5⟩ := us_cons (n := 5) hl4
    obtain ⟨u6, us6, rfl, hl6⟩ := us_cons (n := 4) hl5
    obtain ⟨u7, us7, rfl, hl7⟩ := us_cons (n := 3) hl6
    obtain ⟨u8, us8, rfl, hl8⟩ := us_cons (n := 2) hl7
    obtain ⟨u9, us9, rfl, hl9⟩ := us_cons (n := 1) hl8
    obtain ⟨u10, us10, rfl, hl10⟩ := us_cons (n := 0) hl9
    obtain rfl := us_nil hl10
    clear hl hl0 hl1 hl2 hl3 hl4 hl5 hl6 hl7 hl8 hl9
    have HS : Ow w v (some g) [] [] [codeR w2.heap.size d m f, ⟨A3, d, c3, 5, bys data⟩, codeR w3.heap.size e m f] := hP 10 (by show 10 < 11; decide) (by decide)
    obtain ⟨rfl, rfl, rfl, rfl, rfl, rfl, rfl, rfl, rfl, rfl⟩ : u0 = .pointer (some ⟨w3.heap.size, 1, none⟩) ∧ u1 = .int .i64 (d : Int) ∧ u2 = .int .i64 more ∧ u3 = .pointer (some ⟨w2.heap.size, 1, none⟩) ∧ u4 = .int .i64 (d : Int) ∧ u5 = .int .i64 (32 - (d : Int)) ∧ u6 = .int .i64 (32 - (d : Int) + 1) ∧ u7 = .int .i64 (k : Int) ∧ u8 = .int .i64 (e : Int) ∧ u9 = .pointer (some ⟨w3.heap.size, 1, none⟩) := ⟨hP 0 (by show 0 < 11; decide) (by decide), hP 1 (by show 1 < 11; decide) (by decide), hP 2 (by show 2 < 11; decide) (by decide), hP 3 (by show 3 < 11; decide) (by decide), hP 4 (by show 4 < 11; decide) (by decide), hP 5 (by show 5 < 11; decide) (by decide), hP 6 (by show 6 < 11; decide) (by decide), hP 7 (by show 7 < 11; decide) (by decide), hP 8 (by show 8 < 11; decide) (by decide), hP 9 (by show 9 < 11; decide) (by decide)⟩
    clear hS hP
    simp only [putL, Act.put, List.setIfInBounds_toArray, List.set_cons_zero, List.set_cons_succ]
    have HS8 := Lib.hid HS
    clear HS hw1 hw2 hw3 hw5 HO HK
    have HN := Lib.hid (encode_ok hcd0.out hfm A3 c3 data v HDL.out (Sl.of_own (HS8.out.row 1 rfl)) (own_cap (HS8.out.row 1 rfl)).1)
    obtain ⟨hc0, hc1, hc2, hc3⟩ := HS8.out.cdc 0 rfl
    go_upto_region 9 with (go_at_call 31; refine HN.out.mono ?_; rintro en w4 ⟨Ax, nx, cx, rfl, hnx, hox, hbx⟩; obtain rfl : d + m = nx := (by rw [← hnx, Sy.enc_length, HDL.out]); have HO9 := Lib.hid (HS8.out.add hox hbx); clear hnx hox hbx)
    clear hc0 hc1 hc2 hc3 HN HS8
    have HO9 : Hid (Ow w w4 (some g) [] [] [codeR w2.heap.size d m f, ⟨A3, d, c3, 5, bys data⟩, codeR w3.heap.size e m f, ⟨Ax, d + m, cx, 5, bys (Sy.enc m data)⟩]) := HO9.out
    have hw5 : IntKind.i64.wrap ((e : Int) - (d : Int)) = (k : Int) := by have := he.out; rw [IntWalk.i64_in _ (by omega)]; omega
    have hcd' : Cd e m f := by have h1 := he.out; have h2 := hcd0.out; exact ⟨by omega, he32, hm1', hm2', h2.f2⟩
    have heq9 : Hid (k + d = e) := by have := he.out; unfold Hid; omega
    refine reg_monoT [some 43, some 44, some 45, some 46, some 47, some 48, some 49, some 50, some 51, some 52, some 42, some 53, some 54, some 11, some 12] (fun v => Ow w v (some g) [] [] [codeR w2.heap.size d m f, ⟨A3, d, c3, 5, bys data⟩, codeR w3.heap.size e m f, ⟨Ax, d + m, cx, 5, bys (Sy.enc m data)⟩]) (fun _ => True) 15 (fun i => if i = 6 then 8 else 15) (short9 w g w2.heap.size w3.heap.size d m f e k A3 c3 data [codeR w2.heap.size d m f, ⟨A3, d, c3, 5, bys data⟩, codeR w3.heap.size e m f, ⟨Ax, d + m, cx, 5, bys (Sy.enc m data)⟩]) (by kernel_rfl) (by kernel_rfl) (by kernel_rfl) ?_ trivial ?_ ?_
    · exact HO9.out.drew
    · rintro j us v hj hl HS hS hp
      replace hl : us.length = 15 := hl
      obtain ⟨u0, us0, rfl, hl0⟩ := us_cons (n := 14) hl
      obtain ⟨u1, us1, rfl, hl1⟩ := us_cons (n := 13) hl0
      obtain ⟨u2, us2, rfl, hl2⟩ := us_cons (n := 12) hl1
      obtain ⟨u3, us3, rfl, hl3⟩ := us_cons (n := 11) hl2
      obtain ⟨u4, us4, rfl, hl4⟩ := us_cons (n := 10) hl3
      obtain ⟨u5, us5, rfl, hl5⟩ := us_cons (n := 9) hl4
      obtain ⟨u6, us6, rfl, hl6⟩ := us_cons (n := 8) hl5
      obtain ⟨u7, us7, rfl, hl7⟩ := us_cons (n := 7) hl6
      obtain ⟨u8, us8, rfl, hl8⟩ := us_cons (n := 6) hl7
      obtain ⟨u9, us9, rfl, hl9⟩ := us_cons (n := 5) hl8
      obtain ⟨u10, us10, rfl, hl10⟩ := us_cons (n := 4) hl9
      obtain ⟨u11, us11, rfl, hl11⟩ := us_cons (n := 3) hl10
      obtain ⟨u12, us12, rfl, hl12⟩ := us_cons (n := 2) hl11
      obtain ⟨u13, us13, rfl, hl13⟩ := us_cons (n := 1) hl12
      obtain ⟨u14, us14, rfl, hl14⟩ := us_cons (n := 0) hl13
      obtain rfl := us_nil hl14
      clear hl hl0 hl1 hl2 hl3 hl4 hl5 hl6 hl7 hl8 hl9 hl10 hl11 hl12 hl13
      clear hS
      have hj' : j < 15 := hj
      have hcase : j = 0 ∨ j = 1 ∨ j = 2 ∨ j = 3 ∨ j = 4 ∨ j = 5 ∨ j = 6 ∨ j = 7 ∨ j = 8 ∨ j = 9 ∨ j = 10 ∨ j = 11 ∨ j = 12 ∨ j = 13 ∨ j = 14 := by omega
      clear hj hj'
      replace HS : Ow w v (some g) [] [] [codeR w2.heap.size d m f, ⟨A3, d, c3, 5, bys data⟩, codeR w3.heap.size e m f, ⟨Ax, d + m, cx, 5, bys (Sy.enc m data)⟩] := HS
      rcases hcase with rfl | rfl | rfl | rfl | rfl | rfl | rfl | rfl | rfl | rfl | rfl | rfl | rfl | rfl | rfl
      · obtain ⟨hx0, hx1, hx2, hx3⟩ := HS.cdc 2 rfl
        have HS2 := Lib.hid HS
        clear HS hp
        refine wpOp_step rfl (fun K hK => ?_)
        simp only [putL, Act.put, List.setIfInBounds_toArray, List.set_cons_zero, List.set_cons_succ]
        go_simp
        refine hK _ _ ⟨.agg #[.int .i64 2, .int .i64 (e : Int), .int .i64 (m : Int), .int .i64 (f : Int)], ?_, HS2.out, fun _ _ _ => trivial, rfl, fun _ _ _ _ _ _ h => h⟩
        simp only [putL, Act.put, List.getD_cons_zero, List.setIfInBounds_toArray, List.set_cons_zero, List.set_cons_succ]
      · have HS2 := Lib.hid HS
        clear HS hp
        refine wpOp_step rfl (fun K hK => ?_)
        simp only [putL, Act.put, List.setIfInBounds_toArray, List.set_cons_zero, List.set_cons_succ]
        go_simp
        refine hK _ _ ⟨.pointer (some ⟨w3.heap.size, 1, none⟩), ?_, HS2.out, fun _ _ _ => trivial, rfl, fun _ _ _ _ _ _ h => h⟩
        simp only [putL, Act.put, List.getD_cons_zero, List.getD_cons_succ, List.setIfInBounds_toArray, List.set_cons_zero, List.set_cons_succ]
      · obtain rfl : u1 = .pointer (some ⟨w3.heap.size, 1, none⟩) := hp 1 (by kernel_rfl) (.inr (by decide))
        obtain ⟨-, hx, -, -⟩ := HS.cdc 2 rfl
        have HS2 := Lib.hid HS
        clear HS hp
        refine wpOp_step rfl (fun K hK => ?_)
        simp only [putL, Act.put, List.setIfInBounds_toArray, List.set_cons_zero, List.set_cons_succ]
        go_simp
        refine hK _ _ ⟨.int .i64 (e : Int), ?_, HS2.out, fun _ _ _ => trivial, rfl, fun _ _ _ _ _ _ h => h⟩
        simp only [putL, Act.put, List.getD_cons_zero, List.getD_cons_succ, List.setIfInBounds_toArray, List.set_cons_zero, List.set_cons_succ]
      · have HS2 := Lib.hid HS
        clear HS hp
        refine wpOp_step rfl (fun K hK => ?_)
        simp only [putL, Act.put, List.setIfInBounds_toArray, List.set_cons_zero, List.set_cons_succ]
        go_simp
        refine hK _ _ ⟨.pointer (some ⟨w2.heap.size, 1, none⟩), ?_, HS2.out, fun _ _ _ => trivial, rfl, fun _ _ _ _ _ _ h => h⟩
        simp only [putL, Act.put, List.getD_cons_zero, List.getD_cons_succ, List.setIfInBounds_toArray, List.set_cons_zero, List.set_cons_succ]
      · obtain rfl : u3 = .pointer (some ⟨w2.heap.size, 1, none⟩) := hp 3 (by kernel_rfl) (.inr (by decide))
        obtain ⟨-, hx, -, -⟩ := HS.cdc 0 rfl
        have HS2 := Lib.hid HS
        clear HS hp
        refine wpOp_step rfl (fun K hK => ?_)
        simp only [putL, Act.put, List.setIfInBounds_toArray, List.set_cons_zero, List.set_cons_succ]
        go_simp
        refine hK _ _ ⟨.int .i64 (d : Int), ?_, HS2.out, fun _ _ _ => trivial, rfl, fun _ _ _ _ _ _ h => h⟩
        simp only [putL, Act.put, List.getD_cons_zero, List.getD_cons_succ, List.setIfInBounds_toArray, List.set_cons_zero, List.set_cons_succ]
      · obtain rfl : u2 = .int .i64 (e : Int) := hp 2 (by kernel_rfl) (.inr (by decide))
        obtain rfl : u4 = .int .i64 (d : Int) := hp 4 (by kernel_rfl) (.inr (by decide))
        have HS2 := Lib.hid HS
        clear HS hp
        refine wpOp_step rfl (fun K hK => ?_)
        simp only [putL, Act.put, List.setIfInBounds_toArray, List.set_cons_zero, List.set_cons_succ]
        go_simp
        refine hK _ _ ⟨.int .i64 (k : Int), ?_, HS2.out, fun _ _ _ => trivial, rfl, fun _ _ _ _ _ _ h => h⟩
        simp only [putL, Act.put, List.getD_cons_zero, List.getD_cons_succ, List.setIfInBounds_toArray, List.set_cons_zero, List.set_cons_succ]
      · obtain rfl : u5 = .int .i64 (k : Int) := hp 5 (by kernel_rfl) (.inr (by decide))
        have h6 := HS.made 5 (.int .u8 0) k k rfl (Nat.le_refl _) (by unfold maxLen; omega)
        rw [bys_zeros] at h6
        have hmk := elemB.make .i64 .i64 (k : Int) (k : Int) k k rfl rfl (Nat.le_refl _) (by omega) (by omega) v
        have hb6 : Below v.heap.size v _ := own_box1 v (.cells (madeCells #[.int .u8 0] k) 5)
        have HS2 := Lib.hid (HS.go hb6)
        clear HS hp
        refine wpOp_step rfl (fun K hK => ?_)
        simp only [putL, Act.put, List.setIfInBounds_toArray, List.set_cons_zero, List.set_cons_succ]
        go_simp
        refine hK _ _ ⟨.slice (some ⟨v.heap.size, 0, none⟩) k k, ?_, HS2.out, fun _ _ _ => trivial, ⟨_, _, rfl, h6⟩, fun i y _ _ _ _ h => short9_go hb6 i y h⟩
        simp only [putL, Act.put, List.getD_cons_zero, List.getD_cons_succ, List.setIfInBounds_toArray, List.set_cons_zero, List.set_cons_succ]
      · have HS2 := Lib.hid HS
        clear HS hp
        refine wpOp_step rfl (fun K hK => ?_)
        simp only [putL, Act.put, List.setIfInBounds_toArray, List.set_cons_zero, List.set_cons_succ]
        go_simp
        refine hK _ _ ⟨.slice A3 d c3, ?_, HS2.out, fun _ _ _ => trivial, rfl, fun _ _ _ _ _ _ h => h⟩
        simp only [putL, Act.put, List.getD_cons_zero, List.getD_cons_succ, List.setIfInBounds_toArray, List.set_cons_zero, List.set_cons_succ]
      · obtain ⟨A1, c1, rfl, h6⟩ : short9 w g w2.heap.size w3.heap.size d m f e k A3 c3 data [codeR w2.heap.size d m f, ⟨A3, d, c3, 5, bys data⟩, codeR w3.heap.size e m f, ⟨Ax, d + m, cx, 5, bys (Sy.enc m data)⟩] 6 u6 v := hp 6 (by kernel_rfl) (.inl rfl)
        obtain rfl : u7 = .slice A3 d c3 := hp 7 (by kernel_rfl) (.inr (by decide))
        clear hp HS
        refine wpOp_step rfl (fun K hK => ?_)
        simp only [putL, Act.put, List.setIfInBounds_toArray, List.set_cons_zero, List.set_cons_succ]
        refine owp_append elemB h6 4 (.tmp 49) (.tmp 50) rfl (by rw [bys_length, HDL.out]) (Sl.of_own (h6.row 1 rfl)) (bys_one data) (by unfold maxLen; omega) (by omega) rfl rfl rfl ?_
        intro A' c' v' how
        rw [bys_app] at how
        refine hK _ _ ⟨.slice A' (k + d) c', ?_, how.few 4, fun _ _ _ => trivial, ⟨A', c', rfl, how⟩, fun i y hi hk ha _ h => ?_⟩
        · show Act.put _ (some 51) (.slice A' (k + d) c') = _
          simp only [putL, Act.put, List.getD_cons_zero, List.getD_cons_succ, List.setIfInBounds_toArray, List.set_cons_zero, List.set_cons_succ]
        rcases i with _ | _ | _ | _ | _ | _ | _ | _ | _ | _ | _ | _ | _ | _ | _ | i
        · exact h
        · exact h
        · exact h
        · exact h
        · exact h
        · exact h
        · exact absurd rfl hk
        · exact h
        · exact absurd rfl hi
        · exact absurd (ha.symm.trans (show _ = true by kernel_rfl)) (by decide)
        · exact absurd (ha.symm.trans (show _ = true by kernel_rfl)) (by decide)
        · exact absurd (ha.symm.trans (show _ = true by kernel_rfl)) (by decide)
        · exact h
        · exact absurd (ha.symm.trans (show _ = true by kernel_rfl)) (by decide)
        · exact h
        · trivial
      · obtain ⟨A1, c1, hu8, h8⟩ : short9 w g w2.heap.size w3.heap.size d m f e k A3 c3 data [codeR w2.heap.size d m f, ⟨A3, d, c3, 5, bys data⟩, codeR w3.heap.size e m f, ⟨Ax, d + m, cx, 5, bys (Sy.enc m data)⟩] 8 u8 v := hp 8 (by kernel_rfl) (.inr (by decide))
        obtain rfl : u0 = .agg #[.int .i64 2, .int .i64 (e : Int), .int .i64 (m : Int), .int .i64 (f : Int)] := hp 0 (by kernel_rfl) (.inr (by decide))
        rw [heq9.out] at hu8 h8
        subst hu8
        have HS2 := Lib.hid HS
        have hq := encode_ok hcd' hfm A1 c1 (List.replicate k 0 ++ data) v (by rw [List.length_append, List.length_replicate, HDL.out]; exact heq9.out) (Sl.of_own (h8.row 4 rfl)) (own_cap (h8.row 4 rfl)).1
        clear HS hp
        refine wpOp_step rfl (fun K hK => ?_)
        simp only [putL, Act.put, List.setIfInBounds_toArray, List.set_cons_zero, List.set_cons_succ]
        go_simp
        refine hq.mono ?_
        rintro en v' ⟨A9, n9, c9, rfl, hn9, ho, hb⟩
        have hn9' : e + m = n9 := by rw [← hn9, Sy.enc_length, List.length_append, List.length_replicate, HDL.out]; have := heq9.out; omega
        subst hn9'
        refine hK _ _ ⟨.tuple #[.slice A9 (e + m) c9, .int .i64 0], ?_, HS2.out.go hb, fun _ _ _ => trivial, ⟨A9, c9, rfl, HS2.out.add ho hb⟩, fun i y _ _ _ _ h => short9_go hb i y h⟩
        simp only [putL, Act.put, List.getD_cons_zero, List.getD_cons_succ, List.setIfInBounds_toArray, List.set_cons_zero, List.set_cons_succ]
      · obtain ⟨A9, c9, rfl, h9⟩ : short9 w g w2.heap.size w3.heap.size d m f e k A3 c3 data [codeR w2.heap.size d m f, ⟨A3, d, c3, 5, bys data⟩, codeR w3.heap.size e m f, ⟨Ax, d + m, cx, 5, bys (Sy.enc m data)⟩] 9 u9 v := hp 9 (by kernel_rfl) (.inr (by decide))
        have HS2 := Lib.hid HS
        clear HS hp
        refine wpOp_step rfl (fun K hK => ?_)
        simp only [putL, Act.put, List.setIfInBounds_toArray, List.set_cons_zero, List.set_cons_succ]
        go_simp
        refine hK _ _ ⟨.tuple #[.slice A9 (e + m) c9, .int .i64 0], ?_, HS2.out, fun _ _ _ => trivial, ⟨A9, c9, rfl, h9⟩, fun _ _ _ _ _ _ h => h⟩
        simp only [putL, Act.put, List.getD_cons_zero, List.getD_cons_succ, List.setIfInBounds_toArray, List.set_cons_zero, List.set_cons_succ]
      · obtain ⟨A9, c9, rfl, h9⟩ : short9 w g w2.heap.size w3.heap.size d m f e k A3 c3 data [codeR w2.heap.size d m f, ⟨A3, d, c3, 5, bys data⟩, codeR w3.heap.size e m f, ⟨Ax, d + m, cx, 5, bys (Sy.enc m data)⟩] 10 u10 v := hp 10 (by kernel_rfl) (.inr (by decide))
        have HS2 := Lib.hid HS
        clear HS hp
        refine wpOp_step rfl (fun K hK => ?_)
        simp only [putL, Act.put, List.setIfInBounds_toArray, List.set_cons_zero, List.set_cons_succ]
        go_simp
        refine hK _ _ ⟨.slice A9 (e + m) c9, ?_, HS2.out, fun _ _ _ => trivial, ⟨A9, c9, rfl, h9⟩, fun _ _ _ _ _ _ h => h⟩
        simp only [putL, Act.put, List.getD_cons_zero, List.getD_cons_succ, List.setIfInBounds_toArray, List.set_cons_zero, List.set_cons_succ]
      · obtain ⟨A9, c9, rfl, h9⟩ : short9 w g w2.heap.size w3.heap.size d m f e k A3 c3 data [codeR w2.heap.size d m f, ⟨A3, d, c3, 5, bys data⟩, codeR w3.heap.size e m f, ⟨Ax, d + m, cx, 5, bys (Sy.enc m data)⟩] 10 u10 v := hp 10 (by kernel_rfl) (.inr (by decide))
        have HS2 := Lib.hid HS
        clear HS hp
        refine wpOp_step rfl (fun K hK => ?_)
        simp only [putL, Act.put, List.setIfInBounds_toArray, List.set_cons_zero, List.set_cons_succ]
        go_simp
        refine hK _ _ ⟨.int .i64 0, ?_, HS2.out, fun _ _ _ => trivial, rfl, fun _ _ _ _ _ _ h => h⟩
        simp only [putL, Act.put, List.getD_cons_zero, List.getD_cons_succ, List.setIfInBounds_toArray, List.set_cons_zero, List.set_cons_succ]
      · obtain ⟨A9, c9, rfl, h9⟩ : short9 w g w2.heap.size w3.heap.size d m f e k A3 c3 data [codeR w2.heap.size d m f, ⟨A3, d, c3, 5, bys data⟩, codeR w3.heap.size e m f, ⟨Ax, d + m, cx, 5, bys (Sy.enc m data)⟩] 11 u11 v := hp 11 (by kernel_rfl) (.inr (by decide))
        have HS2 := Lib.hid HS
        clear HS hp
        refine wpOp_step rfl (fun K hK => ?_)
        simp only [putL, Act.put, List.setIfInBounds_toArray, List.set_cons_zero, List.set_cons_succ]
        go_simp
        refine hK _ _ ⟨.slice A9 (e + m) c9, ?_, HS2.out, fun _ _ _ => trivial, ⟨A9, c9, rfl, h9⟩, fun _ _ _ _ _ _ h => h⟩
        simp only [putL, Act.put, List.getD_cons_zero, List.getD_cons_succ, List.setIfInBounds_toArray, List.set_cons_zero, List.set_cons_succ]
      · obtain rfl : u12 = .int .i64 0 := hp 12 (by kernel_rfl) (.inr (by decide))
        have HS2 := Lib.hid HS
        clear HS hp
        refine wpOp_step rfl (fun K hK => ?_)
        simp only [putL, Act.put, List.setIfInBounds_toArray, List.set_cons_zero, List.set_cons_succ]
        go_simp
        refine hK _ _ ⟨.int .i64 0, ?_, HS2.out, fun _ _ _ => trivial, rfl, fun _ _ _ _ _ _ h => h⟩
        simp only [putL, Act.put, List.getD_cons_zero, List.getD_cons_succ, List.setIfInBounds_toArray, List.set_cons_zero, List.set_cons_succ]
    · rintro us v hl HS hS hP
      replace hl : us.length = 15 := hl
      obtain ⟨u0, us0, rfl, hl0⟩ := us_cons (n := 14) hl
      obtain ⟨u1, us1, rfl, hl1⟩ := us_cons (n := 13) hl0
      obtain ⟨u2, us2, rfl, hl2⟩ := us_cons (n := 12) hl1
      obtain ⟨u3, us3, rfl, hl3⟩ := us_cons (n := 11) hl2
      obtain ⟨u4, us4, rfl, hl4⟩ := us_cons (n := 10) hl3
      obtain ⟨u5, us5, rfl, hl5⟩ := us_cons (n := 9) hl4
      obtain ⟨u6, us6, rfl, hl6⟩ := us_cons (n := 8) hl5
      obtain ⟨u7, us7, rfl, hl7⟩ := us_cons (n := 7) hl6
      obtain ⟨u8, us8, rfl, hl8⟩ := us_cons (n := 6) hl7
      obtain ⟨u9, us9, rfl, hl9⟩ := us_cons (n := 5) hl8
      obtain ⟨u10, us10, rfl, hl10⟩ := us_cons (n := 4) hl9
      obtain ⟨u11, us11, rfl, hl11⟩ := us_cons (n := 3) hl10
      obtain ⟨u12, us12, rfl, hl12⟩ := us_cons (n := 2) hl11
      obtain ⟨u13, us13, rfl, hl13⟩ := us_cons (n := 1) hl12
      obtain ⟨u14, us14, rfl, hl14⟩ := us_cons (n := 0) hl13
      obtain rfl := us_nil hl14
      clear hl hl0 hl1 hl2 hl3 hl4 hl5 hl6 hl7 hl8 hl9 hl10 hl11 hl12 hl13
      clear hS
      replace HS : Ow w v (some g) [] [] [codeR w2.heap.size d m f, ⟨A3, d, c3, 5, bys data⟩, codeR w3.heap.size e m f, ⟨Ax, d + m, cx, 5, bys (Sy.enc m data)⟩] := HS
      obtain ⟨A9, c9, rfl, h9⟩ : short9 w g w2.heap.size w3.heap.size d m f e k A3 c3 data [codeR w2.heap.size d m f, ⟨A3, d, c3, 5, bys data⟩, codeR w3.heap.size e m f, ⟨Ax, d + m, cx, 5, bys (Sy.enc m data)⟩] 13 u13 v := hP 13 (by show 13 < 15; decide) (by decide)
      obtain rfl : u14 = .int .i64 0 := hP 14 (by show 14 < 15; decide) (by decide)
      clear HS hP
      simp only [putL, Act.put, List.setIfInBounds_toArray, List.set_cons_zero, List.set_cons_succ]
      obtain ⟨g9, rfl, -, -⟩ := own_form (h9.row 4 rfl) (by omega)
      have h9' : Ow w v (some g) [] [] [codeR w2.heap.size d m f, ⟨A3, d, c3, 5, bys data⟩, codeR w3.heap.size e m f, ⟨Ax, d + m, cx, 5, bys (Sy.enc m data)⟩, ⟨some ⟨g9, 0, none⟩, e + m, c9, 5, bys (Sy.enc m (List.replicate k 0 ++ data))⟩] := h9
      have HX := Lib.hid h9'
      have hle9 := (own_cap (h9'.row 4 rfl)).1
      have HEQ : Hid (Sy.enc m data = (Sy.enc m (List.replicate k 0 ++ data)).drop k) := by
        unfold Hid
        have h1 := he.out
        rw [Sy.enc_zeros (by omega) (by rw [HDL.out]; omega), List.drop_left' (by rw [List.length_replicate])]
      have HSm : Hid (∀ v2 : World, Below v.heap.size v v2 → Calls Tryd.prog 35 #[.slice Ax (d + m) cx, .slice (some ⟨g9, k, none⟩) (e + m - k) (c9 - k)] v2 fun en v3 => en = .returned (.bool true) ∧ Below v2.heap.size v2 v3) := fun v2 hb => by
        have HX2 := HX.out.go hb
        have h1 := he.out
        have h5 := same_any Ax (some ⟨g9, k, none⟩) (d + m) cx (e + m - k) (c9 - k) v2.heap.size (Sy.enc m data) ((Sy.enc m (List.replicate k 0 ++ data)).drop k) v2 (by rw [Sy.enc_length, HDL.out]) (by rw [List.length_drop, Sy.enc_length, List.length_append, List.length_replicate, HDL.out]; omega) (Sl.of_own (HX2.row 3 rfl)) (by
          have h6 := (Sl.of_own (HX2.row 4 rfl)).drop k
          rw [show (bys (Sy.enc m (List.replicate k 0 ++ data))).drop k = bys ((Sy.enc m (List.replicate k 0 ++ data)).drop k) from (List.map_drop ..).symm] at h6
          rw [Option.map_some, addr_add0] at h6
          exact h6) (by omega) (by omega)
        rw [decide_eq_true HEQ.out] at h5
        exact h5
      have hk1 : 0 ≤ ((e : Int) - (d : Int)) := by have := he.out; omega
      have hk2 : ((e : Int) - (d : Int)) ≤ ((e : Int) + (m : Int)) := by omega
      have hk3 : k ≤ e + m := by have := he.out; omega
      have hlen : (((e + m : Nat) : Int) == (e : Int) + (m : Int)) = true := by simp
      have hk4 : k < c9 := by have := he.out; omega
      clear h9 h9' HO9
      go_wp2_with fail
      refine (awake07_any v).mono ?_
      rintro en v2 ⟨rfl, hb2⟩
      have HX2 := Lib.hid (HX.out.go hb2)
      have HS2 := Lib.hid (HSm.out v2 hb2)
      obtain ⟨hc0, hc1, hc2, hc3⟩ := HX2.out.cdc 0 rfl
      obtain ⟨hd0, hd1, hd2, hd3⟩ := HX2.out.cdc 2 rfl
      clear HN HDL hcd0 heq9 hcd' HX HSm HEQ hn hsm hfm he HO hb2
      go_wp2_with fail
      all_goals first | (exfalso; omega) | (
        refine HS2.out.mono ?_
        rintro en v3 ⟨rfl, hb3⟩
        have HX3 := Lib.hid (HX2.out.go hb3)
        clear hb3
        go_wp2_with fail
        go_ret
        exact ⟨rfl, HX3.out.below⟩)

end Go.Proofs.YtjhaogbopmhkoaaDoor

namespace Go.Proofs.YtjhaogbopmhkoaaDoor
open Go.ChangeShapes Go.WideShapes Go.ChangeAt Go.RowKit

section
variable {H : Type} {enc : TypeId × Value → H} {P : Program}
/-- arguments read behind the call as before it, if nothing below the old heap's size has turned -/
theorem args_stay (hl : laidOutB P = true) {W W' : World} (hb : Below W.heap.size W W') {sp : Nat → Bool} : ∀ {ts : List TypeId} {vs : List Value} {ds : List (DataW H)} {ps : List MemPlace},
    (∀ t ∈ ts, P.readableRec t = true ∧ t < P.types.size) → DataW.TrodAll enc P W 0 (fun _ => true) true ts vs ds ps → (∀ x ∈ ps, x.block < W.heap.size) → (∀ p ∈ ps, sp p.block = true) →
    DataW.TrodAll enc P W' 0 sp true ts vs ds ps := by
  intro ts
  induction ts with
  | nil =>
    intro vs ds ps _ h _ _
    cases vs <;> cases ds <;> simp [DataW.TrodAll] at h ⊢
    exact h
  | cons t ts ih =>
    intro vs ds ps ht h hlt hs
    obtain ⟨v, vs', d, ds', p, q, rfl, rfl, rfl, h0, h1⟩ := trodAll_cons h
    refine ⟨p, q, ?_, ?_, rfl⟩
    · exact WideElems.Trod_stays hl (ht t (by simp)).1 (ht t (by simp)).2 h0 (fun x hx => hb.same (hlt x (by simp [hx]))) (fun x hx => hs x (by simp [hx]))
    · exact ih (fun u hu => ht u (by simp [hu])) h1 (fun x hx => hlt x (by simp [hx])) (fun x hx => hs x (by simp [hx]))

theorem post_law (hl : laidOutB P = true) {f : Func} {s : ChangeSpec} {W W' : World} {args : Array Value} {ds gs : List (DataW H)} {before : List MemPlace} {tb : TypeId} (hb : Below W.heap.size W W')
    (hvars : s.vars = []) (hW : DataW.Whole enc P f.params.toList s.vars false W args.toList ds gs before)
    (hfn : s.fn H (ds ++ gs) = { results := [.lit (.bool true)], args := ds, vars := [] }) (hres : f.resultTypes = #[tb]) (htb : P.underlying tb = some .bool)
    (hts : ∀ t ∈ f.params.toList, P.readableRec t = true ∧ t < P.types.size) :
    s.post enc P f false true false false W args (.bool true) W' := by
  have hlt : ∀ p ∈ before, p.block < W.heap.size := fun p hp => hW.lt p hp
  have hW' := hW
  obtain ⟨p, q, hA, hV, rfl, hz, hn⟩ := hW
  rw [hvars] at hV
  have hq : q = [] := by
    cases gs with
    | nil => exact hV
    | cons g r => exact absurd hV (by intro h; cases h)
  subst hq
  refine ⟨ds, gs, _, [], p, [], hW', ?_, ?_, ?_, hb.frame _, fun h => by cases h⟩
  · rw [hfn, hres]
    exact trodAll_mk1 (shut_bool htb true)
  · rw [hfn]
    exact args_stay hl hb hts hA (fun x hx => hlt x (by simp [hx])) (fun x hx => by simpa using hlt x (by simp [hx]))
  · rw [hfn, hvars]
    rfl
end
end Go.Proofs.YtjhaogbopmhkoaaDoor

namespace Go.Proofs.YtjhaogbopmhkoaaDoor
open Go.ChangeShapes Go.WideShapes Go.ChangeAt Go.RowKit
set_option linter.unusedVariables false

theorem block_lt {W : World} {a : Addr} {v : Value} (h : W.cell? a = some v) : a.block < W.heap.size := by
  rcases Nat.lt_or_ge a.block W.heap.size with h1 | h1
  · exact h1
  · have h2 : W.heap[a.block]? = none := Array.getElem?_eq_none h1
    simp [World.cell?, h2] at h
section
variable {H : Type} {enc : TypeId × Value → H} {P : Program} {W : World}
theorem open_sl {t e : TypeId} {k : IntKind} (ht : P.underlying t = some (.slice e)) (he : P.underlying e = some (.int k)) (hc : P.cellsOf e = 1) {r : Reach} {b0 : Nat} {v : Value} {d : DataW H} {ps : List MemPlace}
    (hval : Value.okWide P W r b0 t v) (h : DataW.Trod enc P W 0 (fun _ => true) true t v d ps) :
    ∃ (A : Option Addr) (n c : Nat) (zs : List Int), v = .slice A n c ∧ zs.length = n ∧ n ≤ c ∧ c ≤ maxLen ∧ Sl W W.heap.size A (zs.map (Value.int k)) ∧ ∀ z ∈ zs, (Lit.int k z).wf = true := by
  obtain ⟨a0, n, c, rfl⟩ := okWide_slice ht hval
  obtain ⟨fuel, hf⟩ := h
  rcases Go.ChangeShapes.open_ints ht he hc hf with ⟨hcs, _⟩ | ⟨a, len, cap, zs, hcs, _, hle, hmx, hall, _, hcell, hwf⟩
  · have e1 : (Value.slice a0 n c) = .slice none 0 0 := (List.cons.inj (show [Value.slice a0 n c] = _ from hcs)).1
    injection e1 with h1 h2 h3
    subst h1 h2 h3
    exact ⟨none, 0, 0, [], rfl, rfl, Nat.le_refl _, Nat.zero_le _, Sl.nil _ _ _, fun z hz => by cases hz⟩
  · have e1 : (Value.slice a0 n c) = .slice (some a) len cap := (List.cons.inj (show [Value.slice a0 n c] = _ from hcs)).1
    injection e1 with h1 h2 h3
    subst h1 h2 h3
    have hz : zs.length = c := by simpa using hall
    refine ⟨some a, n, c, zs.take n, rfl, by rw [List.length_take]; omega, hle, hmx, fun hn => ?_, fun z hz => hwf z (List.mem_of_mem_take hz)⟩
    rw [List.length_map, List.length_take] at hn
    refine ⟨a, rfl, ?_, fun j u hu => ?_⟩
    · have h0 := hcell 0 (by omega)
      have := block_lt h0
      rwa [add_block] at this
    · rw [List.getElem?_map, List.getElem?_take] at hu
      by_cases hj : j < n
      · rw [if_pos hj, List.getElem?_eq_getElem (by omega)] at hu
        rw [hcell j (by omega), List.getD_eq_getElem?_getD, List.getElem?_eq_getElem (by omega)]
        exact hu
      · rw [if_neg hj] at hu
        cases hu
end
end Go.Proofs.YtjhaogbopmhkoaaDoor
