/- ChanceExactW CTabE LawSl OpenCode -/
import Derived.Test.YtenokdhldngkgaaGreatDoorE01
import Derived.Test.YtenokdhldngkgaaGreatDoorE09
import Derived.Test.YtenokdhldngkgaaGreatDoorE13
import Derived.Test.YtenokdhldngkgaaGreatDoorE17
import Derived.Test.YtenokdhldngkgaaGreatDoorE19
import Derived.Test.YtenokdhldngkgaaGreatDoorRows
import Derived.WalkKit
import Derived.ProofKit
import Derived.OpenShut
import Derived.LaidMore
import Derived.Lay
import Derived.SevenTiedAt
import Derived.Stop.Joined
import Derived.Lib.SmallJoins
import Derived.Below
import Derived.Carry
namespace Go.Proofs.YtenokdhldngkgaaGreatDoor
open Go.RowKit Go.Sort
set_option linter.unusedVariables false
set_option maxRecDepth 100000
structure CxK (w1 : World) (g B : Nat) (xb : Nat) (d m f n : Nat) (k dI mI fI vI : Int) (Ld : Nat → Bool) (u0 u1 u2 u3 u4 u5 u6 u7 u8 u9 u10 u11 u12 u13 u14 u15 u16 u17 u18 u19 : Value) (W : World) : Prop where
 ow : Ow w1 W (some g) [] [] [(⟨some ⟨xb, 0, none⟩, 4, 4, 57, (cdv d m f).toList⟩ : Rw)]
 hd : Dice W g B
 h0 : Ld 0 = true → u0 = .bool true
 h1 : Ld 1 = true → u1 = .bool true
 h2 : Ld 2 = true → u2 = .agg #[.int .i64 k, .int .i64 dI, .int .i64 mI, .int .i64 fI]
 h3 : Ld 3 = true → u3 = .int .i64 vI
 h4 : Ld 4 = true → u4 = .bool true
 h5 : Ld 5 = true → u5 = .bool true
 h6 : Ld 6 = true → u6 = .bool true
 h7 : Ld 7 = true → u7 = .agg #[.int .i64 2, .int .i64 (d : Int), .int .i64 (m : Int), .int .i64 (f : Int)]
 h8 : Ld 8 = true → u8 = .pointer (some ⟨g, 0, none⟩)
 h9 : Ld 9 = true → u9 = .pointer (some ⟨xb, 1, none⟩)
 h10 : Ld 10 = true → u10 = .int .i64 (d : Int)
 h11 : Ld 11 = true → u11 = .pointer (some ⟨xb, 2, none⟩)
 h12 : Ld 12 = true → u12 = .int .i64 (m : Int)
 h13 : Ld 13 = true → u13 = .int .i64 (n : Int)
 h14 : Ld 14 = true → u14 = .int .i64 ((n : Int) + 3)
 h15 : Ld 15 = true → ∃ z : Nat, z < n + 3 ∧ u15 = .int .i64 ((z : Int))
 h16 : Ld 16 = true → ∃ z : Nat, z < n + 3 ∧ u16 = .int .i64 ((z : Int) - 1)
 h17 : Ld 17 = true → u17 = .bool true
 h18 : Ld 18 = true → u18 = .bool true
 h19 : Ld 19 = true → u19 = .bool true
def CxI (w1 : World) (g B : Nat) (xb : Nat) (d m f n : Nat) (k dI mI fI vI : Int) (A0 : Act) (Ld : Nat → Bool) (a : Act) (W : World) : Prop :=
 ∃ (u0 u1 u2 u3 u4 u5 u6 u7 u8 u9 u10 u11 u12 u13 u14 u15 u16 u17 u18 u19 : Value), a = ((((((((((((((((((((A0.put (some 17) u0).put (some 18) u1).put (some 19) u2).put (some 20) u3).put (some 21) u4).put (some 22) u5).put (some 23) u6).put (some 24) u7).put (some 25) u8).put (some 26) u9).put (some 27) u10).put (some 28) u11).put (some 29) u12).put (some 30) u13).put (some 31) u14).put (some 32) u15).put (some 33) u16).put (some 34) u17).put (some 35) u18).put (some 6) u19) ∧ CxK w1 g B xb d m f n k dI mI fI vI Ld u0 u1 u2 u3 u4 u5 u6 u7 u8 u9 u10 u11 u12 u13 u14 u15 u16 u17 u18 u19 W
set_option maxHeartbeats 16000000 in
theorem chanceExact_any (k dI mI fI vI : Int) (A0 : Option Addr) (n0 c0 : Nat) (ts : List Int) (w : World) (hn : ts.length = n0) (hl : n0 ≤ 9223372036854775807) (hs : Sl w w.heap.size A0 (ints ts)) (ht : Tab w) :
  Calls Tryz.prog 5 #[.agg (cdI k dI mI fI), .int .i64 vI, .slice A0 n0 c0] w fun e w' => e = .returned (.bool true) ∧ Below w.heap.size w w' := by
 have HA0 : Hid (Below w.heap.size w (w.alloc (.cells (cdI k dI mI fI) 57))) := (Below.refl _ _).alloc (Nat.le_refl _) _
 have HT : Hid (Tab (w.alloc (.cells (cdI k dI mI fI) 57))) := ht.below HA0.out
 have HCc : Hid (∀ W, Below (w.alloc (.cells (cdI k dI mI fI) 57)).heap.size (w.alloc (.cells (cdI k dI mI fI) 57)) W → W.cell? ⟨w.heap.size, 0, none⟩ = some (.int .i64 k) ∧ W.cell? ⟨w.heap.size, 1, none⟩ = some (.int .i64 dI) ∧ W.cell? ⟨w.heap.size, 2, none⟩ = some (.int .i64 mI) ∧ W.cell? ⟨w.heap.size, 3, none⟩ = some (.int .i64 fI)) := by
  intro W hb
  have h0 := (Ow.of (St.refl w)).arr (cdI k dI mI fI) 4 rfl (by omega) 57
  simp only [List.nil_append] at h0
  obtain ⟨a0, a1, a2, a3⟩ := h0.cdi 0 rfl
  have hlt : w.heap.size < (w.alloc (.cells (cdI k dI mI fI) 57)).heap.size := by simp
  exact ⟨(hb.cell (p := ⟨w.heap.size, 0, none⟩) hlt).trans a0, (hb.cell (p := ⟨w.heap.size, 1, none⟩) hlt).trans a1, (hb.cell (p := ⟨w.heap.size, 2, none⟩) hlt).trans a2, (hb.cell (p := ⟨w.heap.size, 3, none⟩) hlt).trans a3⟩
 have hs' : Sl (w.alloc (.cells (cdI k dI mI fI) 57)) w.heap.size A0 (ints ts) := hs.below HA0.out
 rcases Nat.lt_or_ge 400 n0 with hbig | hsm
 ·have HLi := Lib.hid (light_no A0 n0 c0 (w.alloc (.cells (cdI k dI mI fI) 57)) hbig hl)
  have HAw := Lib.hid (awake08 (w.alloc (.cells (cdI k dI mI fI) 57)) HT.out)
  clear hs hs' ht
  go_enter Tryz.func5, Tryz.ntmps5
  go_wp2_with fail
  refine HLi.out.mono ?_
  rintro e w1 ⟨rfl, rfl⟩
  go_wp2_with fail
  refine HAw.out.mono ?_
  rintro e w2 ⟨rfl, hb⟩
  have HB := Lib.hid (HA0.out.trans (hb.mono HA0.out.size))
  clear hb
  go_wp2_with fail
  go_ret
  exact ⟨rfl, HB.out⟩
 have HLi := Lib.hid (light_yes A0 n0 c0 (w.alloc (.cells (cdI k dI mI fI) 57)) hsm)
 have HR := Lib.hid (roll_at (St.refl (w.alloc (.cells (cdI k dI mI fI) 57))) A0 n0 c0 w.heap.size ts hn (by omega) HA0.out.size hs')
 clear hs hs' hn hl hsm ht
 go_enter Tryz.func5, Tryz.ntmps5
 go_wp2_with fail
 refine HLi.out.mono ?_
 rintro e w1 ⟨rfl, rfl⟩
 go_wp2_with fail
 refine HR.out.mono ?_
 rintro e w1 ⟨g, rfl, hd1, hst1⟩
 have HN := Lib.hid (symbols_ow (Ow.of hst1) hd1 HA0.out.size)
 clear HR HLi hd1 hst1
 go_wp2_with fail
 refine HN.out.mono ?_
 rintro e w2 ⟨d, m, f, rfl, hcd, hfm, hd2, h2⟩
 have h3 := h2.code d m f
 simp only [List.nil_append] at h3
 obtain ⟨n, hdm⟩ : ∃ n, d + m = n := ⟨_, rfl⟩
 have hni : (d : Int) + (m : Int) = (n : Int) := by omega
 have hn40 : n ≤ 40 := by have := hcd.d2; have := hcd.m2; omega
 have HO := Lib.hid h3
 have HDi : Hid (Dice (w2.alloc (.cells (cdv d m f) 57)) g w.heap.size) := hd2.grown (row := none) (World.grownBy_alloc _ _ _) (fun _ e => by cases e)
 clear HN hd2 h2 hdm hcd hfm h3
 go_wp2_with fail
 refine reg_inv34 (CxI (w.alloc (.cells (cdI k dI mI fI) 57)) g w.heap.size w2.heap.size d m f n k dI mI fI vI) (by kernel_rfl) (by kernel_rfl) ?_ ?_ ?_
 ·refine ⟨undef, undef, undef, undef, undef, undef, undef, undef, undef, undef, undef, undef, undef, undef, undef, undef, undef, undef, undef, (.bool false), ?_, ⟨HO.out.drew, HDi.out.drew, ?_, ?_, ?_, ?_, ?_, ?_, ?_, ?_, ?_, ?_, ?_, ?_, ?_, ?_, ?_, ?_, ?_, ?_, ?_, ?_⟩⟩
  ·simp only [Act.put, zT, zZ, zS]
  all_goals (intro h; cases h)
 ·rintro jj Ld b W hj hf hcl hd ⟨u0, u1, u2, u3, u4, u5, u6, u7, u8, u9, u10, u11, u12, u13, u14, u15, u16, u17, u18, u19, rfl, hC⟩
  have hj' : jj < 20 := hj
  have hcase : jj = 0 ∨ jj = 1 ∨ jj = 2 ∨ jj = 3 ∨ jj = 4 ∨ jj = 5 ∨ jj = 6 ∨ jj = 7 ∨ jj = 8 ∨ jj = 9 ∨ jj = 10 ∨ jj = 11 ∨ jj = 12 ∨ jj = 13 ∨ jj = 14 ∨ jj = 15 ∨ jj = 16 ∨ jj = 17 ∨ jj = 18 ∨ jj = 19 := by omega
  clear hj hj'
  simp only [Act.put, zT, zZ, zS]
  rcases hcase with rfl | rfl | rfl | rfl | rfl | rfl | rfl | rfl | rfl | rfl | rfl | rfl | rfl | rfl | rfl | rfl | rfl | rfl | rfl | rfl
  ·clear hd hcl
   refine wpOp_step rfl (fun K hK => ?_)
   go_simp
   refine (awake08 W (HT.out.below hC.ow.below)).mono ?_
   rintro e W' ⟨rfl, hb⟩
   refine hK _ _ ⟨_, u1, u2, u3, u4, u5, u6, u7, u8, u9, u10, u11, u12, u13, u14, u15, u16, u17, u18, u19, ?_, ⟨hC.ow.go hb, hC.hd.below hb, fun _ => rfl, hC.h1, hC.h2, hC.h3, hC.h4, hC.h5, hC.h6, hC.h7, hC.h8, hC.h9, hC.h10, hC.h11, hC.h12, hC.h13, hC.h14, hC.h15, hC.h16, hC.h17, hC.h18, hC.h19⟩⟩
   simp only [Act.put, zT, zZ, zS]
  ·obtain rfl := hC.h0 (hd 0 (by kernel_rfl))
   clear hd hcl
   refine wpOp_step rfl (fun K hK => ?_)
   go_simp
   refine hK _ _ ⟨_, _, u2, u3, u4, u5, u6, u7, u8, u9, u10, u11, u12, u13, u14, u15, u16, u17, u18, u19, ?_, ⟨hC.ow, hC.hd, hC.h0, fun _ => rfl, hC.h2, hC.h3, hC.h4, hC.h5, hC.h6, hC.h7, hC.h8, hC.h9, hC.h10, hC.h11, hC.h12, hC.h13, hC.h14, hC.h15, hC.h16, hC.h17, hC.h18, hC.h19⟩⟩
   simp only [Act.put, zT, zZ, zS]
  ·obtain rfl := hC.h1 (hd 1 (by kernel_rfl))
   obtain ⟨q0, q1, q2, q3⟩ := HCc.out W hC.ow.below
   clear hd hcl
   refine wpOp_step rfl (fun K hK => ?_)
   go_simp
   refine hK _ _ ⟨u0, _, _, u3, u4, u5, u6, u7, u8, u9, u10, u11, u12, u13, u14, u15, u16, u17, u18, u19, ?_, ⟨hC.ow, hC.hd, hC.h0, hC.h1, fun _ => rfl, hC.h3, hC.h4, hC.h5, hC.h6, hC.h7, hC.h8, hC.h9, hC.h10, hC.h11, hC.h12, hC.h13, hC.h14, hC.h15, hC.h16, hC.h17, hC.h18, hC.h19⟩⟩
   simp only [Act.put, zT, zZ, zS]
  ·obtain rfl := hC.h1 (hd 1 (by kernel_rfl))
   clear hd hcl
   refine wpOp_step rfl (fun K hK => ?_)
   go_simp
   refine hK _ _ ⟨u0, _, u2, _, u4, u5, u6, u7, u8, u9, u10, u11, u12, u13, u14, u15, u16, u17, u18, u19, ?_, ⟨hC.ow, hC.hd, hC.h0, hC.h1, hC.h2, fun _ => rfl, hC.h4, hC.h5, hC.h6, hC.h7, hC.h8, hC.h9, hC.h10, hC.h11, hC.h12, hC.h13, hC.h14, hC.h15, hC.h16, hC.h17, hC.h18, hC.h19⟩⟩
   simp only [Act.put, zT, zZ, zS]
  ·obtain rfl := hC.h1 (hd 1 (by kernel_rfl))
   obtain rfl := hC.h2 (hd 2 (by kernel_rfl))
   obtain rfl := hC.h3 (hd 3 (by kernel_rfl))
   clear hd hcl
   refine wpOp_step rfl (fun K hK => ?_)
   go_simp
   refine (agree08 k dI mI fI vI W (HT.out.below hC.ow.below)).mono ?_
   rintro e W' ⟨rfl, hb⟩
   refine hK _ _ ⟨u0, _, _, _, _, u5, u6, u7, u8, u9, u10, u11, u12, u13, u14, u15, u16, u17, u18, u19, ?_, ⟨hC.ow.go hb, hC.hd.below hb, hC.h0, hC.h1, hC.h2, hC.h3, fun _ => rfl, hC.h5, hC.h6, hC.h7, hC.h8, hC.h9, hC.h10, hC.h11, hC.h12, hC.h13, hC.h14, hC.h15, hC.h16, hC.h17, hC.h18, hC.h19⟩⟩
   simp only [Act.put, zT, zZ, zS]
  ·obtain rfl := hC.h1 (hd 1 (by kernel_rfl))
   obtain rfl := hC.h4 (hd 4 (by kernel_rfl))
   clear hd hcl
   refine wpOp_step rfl (fun K hK => ?_)
   go_simp
   refine hK _ _ ⟨u0, _, u2, u3, _, _, u6, u7, u8, u9, u10, u11, u12, u13, u14, u15, u16, u17, u18, u19, ?_, ⟨hC.ow, hC.hd, hC.h0, hC.h1, hC.h2, hC.h3, hC.h4, fun _ => rfl, hC.h6, hC.h7, hC.h8, hC.h9, hC.h10, hC.h11, hC.h12, hC.h13, hC.h14, hC.h15, hC.h16, hC.h17, hC.h18, hC.h19⟩⟩
   simp only [Act.put, zT, zZ, zS]
  ·obtain rfl := hC.h5 (hd 5 (by kernel_rfl))
   clear hd hcl
   refine wpOp_step rfl (fun K hK => ?_)
   go_simp
   refine hK _ _ ⟨u0, u1, u2, u3, u4, _, _, u7, u8, u9, u10, u11, u12, u13, u14, u15, u16, u17, u18, u19, ?_, ⟨hC.ow, hC.hd, hC.h0, hC.h1, hC.h2, hC.h3, hC.h4, hC.h5, fun _ => rfl, hC.h7, hC.h8, hC.h9, hC.h10, hC.h11, hC.h12, hC.h13, hC.h14, hC.h15, hC.h16, hC.h17, hC.h18, hC.h19⟩⟩
   simp only [Act.put, zT, zZ, zS]
  ·obtain rfl := hC.h6 (hd 6 (by kernel_rfl))
   obtain ⟨q0, q1, q2, q3⟩ := hC.ow.cdc 0 rfl
   clear hd hcl
   refine wpOp_step rfl (fun K hK => ?_)
   go_simp
   refine hK _ _ ⟨u0, u1, u2, u3, u4, u5, _, _, u8, u9, u10, u11, u12, u13, u14, u15, u16, u17, u18, u19, ?_, ⟨hC.ow, hC.hd, hC.h0, hC.h1, hC.h2, hC.h3, hC.h4, hC.h5, hC.h6, fun _ => rfl, hC.h8, hC.h9, hC.h10, hC.h11, hC.h12, hC.h13, hC.h14, hC.h15, hC.h16, hC.h17, hC.h18, hC.h19⟩⟩
   simp only [Act.put, zT, zZ, zS]
  ·obtain rfl := hC.h6 (hd 6 (by kernel_rfl))
   clear hd hcl
   refine wpOp_step rfl (fun K hK => ?_)
   go_simp
   refine hK _ _ ⟨u0, u1, u2, u3, u4, u5, _, u7, _, u9, u10, u11, u12, u13, u14, u15, u16, u17, u18, u19, ?_, ⟨hC.ow, hC.hd, hC.h0, hC.h1, hC.h2, hC.h3, hC.h4, hC.h5, hC.h6, hC.h7, fun _ => rfl, hC.h9, hC.h10, hC.h11, hC.h12, hC.h13, hC.h14, hC.h15, hC.h16, hC.h17, hC.h18, hC.h19⟩⟩
   simp only [Act.put, zT, zZ, zS]
  ·obtain rfl := hC.h6 (hd 6 (by kernel_rfl))
   clear hd hcl
   refine wpOp_step rfl (fun K hK => ?_)
   go_simp
   refine hK _ _ ⟨u0, u1, u2, u3, u4, u5, _, u7, u8, _, u10, u11, u12, u13, u14, u15, u16, u17, u18, u19, ?_, ⟨hC.ow, hC.hd, hC.h0, hC.h1, hC.h2, hC.h3, hC.h4, hC.h5, hC.h6, hC.h7, hC.h8, fun _ => rfl, hC.h10, hC.h11, hC.h12, hC.h13, hC.h14, hC.h15, hC.h16, hC.h17, hC.h18, hC.h19⟩⟩
   simp only [Act.put, zT, zZ, zS]
  ·obtain rfl := hC.h6 (hd 6 (by kernel_rfl))
   obtain rfl := hC.h9 (hd 9 (by kernel_rfl))
   obtain ⟨q0, q1, q2, q3⟩ := hC.ow.cdc 0 rfl
   clear hd hcl
   refine wpOp_step rfl (fun K hK => ?_)
   go_simp
   refine hK _ _ ⟨u0, u1, u2, u3, u4, u5, _, u7, u8, _, _, u11, u12, u13, u14, u15, u16, u17, u18, u19, ?_, ⟨hC.ow, hC.hd, hC.h0, hC.h1, hC.h2, hC.h3, hC.h4, hC.h5, hC.h6, hC.h7, hC.h8, hC.h9, fun _ => rfl, hC.h11, hC.h12, hC.h13, hC.h14, hC.h15, hC.h16, hC.h17, hC.h18, hC.h19⟩⟩
   simp only [Act.put, zT, zZ, zS]
  ·obtain rfl := hC.h6 (hd 6 (by kernel_rfl))
   clear hd hcl
   refine wpOp_step rfl (fun K hK => ?_)
   go_simp
   refine hK _ _ ⟨u0, u1, u2, u3, u4, u5, _, u7, u8, u9, u10, _, u12, u13, u14, u15, u16, u17, u18, u19, ?_, ⟨hC.ow, hC.hd, hC.h0, hC.h1, hC.h2, hC.h3, hC.h4, hC.h5, hC.h6, hC.h7, hC.h8, hC.h9, hC.h10, fun _ => rfl, hC.h12, hC.h13, hC.h14, hC.h15, hC.h16, hC.h17, hC.h18, hC.h19⟩⟩
   simp only [Act.put, zT, zZ, zS]
  ·obtain rfl := hC.h6 (hd 6 (by kernel_rfl))
   obtain rfl := hC.h11 (hd 11 (by kernel_rfl))
   obtain ⟨q0, q1, q2, q3⟩ := hC.ow.cdc 0 rfl
   clear hd hcl
   refine wpOp_step rfl (fun K hK => ?_)
   go_simp
   refine hK _ _ ⟨u0, u1, u2, u3, u4, u5, _, u7, u8, u9, u10, _, _, u13, u14, u15, u16, u17, u18, u19, ?_, ⟨hC.ow, hC.hd, hC.h0, hC.h1, hC.h2, hC.h3, hC.h4, hC.h5, hC.h6, hC.h7, hC.h8, hC.h9, hC.h10, hC.h11, fun _ => rfl, hC.h13, hC.h14, hC.h15, hC.h16, hC.h17, hC.h18, hC.h19⟩⟩
   simp only [Act.put, zT, zZ, zS]
  ·obtain rfl := hC.h6 (hd 6 (by kernel_rfl))
   obtain rfl := hC.h10 (hd 10 (by kernel_rfl))
   obtain rfl := hC.h12 (hd 12 (by kernel_rfl))
   have hwn : IntKind.i64.wrap (n : Int) = (n : Int) := IntWalk.i64_in _ (by omega)
   clear hd hcl
   refine wpOp_step rfl (fun K hK => ?_)
   go_simp
   refine hK _ _ ⟨u0, u1, u2, u3, u4, u5, _, u7, u8, u9, _, u11, _, _, u14, u15, u16, u17, u18, u19, ?_, ⟨hC.ow, hC.hd, hC.h0, hC.h1, hC.h2, hC.h3, hC.h4, hC.h5, hC.h6, hC.h7, hC.h8, hC.h9, hC.h10, hC.h11, hC.h12, fun _ => rfl, hC.h14, hC.h15, hC.h16, hC.h17, hC.h18, hC.h19⟩⟩
   simp only [Act.put, zT, zZ, zS]
  ·obtain rfl := hC.h6 (hd 6 (by kernel_rfl))
   obtain rfl := hC.h13 (hd 13 (by kernel_rfl))
   have hwn : IntKind.i64.wrap ((n : Int) + 3) = (n : Int) + 3 := IntWalk.i64_in _ (by omega)
   clear hd hcl
   refine wpOp_step rfl (fun K hK => ?_)
   go_simp
   refine hK _ _ ⟨u0, u1, u2, u3, u4, u5, _, u7, u8, u9, u10, u11, u12, _, _, u15, u16, u17, u18, u19, ?_, ⟨hC.ow, hC.hd, hC.h0, hC.h1, hC.h2, hC.h3, hC.h4, hC.h5, hC.h6, hC.h7, hC.h8, hC.h9, hC.h10, hC.h11, hC.h12, hC.h13, fun _ => rfl, hC.h15, hC.h16, hC.h17, hC.h18, hC.h19⟩⟩
   simp only [Act.put, zT, zZ, zS]
  ·obtain rfl := hC.h6 (hd 6 (by kernel_rfl))
   obtain rfl := hC.h8 (hd 8 (by kernel_rfl))
   obtain rfl := hC.h14 (hd 14 (by kernel_rfl))
   clear hd hcl
   refine wpOp_step rfl (fun K hK => ?_)
   go_simp
   refine (next_ow hC.ow hC.hd (n + 3) (by omega) (by omega)).mono ?_
   rintro e W' ⟨r, rfl, hr, hd', how, -⟩
   refine hK _ _ ⟨u0, u1, u2, u3, u4, u5, _, u7, _, u9, u10, u11, u12, u13, _, _, u16, u17, u18, u19, ?_, ⟨how, hd', hC.h0, hC.h1, hC.h2, hC.h3, hC.h4, hC.h5, hC.h6, hC.h7, hC.h8, hC.h9, hC.h10, hC.h11, hC.h12, hC.h13, hC.h14, fun _ => ⟨r, hr, rfl⟩, hC.h16, hC.h17, hC.h18, hC.h19⟩⟩
   simp only [Act.put, zT, zZ, zS]
  ·obtain rfl := hC.h6 (hd 6 (by kernel_rfl))
   obtain ⟨z15, hz15, rfl⟩ := hC.h15 (hd 15 (by kernel_rfl))
   have hwz : IntKind.i64.wrap ((z15 : Int) - 1) = (z15 : Int) - 1 := IntWalk.i64_in _ (by omega)
   clear hd hcl
   refine wpOp_step rfl (fun K hK => ?_)
   go_simp
   refine hK _ _ ⟨u0, u1, u2, u3, u4, u5, _, u7, u8, u9, u10, u11, u12, u13, u14, _, _, u17, u18, u19, ?_, ⟨hC.ow, hC.hd, hC.h0, hC.h1, hC.h2, hC.h3, hC.h4, hC.h5, hC.h6, hC.h7, hC.h8, hC.h9, hC.h10, hC.h11, hC.h12, hC.h13, hC.h14, hC.h15, fun _ => ⟨z15, hz15, rfl⟩, hC.h17, hC.h18, hC.h19⟩⟩
   simp only [Act.put, zT, zZ, zS]
  ·obtain rfl := hC.h6 (hd 6 (by kernel_rfl))
   obtain rfl := hC.h7 (hd 7 (by kernel_rfl))
   obtain ⟨z16, hz16, rfl⟩ := hC.h16 (hd 16 (by kernel_rfl))
   clear hd hcl
   refine wpOp_step rfl (fun K hK => ?_)
   go_simp
   refine (agree08 2 d m f ((z16 : Int) - 1) W (HT.out.below hC.ow.below)).mono ?_
   rintro e W' ⟨rfl, hb⟩
   refine hK _ _ ⟨u0, u1, u2, u3, u4, u5, _, _, u8, u9, u10, u11, u12, u13, u14, u15, _, _, u18, u19, ?_, ⟨hC.ow.go hb, hC.hd.below hb, hC.h0, hC.h1, hC.h2, hC.h3, hC.h4, hC.h5, hC.h6, hC.h7, hC.h8, hC.h9, hC.h10, hC.h11, hC.h12, hC.h13, hC.h14, hC.h15, hC.h16, fun _ => rfl, hC.h18, hC.h19⟩⟩
   simp only [Act.put, zT, zZ, zS]
  ·obtain rfl := hC.h6 (hd 6 (by kernel_rfl))
   obtain rfl := hC.h17 (hd 17 (by kernel_rfl))
   clear hd hcl
   refine wpOp_step rfl (fun K hK => ?_)
   go_simp
   refine hK _ _ ⟨u0, u1, u2, u3, u4, u5, _, u7, u8, u9, u10, u11, u12, u13, u14, u15, u16, _, _, u19, ?_, ⟨hC.ow, hC.hd, hC.h0, hC.h1, hC.h2, hC.h3, hC.h4, hC.h5, hC.h6, hC.h7, hC.h8, hC.h9, hC.h10, hC.h11, hC.h12, hC.h13, hC.h14, hC.h15, hC.h16, hC.h17, fun _ => rfl, hC.h19⟩⟩
   simp only [Act.put, zT, zZ, zS]
  ·obtain rfl := hC.h18 (hd 18 (by kernel_rfl))
   clear hd hcl
   refine wpOp_step rfl (fun K hK => ?_)
   go_simp
   refine hK _ _ ⟨u0, u1, u2, u3, u4, u5, u6, u7, u8, u9, u10, u11, u12, u13, u14, u15, u16, u17, _, _, ?_, ⟨hC.ow, hC.hd, hC.h0, hC.h1, hC.h2, hC.h3, hC.h4, hC.h5, hC.h6, hC.h7, hC.h8, hC.h9, hC.h10, hC.h11, hC.h12, hC.h13, hC.h14, hC.h15, hC.h16, hC.h17, hC.h18, fun _ => rfl⟩⟩
   simp only [Act.put, zT, zZ, zS]
 ·rintro Ld b W hL ⟨u0, u1, u2, u3, u4, u5, u6, u7, u8, u9, u10, u11, u12, u13, u14, u15, u16, u17, u18, u19, rfl, hC⟩
  obtain rfl := hC.h19 (hL 19 (by show 19 < 20; decide))
  have HB := Lib.hid (HA0.out.trans ((hC.ow.below).mono HA0.out.size))
  clear hC
  simp only [Act.put, zT, zZ, zS]
  go_wp2_with fail
  go_ret
  exact ⟨rfl, HB.out⟩
end Go.Proofs.YtenokdhldngkgaaGreatDoor
namespace Go.Proofs.YtenokdhldngkgaaGreatDoor
open Go.ChangeShapes Go.WideShapes Go.ChangeAt Go.RowKit
set_option linter.unusedVariables false
set_option maxRecDepth 100000
theorem tab_of {W : World} (h : laidMetH Tryz.prog Rows.chanceExactRow.laid W) : Tab W := by
 rw [MakeChecks.laidMetH_plain _ _ _ (by kernel_rfl)] at h
 obtain ⟨ps, ⟨g, t, cs, fuel, p, q, hg, ht, hv, hd, _, _⟩, _, _⟩ := h
 obtain rfl := Option.some.inj ((show Tryz.prog.globalNamed "math/bits.deBruijn64tab" = some 2 by kernel_rfl).symm.trans hg)
 obtain rfl := Option.some.inj ((show (Tryz.prog.globals[2]?).map (·.type) = some 235 by kernel_rfl).symm.trans ht)
 obtain ⟨xs, m, _, ex, _, hl, hel⟩ := DataW.trod_array Tryz.underlying235 hd
 have c5 : Tryz.prog.cellsOf 5 = 1 := by kernel_rfl
 have hlen : Lib.deBruijn64tab.length = 64 := by kernel_rfl
 have e3 : (xs.map (·.1)) = Lib.deBruijn64tab.map fun n : Nat => .lit (.int .u8 (n : Int)) := (DataW.agg.inj (Prod.mk.inj ex).1).symm
 have hcell : ∀ k v : Nat, Lib.deBruijn64tab[k]? = some v → W.cell? ⟨2, k, none⟩ = some (.int .u8 (v : Int)) := by
  intro r v hr
  have hr64 : r < 64 := by
   rcases Nat.lt_or_ge r 64 with h | h
   ·exact h
   ·rw [List.getElem?_eq_none (by omega)] at hr; cases hr
  have hE := hel r hr64
  rw [c5, Nat.mul_one, List.getElem?_eq_getElem (by omega)] at hE
  obtain ⟨z, e1, e2, _⟩ := DataW.trod_int Tryz.underlying5 hE
  have e4 : (xs.map (·.1))[r]? = (Lib.deBruijn64tab.map fun n : Nat => (DataW.lit (.int .u8 (n : Int)) : DataW Unit))[r]? := by rw [e3]
  rw [List.getElem?_map, List.getElem?_map, List.getElem?_eq_getElem (by omega : r < xs.length), hr, e2] at e4
  have hz : z = (v : Int) := by
   simp only [Option.map_some, Option.some.injEq, DataW.lit.injEq, Lit.int.injEq, true_and] at e4
   exact e4
  rw [World.var?_cell hg hv r, ← hz]
  have : cs.toList[r]? = some (.int .u8 z) := by
   have h0 : ((cs.toList.drop r).take 1)[0]? = some (.int .u8 z) := by rw [e1]; rfl
   simpa using h0
  simpa using this
 refine ⟨?_, hcell⟩
 have h0 := hcell 0 0 (by kernel_rfl)
 rcases Nat.lt_or_ge 2 W.heap.size with h | h
 ·exact h
 ·exfalso
  unfold World.cell? at h0
  rw [Array.getElem?_eq_none (by simp only; omega)] at h0
  cases h0
section
variable {H : Type} {enc : TypeId × Value → H} {P : Program}
theorem args_stay (hl : laidOutB P = true) {W W' : World} (hb : Below W.heap.size W W') {sp : Nat → Bool} : ∀ {ts : List TypeId} {vs : List Value} {ds : List (DataW H)} {ps : List MemPlace},
  (∀ t ∈ ts, P.readableRec t = true ∧ t < P.types.size) → DataW.TrodAll enc P W 0 (fun _ => true) true ts vs ds ps → (∀ x ∈ ps, x.block < W.heap.size) → (∀ p ∈ ps, sp p.block = true) →
  DataW.TrodAll enc P W' 0 sp true ts vs ds ps := by
 intro ts
 induction ts with
 | nil =>
  intro vs ds ps _ h _ _
  cases vs <;> cases ds <;> simp [DataW.TrodAll] at h ⊢
  exact h
 | cons t ts ih =>
  intro vs ds ps ht h hlt hs
  obtain ⟨v, vs', d, ds', p, q, rfl, rfl, rfl, h0, h1⟩ := trodAll_cons h
  refine ⟨p, q, ?_, ?_, rfl⟩
  ·exact WideElems.Trod_stays hl (ht t (by simp)).1 (ht t (by simp)).2 h0 (fun x hx => hb.same (hlt x (by simp [hx]))) (fun x hx => hs x (by simp [hx]))
  ·exact ih (fun u hu => ht u (by simp [hu])) h1 (fun x hx => hlt x (by simp [hx])) (fun x hx => hs x (by simp [hx]))

theorem post_law (hl : laidOutB P = true) {f : Func} {s : ChangeSpec} {W W' : World} {args : Array Value} {ds gs : List (DataW H)} {before : List MemPlace} {tb : TypeId} (hb : Below W.heap.size W W')
  (hvars : s.vars = []) (hW : DataW.Whole enc P f.params.toList s.vars false W args.toList ds gs before)
  (hfn : s.fn H (ds ++ gs) = { results := [.lit (.bool true)], args := ds, vars := [] }) (hres : f.resultTypes = #[tb]) (htb : P.underlying tb = some .bool)
  (hts : ∀ t ∈ f.params.toList, P.readableRec t = true ∧ t < P.types.size) :
  s.post enc P f false true false false W args (.bool true) W' := by
 have hlt : ∀ p ∈ before, p.block < W.heap.size := fun p hp => hW.lt p hp
 have hW' := hW
 obtain ⟨p, q, hA, hV, rfl, hz, hn⟩ := hW
 rw [hvars] at hV
 have hq : q = [] := by
  cases gs with
  | nil => exact hV
  | cons g r => exact absurd hV (by intro h; cases h)
 subst hq
 refine ⟨ds, gs, _, [], p, [], hW', ?_, ?_, ?_, hb.frame _, fun h => by cases h⟩
 ·rw [hfn, hres]
  exact trodAll_mk1 (shut_bool htb true)
 ·rw [hfn]
  exact args_stay hl hb hts hA (fun x hx => hlt x (by simp [hx])) (fun x hx => by simpa using hlt x (by simp [hx]))
 ·rw [hfn, hvars]
  rfl
end
theorem block_lt {W : World} {a : Addr} {v : Value} (h : W.cell? a = some v) : a.block < W.heap.size := by
 rcases Nat.lt_or_ge a.block W.heap.size with h1 | h1
 ·exact h1
 ·have h2 : W.heap[a.block]? = none := Array.getElem?_eq_none h1
  simp [World.cell?, h2] at h
section
variable {H : Type} {enc : TypeId × Value → H} {P : Program} {W : World}
theorem open_sl {t e : TypeId} {k : IntKind} (ht : P.underlying t = some (.slice e)) (he : P.underlying e = some (.int k)) (hc : P.cellsOf e = 1) {r : Reach} {b0 : Nat} {v : Value} {d : DataW H} {ps : List MemPlace}
  (hval : Value.okWide P W r b0 t v) (h : DataW.Trod enc P W 0 (fun _ => true) true t v d ps) :
  ∃ (A : Option Addr) (n c : Nat) (zs : List Int), v = .slice A n c ∧ zs.length = n ∧ n ≤ c ∧ c ≤ maxLen ∧ Sl W W.heap.size A (zs.map (Value.int k)) ∧ ∀ z ∈ zs, (Lit.int k z).wf = true := by
 obtain ⟨a0, n, c, rfl⟩ := okWide_slice ht hval
 obtain ⟨fuel, hf⟩ := h
 rcases Go.ChangeShapes.open_ints ht he hc hf with ⟨hcs, _⟩ | ⟨a, len, cap, zs, hcs, _, hle, hmx, hall, _, hcell, hwf⟩
 ·have e1 : (Value.slice a0 n c) = .slice none 0 0 := (List.cons.inj (show [Value.slice a0 n c] = _ from hcs)).1
  injection e1 with h1 h2 h3
  subst h1 h2 h3
  exact ⟨none, 0, 0, [], rfl, rfl, Nat.le_refl _, Nat.zero_le _, Sl.nil _ _ _, fun z hz => by cases hz⟩
 ·have e1 : (Value.slice a0 n c) = .slice (some a) len cap := (List.cons.inj (show [Value.slice a0 n c] = _ from hcs)).1
  injection e1 with h1 h2 h3
  subst h1 h2 h3
  have hz : zs.length = c := by simpa using hall
  refine ⟨some a, n, c, zs.take n, rfl, by rw [List.length_take]; omega, hle, hmx, fun hn => ?_, fun z hz => hwf z (List.mem_of_mem_take hz)⟩
  rw [List.length_map, List.length_take] at hn
  refine ⟨a, rfl, ?_, fun j u hu => ?_⟩
  ·have h0 := hcell 0 (by omega)
   have := block_lt h0
   rwa [add_block] at this
  ·rw [List.getElem?_map, List.getElem?_take] at hu
   by_cases hj : j < n
   ·rw [if_pos hj, List.getElem?_eq_getElem (by omega)] at hu
    rw [hcell j (by omega), List.getD_eq_getElem?_getD, List.getElem?_eq_getElem (by omega)]
    exact hu
   ·rw [if_neg hj] at hu
    cases hu
end
end Go.Proofs.YtenokdhldngkgaaGreatDoor
namespace Go.Proofs.YtenokdhldngkgaaGreatDoor
open Go.ChangeShapes Go.WideShapes Go.ChangeAt Go.RowKit Go.Joins
set_option linter.unusedVariables false
section
variable {H : Type} {enc : TypeId × Value → H} {P : Program} {W : World} {q : IntKind}
theorem open_code {t e : TypeId} {f0 f1 f2 f3 : Field} (ht : P.underlying t = some (.struct #[f0, f1, f2, f3])) (t0 : f0.type = e) (t1 : f1.type = e) (t2 : f2.type = e) (t3 : f3.type = e) (o0 : f0.offset = 0) (o1 : f1.offset = 1) (o2 : f2.offset = 2) (o3 : f3.offset = 3) (hct : P.cellsOf t = 4) (he : P.underlying e = some (.int q)) (hc : P.cellsOf e = 1) {r : Reach} {b0 : Nat} {v : Value} {d : DataW H} {ps : List MemPlace}
  (hval : Value.okWide P W r b0 t v) (h : DataW.Trod enc P W 0 (fun _ => true) true t v d ps) :
  ∃ a b c k : Int, v = .agg #[.int q a, .int q b, .int q c, .int q k] ∧ (Lit.int q a).wf = true ∧ (Lit.int q b).wf = true ∧ (Lit.int q c).wf = true ∧ (Lit.int q k).wf = true := by
 obtain ⟨cs, rfl, hsz⟩ := okWide_struct ht hval
 rw [hct] at hsz
 obtain ⟨fuel, hf⟩ := h
 obtain ⟨y0, y1, y2, y3, m, _, hl, h0, h1, h2, h3⟩ := trod_struct4 ht hf
 obtain ⟨u0, u1, u2, u3, rfl⟩ : ∃ u0 u1 u2 u3, cs = #[u0, u1, u2, u3] := by
  obtain ⟨l⟩ := cs
  match l, hsz with
  | [u0, u1, u2, u3], _ => exact ⟨u0, u1, u2, u3, rfl⟩
 rw [o0, t0, hc] at h0
 rw [o1, t1, hc] at h1
 rw [o2, t2, hc] at h2
 rw [o3, t3, hc] at h3
 obtain ⟨a, ea, _, wa⟩ := DataW.trod_int he (show DataW.trod enc P W 0 (fun _ => true) true m e [u0] = some y0 from h0)
 obtain ⟨b, eb, _, wb⟩ := DataW.trod_int he (show DataW.trod enc P W 0 (fun _ => true) true m e [u1] = some y1 from h1)
 obtain ⟨c, ec, _, wc⟩ := DataW.trod_int he (show DataW.trod enc P W 0 (fun _ => true) true m e [u2] = some y2 from h2)
 obtain ⟨k, ek, _, wk⟩ := DataW.trod_int he (show DataW.trod enc P W 0 (fun _ => true) true m e [u3] = some y3 from h3)
 obtain rfl : u0 = .int q a := (List.cons.inj ea).1
 obtain rfl : u1 = .int q b := (List.cons.inj eb).1
 obtain rfl : u2 = .int q c := (List.cons.inj ec).1
 obtain rfl : u3 = .int q k := (List.cons.inj ek).1
 exact ⟨a, b, c, k, rfl, wa, wb, wc, wk⟩
end
end Go.Proofs.YtenokdhldngkgaaGreatDoor
