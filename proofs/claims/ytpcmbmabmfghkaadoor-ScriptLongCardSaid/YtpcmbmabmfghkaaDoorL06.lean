/- ScM -/
import Derived.Test.YtpcmbmabmfghkaaDoorL05
namespace Go.Proofs.YtpcmbmabmfghkaaDoor
open Go.RowKit
set_option linter.unusedVariables false
set_option maxRecDepth 100000
theorem VMap.alloc {Ld : Nat → Bool} {b : Nat} {W : World} (h : VMap Ld b W) (o : Obj) : VMap Ld b (W.alloc o) := by
  obtain ⟨es, clock, hb, hr⟩ := h
  exact ⟨es, clock, by rw [(MapKept.heap_alloc W o).2 b (Array.getElem?_eq_some_iff.1 hb).1]; exact hb, hr⟩
theorem lookup_write {b : Nat} {W : World} (h : VMap (fun _ => true) b W) :
    (Instr.lookup 77 (.map (some b)) (.int .i64 2) false).run Tryd.prog W = .ok (.string ⟨#[119, 114, 105, 116, 101]⟩) W := by
  obtain ⟨es, clock, hb, hs, hx, hy⟩ := h
  obtain ⟨kt, et, d, hm, hd, rfl⟩ := underVM
  have hkey : MapKept.IsKey (.int .i64) (.int .i64 2) := rfl
  have hks : ∀ x ∈ es.toList, MapKept.IsKey (.int .i64) x.key := fun x h => by
    obtain ⟨j, _, _, e, _⟩ := hx x h
    rw [e]; rfl
  obtain ⟨x1, hx1, hk1⟩ := hy 1 (by decide) rfl
  rcases MapKept.findNow_spec hkey es.toList 0 hks with ⟨h1, h2⟩ | ⟨j, e, h1, h2, h3⟩
  · exact absurd hk1 (h2 x1 hx1)
  · have he : e.val = .string ⟨#[119, 114, 105, 116, 101]⟩ := by
      obtain ⟨i, hi, -, hkx, hv⟩ := hx e (List.mem_of_getElem? h2)
      rw [hkx] at h3
      injection h3 with _ h4
      have : i = 1 := by omega
      subst this
      exact hv
    simp [Instr.lookup, run_underlying hm, MapKept.run_getObj_map hb, MapKept.run_checkKey hd hkey, MapKept.run_findKey hd h1, Result.andThen]
    exact he
structure OaK (w0 : World) (ob db c : Nat) (Ld : Nat → Bool) (u0 u1 u2 u3 u4 u5 u6 u7 u8 u9 u10 : Value) (W : World) : Prop where
  ow : ∃ l : List Rw, Ow w0 W none [] [] ((⟨some ⟨ob, 0, none⟩, 6, 6, 29, [.int .i64 2, .int .i64 1, .int .i64 0, .int .i64 3, .int .i64 0, .slice (some ⟨db, 0, none⟩) 2 c]⟩ : Rw) :: (⟨some ⟨(ob + 1), 0, none⟩, 3, 3, 69, [.string ⟨#[]⟩, .slice none 0 0, .string ⟨#[]⟩]⟩ : Rw) :: l) ∧ (Ld 8 = false → Ld 10 = false → l = []) ∧ (Ld 8 = true → ∃ lb : Nat, u8 = .slice (some ⟨lb, 0, none⟩) 2 2 ∧ (Ld 10 = false → l = [(⟨some ⟨lb, 0, none⟩, 2, 2, 3, [.int .i64 1, .int .i64 0]⟩ : Rw)]) ∧ (Ld 10 = true → ∃ b : Nat, u10 = .pointer (some ⟨b, 0, none⟩) ∧ l = [(⟨some ⟨lb, 0, none⟩, 2, 2, 3, [.int .i64 1, .int .i64 0]⟩ : Rw), (⟨some ⟨b, 0, none⟩, 3, 3, 69, (cond (Ld 11) [.string ⟨#[119, 114, 105, 116, 101]⟩, .slice (some ⟨lb, 0, none⟩) 2 2, .string ⟨#[]⟩] [.string ⟨#[]⟩, .slice none 0 0, .string ⟨#[]⟩])⟩ : Rw)])) ∧ (Ld 8 = false → Ld 10 = true → ∃ b : Nat, u10 = .pointer (some ⟨b, 0, none⟩) ∧ l = [(⟨some ⟨b, 0, none⟩, 3, 3, 69, [.string ⟨#[]⟩, .slice none 0 0, .string ⟨#[]⟩]⟩ : Rw)])
  vm : Ld 0 = true → Ld 3 = false → ∃ nb : Nat, u0 = .map (some nb) ∧ VMap (fun _ => true) nb W
  h1 : Ld 1 = true → u1 = .pointer (some ⟨ob, 0, none⟩)
  h2 : Ld 2 = true → u2 = .int .i64 2
  h3 : Ld 3 = true → u3 = .string ⟨#[119, 114, 105, 116, 101]⟩
  h4 : Ld 4 = true → u4 = .pointer (some ⟨ob, 1, none⟩)
  h5 : Ld 5 = true → u5 = .int .i64 1
  h6 : Ld 6 = true → u6 = .pointer (some ⟨ob, 2, none⟩)
  h7 : Ld 7 = true → u7 = .int .i64 0
  h9 : Ld 9 = true → u9 = .agg #[.string ⟨#[119, 114, 105, 116, 101]⟩, u8, .string ⟨#[]⟩]
def OaI (w0 : World) (ob db c : Nat) (A0 : Act) (Ld : Nat → Bool) (a : Act) (W : World) : Prop :=
  ∃ (u0 u1 u2 u3 u4 u5 u6 u7 u8 u9 u10 : Value), a = (((((((((((A0.put (some 4) u0).put (some 5) u1).put (some 6) u2).put (some 7) u3).put (some 8) u4).put (some 9) u5).put (some 10) u6).put (some 11) u7).put (some 12) u8).put (some 13) u9).put (some 3) u10) ∧ OaK w0 ob db c Ld u0 u1 u2 u3 u4 u5 u6 u7 u8 u9 u10 W
structure ObK (w0 : World) (ob db c lb b : Nat) (Ld : Nat → Bool) (u0 u1 u2 u3 u4 u5 u6 u7 u8 u9 u11 : Value) (W : World) : Prop where
  ow : ∃ l : List Rw, Ow w0 W none [] [] ((⟨some ⟨ob, 0, none⟩, 6, 6, 29, [.int .i64 2, .int .i64 1, .int .i64 0, .int .i64 3, .int .i64 0, .slice (some ⟨db, 0, none⟩) 2 c]⟩ : Rw) :: (⟨some ⟨(ob + 1), 0, none⟩, 3, 3, 69, [.string ⟨#[]⟩, .slice none 0 0, .string ⟨#[]⟩]⟩ : Rw) :: (⟨some ⟨b, 0, none⟩, 3, 3, 69, [.string ⟨#[119, 114, 105, 116, 101]⟩, cond (Ld 10) u5 (.slice (some ⟨lb, 0, none⟩) 2 2), cond (Ld 12) (.string ⟨#[48, 48, 102, 102]⟩) (.string ⟨#[]⟩)]⟩ : Rw) :: l) ∧ (Ld 4 = false → l = [(⟨some ⟨lb, 0, none⟩, 2, 2, 3, [.int .i64 1, .int .i64 0]⟩ : Rw)]) ∧ (Ld 4 = true → Ld 5 = false → ∃ lq : Nat, u4 = .slice (some ⟨lq, 0, none⟩) 1 1 ∧ l = [(⟨some ⟨lb, 0, none⟩, 2, 2, 3, [.int .i64 1, .int .i64 0]⟩ : Rw), (⟨some ⟨lq, 0, none⟩, 1, 1, 3, [.int .i64 3]⟩ : Rw)]) ∧ (Ld 5 = true → ∃ (A2 : Option Addr) (c2 : Nat), u5 = .slice A2 3 c2 ∧ l = [(⟨A2, 3, c2, 3, [.int .i64 1, .int .i64 0, .int .i64 3]⟩ : Rw)])
  h0 : Ld 0 = true → u0 = .pointer (some ⟨b, 1, none⟩)
  h1 : Ld 1 = true → u1 = .slice (some ⟨lb, 0, none⟩) 2 2
  h2 : Ld 2 = true → u2 = .pointer (some ⟨ob, 3, none⟩)
  h3 : Ld 3 = true → u3 = .int .i64 3
  h6 : Ld 6 = true → u6 = .pointer (some ⟨ob, 5, none⟩)
  h7 : Ld 7 = true → u7 = .slice (some ⟨db, 0, none⟩) 2 c
  h8 : Ld 8 = true → u8 = .string ⟨#[48, 48, 102, 102]⟩
  h9 : Ld 9 = true → u9 = .pointer (some ⟨b, 1, none⟩)
  h11 : Ld 11 = true → u11 = .pointer (some ⟨b, 2, none⟩)
def ObI (w0 : World) (ob db c lb b : Nat) (A0 : Act) (Ld : Nat → Bool) (a : Act) (W : World) : Prop :=
  ∃ (u0 u1 u2 u3 u4 u5 u6 u7 u8 u9 u11 : Value), a = (((((((((((A0.put (some 27) u0).put (some 28) u1).put (some 29) u2).put (some 30) u3).put (some 31) u4).put (some 32) u5).put (some 33) u6).put (some 34) u7).put (some 35) u8).put (some 36) u9).put (some 37) u11) ∧ ObK w0 ob db c lb b Ld u0 u1 u2 u3 u4 u5 u6 u7 u8 u9 u11 W
set_option maxHeartbeats 4000000 in
theorem operation_two (w : World) (db c : Nat) (hdb : db < w.heap.size) (c0 : w.cell? ⟨db, 0, none⟩ = some (.int .u8 0)) (c1 : w.cell? ⟨db, 1, none⟩ = some (.int .u8 255)) :
    Calls Tryd.prog 41 #[.agg #[.int .i64 2, .int .i64 1, .int .i64 0, .int .i64 3, .int .i64 0, .slice (some ⟨db, 0, none⟩) 2 c]] w fun e w' => ∃ (A2 : Option Addr) (c2 : Nat), e = .returned (.agg #[.string ⟨#[119, 114, 105, 116, 101]⟩, .slice A2 3 c2, .string ⟨#[48, 48, 102, 102]⟩]) ∧ Below w.heap.size w w' ∧ w'.ownsRow w.heap.size 3 1 (.slice A2 3 c2) 3 [.int .i64 1, .int .i64 0, .int .i64 3] := by
  have H0 := ((Ow.of (St.refl w)).arr #[.int .i64 2, .int .i64 1, .int .i64 0, .int .i64 3, .int .i64 0, .slice (some ⟨db, 0, none⟩) 2 c] 6 rfl (by omega) 29).arr #[.string ⟨#[]⟩, .slice none 0 0, .string ⟨#[]⟩] 3 rfl (by omega) 69
  simp only [World.size_alloc, List.cons_append, List.nil_append] at H0
  have HO0 := Lib.hid H0
  have HD := Lib.hid hdb
  clear H0 hdb
  go_enter Tryd.func41, Tryd.ntmps41
  go_wp2_with fail
  refine reg_inv34 (OaI w w.heap.size db c) (by kernel_rfl) (by kernel_rfl) ?_ ?_ ?_
  · refine ⟨undef, undef, undef, undef, undef, undef, undef, undef, undef, undef, undef, ?_, ⟨⟨_, HO0.out.drew, (fun _ _ => rfl), (fun h => by cases h), (fun _ h => by cases h)⟩, (fun h => by cases h), ?_, ?_, ?_, ?_, ?_, ?_, ?_, ?_⟩⟩
    · simp only [Act.put, List.setIfInBounds_toArray, List.set_cons_zero, List.set_cons_succ]
    all_goals (intro h; cases h)
  · rintro jj Ld b W hj hf hcl hd ⟨u0, u1, u2, u3, u4, u5, u6, u7, u8, u9, u10, rfl, hC⟩
    have hj' : jj < 12 := hj
    have hcase : jj = 0 ∨ jj = 1 ∨ jj = 2 ∨ jj = 3 ∨ jj = 4 ∨ jj = 5 ∨ jj = 6 ∨ jj = 7 ∨ jj = 8 ∨ jj = 9 ∨ jj = 10 ∨ jj = 11 := by omega
    clear hj hj'
    simp only [Act.put, List.setIfInBounds_toArray, List.set_cons_zero, List.set_cons_succ]
    rcases hcase with rfl | rfl | rfl | rfl | rfl | rfl | rfl | rfl | rfl | rfl | rfl | rfl
    · obtain ⟨l, how, h0, h1, h2⟩ := hC.ow
      have h3 : Ld 3 = false := cl_no hcl hf (by kernel_rfl)
      clear hd hcl
      refine wpOp_step rfl (fun K hK => ?_)
      go_simp
      refine (verbs_any W).mono ?_
      rintro e W2 ⟨nb, rfl, -, hv, hb⟩
      refine hK _ _ ⟨_, u1, u2, u3, u4, u5, u6, u7, u8, u9, u10, ?_, ⟨⟨l, how.go hb, h0, h1, h2⟩, fun _ _ => ⟨nb, rfl, hv⟩, hC.h1, hC.h2, hC.h3, hC.h4, hC.h5, hC.h6, hC.h7, hC.h9⟩⟩
      (simp only [Act.put, List.setIfInBounds_toArray, List.set_cons_zero, List.set_cons_succ]) <;> rfl
    · clear hd hcl
      refine wpOp_step rfl (fun K hK => ?_)
      go_simp
      refine hK _ _ ⟨u0, _, u2, u3, u4, u5, u6, u7, u8, u9, u10, ?_, ⟨hC.ow, hC.vm, fun _ => rfl, hC.h2, hC.h3, hC.h4, hC.h5, hC.h6, hC.h7, hC.h9⟩⟩
      (simp only [Act.put, List.setIfInBounds_toArray, List.set_cons_zero, List.set_cons_succ]) <;> rfl
    · obtain rfl := hC.h1 (hd 1 (by kernel_rfl))
      obtain ⟨l, how, -, -, -⟩ := hC.ow
      have yy : W.cell? ⟨w.heap.size, 0, none⟩ = some (.int .i64 2) := (how.row 0 rfl).cellAt 0 (by decide)
      clear hd hcl
      refine wpOp_step rfl (fun K hK => ?_)
      go_simp
      refine hK _ _ ⟨u0, (.pointer (some ⟨w.heap.size, 0, none⟩)), _, u3, u4, u5, u6, u7, u8, u9, u10, ?_, ⟨hC.ow, hC.vm, hC.h1, fun _ => rfl, hC.h3, hC.h4, hC.h5, hC.h6, hC.h7, hC.h9⟩⟩
      (simp only [Act.put, List.setIfInBounds_toArray, List.set_cons_zero, List.set_cons_succ]) <;> rfl
    · obtain rfl := hC.h2 (hd 2 (by kernel_rfl))
      obtain ⟨nb, rfl, hv⟩ := hC.vm (hd 0 (by kernel_rfl)) hf
      have hlk := lookup_write hv
      clear hd hcl
      refine wpOp_step rfl (fun K hK => ?_)
      go_simp
      refine hK _ _ ⟨(.map (some nb)), u1, (.int .i64 2), _, u4, u5, u6, u7, u8, u9, u10, ?_, ⟨hC.ow, (fun _ h => by cases h), hC.h1, hC.h2, fun _ => rfl, hC.h4, hC.h5, hC.h6, hC.h7, hC.h9⟩⟩
      (simp only [Act.put, List.setIfInBounds_toArray, List.set_cons_zero, List.set_cons_succ]) <;> rfl
    · clear hd hcl
      refine wpOp_step rfl (fun K hK => ?_)
      go_simp
      refine hK _ _ ⟨u0, u1, u2, u3, _, u5, u6, u7, u8, u9, u10, ?_, ⟨hC.ow, hC.vm, hC.h1, hC.h2, hC.h3, fun _ => rfl, hC.h5, hC.h6, hC.h7, hC.h9⟩⟩
      (simp only [Act.put, List.setIfInBounds_toArray, List.set_cons_zero, List.set_cons_succ]) <;> rfl
    · obtain rfl := hC.h4 (hd 4 (by kernel_rfl))
      obtain ⟨l, how, -, -, -⟩ := hC.ow
      have yy : W.cell? ⟨w.heap.size, 1, none⟩ = some (.int .i64 1) := (how.row 0 rfl).cellAt 1 (by decide)
      clear hd hcl
      refine wpOp_step rfl (fun K hK => ?_)
      go_simp
      refine hK _ _ ⟨u0, u1, u2, u3, (.pointer (some ⟨w.heap.size, 1, none⟩)), _, u6, u7, u8, u9, u10, ?_, ⟨hC.ow, hC.vm, hC.h1, hC.h2, hC.h3, hC.h4, fun _ => rfl, hC.h6, hC.h7, hC.h9⟩⟩
      (simp only [Act.put, List.setIfInBounds_toArray, List.set_cons_zero, List.set_cons_succ]) <;> rfl
    · clear hd hcl
      refine wpOp_step rfl (fun K hK => ?_)
      go_simp
      refine hK _ _ ⟨u0, u1, u2, u3, u4, u5, _, u7, u8, u9, u10, ?_, ⟨hC.ow, hC.vm, hC.h1, hC.h2, hC.h3, hC.h4, hC.h5, fun _ => rfl, hC.h7, hC.h9⟩⟩
      (simp only [Act.put, List.setIfInBounds_toArray, List.set_cons_zero, List.set_cons_succ]) <;> rfl
    · obtain rfl := hC.h6 (hd 6 (by kernel_rfl))
      obtain ⟨l, how, -, -, -⟩ := hC.ow
      have yy : W.cell? ⟨w.heap.size, 2, none⟩ = some (.int .i64 0) := (how.row 0 rfl).cellAt 2 (by decide)
      clear hd hcl
      refine wpOp_step rfl (fun K hK => ?_)
      go_simp
      refine hK _ _ ⟨u0, u1, u2, u3, u4, u5, (.pointer (some ⟨w.heap.size, 2, none⟩)), _, u8, u9, u10, ?_, ⟨hC.ow, hC.vm, hC.h1, hC.h2, hC.h3, hC.h4, hC.h5, hC.h6, fun _ => rfl, hC.h9⟩⟩
      (simp only [Act.put, List.setIfInBounds_toArray, List.set_cons_zero, List.set_cons_succ]) <;> rfl
    · obtain rfl := hC.h5 (hd 5 (by kernel_rfl))
      obtain rfl := hC.h7 (hd 7 (by kernel_rfl))
      obtain ⟨l, how, h0, h1, h2⟩ := hC.ow
      have h9 : Ld 9 = false := cl_no hcl hf (by kernel_rfl)
      have hh : Ld 11 = false := cl_no hcl h9 (by kernel_rfl)
      clear hd hcl
      refine wpOp_step rfl (fun K hK => ?_)
      go_simp
      cases h10 : Ld 10 with
      | false =>
        obtain rfl := h0 hf h10
        have ho := how.arr #[.int .i64 1, .int .i64 0] 2 rfl (by omega) 3
        simp only [List.cons_append, List.nil_append] at ho
        refine hK _ _ ⟨u0, u1, u2, u3, u4, (.int .i64 1), u6, (.int .i64 0), _, u9, u10, ?_, ⟨⟨_, ho, (fun h => by cases h), (fun _ => ⟨_, rfl, (fun _ => rfl), (fun h => absurd (h10.symm.trans h) (by decide))⟩), (fun h => by cases h)⟩, (fun h h' => by obtain ⟨nb, e, hv⟩ := hC.vm h h'; exact ⟨nb, e, hv.alloc _⟩), hC.h1, hC.h2, hC.h3, hC.h4, hC.h5, hC.h6, hC.h7, (fun h => absurd (h9.symm.trans h) (by decide))⟩⟩
        (simp only [Act.put, List.setIfInBounds_toArray, List.set_cons_zero, List.set_cons_succ]) <;> rfl
      | true =>
        obtain ⟨b, rfl, rfl⟩ := h2 hf h10
        have ho := (how.arr #[.int .i64 1, .int .i64 0] 2 rfl (by omega) 3).re (O' := [(⟨some ⟨w.heap.size, 0, none⟩, 6, 6, 29, [.int .i64 2, .int .i64 1, .int .i64 0, .int .i64 3, .int .i64 0, .slice (some ⟨db, 0, none⟩) 2 c]⟩ : Rw), (⟨some ⟨(w.heap.size + 1), 0, none⟩, 3, 3, 69, [.string ⟨#[]⟩, .slice none 0 0, .string ⟨#[]⟩]⟩ : Rw), (⟨some ⟨W.heap.size, 0, none⟩, 2, 2, 3, [.int .i64 1, .int .i64 0]⟩ : Rw), (⟨some ⟨b, 0, none⟩, 3, 3, 69, [.string ⟨#[]⟩, .slice none 0 0, .string ⟨#[]⟩]⟩ : Rw)]) (fun i => if i = 2 then 3 else if i = 3 then 2 else i) (fun i j hi hj e => by split at e <;> split at e <;> (try split at e) <;> (try split at e) <;> omega) (fun i r hr => by
          rcases i with _ | _ | _ | _ | i
          · exact hr
          · exact hr
          · exact hr
          · exact hr
          · cases hr)
        refine hK _ _ ⟨u0, u1, u2, u3, u4, (.int .i64 1), u6, (.int .i64 0), _, u9, (.pointer (some ⟨b, 0, none⟩)), ?_, ⟨⟨_, ho, (fun h => by cases h), (fun _ => ⟨_, rfl, (fun h => absurd (h10.symm.trans h) (by decide)), (fun _ => ⟨b, rfl, (by rw [show dset Ld 8 11 = false from hh]; rfl)⟩)⟩), (fun h => by cases h)⟩, (fun h h' => by obtain ⟨nb, e, hv⟩ := hC.vm h h'; exact ⟨nb, e, hv.alloc _⟩), hC.h1, hC.h2, hC.h3, hC.h4, hC.h5, hC.h6, hC.h7, (fun h => absurd (h9.symm.trans h) (by decide))⟩⟩
        (simp only [Act.put, List.setIfInBounds_toArray, List.set_cons_zero, List.set_cons_succ]) <;> rfl
    · obtain rfl := hC.h3 (hd 3 (by kernel_rfl))
      have e8 := hd 8 (by kernel_rfl)
      obtain ⟨l, how, h0, h1, h2⟩ := hC.ow
      obtain ⟨lb, rfl, h3, h4⟩ := h1 e8
      clear hd hcl
      refine wpOp_step rfl (fun K hK => ?_)
      go_simp
      refine hK _ _ ⟨u0, u1, u2, (.string ⟨#[119, 114, 105, 116, 101]⟩), u4, u5, u6, u7, (.slice (some ⟨lb, 0, none⟩) 2 2), _, u10, ?_, ⟨⟨l, how, (fun h => absurd (e8.symm.trans h) (by decide)), (fun _ => ⟨lb, rfl, h3, h4⟩), (fun h => absurd (e8.symm.trans h) (by decide))⟩, hC.vm, hC.h1, hC.h2, hC.h3, hC.h4, hC.h5, hC.h6, hC.h7, fun _ => rfl⟩⟩
      (simp only [Act.put, List.setIfInBounds_toArray, List.set_cons_zero, List.set_cons_succ]) <;> rfl
    · obtain ⟨l, how, h0, h1, h2⟩ := hC.ow
      have hh : Ld 11 = false := cl_no hcl hf (by kernel_rfl)
      clear hd hcl
      refine wpOp_step rfl (fun K hK => ?_)
      go_simp
      cases h8 : Ld 8 with
      | false =>
        obtain rfl := h0 h8 hf
        have ho := how.arr #[.string ⟨#[]⟩, .slice none 0 0, .string ⟨#[]⟩] 3 rfl (by omega) 69
        simp only [List.cons_append, List.nil_append] at ho
        refine hK _ _ ⟨u0, u1, u2, u3, u4, u5, u6, u7, u8, u9, _, ?_, ⟨⟨_, ho, (fun _ h => by cases h), (fun h => absurd (h8.symm.trans h) (by decide)), (fun _ _ => ⟨_, rfl, rfl⟩)⟩, (fun h h' => by obtain ⟨nb, e, hv⟩ := hC.vm h h'; exact ⟨nb, e, hv.alloc _⟩), hC.h1, hC.h2, hC.h3, hC.h4, hC.h5, hC.h6, hC.h7, hC.h9⟩⟩
        (simp only [Act.put, List.setIfInBounds_toArray, List.set_cons_zero, List.set_cons_succ]) <;> rfl
      | true =>
        obtain ⟨lb, rfl, h3, -⟩ := h1 h8
        obtain rfl := h3 hf
        have ho := how.arr #[.string ⟨#[]⟩, .slice none 0 0, .string ⟨#[]⟩] 3 rfl (by omega) 69
        simp only [List.cons_append, List.nil_append] at ho
        refine hK _ _ ⟨u0, u1, u2, u3, u4, u5, u6, u7, (.slice (some ⟨lb, 0, none⟩) 2 2), u9, _, ?_, ⟨⟨_, ho, (fun h => absurd (h8.symm.trans h) (by decide)), (fun _ => ⟨lb, rfl, (fun h => by cases h), (fun _ => ⟨_, rfl, (by rw [show dset Ld 10 11 = false from hh]; rfl)⟩)⟩), (fun h => absurd (h8.symm.trans h) (by decide))⟩, (fun h h' => by obtain ⟨nb, e, hv⟩ := hC.vm h h'; exact ⟨nb, e, hv.alloc _⟩), hC.h1, hC.h2, hC.h3, hC.h4, hC.h5, hC.h6, hC.h7, hC.h9⟩⟩
        (simp only [Act.put, List.setIfInBounds_toArray, List.set_cons_zero, List.set_cons_succ]) <;> rfl
    · have h9 := hC.h9 (hd 9 (by kernel_rfl))
      have e3 := hcl 9 3 (hd 9 (by kernel_rfl)) (by kernel_rfl)
      have e8 := hcl 9 8 (hd 9 (by kernel_rfl)) (by kernel_rfl)
      have e10 := hd 10 (by kernel_rfl)
      obtain ⟨l, how, h0, h1, h2⟩ := hC.ow
      obtain ⟨lb, rfl, -, h4⟩ := h1 e8
      obtain ⟨b, rfl, rfl⟩ := h4 e10
      subst h9
      rw [hf] at how
      simp only [cond_false] at how
      have hg := (how.rowHeap 3 rfl).1
      have ho := how.putRow (k := 3) 3 rfl #[.string ⟨#[119, 114, 105, 116, 101]⟩, .slice (some ⟨lb, 0, none⟩) 2 2, .string ⟨#[]⟩] rfl (by omega)
      simp only [List.set_cons_zero, List.set_cons_succ] at ho
      clear hd hcl
      refine wpOp_step rfl (fun K hK => ?_)
      rw [if_pos (by rfl)]
      refine wp_store_row 69 (.tmp 3) (.tmp 13) rfl b #[.string ⟨#[119, 114, 105, 116, 101]⟩, .slice (some ⟨lb, 0, none⟩) 2 2, .string ⟨#[]⟩] rfl rfl 69 _ hg sizeWd rfl (by simp [Value.oneCell']) ?_
      refine hK _ _ ⟨u0, u1, u2, u3, u4, u5, u6, u7, (.slice (some ⟨lb, 0, none⟩) 2 2), (.agg #[.string ⟨#[119, 114, 105, 116, 101]⟩, .slice (some ⟨lb, 0, none⟩) 2 2, .string ⟨#[]⟩]), (.pointer (some ⟨b, 0, none⟩)), ?_, ⟨⟨_, ho, (fun h => absurd (e8.symm.trans h) (by decide)), (fun _ => ⟨lb, rfl, (fun h => absurd (e10.symm.trans h) (by decide)), (fun _ => ⟨b, rfl, rfl⟩)⟩), (fun h => absurd (e8.symm.trans h) (by decide))⟩, (fun _ h => absurd (e3.symm.trans h) (by decide)), hC.h1, hC.h2, hC.h3, hC.h4, hC.h5, hC.h6, hC.h7, hC.h9⟩⟩
      (simp only [Act.put, List.setIfInBounds_toArray, List.set_cons_zero, List.set_cons_succ]) <;> rfl
  · rintro Ld b W hL ⟨u0, u1, u2, u3, u4, u5, u6, u7, u8, u9, u10, rfl, hC⟩
    obtain ⟨l, how, -, h1, -⟩ := hC.ow
    obtain ⟨lb, rfl, -, h4⟩ := h1 (hL 8 (by show 8 < 12; decide))
    obtain ⟨b, rfl, rfl⟩ := h4 (hL 10 (by show 10 < 12; decide))
    rw [hL 11 (by show 11 < 12; decide)] at how
    simp only [cond_true] at how
    have HO1 := Lib.hid (how.re (O' := [(⟨some ⟨w.heap.size, 0, none⟩, 6, 6, 29, [.int .i64 2, .int .i64 1, .int .i64 0, .int .i64 3, .int .i64 0, .slice (some ⟨db, 0, none⟩) 2 c]⟩ : Rw), (⟨some ⟨(w.heap.size + 1), 0, none⟩, 3, 3, 69, [.string ⟨#[]⟩, .slice none 0 0, .string ⟨#[]⟩]⟩ : Rw), (⟨some ⟨b, 0, none⟩, 3, 3, 69, [.string ⟨#[119, 114, 105, 116, 101]⟩, .slice (some ⟨lb, 0, none⟩) 2 2, .string ⟨#[]⟩]⟩ : Rw), (⟨some ⟨lb, 0, none⟩, 2, 2, 3, [.int .i64 1, .int .i64 0]⟩ : Rw)]) (fun i => if i = 2 then 3 else if i = 3 then 2 else i) (fun i j hi hj e => by split at e <;> split at e <;> (try split at e) <;> (try split at e) <;> omega) (fun i r hr => by
      rcases i with _ | _ | _ | _ | i
      · exact hr
      · exact hr
      · exact hr
      · exact hr
      · cases hr))
    have yk : W.cell? ⟨w.heap.size, 0, none⟩ = some (.int .i64 2) := (how.row 0 rfl).cellAt 0 (by decide)
    clear hC hL how h1 h4
    simp only [Act.put, List.setIfInBounds_toArray, List.set_cons_zero, List.set_cons_succ]
    go_upto_region 6 with (with_reducible refine upon_id ?_; go_simp)
    refine reg_inv34 (ObI w w.heap.size db c lb b) (by kernel_rfl) (by kernel_rfl) ?_ ?_ ?_
    · refine ⟨undef, undef, undef, undef, undef, undef, undef, undef, undef, undef, undef, ?_, ⟨⟨_, HO1.out.drew, (fun _ => rfl), (fun h => by cases h), (fun h => by cases h)⟩, ?_, ?_, ?_, ?_, ?_, ?_, ?_, ?_, ?_⟩⟩
      · simp only [Act.put, List.setIfInBounds_toArray, List.set_cons_zero, List.set_cons_succ]
      all_goals (intro h; cases h)
    · rintro jj Ld b W hj hf hcl hd ⟨u0, u1, u2, u3, u4, u5, u6, u7, u8, u9, u11, rfl, hC⟩
      have hj' : jj < 13 := hj
      have hcase : jj = 0 ∨ jj = 1 ∨ jj = 2 ∨ jj = 3 ∨ jj = 4 ∨ jj = 5 ∨ jj = 6 ∨ jj = 7 ∨ jj = 8 ∨ jj = 9 ∨ jj = 10 ∨ jj = 11 ∨ jj = 12 := by omega
      clear hj hj'
      simp only [Act.put, List.setIfInBounds_toArray, List.set_cons_zero, List.set_cons_succ]
      rcases hcase with rfl | rfl | rfl | rfl | rfl | rfl | rfl | rfl | rfl | rfl | rfl | rfl | rfl
      · clear hd hcl
        refine wpOp_step rfl (fun K hK => ?_)
        go_simp
        refine hK _ _ ⟨_, u1, u2, u3, u4, u5, u6, u7, u8, u9, u11, ?_, ⟨hC.ow, fun _ => rfl, hC.h1, hC.h2, hC.h3, hC.h6, hC.h7, hC.h8, hC.h9, hC.h11⟩⟩
        (simp only [Act.put, List.setIfInBounds_toArray, List.set_cons_zero, List.set_cons_succ]) <;> rfl
      · obtain rfl := hC.h0 (hd 0 (by kernel_rfl))
        have h5 : Ld 5 = false := cl_no hcl hf (by kernel_rfl)
        have h10 : Ld 10 = false := cl_no hcl h5 (by kernel_rfl)
        obtain ⟨l, how, -, -, -⟩ := hC.ow
        rw [h10] at how
        have yy : W.cell? ⟨b, 1, none⟩ = some (.slice (some ⟨lb, 0, none⟩) 2 2) := (how.row 2 rfl).cellAt 1 (by decide)
        clear hd hcl
        refine wpOp_step rfl (fun K hK => ?_)
        go_simp
        refine hK _ _ ⟨_, _, u2, u3, u4, u5, u6, u7, u8, u9, u11, ?_, ⟨hC.ow, hC.h0, fun _ => rfl, hC.h2, hC.h3, hC.h6, hC.h7, hC.h8, hC.h9, hC.h11⟩⟩
        (simp only [Act.put, List.setIfInBounds_toArray, List.set_cons_zero, List.set_cons_succ]) <;> rfl
      · clear hd hcl
        refine wpOp_step rfl (fun K hK => ?_)
        go_simp
        refine hK _ _ ⟨u0, u1, _, u3, u4, u5, u6, u7, u8, u9, u11, ?_, ⟨hC.ow, hC.h0, hC.h1, fun _ => rfl, hC.h3, hC.h6, hC.h7, hC.h8, hC.h9, hC.h11⟩⟩
        (simp only [Act.put, List.setIfInBounds_toArray, List.set_cons_zero, List.set_cons_succ]) <;> rfl
      · obtain rfl := hC.h2 (hd 2 (by kernel_rfl))
        obtain ⟨l, how, -, -, -⟩ := hC.ow
        have yy : W.cell? ⟨w.heap.size, 3, none⟩ = some (.int .i64 3) := (how.row 0 rfl).cellAt 3 (by decide)
        clear hd hcl
        refine wpOp_step rfl (fun K hK => ?_)
        go_simp
        refine hK _ _ ⟨u0, u1, _, _, u4, u5, u6, u7, u8, u9, u11, ?_, ⟨hC.ow, hC.h0, hC.h1, hC.h2, fun _ => rfl, hC.h6, hC.h7, hC.h8, hC.h9, hC.h11⟩⟩
        (simp only [Act.put, List.setIfInBounds_toArray, List.set_cons_zero, List.set_cons_succ]) <;> rfl
      · obtain rfl := hC.h3 (hd 3 (by kernel_rfl))
        obtain ⟨l, how, h0, h1, h2⟩ := hC.ow
        obtain rfl := h0 hf
        have h8 : Ld 5 = false := cl_no hcl hf (by kernel_rfl)
        have ho := how.arr #[.int .i64 3] 1 rfl (by omega) 3
        simp only [List.cons_append, List.nil_append] at ho
        clear hd hcl
        refine wpOp_step rfl (fun K hK => ?_)
        go_simp
        refine hK _ _ ⟨u0, u1, u2, _, _, u5, u6, u7, u8, u9, u11, ?_, ⟨⟨_, ho, (fun h => by cases h), (fun _ _ => ⟨_, rfl, rfl⟩), (fun h => absurd (h8.symm.trans h) (by decide))⟩, hC.h0, hC.h1, hC.h2, hC.h3, hC.h6, hC.h7, hC.h8, hC.h9, hC.h11⟩⟩
        (simp only [Act.put, List.setIfInBounds_toArray, List.set_cons_zero, List.set_cons_succ]) <;> rfl
      · obtain rfl := hC.h1 (hd 1 (by kernel_rfl))
        obtain ⟨l, how, h0, h1, h2⟩ := hC.ow
        have hl7 := hd 4 (by kernel_rfl)
        obtain ⟨lq, rfl, rfl⟩ := h1 hl7 hf
        have hq : Ld 10 = false := cl_no hcl hf (by kernel_rfl)
        rw [hq] at how
        have hsl := Sl.of_own (how.row 4 rfl)
        clear hd hcl
        refine wpOp_step rfl (fun K hK => ?_)
        rw [if_pos (by rfl)]
        refine owp_append elemI how 3 (.tmp 28) (.tmp 31) (m := 1) rfl rfl hsl (by intro u hu; simp at hu; subst hu; rfl) (by unfold maxLen; omega) (by omega) rfl rfl rfl ?_
        intro A2 c2 W2 hv
        have hv2 := hv.few 4
        refine hK _ _ ⟨u0, (.slice (some ⟨lb, 0, none⟩) 2 2), u2, u3, (.slice (some ⟨lq, 0, none⟩) 1 1), (.slice A2 3 c2), u6, u7, u8, u9, u11, ?_, ⟨⟨_, (by rw [show dset Ld 5 10 = false from hq]; exact hv2), (fun h => absurd (hl7.symm.trans h) (by decide)), (fun _ h => by cases h), (fun _ => ⟨A2, c2, rfl, rfl⟩)⟩, hC.h0, hC.h1, hC.h2, hC.h3, hC.h6, hC.h7, hC.h8, hC.h9, hC.h11⟩⟩
        (simp only [Act.put, List.setIfInBounds_toArray, List.set_cons_zero, List.set_cons_succ]) <;> rfl
      · clear hd hcl
        refine wpOp_step rfl (fun K hK => ?_)
        go_simp
        refine hK _ _ ⟨u0, u1, u2, u3, u4, u5, _, u7, u8, u9, u11, ?_, ⟨hC.ow, hC.h0, hC.h1, hC.h2, hC.h3, fun _ => rfl, hC.h7, hC.h8, hC.h9, hC.h11⟩⟩
        (simp only [Act.put, List.setIfInBounds_toArray, List.set_cons_zero, List.set_cons_succ]) <;> rfl
      · obtain rfl := hC.h6 (hd 6 (by kernel_rfl))
        obtain ⟨l, how, -, -, -⟩ := hC.ow
        have yy : W.cell? ⟨w.heap.size, 5, none⟩ = some (.slice (some ⟨db, 0, none⟩) 2 c) := (how.row 0 rfl).cellAt 5 (by decide)
        clear hd hcl
        refine wpOp_step rfl (fun K hK => ?_)
        go_simp
        refine hK _ _ ⟨u0, u1, u2, u3, u4, u5, _, _, u8, u9, u11, ?_, ⟨hC.ow, hC.h0, hC.h1, hC.h2, hC.h3, hC.h6, fun _ => rfl, hC.h8, hC.h9, hC.h11⟩⟩
        (simp only [Act.put, List.setIfInBounds_toArray, List.set_cons_zero, List.set_cons_succ]) <;> rfl
      · obtain rfl := hC.h7 (hd 7 (by kernel_rfl))
        obtain ⟨l, how, h0, h1, h2⟩ := hC.ow
        have cc0 := (how.below.cell HD.out).trans c0
        have cc1 := (how.below.cell HD.out).trans c1
        have hdw := Nat.lt_of_lt_of_le HD.out how.size
        clear hd hcl
        refine wpOp_step rfl (fun K hK => ?_)
        go_simp
        refine (text_two W db c hdw cc0 cc1).mono ?_
        rintro e W' ⟨rfl, hb⟩
        refine hK _ _ ⟨u0, u1, u2, u3, u4, u5, u6, _, _, u9, u11, ?_, ⟨⟨_, how.go hb, h0, h1, h2⟩, hC.h0, hC.h1, hC.h2, hC.h3, hC.h6, hC.h7, fun _ => rfl, hC.h9, hC.h11⟩⟩
        (simp only [Act.put, List.setIfInBounds_toArray, List.set_cons_zero, List.set_cons_succ]) <;> rfl
      · clear hd hcl
        refine wpOp_step rfl (fun K hK => ?_)
        go_simp
        refine hK _ _ ⟨u0, u1, u2, u3, u4, u5, u6, u7, u8, _, u11, ?_, ⟨hC.ow, hC.h0, hC.h1, hC.h2, hC.h3, hC.h6, hC.h7, hC.h8, fun _ => rfl, hC.h11⟩⟩
        (simp only [Act.put, List.setIfInBounds_toArray, List.set_cons_zero, List.set_cons_succ]) <;> rfl
      · obtain rfl := hC.h9 (hd 9 (by kernel_rfl))
        obtain ⟨l, how, h0, h1, h2⟩ := hC.ow
        have ha := hd 5 (by kernel_rfl)
        obtain ⟨A2, c2, rfl, rfl⟩ := h2 ha
        have hl7 := hcl 5 4 ha (by kernel_rfl)
        rw [hf] at how
        simp only [cond_false] at how
        have fr := how.thaw 2 rfl 1
        have yy := (how.row 2 rfl).cellAt 1 (by decide)
        have ho := how.put 2 rfl 1 (.slice A2 3 c2)
        simp only [List.set_cons_zero, List.set_cons_succ] at ho
        clear hd hcl
        refine wpOp_step rfl (fun K hK => ?_)
        go_simp
        refine hK _ _ ⟨u0, u1, u2, u3, u4, (.slice A2 3 c2), u6, u7, u8, (.pointer (some ⟨b, 1, none⟩)), u11, ?_, ⟨⟨_, ho, (fun h => absurd (hl7.symm.trans h) (by decide)), (fun _ h => absurd (ha.symm.trans h) (by decide)), (fun _ => ⟨A2, c2, rfl, rfl⟩)⟩, hC.h0, hC.h1, hC.h2, hC.h3, hC.h6, hC.h7, hC.h8, hC.h9, hC.h11⟩⟩
        (simp only [Act.put, List.setIfInBounds_toArray, List.set_cons_zero, List.set_cons_succ]) <;> rfl
      · clear hd hcl
        refine wpOp_step rfl (fun K hK => ?_)
        go_simp
        refine hK _ _ ⟨u0, u1, u2, u3, u4, u5, u6, u7, u8, u9, _, ?_, ⟨hC.ow, hC.h0, hC.h1, hC.h2, hC.h3, hC.h6, hC.h7, hC.h8, hC.h9, fun _ => rfl⟩⟩
        (simp only [Act.put, List.setIfInBounds_toArray, List.set_cons_zero, List.set_cons_succ]) <;> rfl
      · obtain rfl := hC.h11 (hd 11 (by kernel_rfl))
        obtain rfl := hC.h8 (hd 8 (by kernel_rfl))
        obtain ⟨l, how, h0, h1, h2⟩ := hC.ow
        rw [hf] at how
        simp only [cond_false] at how
        have fr := how.thaw 2 rfl 2
        have yy := (how.row 2 rfl).cellAt 2 (by decide)
        have ho := how.put 2 rfl 2 (.string ⟨#[48, 48, 102, 102]⟩)
        simp only [List.set_cons_zero, List.set_cons_succ] at ho
        clear hd hcl
        refine wpOp_step rfl (fun K hK => ?_)
        go_simp
        refine hK _ _ ⟨u0, u1, u2, u3, u4, u5, u6, u7, (.string ⟨#[48, 48, 102, 102]⟩), u9, (.pointer (some ⟨b, 2, none⟩)), ?_, ⟨⟨_, ho, h0, h1, h2⟩, hC.h0, hC.h1, hC.h2, hC.h3, hC.h6, hC.h7, hC.h8, hC.h9, hC.h11⟩⟩
        (simp only [Act.put, List.setIfInBounds_toArray, List.set_cons_zero, List.set_cons_succ]) <;> rfl
    · rintro Ld b W hL ⟨u0, u1, u2, u3, u4, u5, u6, u7, u8, u9, u11, rfl, hC⟩
      obtain ⟨l, how, -, -, h2⟩ := hC.ow
      obtain ⟨A2, c2, rfl, rfl⟩ := h2 (hL 5 (by show 5 < 13; decide))
      rw [hL 10 (by show 10 < 13; decide), hL 12 (by show 12 < 13; decide)] at how
      simp only [cond_true] at how
      have hg3 := (how.rowHeap 2 rfl).1
      have hg2 := (how.rowHeap 1 rfl).1
      have hp := how.putRow (k := 3) 1 rfl #[.string ⟨#[119, 114, 105, 116, 101]⟩, .slice A2 3 c2, .string ⟨#[48, 48, 102, 102]⟩] rfl (by omega)
      simp only [List.set_cons_zero, List.set_cons_succ] at hp
      have l3 := run_loadVar_row (P := Tryd.prog) _ (w.heap.size + 1) 69 69 #[.string ⟨#[119, 114, 105, 116, 101]⟩, .slice A2 3 c2, .string ⟨#[48, 48, 102, 102]⟩] (0, 0) _ (hp.rowHeap 1 rfl).1 Tryd.underlying69 rfl sizeWd
      have HE := Lib.hid hp
      have G3 := Lib.hid hg3
      have G2 := Lib.hid hg2
      have has : ∀ (ad : Addr) (W : World), (asAddr (.pointer (some ad))).run Tryd.prog W = .ok ad W := fun _ _ => rfl
      clear hC hL how h2 hp hg3 hg2 HO1 yk
      simp only [Act.put, List.setIfInBounds_toArray, List.set_cons_zero, List.set_cons_succ]
      go_upto_region 9 with (with_reducible refine upon_id ?_; go_simp)
      repeat (first | refine wpList_load_row rfl 69 (.tmp 3) rfl b rfl 69 #[.string ⟨#[119, 114, 105, 116, 101]⟩, .slice A2 3 c2, .string ⟨#[48, 48, 102, 102]⟩] (0, 0) _ G3.out Tryd.underlying69 rfl sizeWd ?_ | refine wpList_store_row rfl 69 (.tmp 2) (.tmp 46) rfl (w.heap.size + 1) #[.string ⟨#[119, 114, 105, 116, 101]⟩, .slice A2 3 c2, .string ⟨#[48, 48, 102, 102]⟩] rfl rfl 69 _ G2.out sizeWd rfl (by simp [Value.oneCell']) ?_ | go_step)
      go_wp2_with fail
      refine bodyPost_ret (v := .agg #[.string ⟨#[119, 114, 105, 116, 101]⟩, .slice A2 3 c2, .string ⟨#[48, 48, 102, 102]⟩]) (by simp [results, Tryd.results41, asAddr, l3, Act.put]) rfl ?_
      exact ⟨A2, c2, rfl, HE.out.below, HE.out.row 3 rfl⟩
structure OcK (w0 : World) (ob db c : Nat) (Ld : Nat → Bool) (u0 u1 u2 u3 u4 u5 u6 u7 u8 u9 u10 : Value) (W : World) : Prop where
  ow : ∃ l : List Rw, Ow w0 W none [] [] ((⟨some ⟨ob, 0, none⟩, 6, 6, 29, [.int .i64 2, .int .i64 1, .int .i64 0, .int .i64 3, .int .i64 0, .slice (some ⟨db, 0, none⟩) 1 c]⟩ : Rw) :: (⟨some ⟨(ob + 1), 0, none⟩, 3, 3, 69, [.string ⟨#[]⟩, .slice none 0 0, .string ⟨#[]⟩]⟩ : Rw) :: l) ∧ (Ld 8 = false → Ld 10 = false → l = []) ∧ (Ld 8 = true → ∃ lb : Nat, u8 = .slice (some ⟨lb, 0, none⟩) 2 2 ∧ (Ld 10 = false → l = [(⟨some ⟨lb, 0, none⟩, 2, 2, 3, [.int .i64 1, .int .i64 0]⟩ : Rw)]) ∧ (Ld 10 = true → ∃ b : Nat, u10 = .pointer (some ⟨b, 0, none⟩) ∧ l = [(⟨some ⟨lb, 0, none⟩, 2, 2, 3, [.int .i64 1, .int .i64 0]⟩ : Rw), (⟨some ⟨b, 0, none⟩, 3, 3, 69, (cond (Ld 11) [.string ⟨#[119, 114, 105, 116, 101]⟩, .slice (some ⟨lb, 0, none⟩) 2 2, .string ⟨#[]⟩] [.string ⟨#[]⟩, .slice none 0 0, .string ⟨#[]⟩])⟩ : Rw)])) ∧ (Ld 8 = false → Ld 10 = true → ∃ b : Nat, u10 = .pointer (some ⟨b, 0, none⟩) ∧ l = [(⟨some ⟨b, 0, none⟩, 3, 3, 69, [.string ⟨#[]⟩, .slice none 0 0, .string ⟨#[]⟩]⟩ : Rw)])
  vm : Ld 0 = true → Ld 3 = false → ∃ nb : Nat, u0 = .map (some nb) ∧ VMap (fun _ => true) nb W
  h1 : Ld 1 = true → u1 = .pointer (some ⟨ob, 0, none⟩)
  h2 : Ld 2 = true → u2 = .int .i64 2
  h3 : Ld 3 = true → u3 = .string ⟨#[119, 114, 105, 116, 101]⟩
  h4 : Ld 4 = true → u4 = .pointer (some ⟨ob, 1, none⟩)
  h5 : Ld 5 = true → u5 = .int .i64 1
  h6 : Ld 6 = true → u6 = .pointer (some ⟨ob, 2, none⟩)
  h7 : Ld 7 = true → u7 = .int .i64 0
  h9 : Ld 9 = true → u9 = .agg #[.string ⟨#[119, 114, 105, 116, 101]⟩, u8, .string ⟨#[]⟩]
def OcI (w0 : World) (ob db c : Nat) (A0 : Act) (Ld : Nat → Bool) (a : Act) (W : World) : Prop :=
  ∃ (u0 u1 u2 u3 u4 u5 u6 u7 u8 u9 u10 : Value), a = (((((((((((A0.put (some 4) u0).put (some 5) u1).put (some 6) u2).put (some 7) u3).put (some 8) u4).put (some 9) u5).put (some 10) u6).put (some 11) u7).put (some 12) u8).put (some 13) u9).put (some 3) u10) ∧ OcK w0 ob db c Ld u0 u1 u2 u3 u4 u5 u6 u7 u8 u9 u10 W
structure OdK (w0 : World) (ob db c lb b : Nat) (Ld : Nat → Bool) (u0 u1 u2 u3 u4 u5 u6 u7 u8 u9 u11 : Value) (W : World) : Prop where
  ow : ∃ l : List Rw, Ow w0 W none [] [] ((⟨some ⟨ob, 0, none⟩, 6, 6, 29, [.int .i64 2, .int .i64 1, .int .i64 0, .int .i64 3, .int .i64 0, .slice (some ⟨db, 0, none⟩) 1 c]⟩ : Rw) :: (⟨some ⟨(ob + 1), 0, none⟩, 3, 3, 69, [.string ⟨#[]⟩, .slice none 0 0, .string ⟨#[]⟩]⟩ : Rw) :: (⟨some ⟨b, 0, none⟩, 3, 3, 69, [.string ⟨#[119, 114, 105, 116, 101]⟩, cond (Ld 10) u5 (.slice (some ⟨lb, 0, none⟩) 2 2), cond (Ld 12) (.string ⟨#[48, 48]⟩) (.string ⟨#[]⟩)]⟩ : Rw) :: l) ∧ (Ld 4 = false → l = [(⟨some ⟨lb, 0, none⟩, 2, 2, 3, [.int .i64 1, .int .i64 0]⟩ : Rw)]) ∧ (Ld 4 = true → Ld 5 = false → ∃ lq : Nat, u4 = .slice (some ⟨lq, 0, none⟩) 1 1 ∧ l = [(⟨some ⟨lb, 0, none⟩, 2, 2, 3, [.int .i64 1, .int .i64 0]⟩ : Rw), (⟨some ⟨lq, 0, none⟩, 1, 1, 3, [.int .i64 3]⟩ : Rw)]) ∧ (Ld 5 = true → ∃ (A2 : Option Addr) (c2 : Nat), u5 = .slice A2 3 c2 ∧ l = [(⟨A2, 3, c2, 3, [.int .i64 1, .int .i64 0, .int .i64 3]⟩ : Rw)])
  h0 : Ld 0 = true → u0 = .pointer (some ⟨b, 1, none⟩)
  h1 : Ld 1 = true → u1 = .slice (some ⟨lb, 0, none⟩) 2 2
  h2 : Ld 2 = true → u2 = .pointer (some ⟨ob, 3, none⟩)
  h3 : Ld 3 = true → u3 = .int .i64 3
  h6 : Ld 6 = true → u6 = .pointer (some ⟨ob, 5, none⟩)
  h7 : Ld 7 = true → u7 = .slice (some ⟨db, 0, none⟩) 1 c
  h8 : Ld 8 = true → u8 = .string ⟨#[48, 48]⟩
  h9 : Ld 9 = true → u9 = .pointer (some ⟨b, 1, none⟩)
  h11 : Ld 11 = true → u11 = .pointer (some ⟨b, 2, none⟩)
def OdI (w0 : World) (ob db c lb b : Nat) (A0 : Act) (Ld : Nat → Bool) (a : Act) (W : World) : Prop :=
  ∃ (u0 u1 u2 u3 u4 u5 u6 u7 u8 u9 u11 : Value), a = (((((((((((A0.put (some 27) u0).put (some 28) u1).put (some 29) u2).put (some 30) u3).put (some 31) u4).put (some 32) u5).put (some 33) u6).put (some 34) u7).put (some 35) u8).put (some 36) u9).put (some 37) u11) ∧ OdK w0 ob db c lb b Ld u0 u1 u2 u3 u4 u5 u6 u7 u8 u9 u11 W
set_option maxHeartbeats 4000000 in
theorem operation_one (w : World) (db c : Nat) (hdb : db < w.heap.size) (c0 : w.cell? ⟨db, 0, none⟩ = some (.int .u8 0)) :
    Calls Tryd.prog 41 #[.agg #[.int .i64 2, .int .i64 1, .int .i64 0, .int .i64 3, .int .i64 0, .slice (some ⟨db, 0, none⟩) 1 c]] w fun e w' => ∃ (A2 : Option Addr) (c2 : Nat), e = .returned (.agg #[.string ⟨#[119, 114, 105, 116, 101]⟩, .slice A2 3 c2, .string ⟨#[48, 48]⟩]) ∧ Below w.heap.size w w' ∧ w'.ownsRow w.heap.size 3 1 (.slice A2 3 c2) 3 [.int .i64 1, .int .i64 0, .int .i64 3] := by
  have H0 := ((Ow.of (St.refl w)).arr #[.int .i64 2, .int .i64 1, .int .i64 0, .int .i64 3, .int .i64 0, .slice (some ⟨db, 0, none⟩) 1 c] 6 rfl (by omega) 29).arr #[.string ⟨#[]⟩, .slice none 0 0, .string ⟨#[]⟩] 3 rfl (by omega) 69
  simp only [World.size_alloc, List.cons_append, List.nil_append] at H0
  have HO0 := Lib.hid H0
  have HD := Lib.hid hdb
  clear H0 hdb
  go_enter Tryd.func41, Tryd.ntmps41
  go_wp2_with fail
  refine reg_inv34 (OcI w w.heap.size db c) (by kernel_rfl) (by kernel_rfl) ?_ ?_ ?_
  · refine ⟨undef, undef, undef, undef, undef, undef, undef, undef, undef, undef, undef, ?_, ⟨⟨_, HO0.out.drew, (fun _ _ => rfl), (fun h => by cases h), (fun _ h => by cases h)⟩, (fun h => by cases h), ?_, ?_, ?_, ?_, ?_, ?_, ?_, ?_⟩⟩
    · simp only [Act.put, List.setIfInBounds_toArray, List.set_cons_zero, List.set_cons_succ]
    all_goals (intro h; cases h)
  · rintro jj Ld b W hj hf hcl hd ⟨u0, u1, u2, u3, u4, u5, u6, u7, u8, u9, u10, rfl, hC⟩
    have hj' : jj < 12 := hj
    have hcase : jj = 0 ∨ jj = 1 ∨ jj = 2 ∨ jj = 3 ∨ jj = 4 ∨ jj = 5 ∨ jj = 6 ∨ jj = 7 ∨ jj = 8 ∨ jj = 9 ∨ jj = 10 ∨ jj = 11 := by omega
    clear hj hj'
    simp only [Act.put, List.setIfInBounds_toArray, List.set_cons_zero, List.set_cons_succ]
    rcases hcase with rfl | rfl | rfl | rfl | rfl | rfl | rfl | rfl | rfl | rfl | rfl | rfl
    · obtain ⟨l, how, h0, h1, h2⟩ := hC.ow
      have h3 : Ld 3 = false := cl_no hcl hf (by kernel_rfl)
      clear hd hcl
      refine wpOp_step rfl (fun K hK => ?_)
      go_simp
      refine (verbs_any W).mono ?_
      rintro e W2 ⟨nb, rfl, -, hv, hb⟩
      refine hK _ _ ⟨_, u1, u2, u3, u4, u5, u6, u7, u8, u9, u10, ?_, ⟨⟨l, how.go hb, h0, h1, h2⟩, fun _ _ => ⟨nb, rfl, hv⟩, hC.h1, hC.h2, hC.h3, hC.h4, hC.h5, hC.h6, hC.h7, hC.h9⟩⟩
      (simp only [Act.put, List.setIfInBounds_toArray, List.set_cons_zero, List.set_cons_succ]) <;> rfl
    · clear hd hcl
      refine wpOp_step rfl (fun K hK => ?_)
      go_simp
      refine hK _ _ ⟨u0, _, u2, u3, u4, u5, u6, u7, u8, u9, u10, ?_, ⟨hC.ow, hC.vm, fun _ => rfl, hC.h2, hC.h3, hC.h4, hC.h5, hC.h6, hC.h7, hC.h9⟩⟩
      (simp only [Act.put, List.setIfInBounds_toArray, List.set_cons_zero, List.set_cons_succ]) <;> rfl
    · obtain rfl := hC.h1 (hd 1 (by kernel_rfl))
      obtain ⟨l, how, -, -, -⟩ := hC.ow
      have yy : W.cell? ⟨w.heap.size, 0, none⟩ = some (.int .i64 2) := (how.row 0 rfl).cellAt 0 (by decide)
      clear hd hcl
      refine wpOp_step rfl (fun K hK => ?_)
      go_simp
      refine hK _ _ ⟨u0, (.pointer (some ⟨w.heap.size, 0, none⟩)), _, u3, u4, u5, u6, u7, u8, u9, u10, ?_, ⟨hC.ow, hC.vm, hC.h1, fun _ => rfl, hC.h3, hC.h4, hC.h5, hC.h6, hC.h7, hC.h9⟩⟩
      (simp only [Act.put, List.setIfInBounds_toArray, List.set_cons_zero, List.set_cons_succ]) <;> rfl
    · obtain rfl := hC.h2 (hd 2 (by kernel_rfl))
      obtain ⟨nb, rfl, hv⟩ := hC.vm (hd 0 (by kernel_rfl)) hf
      have hlk := lookup_write hv
      clear hd hcl
      refine wpOp_step rfl (fun K hK => ?_)
      go_simp
      refine hK _ _ ⟨(.map (some nb)), u1, (.int .i64 2), _, u4, u5, u6, u7, u8, u9, u10, ?_, ⟨hC.ow, (fun _ h => by cases h), hC.h1, hC.h2, fun _ => rfl, hC.h4, hC.h5, hC.h6, hC.h7, hC.h9⟩⟩
      (simp only [Act.put, List.setIfInBounds_toArray, List.set_cons_zero, List.set_cons_succ]) <;> rfl
    · clear hd hcl
      refine wpOp_step rfl (fun K hK => ?_)
      go_simp
      refine hK _ _ ⟨u0, u1, u2, u3, _, u5, u6, u7, u8, u9, u10, ?_, ⟨hC.ow, hC.vm, hC.h1, hC.h2, hC.h3, fun _ => rfl, hC.h5, hC.h6, hC.h7, hC.h9⟩⟩
      (simp only [Act.put, List.setIfInBounds_toArray, List.set_cons_zero, List.set_cons_succ]) <;> rfl
    · obtain rfl := hC.h4 (hd 4 (by kernel_rfl))
      obtain ⟨l, how, -, -, -⟩ := hC.ow
      have yy : W.cell? ⟨w.heap.size, 1, none⟩ = some (.int .i64 1) := (how.row 0 rfl).cellAt 1 (by decide)
      clear hd hcl
      refine wpOp_step rfl (fun K hK => ?_)
      go_simp
      refine hK _ _ ⟨u0, u1, u2, u3, (.pointer (some ⟨w.heap.size, 1, none⟩)), _, u6, u7, u8, u9, u10, ?_, ⟨hC.ow, hC.vm, hC.h1, hC.h2, hC.h3, hC.h4, fun _ => rfl, hC.h6, hC.h7, hC.h9⟩⟩
      (simp only [Act.put, List.setIfInBounds_toArray, List.set_cons_zero, List.set_cons_succ]) <;> rfl
    · clear hd hcl
      refine wpOp_step rfl (fun K hK => ?_)
      go_simp
      refine hK _ _ ⟨u0, u1, u2, u3, u4, u5, _, u7, u8, u9, u10, ?_, ⟨hC.ow, hC.vm, hC.h1, hC.h2, hC.h3, hC.h4, hC.h5, fun _ => rfl, hC.h7, hC.h9⟩⟩
      (simp only [Act.put, List.setIfInBounds_toArray, List.set_cons_zero, List.set_cons_succ]) <;> rfl
    · obtain rfl := hC.h6 (hd 6 (by kernel_rfl))
      obtain ⟨l, how, -, -, -⟩ := hC.ow
      have yy : W.cell? ⟨w.heap.size, 2, none⟩ = some (.int .i64 0) := (how.row 0 rfl).cellAt 2 (by decide)
      clear hd hcl
      refine wpOp_step rfl (fun K hK => ?_)
      go_simp
      refine hK _ _ ⟨u0, u1, u2, u3, u4, u5, (.pointer (some ⟨w.heap.size, 2, none⟩)), _, u8, u9, u10, ?_, ⟨hC.ow, hC.vm, hC.h1, hC.h2, hC.h3, hC.h4, hC.h5, hC.h6, fun _ => rfl, hC.h9⟩⟩
      (simp only [Act.put, List.setIfInBounds_toArray, List.set_cons_zero, List.set_cons_succ]) <;> rfl
    · obtain rfl := hC.h5 (hd 5 (by kernel_rfl))
      obtain rfl := hC.h7 (hd 7 (by kernel_rfl))
      obtain ⟨l, how, h0, h1, h2⟩ := hC.ow
      have h9 : Ld 9 = false := cl_no hcl hf (by kernel_rfl)
      have hh : Ld 11 = false := cl_no hcl h9 (by kernel_rfl)
      clear hd hcl
      refine wpOp_step rfl (fun K hK => ?_)
      go_simp
      cases h10 : Ld 10 with
      | false =>
        obtain rfl := h0 hf h10
        have ho := how.arr #[.int .i64 1, .int .i64 0] 2 rfl (by omega) 3
        simp only [List.cons_append, List.nil_append] at ho
        refine hK _ _ ⟨u0, u1, u2, u3, u4, (.int .i64 1), u6, (.int .i64 0), _, u9, u10, ?_, ⟨⟨_, ho, (fun h => by cases h), (fun _ => ⟨_, rfl, (fun _ => rfl), (fun h => absurd (h10.symm.trans h) (by decide))⟩), (fun h => by cases h)⟩, (fun h h' => by obtain ⟨nb, e, hv⟩ := hC.vm h h'; exact ⟨nb, e, hv.alloc _⟩), hC.h1, hC.h2, hC.h3, hC.h4, hC.h5, hC.h6, hC.h7, (fun h => absurd (h9.symm.trans h) (by decide))⟩⟩
        (simp only [Act.put, List.setIfInBounds_toArray, List.set_cons_zero, List.set_cons_succ]) <;> rfl
      | true =>
        obtain ⟨b, rfl, rfl⟩ := h2 hf h10
        have ho := (how.arr #[.int .i64 1, .int .i64 0] 2 rfl (by omega) 3).re (O' := [(⟨some ⟨w.heap.size, 0, none⟩, 6, 6, 29, [.int .i64 2, .int .i64 1, .int .i64 0, .int .i64 3, .int .i64 0, .slice (some ⟨db, 0, none⟩) 1 c]⟩ : Rw), (⟨some ⟨(w.heap.size + 1), 0, none⟩, 3, 3, 69, [.string ⟨#[]⟩, .slice none 0 0, .string ⟨#[]⟩]⟩ : Rw), (⟨some ⟨W.heap.size, 0, none⟩, 2, 2, 3, [.int .i64 1, .int .i64 0]⟩ : Rw), (⟨some ⟨b, 0, none⟩, 3, 3, 69, [.string ⟨#[]⟩, .slice none 0 0, .string ⟨#[]⟩]⟩ : Rw)]) (fun i => if i = 2 then 3 else if i = 3 then 2 else i) (fun i j hi hj e => by split at e <;> split at e <;> (try split at e) <;> (try split at e) <;> omega) (fun i r hr => by
          rcases i with _ | _ | _ | _ | i
          · exact hr
          · exact hr
          · exact hr
          · exact hr
          · cases hr)
        refine hK _ _ ⟨u0, u1, u2, u3, u4, (.int .i64 1), u6, (.int .i64 0), _, u9, (.pointer (some ⟨b, 0, none⟩)), ?_, ⟨⟨_, ho, (fun h => by cases h), (fun _ => ⟨_, rfl, (fun h => absurd (h10.symm.trans h) (by decide)), (fun _ => ⟨b, rfl, (by rw [show dset Ld 8 11 = false from hh]; rfl)⟩)⟩), (fun h => by cases h)⟩, (fun h h' => by obtain ⟨nb, e, hv⟩ := hC.vm h h'; exact ⟨nb, e, hv.alloc _⟩), hC.h1, hC.h2, hC.h3, hC.h4, hC.h5, hC.h6, hC.h7, (fun h => absurd (h9.symm.trans h) (by decide))⟩⟩
        (simp only [Act.put, List.setIfInBounds_toArray, List.set_cons_zero, List.set_cons_succ]) <;> rfl
    · obtain rfl := hC.h3 (hd 3 (by kernel_rfl))
      have e8 := hd 8 (by kernel_rfl)
      obtain ⟨l, how, h0, h1, h2⟩ := hC.ow
      obtain ⟨lb, rfl, h3, h4⟩ := h1 e8
      clear hd hcl
      refine wpOp_step rfl (fun K hK => ?_)
      go_simp
      refine hK _ _ ⟨u0, u1, u2, (.string ⟨#[119, 114, 105, 116, 101]⟩), u4, u5, u6, u7, (.slice (some ⟨lb, 0, none⟩) 2 2), _, u10, ?_, ⟨⟨l, how, (fun h => absurd (e8.symm.trans h) (by decide)), (fun _ => ⟨lb, rfl, h3, h4⟩), (fun h => absurd (e8.symm.trans h) (by decide))⟩, hC.vm, hC.h1, hC.h2, hC.h3, hC.h4, hC.h5, hC.h6, hC.h7, fun _ => rfl⟩⟩
      (simp only [Act.put, List.setIfInBounds_toArray, List.set_cons_zero, List.set_cons_succ]) <;> rfl
    · obtain ⟨l, how, h0, h1, h2⟩ := hC.ow
      have hh : Ld 11 = false := cl_no hcl hf (by kernel_rfl)
      clear hd hcl
      refine wpOp_step rfl (fun K hK => ?_)
      go_simp
      cases h8 : Ld 8 with
      | false =>
        obtain rfl := h0 h8 hf
        have ho := how.arr #[.string ⟨#[]⟩, .slice none 0 0, .string ⟨#[]⟩] 3 rfl (by omega) 69
        simp only [List.cons_append, List.nil_append] at ho
        refine hK _ _ ⟨u0, u1, u2, u3, u4, u5, u6, u7, u8, u9, _, ?_, ⟨⟨_, ho, (fun _ h => by cases h), (fun h => absurd (h8.symm.trans h) (by decide)), (fun _ _ => ⟨_, rfl, rfl⟩)⟩, (fun h h' => by obtain ⟨nb, e, hv⟩ := hC.vm h h'; exact ⟨nb, e, hv.alloc _⟩), hC.h1, hC.h2, hC.h3, hC.h4, hC.h5, hC.h6, hC.h7, hC.h9⟩⟩
        (simp only [Act.put, List.setIfInBounds_toArray, List.set_cons_zero, List.set_cons_succ]) <;> rfl
      | true =>
        obtain ⟨lb, rfl, h3, -⟩ := h1 h8
        obtain rfl := h3 hf
        have ho := how.arr #[.string ⟨#[]⟩, .slice none 0 0, .string ⟨#[]⟩] 3 rfl (by omega) 69
        simp only [List.cons_append, List.nil_append] at ho
        refine hK _ _ ⟨u0, u1, u2, u3, u4, u5, u6, u7, (.slice (some ⟨lb, 0, none⟩) 2 2), u9, _, ?_, ⟨⟨_, ho, (fun h => absurd (h8.symm.trans h) (by decide)), (fun _ => ⟨lb, rfl, (fun h => by cases h), (fun _ => ⟨_, rfl, (by rw [show dset Ld 10 11 = false from hh]; rfl)⟩)⟩), (fun h => absurd (h8.symm.trans h) (by decide))⟩, (fun h h' => by obtain ⟨nb, e, hv⟩ := hC.vm h h'; exact ⟨nb, e, hv.alloc _⟩), hC.h1, hC.h2, hC.h3, hC.h4, hC.h5, hC.h6, hC.h7, hC.h9⟩⟩
        (simp only [Act.put, List.setIfInBounds_toArray, List.set_cons_zero, List.set_cons_succ]) <;> rfl
    · have h9 := hC.h9 (hd 9 (by kernel_rfl))
      have e3 := hcl 9 3 (hd 9 (by kernel_rfl)) (by kernel_rfl)
      have e8 := hcl 9 8 (hd 9 (by kernel_rfl)) (by kernel_rfl)
      have e10 := hd 10 (by kernel_rfl)
      obtain ⟨l, how, h0, h1, h2⟩ := hC.ow
      obtain ⟨lb, rfl, -, h4⟩ := h1 e8
      obtain ⟨b, rfl, rfl⟩ := h4 e10
      subst h9
      rw [hf] at how
      simp only [cond_false] at how
      have hg := (how.rowHeap 3 rfl).1
      have ho := how.putRow (k := 3) 3 rfl #[.string ⟨#[119, 114, 105, 116, 101]⟩, .slice (some ⟨lb, 0, none⟩) 2 2, .string ⟨#[]⟩] rfl (by omega)
      simp only [List.set_cons_zero, List.set_cons_succ] at ho
      clear hd hcl
      refine wpOp_step rfl (fun K hK => ?_)
      rw [if_pos (by rfl)]
      refine wp_store_row 69 (.tmp 3) (.tmp 13) rfl b #[.string ⟨#[119, 114, 105, 116, 101]⟩, .slice (some ⟨lb, 0, none⟩) 2 2, .string ⟨#[]⟩] rfl rfl 69 _ hg sizeWd rfl (by simp [Value.oneCell']) ?_
      refine hK _ _ ⟨u0, u1, u2, u3, u4, u5, u6, u7, (.slice (some ⟨lb, 0, none⟩) 2 2), (.agg #[.string ⟨#[119, 114, 105, 116, 101]⟩, .slice (some ⟨lb, 0, none⟩) 2 2, .string ⟨#[]⟩]), (.pointer (some ⟨b, 0, none⟩)), ?_, ⟨⟨_, ho, (fun h => absurd (e8.symm.trans h) (by decide)), (fun _ => ⟨lb, rfl, (fun h => absurd (e10.symm.trans h) (by decide)), (fun _ => ⟨b, rfl, rfl⟩)⟩), (fun h => absurd (e8.symm.trans h) (by decide))⟩, (fun _ h => absurd (e3.symm.trans h) (by decide)), hC.h1, hC.h2, hC.h3, hC.h4, hC.h5, hC.h6, hC.h7, hC.h9⟩⟩
      (simp only [Act.put, List.setIfInBounds_toArray, List.set_cons_zero, List.set_cons_succ]) <;> rfl
  · rintro Ld b W hL ⟨u0, u1, u2, u3, u4, u5, u6, u7, u8, u9, u10, rfl, hC⟩
    obtain ⟨l, how, -, h1, -⟩ := hC.ow
    obtain ⟨lb, rfl, -, h4⟩ := h1 (hL 8 (by show 8 < 12; decide))
    obtain ⟨b, rfl, rfl⟩ := h4 (hL 10 (by show 10 < 12; decide))
    rw [hL 11 (by show 11 < 12; decide)] at how
    simp only [cond_true] at how
    have HO1 := Lib.hid (how.re (O' := [(⟨some ⟨w.heap.size, 0, none⟩, 6, 6, 29, [.int .i64 2, .int .i64 1, .int .i64 0, .int .i64 3, .int .i64 0, .slice (some ⟨db, 0, none⟩) 1 c]⟩ : Rw), (⟨some ⟨(w.heap.size + 1), 0, none⟩, 3, 3, 69, [.string ⟨#[]⟩, .slice none 0 0, .string ⟨#[]⟩]⟩ : Rw), (⟨some ⟨b, 0, none⟩, 3, 3, 69, [.string ⟨#[119, 114, 105, 116, 101]⟩, .slice (some ⟨lb, 0, none⟩) 2 2, .string ⟨#[]⟩]⟩ : Rw), (⟨some ⟨lb, 0, none⟩, 2, 2, 3, [.int .i64 1, .int .i64 0]⟩ : Rw)]) (fun i => if i = 2 then 3 else if i = 3 then 2 else i) (fun i j hi hj e => by split at e <;> split at e <;> (try split at e) <;> (try split at e) <;> omega) (fun i r hr => by
      rcases i with _ | _ | _ | _ | i
      · exact hr
      · exact hr
      · exact hr
      · exact hr
      · cases hr))
    have yk : W.cell? ⟨w.heap.size, 0, none⟩ = some (.int .i64 2) := (how.row 0 rfl).cellAt 0 (by decide)
    clear hC hL how h1 h4
    simp only [Act.put, List.setIfInBounds_toArray, List.set_cons_zero, List.set_cons_succ]
    go_upto_region 6 with (with_reducible refine upon_id ?_; go_simp)
    refine reg_inv34 (OdI w w.heap.size db c lb b) (by kernel_rfl) (by kernel_rfl) ?_ ?_ ?_
    · refine ⟨undef, undef, undef, undef, undef, undef, undef, undef, undef, undef, undef, ?_, ⟨⟨_, HO1.out.drew, (fun _ => rfl), (fun h => by cases h), (fun h => by cases h)⟩, ?_, ?_, ?_, ?_, ?_, ?_, ?_, ?_, ?_⟩⟩
      · simp only [Act.put, List.setIfInBounds_toArray, List.set_cons_zero, List.set_cons_succ]
      all_goals (intro h; cases h)
    · rintro jj Ld b W hj hf hcl hd ⟨u0, u1, u2, u3, u4, u5, u6, u7, u8, u9, u11, rfl, hC⟩
      have hj' : jj < 13 := hj
      have hcase : jj = 0 ∨ jj = 1 ∨ jj = 2 ∨ jj = 3 ∨ jj = 4 ∨ jj = 5 ∨ jj = 6 ∨ jj = 7 ∨ jj = 8 ∨ jj = 9 ∨ jj = 10 ∨ jj = 11 ∨ jj = 12 := by omega
      clear hj hj'
      simp only [Act.put, List.setIfInBounds_toArray, List.set_cons_zero, List.set_cons_succ]
      rcases hcase with rfl | rfl | rfl | rfl | rfl | rfl | rfl | rfl | rfl | rfl | rfl | rfl | rfl
      · clear hd hcl
        refine wpOp_step rfl (fun K hK => ?_)
        go_simp
        refine hK _ _ ⟨_, u1, u2, u3, u4, u5, u6, u7, u8, u9, u11, ?_, ⟨hC.ow, fun _ => rfl, hC.h1, hC.h2, hC.h3, hC.h6, hC.h7, hC.h8, hC.h9, hC.h11⟩⟩
        (simp only [Act.put, List.setIfInBounds_toArray, List.set_cons_zero, List.set_cons_succ]) <;> rfl
      · obtain rfl := hC.h0 (hd 0 (by kernel_rfl))
        have h5 : Ld 5 = false := cl_no hcl hf (by kernel_rfl)
        have h10 : Ld 10 = false := cl_no hcl h5 (by kernel_rfl)
        obtain ⟨l, how, -, -, -⟩ := hC.ow
        rw [h10] at how
        have yy : W.cell? ⟨b, 1, none⟩ = some (.slice (some ⟨lb, 0, none⟩) 2 2) := (how.row 2 rfl).cellAt 1 (by decide)
        clear hd hcl
        refine wpOp_step rfl (fun K hK => ?_)
        go_simp
        refine hK _ _ ⟨_, _, u2, u3, u4, u5, u6, u7, u8, u9, u11, ?_, ⟨hC.ow, hC.h0, fun _ => rfl, hC.h2, hC.h3, hC.h6, hC.h7, hC.h8, hC.h9, hC.h11⟩⟩
        (simp only [Act.put, List.setIfInBounds_toArray, List.set_cons_zero, List.set_cons_succ]) <;> rfl
      · clear hd hcl
        refine wpOp_step rfl (fun K hK => ?_)
        go_simp
        refine hK _ _ ⟨u0, u1, _, u3, u4, u5, u6, u7, u8, u9, u11, ?_, ⟨hC.ow, hC.h0, hC.h1, fun _ => rfl, hC.h3, hC.h6, hC.h7, hC.h8, hC.h9, hC.h11⟩⟩
        (simp only [Act.put, List.setIfInBounds_toArray, List.set_cons_zero, List.set_cons_succ]) <;> rfl
      · obtain rfl := hC.h2 (hd 2 (by kernel_rfl))
        obtain ⟨l, how, -, -, -⟩ := hC.ow
        have yy : W.cell? ⟨w.heap.size, 3, none⟩ = some (.int .i64 3) := (how.row 0 rfl).cellAt 3 (by decide)
        clear hd hcl
        refine wpOp_step rfl (fun K hK => ?_)
        go_simp
        refine hK _ _ ⟨u0, u1, _, _, u4, u5, u6, u7, u8, u9, u11, ?_, ⟨hC.ow, hC.h0, hC.h1, hC.h2, fun _ => rfl, hC.h6, hC.h7, hC.h8, hC.h9, hC.h11⟩⟩
        (simp only [Act.put, List.setIfInBounds_toArray, List.set_cons_zero, List.set_cons_succ]) <;> rfl
      · obtain rfl := hC.h3 (hd 3 (by kernel_rfl))
        obtain ⟨l, how, h0, h1, h2⟩ := hC.ow
        obtain rfl := h0 hf
        have h8 : Ld 5 = false := cl_no hcl hf (by kernel_rfl)
        have ho := how.arr #[.int .i64 3] 1 rfl (by omega) 3
        simp only [List.cons_append, List.nil_append] at ho
        clear hd hcl
        refine wpOp_step rfl (fun K hK => ?_)
        go_simp
        refine hK _ _ ⟨u0, u1, u2, _, _, u5, u6, u7, u8, u9, u11, ?_, ⟨⟨_, ho, (fun h => by cases h), (fun _ _ => ⟨_, rfl, rfl⟩), (fun h => absurd (h8.symm.trans h) (by decide))⟩, hC.h0, hC.h1, hC.h2, hC.h3, hC.h6, hC.h7, hC.h8, hC.h9, hC.h11⟩⟩
        (simp only [Act.put, List.setIfInBounds_toArray, List.set_cons_zero, List.set_cons_succ]) <;> rfl
      · obtain rfl := hC.h1 (hd 1 (by kernel_rfl))
        obtain ⟨l, how, h0, h1, h2⟩ := hC.ow
        have hl7 := hd 4 (by kernel_rfl)
        obtain ⟨lq, rfl, rfl⟩ := h1 hl7 hf
        have hq : Ld 10 = false := cl_no hcl hf (by kernel_rfl)
        rw [hq] at how
        have hsl := Sl.of_own (how.row 4 rfl)
        clear hd hcl
        refine wpOp_step rfl (fun K hK => ?_)
        rw [if_pos (by rfl)]
        refine owp_append elemI how 3 (.tmp 28) (.tmp 31) (m := 1) rfl rfl hsl (by intro u hu; simp at hu; subst hu; rfl) (by unfold maxLen; omega) (by omega) rfl rfl rfl ?_
        intro A2 c2 W2 hv
        have hv2 := hv.few 4
        refine hK _ _ ⟨u0, (.slice (some ⟨lb, 0, none⟩) 2 2), u2, u3, (.slice (some ⟨lq, 0, none⟩) 1 1), (.slice A2 3 c2), u6, u7, u8, u9, u11, ?_, ⟨⟨_, (by rw [show dset Ld 5 10 = false from hq]; exact hv2), (fun h => absurd (hl7.symm.trans h) (by decide)), (fun _ h => by cases h), (fun _ => ⟨A2, c2, rfl, rfl⟩)⟩, hC.h0, hC.h1, hC.h2, hC.h3, hC.h6, hC.h7, hC.h8, hC.h9, hC.h11⟩⟩
        (simp only [Act.put, List.setIfInBounds_toArray, List.set_cons_zero, List.set_cons_succ]) <;> rfl
      · clear hd hcl
        refine wpOp_step rfl (fun K hK => ?_)
        go_simp
        refine hK _ _ ⟨u0, u1, u2, u3, u4, u5, _, u7, u8, u9, u11, ?_, ⟨hC.ow, hC.h0, hC.h1, hC.h2, hC.h3, fun _ => rfl, hC.h7, hC.h8, hC.h9, hC.h11⟩⟩
        (simp only [Act.put, List.setIfInBounds_toArray, List.set_cons_zero, List.set_cons_succ]) <;> rfl
      · obtain rfl := hC.h6 (hd 6 (by kernel_rfl))
        obtain ⟨l, how, -, -, -⟩ := hC.ow
        have yy : W.cell? ⟨w.heap.size, 5, none⟩ = some (.slice (some ⟨db, 0, none⟩) 1 c) := (how.row 0 rfl).cellAt 5 (by decide)
        clear hd hcl
        refine wpOp_step rfl (fun K hK => ?_)
        go_simp
        refine hK _ _ ⟨u0, u1, u2, u3, u4, u5, _, _, u8, u9, u11, ?_, ⟨hC.ow, hC.h0, hC.h1, hC.h2, hC.h3, hC.h6, fun _ => rfl, hC.h8, hC.h9, hC.h11⟩⟩
        (simp only [Act.put, List.setIfInBounds_toArray, List.set_cons_zero, List.set_cons_succ]) <;> rfl
      · obtain rfl := hC.h7 (hd 7 (by kernel_rfl))
        obtain ⟨l, how, h0, h1, h2⟩ := hC.ow
        have cc0 := (how.below.cell HD.out).trans c0
        have hdw := Nat.lt_of_lt_of_le HD.out how.size
        clear hd hcl
        refine wpOp_step rfl (fun K hK => ?_)
        go_simp
        refine (text_one W db c hdw cc0).mono ?_
        rintro e W' ⟨rfl, hb⟩
        refine hK _ _ ⟨u0, u1, u2, u3, u4, u5, u6, _, _, u9, u11, ?_, ⟨⟨_, how.go hb, h0, h1, h2⟩, hC.h0, hC.h1, hC.h2, hC.h3, hC.h6, hC.h7, fun _ => rfl, hC.h9, hC.h11⟩⟩
        (simp only [Act.put, List.setIfInBounds_toArray, List.set_cons_zero, List.set_cons_succ]) <;> rfl
      · clear hd hcl
        refine wpOp_step rfl (fun K hK => ?_)
        go_simp
        refine hK _ _ ⟨u0, u1, u2, u3, u4, u5, u6, u7, u8, _, u11, ?_, ⟨hC.ow, hC.h0, hC.h1, hC.h2, hC.h3, hC.h6, hC.h7, hC.h8, fun _ => rfl, hC.h11⟩⟩
        (simp only [Act.put, List.setIfInBounds_toArray, List.set_cons_zero, List.set_cons_succ]) <;> rfl
      · obtain rfl := hC.h9 (hd 9 (by kernel_rfl))
        obtain ⟨l, how, h0, h1, h2⟩ := hC.ow
        have ha := hd 5 (by kernel_rfl)
        obtain ⟨A2, c2, rfl, rfl⟩ := h2 ha
        have hl7 := hcl 5 4 ha (by kernel_rfl)
        rw [hf] at how
        simp only [cond_false] at how
        have fr := how.thaw 2 rfl 1
        have yy := (how.row 2 rfl).cellAt 1 (by decide)
        have ho := how.put 2 rfl 1 (.slice A2 3 c2)
        simp only [List.set_cons_zero, List.set_cons_succ] at ho
        clear hd hcl
        refine wpOp_step rfl (fun K hK => ?_)
        go_simp
        refine hK _ _ ⟨u0, u1, u2, u3, u4, (.slice A2 3 c2), u6, u7, u8, (.pointer (some ⟨b, 1, none⟩)), u11, ?_, ⟨⟨_, ho, (fun h => absurd (hl7.symm.trans h) (by decide)), (fun _ h => absurd (ha.symm.trans h) (by decide)), (fun _ => ⟨A2, c2, rfl, rfl⟩)⟩, hC.h0, hC.h1, hC.h2, hC.h3, hC.h6, hC.h7, hC.h8, hC.h9, hC.h11⟩⟩
        (simp only [Act.put, List.setIfInBounds_toArray, List.set_cons_zero, List.set_cons_succ]) <;> rfl
      · clear hd hcl
        refine wpOp_step rfl (fun K hK => ?_)
        go_simp
        refine hK _ _ ⟨u0, u1, u2, u3, u4, u5, u6, u7, u8, u9, _, ?_, ⟨hC.ow, hC.h0, hC.h1, hC.h2, hC.h3, hC.h6, hC.h7, hC.h8, hC.h9, fun _ => rfl⟩⟩
        (simp only [Act.put, List.setIfInBounds_toArray, List.set_cons_zero, List.set_cons_succ]) <;> rfl
      · obtain rfl := hC.h11 (hd 11 (by kernel_rfl))
        obtain rfl := hC.h8 (hd 8 (by kernel_rfl))
        obtain ⟨l, how, h0, h1, h2⟩ := hC.ow
        rw [hf] at how
        simp only [cond_false] at how
        have fr := how.thaw 2 rfl 2
        have yy := (how.row 2 rfl).cellAt 2 (by decide)
        have ho := how.put 2 rfl 2 (.string ⟨#[48, 48]⟩)
        simp only [List.set_cons_zero, List.set_cons_succ] at ho
        clear hd hcl
        refine wpOp_step rfl (fun K hK => ?_)
        go_simp
        refine hK _ _ ⟨u0, u1, u2, u3, u4, u5, u6, u7, (.string ⟨#[48, 48]⟩), u9, (.pointer (some ⟨b, 2, none⟩)), ?_, ⟨⟨_, ho, h0, h1, h2⟩, hC.h0, hC.h1, hC.h2, hC.h3, hC.h6, hC.h7, hC.h8, hC.h9, hC.h11⟩⟩
        (simp only [Act.put, List.setIfInBounds_toArray, List.set_cons_zero, List.set_cons_succ]) <;> rfl
    · rintro Ld b W hL ⟨u0, u1, u2, u3, u4, u5, u6, u7, u8, u9, u11, rfl, hC⟩
      obtain ⟨l, how, -, -, h2⟩ := hC.ow
      obtain ⟨A2, c2, rfl, rfl⟩ := h2 (hL 5 (by show 5 < 13; decide))
      rw [hL 10 (by show 10 < 13; decide), hL 12 (by show 12 < 13; decide)] at how
      simp only [cond_true] at how
      have hg3 := (how.rowHeap 2 rfl).1
      have hg2 := (how.rowHeap 1 rfl).1
      have hp := how.putRow (k := 3) 1 rfl #[.string ⟨#[119, 114, 105, 116, 101]⟩, .slice A2 3 c2, .string ⟨#[48, 48]⟩] rfl (by omega)
      simp only [List.set_cons_zero, List.set_cons_succ] at hp
      have l3 := run_loadVar_row (P := Tryd.prog) _ (w.heap.size + 1) 69 69 #[.string ⟨#[119, 114, 105, 116, 101]⟩, .slice A2 3 c2, .string ⟨#[48, 48]⟩] (0, 0) _ (hp.rowHeap 1 rfl).1 Tryd.underlying69 rfl sizeWd
      have HE := Lib.hid hp
      have G3 := Lib.hid hg3
      have G2 := Lib.hid hg2
      have has : ∀ (ad : Addr) (W : World), (asAddr (.pointer (some ad))).run Tryd.prog W = .ok ad W := fun _ _ => rfl
      clear hC hL how h2 hp hg3 hg2 HO1 yk
      simp only [Act.put, List.setIfInBounds_toArray, List.set_cons_zero, List.set_cons_succ]
      go_upto_region 9 with (with_reducible refine upon_id ?_; go_simp)
      repeat (first | refine wpList_load_row rfl 69 (.tmp 3) rfl b rfl 69 #[.string ⟨#[119, 114, 105, 116, 101]⟩, .slice A2 3 c2, .string ⟨#[48, 48]⟩] (0, 0) _ G3.out Tryd.underlying69 rfl sizeWd ?_ | refine wpList_store_row rfl 69 (.tmp 2) (.tmp 46) rfl (w.heap.size + 1) #[.string ⟨#[119, 114, 105, 116, 101]⟩, .slice A2 3 c2, .string ⟨#[48, 48]⟩] rfl rfl 69 _ G2.out sizeWd rfl (by simp [Value.oneCell']) ?_ | go_step)
      go_wp2_with fail
      refine bodyPost_ret (v := .agg #[.string ⟨#[119, 114, 105, 116, 101]⟩, .slice A2 3 c2, .string ⟨#[48, 48]⟩]) (by simp [results, Tryd.results41, asAddr, l3, Act.put]) rfl ?_
      exact ⟨A2, c2, rfl, HE.out.below, HE.out.row 3 rfl⟩
end Go.Proofs.YtpcmbmabmfghkaaDoor
