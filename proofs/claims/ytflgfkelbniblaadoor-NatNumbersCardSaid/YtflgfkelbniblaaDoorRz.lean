/- The document's Parse of numbers, of any text. -/
import Derived.Test.YtflgfkelbniblaaDoorPz
import Derived.Test.YtflgfkelbniblaaDoorRn
namespace Go.Proofs.YtflgfkelbniblaaDoor
open Go.RowKit Go.Sort
set_option linter.unusedVariables false
set_option maxRecDepth 100000
theorem nrparse_long (l : List UInt8) (w : World) (h1 : 1445 < l.length) (h2 : l.length ≤ 9223372036854775807) :
    Calls Tryd.prog 30 #[.string (str l)] w (ResN w [] 3) := by
  have hsz := str_size l
  have G := (Ow.of (St.refl w)).boxed (.slice none 0 0) 29
  simp only [List.nil_append] at G
  have hlt : 1445 < (str l).size := by rw [hsz]; exact h1
  have hle : (str l).size ≤ 9223372036854775807 := by rw [hsz]; exact h2
  clear hsz
  go_enter Tryd.func30, Tryd.ntmps30
  go_wp2_with fail
  refine bodyPost_ret (v := .tuple #[.agg #[.slice none 0 0], .int .i64 3]) (by simp [results, Tryd.results30, go_sem]) rfl ?_
  exact resN_nil _ _ _ G.below
theorem nrparse_none (w : World) :
    Calls Tryd.prog 30 #[.string (str [])] w (ResN w [] 12) := by
  have hsz := str_size []
  have G := (Ow.of (St.refl w)).boxed (.slice none 0 0) 29
  simp only [List.nil_append] at G
  obtain ⟨S, hS⟩ : ∃ S, str [] = S := ⟨_, rfl⟩
  rw [hS] at hsz ⊢
  have hz : S.size = 0 := hsz
  clear hsz hS
  go_enter Tryd.func30, Tryd.ntmps30
  go_wp2_with fail
  refine bodyPost_ret (v := .tuple #[.agg #[.slice none 0 0], .int .i64 12]) (by simp [results, Tryd.results30, go_sem]) rfl ?_
  exact resN_nil _ _ _ G.below
theorem nrparse_zero (l : List UInt8) (w : World) (h1 : l.length ≤ 1445) (h2 : 1 < l.length) (h0 : l[0]? = some 48) :
    Calls Tryd.prog 30 #[.string (str l)] w (ResN w [] 12) := by
  have hsz := str_size l
  have hix : ∀ w, (Instr.index 9 (.string (str l)) (.int .i64 0)).run Tryd.prog w = .ok (.int .u8 48) w := fun w => by
    rw [run_index_string w _ _ _ _ (by kernel_rfl), dif_pos ⟨by omega, by rw [hsz]; omega⟩]
    have := str_get l 0 48 h0 (by rw [hsz]; omega)
    simp only [Int.toNat_zero]
    rw [this]
    rfl
  have G := (Ow.of (St.refl w)).boxed (.slice none 0 0) 29
  simp only [List.nil_append] at G
  obtain ⟨S, hS⟩ : ∃ S, str l = S := ⟨_, rfl⟩
  rw [hS] at hsz hix ⊢
  have hz1 : 1 < S.size := by rw [hsz]; exact h2
  have hz2 : S.size ≤ 1445 := by rw [hsz]; exact h1
  have hne : ((S.size : Int) == 0) = false := by rw [beq_eq_false_iff_ne]; omega
  clear hsz hS
  go_enter Tryd.func30, Tryd.ntmps30
  go_wp2_with fail
  refine bodyPost_ret (v := .tuple #[.agg #[.slice none 0 0], .int .i64 12]) (by simp [results, Tryd.results30, go_sem]) rfl ?_
  exact resN_nil _ _ _ G.below
/-- the state of the outer loop: so many digits are read -/
def RPo (w : World) (l : List UInt8) (J : Nat) (i s : Value) (wr : World) : Prop :=
  ∃ (k n c : Nat) (A : Option Addr), k ≤ J ∧ i = .int .i64 (k : Int) ∧ s = .slice A n c ∧ n ≤ 207 ∧ Hid (Ow w wr none [(w.heap.size, .slice none 0 0)] [] [⟨A, n, c, 3, nats (Na.dig (De.pv (l.take k)))⟩])
def RPi (w : World) (X : List Nat) (n : Nat) (A : Option Addr) (c m0 : Nat) (q i : Value) (wr : World) : Prop :=
  ∃ (k cr : Nat) (o : List Nat), k ≤ n ∧ i = .int .i64 (k : Int) ∧ q = .int .i64 (cr : Int) ∧ cr ≤ 10 ∧ Hid (o.length = k ∧ Na.Lim o ∧ Na.val o + 16777216 ^ k * cr = Na.val (X.take k) * 10 + m0) ∧ Hid (Ow w wr none [(w.heap.size, .slice none 0 0)] [] [⟨A, n, c, 3, nats (o ++ X.drop k)⟩])
set_option maxHeartbeats 8000000 in
theorem nrparse_ok (l : List UInt8) (w : World) (h0 : l ≠ []) (h1 : l.length ≤ 1445) (h2 : l.length ≤ 1 ∨ ∃ b, l[0]? = some b ∧ b ≠ 48) (h3 : De.Digs l) :
    Calls Tryd.prog 30 #[.string (str l)] w (ResN w (resL (De.pv l)) (resE (De.pv l))) := by
  have hsz := str_size l
  obtain ⟨N, hN⟩ : ∃ N, l.length = N := ⟨_, rfl⟩
  have hN0 : 0 < N := by rw [← hN]; exact List.length_pos_iff.2 h0
  have HIx : Hid (∀ (k : Nat) (b : UInt8) (w : World), l[k]? = some b → (Instr.index 9 (.string (str l)) (.int .i64 (k : Int))).run Tryd.prog w = .ok (.int .u8 (b.toNat : Int)) w) := fun k b w hb => by
    have hk : k < l.length := get_lt hb
    rw [run_index_string w _ _ _ _ (by kernel_rfl), dif_pos ⟨by omega, by rw [hsz]; omega⟩]
    have := str_get l k b hb (by rw [hsz]; exact hk)
    simp only [Int.toNat_natCast]
    rw [this]
  obtain ⟨S, hS⟩ : ∃ S, str l = S := ⟨_, rfl⟩
  rw [hS] at hsz HIx ⊢
  rw [hN] at hsz h1
  have HN := Lib.hid hN
  have HDg : Hid (De.Digs (l.take N)) := by unfold Hid; rw [List.take_of_length_le (by omega)]; exact h3
  clear h3
  have hsN : (S.size : Int) = (N : Int) := by rw [hsz]
  have hne0 : ((N : Int) == 0) = false := by rw [beq_eq_false_iff_ne]; omega
  have hone : S.size = N := hsz
  have HI := Lib.hid (((Ow.of (St.refl w)).boxed (.slice none 0 0) 29).nil 3)
  simp only [List.nil_append] at HI
  clear h0 hN hS hsz
  have H2 : Hid ((decide (1 < (N : Int)) = false) ∨ ∃ b0 : UInt8, l[0]? = some b0 ∧ ((b0.toNat : Int) == 48) = false ∧ 1 < N) := by
    rcases Nat.lt_or_ge 1 N with h | h
    · rcases h2 with h2 | ⟨b0, h2, hne⟩
      · have := HN.out; omega
      · exact .inr ⟨b0, h2, u8_ne hne, h⟩
    · exact .inl (decide_eq_false (by omega))
  clear h2 hone
  rcases H2.out with hone | ⟨b0, hb0, hneb, h1N⟩
  · have hNe : N = 1 := by have := of_decide_eq_false hone; omega
    clear hNe
    go_enter Tryd.func30, Tryd.ntmps30
    go_wp2_with fail
    go_loopw [5, 4] (fun i s wr => RPo w l N i s wr) (fun i _ _ => N - (intOf i).toNat)
    case atStart => exact ⟨0, 0, 0, none, Nat.zero_le _, rfl, rfl, by omega, by unfold Hid; rw [List.take_zero, De.pv_nil, Na.dig_zero]; exact HI.out⟩
    case round =>
      clear HI
      obtain ⟨k, n, c, A, hk, rfl, rfl, hn7, HO⟩ := hrel
      rcases Nat.lt_or_ge k N with hkN | hkN
      · obtain ⟨d, hd⟩ : ∃ d, l[k]? = some d := ⟨_, List.getElem?_eq_getElem (by have := HN.out; omega)⟩
        have hdig := HDg.out d (List.mem_of_getElem? (i := k) (by rw [List.getElem?_take, if_pos hkN]; exact hd))
        have hidx : ∀ w, (Instr.index 9 (.string S) (.int .i64 (k : Int))).run Tryd.prog w = .ok (.int .u8 (d.toNat : Int)) w := fun w => HIx.out k d w hd
        obtain ⟨v, hv⟩ : ∃ v : Nat, d.toNat = v := ⟨_, rfl⟩
        rw [hv] at hidx hdig
        have hlo : decide ((v : Int) < 48) = false := decide_eq_false (by omega)
        have hhi : decide (57 < (v : Int)) = false := decide_eq_false (by omega)
        have hv48 : 48 ≤ v := hdig.1
        have hv57 : v ≤ 57 := hdig.2
        obtain ⟨m0, hm0⟩ : ∃ m0 : Nat, v - 48 = m0 := ⟨_, rfl⟩
        have hm1 : (v : Int) - 48 = (m0 : Int) := by omega
        have hm2 : m0 ≤ 9 := by omega
        have HPv : Hid (De.pv (l.take (k + 1)) = De.pv (l.take k) * 10 + m0) := by
          unfold Hid
          rw [De.pv_take l k d hd, hv, hm0, Nat.mul_comm]
        have HLt : Hid (De.pv (l.take (k + 1)) < 16777216 ^ 207) := by
          have h9 := De.pv_lt (l.take N) HDg.out (k + 1) (by rw [List.length_take, HN.out]; omega)
          rw [List.take_take, Nat.min_eq_left (by omega)] at h9
          exact Nat.lt_of_lt_of_le h9 (De.ten_le _ 207 207 (by omega) rfl)
        clear hm0
        obtain ⟨X, hX⟩ : ∃ X, Na.dig (De.pv (l.take k)) = X := ⟨_, rfl⟩
        have HXe := Lib.hid hX
        have HO1 := HO.out
        rw [hX] at HO1
        have hlen := (HO1.seen 0 rfl).1
        have HXl := Lib.hid hlen
        have HOx := Lib.hid HO1
        clear hX HO HO1 hlen hd hv hdig
        go_wp2_with fail
        go_loopw [6, 7] (fun q i wr => RPi w X n A c m0 q i wr) (fun _ i _ => n - (intOf i).toNat)
        case atStart => exact ⟨0, m0, [], Nat.zero_le _, rfl, rfl, by omega, ⟨rfl, Na.Lim.nil, by simp [Na.val]⟩, by unfold Hid; rw [List.nil_append, List.drop_zero]; exact HOx.out⟩
        case round =>
          clear HOx
          obtain ⟨i, cr, o, hi, rfl, rfl, hcr, HQ, HOi⟩ := hrel
          rcases Nat.lt_or_ge i n with hin | hin
          · obtain ⟨a, ha⟩ := nat_at X i (by rw [HXl.out]; exact hin)
            have ha24 : a < 16777216 := by rw [← HXe.out] at ha; exact (Na.dig_lim _).at ha
            have hrow := HOi.out.row 0 rfl
            obtain ⟨gb, rfl, -, -⟩ := own_form hrow (by omega)
            have hcl := own_nat hrow (Na.get_mid o X i a HQ.out.1 ha)
            have hfz := hrow.frozenAt i
            obtain ⟨t, ht⟩ : ∃ t, a * 10 + cr = t := ⟨_, rfl⟩
            have HSt := Lib.hid (Na.grow_step X o i a 10 cr m0 t HQ.out.1 ha HQ.out.2.2 (by omega))
            obtain ⟨r, hr⟩ : ∃ r, t % 16777216 = r := ⟨_, rfl⟩
            obtain ⟨q, hq⟩ : ∃ q, t / 16777216 = q := ⟨_, rfl⟩
            rw [hr, hq] at HSt
            have hmod : ((a : Int) * 10 + (cr : Int)) % 16777216 = (r : Int) := by omega
            have hdiv : ((a : Int) * 10 + (cr : Int)) / 16777216 = (q : Int) := by omega
            have hr24 : r < 16777216 := by omega
            have hq10 : q ≤ 10 := by omega
            have HLr := Lib.hid (HQ.out.2.1.append (Na.Lim.one hr24))
            have HLl : Hid ((o ++ [r]).length = i + 1) := by unfold Hid; rw [List.length_append, HQ.out.1]; rfl
            have G := HOi.out.put 0 rfl i (.int .i64 (r : Int))
            rw [List.set_cons_zero, nats_set, Na.set_mid o X i r HQ.out.1 (by rw [HXl.out]; exact hin)] at G
            have HG := Lib.hid G
            clear ha ht hr hq hrow G HOi
            go_wp2_with fail
            go_roundw
            case rel => exact ⟨i + 1, q, o ++ [r], by omega, by go_num, (by first | rfl | exact int_eqv hdiv), hq10, ⟨HLl.out, HLr.out, HSt.out⟩, HG⟩
            case measure => simp [intOf]; omega
          · obtain rfl : i = n := by omega
            have HO3 := HOi.out
            rw [List.drop_of_length_le (by rw [HXl.out]; exact Nat.le_refl _), List.append_nil] at HO3
            have hV : Na.val o + 16777216 ^ i * cr = De.pv (l.take (k + 1)) := by
              have h7 := HQ.out.2.2
              rw [List.take_of_length_le (by rw [HXl.out]; exact Nat.le_refl _), ← HXe.out, Na.val_dig] at h7
              rw [h7, HPv.out]
            have HO4 := Lib.hid HO3
            rcases Nat.eq_zero_or_pos cr with h0 | h0
            · subst h0
              have hod : o = Na.dig (De.pv (l.take (k + 1))) := by
                rw [Nat.mul_zero, Nat.add_zero] at hV
                rw [← hV]
                refine (Na.dig_val HQ.out.2.1 ?_).symm
                rw [HQ.out.1]
                rcases Nat.eq_zero_or_pos i with e | e
                · exact .inl e
                · refine .inr fun h9 => ?_
                  have e1 := Na.dig_low (De.pv (l.take k)) (i - 1) (by rw [HXe.out, HXl.out]; omega)
                  have e2 := Na.val_take_succ o (i - 1) 0 h9
                  rw [List.take_of_length_le (by have := HQ.out.1; omega), Nat.mul_zero, Nat.add_zero] at e2
                  have e3 := Na.val_lt (HQ.out.2.1.take (i - 1))
                  rw [List.length_take, Nat.min_eq_left (by have := HQ.out.1; omega)] at e3
                  have e4 := HPv.out
                  omega
              have HOd := HO4.out
              rw [hod] at HOd
              have HG := Lib.hid HOd
              clear HOd hod HO4 HO3 hV HOi
              go_wp2_with fail
              go_roundw
              case rel => exact ⟨k + 1, i, c, A, by omega, by go_num, rfl, hn7, HG⟩
              case measure => simp [intOf]; omega
            · have hcr24 : cr < 16777216 := by omega
              have hod : o ++ [cr] = Na.dig (De.pv (l.take (k + 1))) := by
                have e1 : Na.val (o ++ [cr]) = De.pv (l.take (k + 1)) := by rw [Na.val_snoc, HQ.out.1]; exact hV
                rw [← e1]
                refine (Na.dig_val (HQ.out.2.1.append (Na.Lim.one hcr24)) (.inr ?_)).symm
                rw [List.length_append, List.length_singleton, Nat.add_sub_cancel, List.getElem?_append_right (Nat.le_refl _), Nat.sub_self]
                intro e
                have := Option.some.inj e
                omega
              have hn8 : i + 1 ≤ 207 := by
                have e1 := congrArg List.length hod
                rw [List.length_append, HQ.out.1, List.length_singleton] at e1
                rw [e1]
                exact Na.dig_len_le HLt.out
              have HOd := Lib.hid hod
              clear hod HO3 hV HOi
              go_wp2_with (at_builtin; refine ow_append1 elemI HO4.out 0 (.tmp 71) (.tmp 73) _ _ rfl rfl (by unfold maxLen; omega) (by omega) rfl rfl rfl rfl ?_; intro A' c' w8 how)
              go_roundw
              case rel =>
                rw [nats_snoc, HOd.out] at how
                exact ⟨k + 1, i + 1, c', A', by omega, by go_num, rfl, hn8, how⟩
              case measure => simp [intOf]; omega
      · have hkd : decide (k < N) = false := decide_eq_false (by omega)
        have HPe : Hid (l.take k = l) := List.take_of_length_le (by have := HN.out; omega)
        have HO1 := HO.out
        rw [HPe.out] at HO1
        have HF := Lib.hid (rfit_ow HO1 0 rfl (Na.dig_lim _) (by omega))
        rw [Na.val_dig] at HF
        clear HO HO1 hkN
        go_wp2_with fail
        refine HF.out.mono ?_
        rintro e w2 ⟨A2, n2, c2, rfl, -, H2⟩
        have hs := H2.cell 0 rfl
        have hsf := H2.free 0 rfl
        clear HF
        go_wp2_with fail
        have G := H2.setv 0 rfl (.slice A2 n2 c2)
        have hz := G.cell 0 rfl
        refine bodyPost_ret (v := .tuple #[.agg #[.slice A2 n2 c2], .int .i64 (resE (De.pv l))]) (by simp [results, Tryd.results30, go_sem, hz]) rfl ?_
        exact resN_of G 1 rfl _
  · have hidx0 : ∀ w, (Instr.index 9 (.string S) (.int .i64 0)).run Tryd.prog w = .ok (.int .u8 (b0.toNat : Int)) w := fun w => HIx.out 0 b0 w hb0
    clear hb0
    go_enter Tryd.func30, Tryd.ntmps30
    go_wp2_with fail
    go_loopw [5, 4] (fun i s wr => RPo w l N i s wr) (fun i _ _ => N - (intOf i).toNat)
    case atStart => exact ⟨0, 0, 0, none, Nat.zero_le _, rfl, rfl, by omega, by unfold Hid; rw [List.take_zero, De.pv_nil, Na.dig_zero]; exact HI.out⟩
    case round =>
      clear HI
      obtain ⟨k, n, c, A, hk, rfl, rfl, hn7, HO⟩ := hrel
      rcases Nat.lt_or_ge k N with hkN | hkN
      · obtain ⟨d, hd⟩ : ∃ d, l[k]? = some d := ⟨_, List.getElem?_eq_getElem (by have := HN.out; omega)⟩
        have hdig := HDg.out d (List.mem_of_getElem? (i := k) (by rw [List.getElem?_take, if_pos hkN]; exact hd))
        have hidx : ∀ w, (Instr.index 9 (.string S) (.int .i64 (k : Int))).run Tryd.prog w = .ok (.int .u8 (d.toNat : Int)) w := fun w => HIx.out k d w hd
        obtain ⟨v, hv⟩ : ∃ v : Nat, d.toNat = v := ⟨_, rfl⟩
        rw [hv] at hidx hdig
        have hlo : decide ((v : Int) < 48) = false := decide_eq_false (by omega)
        have hhi : decide (57 < (v : Int)) = false := decide_eq_false (by omega)
        have hv48 : 48 ≤ v := hdig.1
        have hv57 : v ≤ 57 := hdig.2
        obtain ⟨m0, hm0⟩ : ∃ m0 : Nat, v - 48 = m0 := ⟨_, rfl⟩
        have hm1 : (v : Int) - 48 = (m0 : Int) := by omega
        have hm2 : m0 ≤ 9 := by omega
        have HPv : Hid (De.pv (l.take (k + 1)) = De.pv (l.take k) * 10 + m0) := by
          unfold Hid
          rw [De.pv_take l k d hd, hv, hm0, Nat.mul_comm]
        have HLt : Hid (De.pv (l.take (k + 1)) < 16777216 ^ 207) := by
          have h9 := De.pv_lt (l.take N) HDg.out (k + 1) (by rw [List.length_take, HN.out]; omega)
          rw [List.take_take, Nat.min_eq_left (by omega)] at h9
          exact Nat.lt_of_lt_of_le h9 (De.ten_le _ 207 207 (by omega) rfl)
        clear hm0
        obtain ⟨X, hX⟩ : ∃ X, Na.dig (De.pv (l.take k)) = X := ⟨_, rfl⟩
        have HXe := Lib.hid hX
        have HO1 := HO.out
        rw [hX] at HO1
        have hlen := (HO1.seen 0 rfl).1
        have HXl := Lib.hid hlen
        have HOx := Lib.hid HO1
        clear hX HO HO1 hlen hd hv hdig
        go_wp2_with fail
        go_loopw [6, 7] (fun q i wr => RPi w X n A c m0 q i wr) (fun _ i _ => n - (intOf i).toNat)
        case atStart => exact ⟨0, m0, [], Nat.zero_le _, rfl, rfl, by omega, ⟨rfl, Na.Lim.nil, by simp [Na.val]⟩, by unfold Hid; rw [List.nil_append, List.drop_zero]; exact HOx.out⟩
        case round =>
          clear HOx
          obtain ⟨i, cr, o, hi, rfl, rfl, hcr, HQ, HOi⟩ := hrel
          rcases Nat.lt_or_ge i n with hin | hin
          · obtain ⟨a, ha⟩ := nat_at X i (by rw [HXl.out]; exact hin)
            have ha24 : a < 16777216 := by rw [← HXe.out] at ha; exact (Na.dig_lim _).at ha
            have hrow := HOi.out.row 0 rfl
            obtain ⟨gb, rfl, -, -⟩ := own_form hrow (by omega)
            have hcl := own_nat hrow (Na.get_mid o X i a HQ.out.1 ha)
            have hfz := hrow.frozenAt i
            obtain ⟨t, ht⟩ : ∃ t, a * 10 + cr = t := ⟨_, rfl⟩
            have HSt := Lib.hid (Na.grow_step X o i a 10 cr m0 t HQ.out.1 ha HQ.out.2.2 (by omega))
            obtain ⟨r, hr⟩ : ∃ r, t % 16777216 = r := ⟨_, rfl⟩
            obtain ⟨q, hq⟩ : ∃ q, t / 16777216 = q := ⟨_, rfl⟩
            rw [hr, hq] at HSt
            have hmod : ((a : Int) * 10 + (cr : Int)) % 16777216 = (r : Int) := by omega
            have hdiv : ((a : Int) * 10 + (cr : Int)) / 16777216 = (q : Int) := by omega
            have hr24 : r < 16777216 := by omega
            have hq10 : q ≤ 10 := by omega
            have HLr := Lib.hid (HQ.out.2.1.append (Na.Lim.one hr24))
            have HLl : Hid ((o ++ [r]).length = i + 1) := by unfold Hid; rw [List.length_append, HQ.out.1]; rfl
            have G := HOi.out.put 0 rfl i (.int .i64 (r : Int))
            rw [List.set_cons_zero, nats_set, Na.set_mid o X i r HQ.out.1 (by rw [HXl.out]; exact hin)] at G
            have HG := Lib.hid G
            clear ha ht hr hq hrow G HOi
            go_wp2_with fail
            go_roundw
            case rel => exact ⟨i + 1, q, o ++ [r], by omega, by go_num, (by first | rfl | exact int_eqv hdiv), hq10, ⟨HLl.out, HLr.out, HSt.out⟩, HG⟩
            case measure => simp [intOf]; omega
          · obtain rfl : i = n := by omega
            have HO3 := HOi.out
            rw [List.drop_of_length_le (by rw [HXl.out]; exact Nat.le_refl _), List.append_nil] at HO3
            have hV : Na.val o + 16777216 ^ i * cr = De.pv (l.take (k + 1)) := by
              have h7 := HQ.out.2.2
              rw [List.take_of_length_le (by rw [HXl.out]; exact Nat.le_refl _), ← HXe.out, Na.val_dig] at h7
              rw [h7, HPv.out]
            have HO4 := Lib.hid HO3
            rcases Nat.eq_zero_or_pos cr with h0 | h0
            · subst h0
              have hod : o = Na.dig (De.pv (l.take (k + 1))) := by
                rw [Nat.mul_zero, Nat.add_zero] at hV
                rw [← hV]
                refine (Na.dig_val HQ.out.2.1 ?_).symm
                rw [HQ.out.1]
                rcases Nat.eq_zero_or_pos i with e | e
                · exact .inl e
                · refine .inr fun h9 => ?_
                  have e1 := Na.dig_low (De.pv (l.take k)) (i - 1) (by rw [HXe.out, HXl.out]; omega)
                  have e2 := Na.val_take_succ o (i - 1) 0 h9
                  rw [List.take_of_length_le (by have := HQ.out.1; omega), Nat.mul_zero, Nat.add_zero] at e2
                  have e3 := Na.val_lt (HQ.out.2.1.take (i - 1))
                  rw [List.length_take, Nat.min_eq_left (by have := HQ.out.1; omega)] at e3
                  have e4 := HPv.out
                  omega
              have HOd := HO4.out
              rw [hod] at HOd
              have HG := Lib.hid HOd
              clear HOd hod HO4 HO3 hV HOi
              go_wp2_with fail
              go_roundw
              case rel => exact ⟨k + 1, i, c, A, by omega, by go_num, rfl, hn7, HG⟩
              case measure => simp [intOf]; omega
            · have hcr24 : cr < 16777216 := by omega
              have hod : o ++ [cr] = Na.dig (De.pv (l.take (k + 1))) := by
                have e1 : Na.val (o ++ [cr]) = De.pv (l.take (k + 1)) := by rw [Na.val_snoc, HQ.out.1]; exact hV
                rw [← e1]
                refine (Na.dig_val (HQ.out.2.1.append (Na.Lim.one hcr24)) (.inr ?_)).symm
                rw [List.length_append, List.length_singleton, Nat.add_sub_cancel, List.getElem?_append_right (Nat.le_refl _), Nat.sub_self]
                intro e
                have := Option.some.inj e
                omega
              have hn8 : i + 1 ≤ 207 := by
                have e1 := congrArg List.length hod
                rw [List.length_append, HQ.out.1, List.length_singleton] at e1
                rw [e1]
                exact Na.dig_len_le HLt.out
              have HOd := Lib.hid hod
              clear hod HO3 hV HOi
              go_wp2_with (at_builtin; refine ow_append1 elemI HO4.out 0 (.tmp 71) (.tmp 73) _ _ rfl rfl (by unfold maxLen; omega) (by omega) rfl rfl rfl rfl ?_; intro A' c' w8 how)
              go_roundw
              case rel =>
                rw [nats_snoc, HOd.out] at how
                exact ⟨k + 1, i + 1, c', A', by omega, by go_num, rfl, hn8, how⟩
              case measure => simp [intOf]; omega
      · have hkd : decide (k < N) = false := decide_eq_false (by omega)
        have HPe : Hid (l.take k = l) := List.take_of_length_le (by have := HN.out; omega)
        have HO1 := HO.out
        rw [HPe.out] at HO1
        have HF := Lib.hid (rfit_ow HO1 0 rfl (Na.dig_lim _) (by omega))
        rw [Na.val_dig] at HF
        clear HO HO1 hkN
        go_wp2_with fail
        refine HF.out.mono ?_
        rintro e w2 ⟨A2, n2, c2, rfl, -, H2⟩
        have hs := H2.cell 0 rfl
        have hsf := H2.free 0 rfl
        clear HF
        go_wp2_with fail
        have G := H2.setv 0 rfl (.slice A2 n2 c2)
        have hz := G.cell 0 rfl
        refine bodyPost_ret (v := .tuple #[.agg #[.slice A2 n2 c2], .int .i64 (resE (De.pv l))]) (by simp [results, Tryd.results30, go_sem, hz]) rfl ?_
        exact resN_of G 1 rfl _
set_option maxHeartbeats 8000000 in
theorem nrparse_bad (l : List UInt8) (w : World) (h0 : l ≠ []) (h1 : l.length ≤ 1445) (h2 : l.length ≤ 1 ∨ ∃ b, l[0]? = some b ∧ b ≠ 48) (j : Nat) (d0 : UInt8) (hj0 : l[j]? = some d0) (hbad : d0.toNat < 48 ∨ 57 < d0.toNat) (h3 : De.Digs (l.take j)) :
    Calls Tryd.prog 30 #[.string (str l)] w (ResN w [] 12) := by
  have hsz := str_size l
  obtain ⟨N, hN⟩ : ∃ N, l.length = N := ⟨_, rfl⟩
  have hN0 : 0 < N := by rw [← hN]; exact List.length_pos_iff.2 h0
  have HIx : Hid (∀ (k : Nat) (b : UInt8) (w : World), l[k]? = some b → (Instr.index 9 (.string (str l)) (.int .i64 (k : Int))).run Tryd.prog w = .ok (.int .u8 (b.toNat : Int)) w) := fun k b w hb => by
    have hk : k < l.length := get_lt hb
    rw [run_index_string w _ _ _ _ (by kernel_rfl), dif_pos ⟨by omega, by rw [hsz]; omega⟩]
    have := str_get l k b hb (by rw [hsz]; exact hk)
    simp only [Int.toNat_natCast]
    rw [this]
  obtain ⟨S, hS⟩ : ∃ S, str l = S := ⟨_, rfl⟩
  rw [hS] at hsz HIx ⊢
  rw [hN] at hsz h1
  have HN := Lib.hid hN
  have HDg := Lib.hid h3
  have HJ := Lib.hid hj0
  have hjN : j < N := by have := get_lt hj0; omega
  clear hj0 h3
  have hsN : (S.size : Int) = (N : Int) := by rw [hsz]
  have hne0 : ((N : Int) == 0) = false := by rw [beq_eq_false_iff_ne]; omega
  have hone : S.size = N := hsz
  have HI := Lib.hid (((Ow.of (St.refl w)).boxed (.slice none 0 0) 29).nil 3)
  simp only [List.nil_append] at HI
  clear h0 hN hS hsz
  have H2 : Hid ((decide (1 < (N : Int)) = false) ∨ ∃ b0 : UInt8, l[0]? = some b0 ∧ ((b0.toNat : Int) == 48) = false ∧ 1 < N) := by
    rcases Nat.lt_or_ge 1 N with h | h
    · rcases h2 with h2 | ⟨b0, h2, hne⟩
      · have := HN.out; omega
      · exact .inr ⟨b0, h2, u8_ne hne, h⟩
    · exact .inl (decide_eq_false (by omega))
  clear h2 hone
  rcases H2.out with hone | ⟨b0, hb0, hneb, h1N⟩
  · have hNe : N = 1 := by have := of_decide_eq_false hone; omega
    clear hNe
    go_enter Tryd.func30, Tryd.ntmps30
    go_wp2_with fail
    go_loopw [5, 4] (fun i s wr => RPo w l j i s wr) (fun i _ _ => j - (intOf i).toNat)
    case atStart => exact ⟨0, 0, 0, none, Nat.zero_le _, rfl, rfl, by omega, by unfold Hid; rw [List.take_zero, De.pv_nil, Na.dig_zero]; exact HI.out⟩
    case round =>
      clear HI
      obtain ⟨k, n, c, A, hk, rfl, rfl, hn7, HO⟩ := hrel
      rcases Nat.lt_or_ge k j with hkN | hkN
      · obtain ⟨d, hd⟩ : ∃ d, l[k]? = some d := ⟨_, List.getElem?_eq_getElem (by have := HN.out; omega)⟩
        have hdig := HDg.out d (List.mem_of_getElem? (i := k) (by rw [List.getElem?_take, if_pos hkN]; exact hd))
        have hidx : ∀ w, (Instr.index 9 (.string S) (.int .i64 (k : Int))).run Tryd.prog w = .ok (.int .u8 (d.toNat : Int)) w := fun w => HIx.out k d w hd
        obtain ⟨v, hv⟩ : ∃ v : Nat, d.toNat = v := ⟨_, rfl⟩
        rw [hv] at hidx hdig
        have hlo : decide ((v : Int) < 48) = false := decide_eq_false (by omega)
        have hhi : decide (57 < (v : Int)) = false := decide_eq_false (by omega)
        have hv48 : 48 ≤ v := hdig.1
        have hv57 : v ≤ 57 := hdig.2
        obtain ⟨m0, hm0⟩ : ∃ m0 : Nat, v - 48 = m0 := ⟨_, rfl⟩
        have hm1 : (v : Int) - 48 = (m0 : Int) := by omega
        have hm2 : m0 ≤ 9 := by omega
        have HPv : Hid (De.pv (l.take (k + 1)) = De.pv (l.take k) * 10 + m0) := by
          unfold Hid
          rw [De.pv_take l k d hd, hv, hm0, Nat.mul_comm]
        have HLt : Hid (De.pv (l.take (k + 1)) < 16777216 ^ 207) := by
          have h9 := De.pv_lt (l.take j) HDg.out (k + 1) (by rw [List.length_take, HN.out]; omega)
          rw [List.take_take, Nat.min_eq_left (by omega)] at h9
          exact Nat.lt_of_lt_of_le h9 (De.ten_le _ 207 207 (by omega) rfl)
        clear hm0
        obtain ⟨X, hX⟩ : ∃ X, Na.dig (De.pv (l.take k)) = X := ⟨_, rfl⟩
        have HXe := Lib.hid hX
        have HO1 := HO.out
        rw [hX] at HO1
        have hlen := (HO1.seen 0 rfl).1
        have HXl := Lib.hid hlen
        have HOx := Lib.hid HO1
        clear hX HO HO1 hlen hd hv hdig
        go_wp2_with fail
        go_loopw [6, 7] (fun q i wr => RPi w X n A c m0 q i wr) (fun _ i _ => n - (intOf i).toNat)
        case atStart => exact ⟨0, m0, [], Nat.zero_le _, rfl, rfl, by omega, ⟨rfl, Na.Lim.nil, by simp [Na.val]⟩, by unfold Hid; rw [List.nil_append, List.drop_zero]; exact HOx.out⟩
        case round =>
          clear HOx
          obtain ⟨i, cr, o, hi, rfl, rfl, hcr, HQ, HOi⟩ := hrel
          rcases Nat.lt_or_ge i n with hin | hin
          · obtain ⟨a, ha⟩ := nat_at X i (by rw [HXl.out]; exact hin)
            have ha24 : a < 16777216 := by rw [← HXe.out] at ha; exact (Na.dig_lim _).at ha
            have hrow := HOi.out.row 0 rfl
            obtain ⟨gb, rfl, -, -⟩ := own_form hrow (by omega)
            have hcl := own_nat hrow (Na.get_mid o X i a HQ.out.1 ha)
            have hfz := hrow.frozenAt i
            obtain ⟨t, ht⟩ : ∃ t, a * 10 + cr = t := ⟨_, rfl⟩
            have HSt := Lib.hid (Na.grow_step X o i a 10 cr m0 t HQ.out.1 ha HQ.out.2.2 (by omega))
            obtain ⟨r, hr⟩ : ∃ r, t % 16777216 = r := ⟨_, rfl⟩
            obtain ⟨q, hq⟩ : ∃ q, t / 16777216 = q := ⟨_, rfl⟩
            rw [hr, hq] at HSt
            have hmod : ((a : Int) * 10 + (cr : Int)) % 16777216 = (r : Int) := by omega
            have hdiv : ((a : Int) * 10 + (cr : Int)) / 16777216 = (q : Int) := by omega
            have hr24 : r < 16777216 := by omega
            have hq10 : q ≤ 10 := by omega
            have HLr := Lib.hid (HQ.out.2.1.append (Na.Lim.one hr24))
            have HLl : Hid ((o ++ [r]).length = i + 1) := by unfold Hid; rw [List.length_append, HQ.out.1]; rfl
            have G := HOi.out.put 0 rfl i (.int .i64 (r : Int))
            rw [List.set_cons_zero, nats_set, Na.set_mid o X i r HQ.out.1 (by rw [HXl.out]; exact hin)] at G
            have HG := Lib.hid G
            clear ha ht hr hq hrow G HOi
            go_wp2_with fail
            go_roundw
            case rel => exact ⟨i + 1, q, o ++ [r], by omega, by go_num, (by first | rfl | exact int_eqv hdiv), hq10, ⟨HLl.out, HLr.out, HSt.out⟩, HG⟩
            case measure => simp [intOf]; omega
          · obtain rfl : i = n := by omega
            have HO3 := HOi.out
            rw [List.drop_of_length_le (by rw [HXl.out]; exact Nat.le_refl _), List.append_nil] at HO3
            have hV : Na.val o + 16777216 ^ i * cr = De.pv (l.take (k + 1)) := by
              have h7 := HQ.out.2.2
              rw [List.take_of_length_le (by rw [HXl.out]; exact Nat.le_refl _), ← HXe.out, Na.val_dig] at h7
              rw [h7, HPv.out]
            have HO4 := Lib.hid HO3
            rcases Nat.eq_zero_or_pos cr with h0 | h0
            · subst h0
              have hod : o = Na.dig (De.pv (l.take (k + 1))) := by
                rw [Nat.mul_zero, Nat.add_zero] at hV
                rw [← hV]
                refine (Na.dig_val HQ.out.2.1 ?_).symm
                rw [HQ.out.1]
                rcases Nat.eq_zero_or_pos i with e | e
                · exact .inl e
                · refine .inr fun h9 => ?_
                  have e1 := Na.dig_low (De.pv (l.take k)) (i - 1) (by rw [HXe.out, HXl.out]; omega)
                  have e2 := Na.val_take_succ o (i - 1) 0 h9
                  rw [List.take_of_length_le (by have := HQ.out.1; omega), Nat.mul_zero, Nat.add_zero] at e2
                  have e3 := Na.val_lt (HQ.out.2.1.take (i - 1))
                  rw [List.length_take, Nat.min_eq_left (by have := HQ.out.1; omega)] at e3
                  have e4 := HPv.out
                  omega
              have HOd := HO4.out
              rw [hod] at HOd
              have HG := Lib.hid HOd
              clear HOd hod HO4 HO3 hV HOi
              go_wp2_with fail
              go_roundw
              case rel => exact ⟨k + 1, i, c, A, by omega, by go_num, rfl, hn7, HG⟩
              case measure => simp [intOf]; omega
            · have hcr24 : cr < 16777216 := by omega
              have hod : o ++ [cr] = Na.dig (De.pv (l.take (k + 1))) := by
                have e1 : Na.val (o ++ [cr]) = De.pv (l.take (k + 1)) := by rw [Na.val_snoc, HQ.out.1]; exact hV
                rw [← e1]
                refine (Na.dig_val (HQ.out.2.1.append (Na.Lim.one hcr24)) (.inr ?_)).symm
                rw [List.length_append, List.length_singleton, Nat.add_sub_cancel, List.getElem?_append_right (Nat.le_refl _), Nat.sub_self]
                intro e
                have := Option.some.inj e
                omega
              have hn8 : i + 1 ≤ 207 := by
                have e1 := congrArg List.length hod
                rw [List.length_append, HQ.out.1, List.length_singleton] at e1
                rw [e1]
                exact Na.dig_len_le HLt.out
              have HOd := Lib.hid hod
              clear hod HO3 hV HOi
              go_wp2_with (at_builtin; refine ow_append1 elemI HO4.out 0 (.tmp 71) (.tmp 73) _ _ rfl rfl (by unfold maxLen; omega) (by omega) rfl rfl rfl rfl ?_; intro A' c' w8 how)
              go_roundw
              case rel =>
                rw [nats_snoc, HOd.out] at how
                exact ⟨k + 1, i + 1, c', A', by omega, by go_num, rfl, hn8, how⟩
              case measure => simp [intOf]; omega
      · obtain rfl : k = j := by omega
        have hidx : ∀ w, (Instr.index 9 (.string S) (.int .i64 (k : Int))).run Tryd.prog w = .ok (.int .u8 (d0.toNat : Int)) w := fun w => HIx.out k d0 w HJ.out
        obtain ⟨v, hv⟩ : ∃ v : Nat, d0.toNat = v := ⟨_, rfl⟩
        rw [hv] at hidx hbad
        have hs := HO.out.cell 0 rfl
        have hsf := HO.out.free 0 rfl
        have hv256 : v < 256 := by rw [← hv]; exact UInt8.toNat_lt d0
        clear hkN hv
        rcases hbad with hlo | hhi
        · have hlo' : decide ((v : Int) < 48) = true := decide_eq_true (by omega)
          go_wp2_with fail
          have G := HO.out.setv 0 rfl (.slice none 0 0)
          have hz := G.cell 0 rfl
          refine bodyPost_ret (v := .tuple #[.agg #[.slice none 0 0], .int .i64 12]) (by simp [results, Tryd.results30, go_sem, hz]) rfl ?_
          exact resN_nil _ _ _ G.below
        · have hlo' : decide ((v : Int) < 48) = false := decide_eq_false (by omega)
          have hhi' : decide (57 < (v : Int)) = true := decide_eq_true (by omega)
          go_wp2_with fail
          have G := HO.out.setv 0 rfl (.slice none 0 0)
          have hz := G.cell 0 rfl
          refine bodyPost_ret (v := .tuple #[.agg #[.slice none 0 0], .int .i64 12]) (by simp [results, Tryd.results30, go_sem, hz]) rfl ?_
          exact resN_nil _ _ _ G.below
  · have hidx0 : ∀ w, (Instr.index 9 (.string S) (.int .i64 0)).run Tryd.prog w = .ok (.int .u8 (b0.toNat : Int)) w := fun w => HIx.out 0 b0 w hb0
    clear hb0
    go_enter Tryd.func30, Tryd.ntmps30
    go_wp2_with fail
    go_loopw [5, 4] (fun i s wr => RPo w l j i s wr) (fun i _ _ => j - (intOf i).toNat)
    case atStart => exact ⟨0, 0, 0, none, Nat.zero_le _, rfl, rfl, by omega, by unfold Hid; rw [List.take_zero, De.pv_nil, Na.dig_zero]; exact HI.out⟩
    case round =>
      clear HI
      obtain ⟨k, n, c, A, hk, rfl, rfl, hn7, HO⟩ := hrel
      rcases Nat.lt_or_ge k j with hkN | hkN
      · obtain ⟨d, hd⟩ : ∃ d, l[k]? = some d := ⟨_, List.getElem?_eq_getElem (by have := HN.out; omega)⟩
        have hdig := HDg.out d (List.mem_of_getElem? (i := k) (by rw [List.getElem?_take, if_pos hkN]; exact hd))
        have hidx : ∀ w, (Instr.index 9 (.string S) (.int .i64 (k : Int))).run Tryd.prog w = .ok (.int .u8 (d.toNat : Int)) w := fun w => HIx.out k d w hd
        obtain ⟨v, hv⟩ : ∃ v : Nat, d.toNat = v := ⟨_, rfl⟩
        rw [hv] at hidx hdig
        have hlo : decide ((v : Int) < 48) = false := decide_eq_false (by omega)
        have hhi : decide (57 < (v : Int)) = false := decide_eq_false (by omega)
        have hv48 : 48 ≤ v := hdig.1
        have hv57 : v ≤ 57 := hdig.2
        obtain ⟨m0, hm0⟩ : ∃ m0 : Nat, v - 48 = m0 := ⟨_, rfl⟩
        have hm1 : (v : Int) - 48 = (m0 : Int) := by omega
        have hm2 : m0 ≤ 9 := by omega
        have HPv : Hid (De.pv (l.take (k + 1)) = De.pv (l.take k) * 10 + m0) := by
          unfold Hid
          rw [De.pv_take l k d hd, hv, hm0, Nat.mul_comm]
        have HLt : Hid (De.pv (l.take (k + 1)) < 16777216 ^ 207) := by
          have h9 := De.pv_lt (l.take j) HDg.out (k + 1) (by rw [List.length_take, HN.out]; omega)
          rw [List.take_take, Nat.min_eq_left (by omega)] at h9
          exact Nat.lt_of_lt_of_le h9 (De.ten_le _ 207 207 (by omega) rfl)
        clear hm0
        obtain ⟨X, hX⟩ : ∃ X, Na.dig (De.pv (l.take k)) = X := ⟨_, rfl⟩
        have HXe := Lib.hid hX
        have HO1 := HO.out
        rw [hX] at HO1
        have hlen := (HO1.seen 0 rfl).1
        have HXl := Lib.hid hlen
        have HOx := Lib.hid HO1
        clear hX HO HO1 hlen hd hv hdig
        go_wp2_with fail
        go_loopw [6, 7] (fun q i wr => RPi w X n A c m0 q i wr) (fun _ i _ => n - (intOf i).toNat)
        case atStart => exact ⟨0, m0, [], Nat.zero_le _, rfl, rfl, by omega, ⟨rfl, Na.Lim.nil, by simp [Na.val]⟩, by unfold Hid; rw [List.nil_append, List.drop_zero]; exact HOx.out⟩
        case round =>
          clear HOx
          obtain ⟨i, cr, o, hi, rfl, rfl, hcr, HQ, HOi⟩ := hrel
          rcases Nat.lt_or_ge i n with hin | hin
          · obtain ⟨a, ha⟩ := nat_at X i (by rw [HXl.out]; exact hin)
            have ha24 : a < 16777216 := by rw [← HXe.out] at ha; exact (Na.dig_lim _).at ha
            have hrow := HOi.out.row 0 rfl
            obtain ⟨gb, rfl, -, -⟩ := own_form hrow (by omega)
            have hcl := own_nat hrow (Na.get_mid o X i a HQ.out.1 ha)
            have hfz := hrow.frozenAt i
            obtain ⟨t, ht⟩ : ∃ t, a * 10 + cr = t := ⟨_, rfl⟩
            have HSt := Lib.hid (Na.grow_step X o i a 10 cr m0 t HQ.out.1 ha HQ.out.2.2 (by omega))
            obtain ⟨r, hr⟩ : ∃ r, t % 16777216 = r := ⟨_, rfl⟩
            obtain ⟨q, hq⟩ : ∃ q, t / 16777216 = q := ⟨_, rfl⟩
            rw [hr, hq] at HSt
            have hmod : ((a : Int) * 10 + (cr : Int)) % 16777216 = (r : Int) := by omega
            have hdiv : ((a : Int) * 10 + (cr : Int)) / 16777216 = (q : Int) := by omega
            have hr24 : r < 16777216 := by omega
            have hq10 : q ≤ 10 := by omega
            have HLr := Lib.hid (HQ.out.2.1.append (Na.Lim.one hr24))
            have HLl : Hid ((o ++ [r]).length = i + 1) := by unfold Hid; rw [List.length_append, HQ.out.1]; rfl
            have G := HOi.out.put 0 rfl i (.int .i64 (r : Int))
            rw [List.set_cons_zero, nats_set, Na.set_mid o X i r HQ.out.1 (by rw [HXl.out]; exact hin)] at G
            have HG := Lib.hid G
            clear ha ht hr hq hrow G HOi
            go_wp2_with fail
            go_roundw
            case rel => exact ⟨i + 1, q, o ++ [r], by omega, by go_num, (by first | rfl | exact int_eqv hdiv), hq10, ⟨HLl.out, HLr.out, HSt.out⟩, HG⟩
            case measure => simp [intOf]; omega
          · obtain rfl : i = n := by omega
            have HO3 := HOi.out
            rw [List.drop_of_length_le (by rw [HXl.out]; exact Nat.le_refl _), List.append_nil] at HO3
            have hV : Na.val o + 16777216 ^ i * cr = De.pv (l.take (k + 1)) := by
              have h7 := HQ.out.2.2
              rw [List.take_of_length_le (by rw [HXl.out]; exact Nat.le_refl _), ← HXe.out, Na.val_dig] at h7
              rw [h7, HPv.out]
            have HO4 := Lib.hid HO3
            rcases Nat.eq_zero_or_pos cr with h0 | h0
            · subst h0
              have hod : o = Na.dig (De.pv (l.take (k + 1))) := by
                rw [Nat.mul_zero, Nat.add_zero] at hV
                rw [← hV]
                refine (Na.dig_val HQ.out.2.1 ?_).symm
                rw [HQ.out.1]
                rcases Nat.eq_zero_or_pos i with e | e
                · exact .inl e
                · refine .inr fun h9 => ?_
                  have e1 := Na.dig_low (De.pv (l.take k)) (i - 1) (by rw [HXe.out, HXl.out]; omega)
                  have e2 := Na.val_take_succ o (i - 1) 0 h9
                  rw [List.take_of_length_le (by have := HQ.out.1; omega), Nat.mul_zero, Nat.add_zero] at e2
                  have e3 := Na.val_lt (HQ.out.2.1.take (i - 1))
                  rw [List.length_take, Nat.min_eq_left (by have := HQ.out.1; omega)] at e3
                  have e4 := HPv.out
                  omega
              have HOd := HO4.out
              rw [hod] at HOd
              have HG := Lib.hid HOd
              clear HOd hod HO4 HO3 hV HOi
              go_wp2_with fail
              go_roundw
              case rel => exact ⟨k + 1, i, c, A, by omega, by go_num, rfl, hn7, HG⟩
              case measure => simp [intOf]; omega
            · have hcr24 : cr < 16777216 := by omega
              have hod : o ++ [cr] = Na.dig (De.pv (l.take (k + 1))) := by
                have e1 : Na.val (o ++ [cr]) = De.pv (l.take (k + 1)) := by rw [Na.val_snoc, HQ.out.1]; exact hV
                rw [← e1]
                refine (Na.dig_val (HQ.out.2.1.append (Na.Lim.one hcr24)) (.inr ?_)).symm
                rw [List.length_append, List.length_singleton, Nat.add_sub_cancel, List.getElem?_append_right (Nat.le_refl _), Nat.sub_self]
                intro e
                have := Option.some.inj e
                omega
              have hn8 : i + 1 ≤ 207 := by
                have e1 := congrArg List.length hod
                rw [List.length_append, HQ.out.1, List.length_singleton] at e1
                rw [e1]
                exact Na.dig_len_le HLt.out
              have HOd := Lib.hid hod
              clear hod HO3 hV HOi
              go_wp2_with (at_builtin; refine ow_append1 elemI HO4.out 0 (.tmp 71) (.tmp 73) _ _ rfl rfl (by unfold maxLen; omega) (by omega) rfl rfl rfl rfl ?_; intro A' c' w8 how)
              go_roundw
              case rel =>
                rw [nats_snoc, HOd.out] at how
                exact ⟨k + 1, i + 1, c', A', by omega, by go_num, rfl, hn8, how⟩
              case measure => simp [intOf]; omega
      · obtain rfl : k = j := by omega
        have hidx : ∀ w, (Instr.index 9 (.string S) (.int .i64 (k : Int))).run Tryd.prog w = .ok (.int .u8 (d0.toNat : Int)) w := fun w => HIx.out k d0 w HJ.out
        obtain ⟨v, hv⟩ : ∃ v : Nat, d0.toNat = v := ⟨_, rfl⟩
        rw [hv] at hidx hbad
        have hs := HO.out.cell 0 rfl
        have hsf := HO.out.free 0 rfl
        have hv256 : v < 256 := by rw [← hv]; exact UInt8.toNat_lt d0
        clear hkN hv
        rcases hbad with hlo | hhi
        · have hlo' : decide ((v : Int) < 48) = true := decide_eq_true (by omega)
          go_wp2_with fail
          have G := HO.out.setv 0 rfl (.slice none 0 0)
          have hz := G.cell 0 rfl
          refine bodyPost_ret (v := .tuple #[.agg #[.slice none 0 0], .int .i64 12]) (by simp [results, Tryd.results30, go_sem, hz]) rfl ?_
          exact resN_nil _ _ _ G.below
        · have hlo' : decide ((v : Int) < 48) = false := decide_eq_false (by omega)
          have hhi' : decide (57 < (v : Int)) = true := decide_eq_true (by omega)
          go_wp2_with fail
          have G := HO.out.setv 0 rfl (.slice none 0 0)
          have hz := G.cell 0 rfl
          refine bodyPost_ret (v := .tuple #[.agg #[.slice none 0 0], .int .i64 12]) (by simp [results, Tryd.results30, go_sem, hz]) rfl ?_
          exact resN_nil _ _ _ G.below
end Go.Proofs.YtflgfkelbniblaaDoor
