/- The contract of Print. -/
import Derived.Test.YtnfjnlnphdmdmaaGreatDoorNatH
namespace Go.Proofs.YtnfjnlnphdmdmaaGreatDoor
open Go.RowKit
set_option linter.unusedVariables false
set_option maxRecDepth 100000
namespace De
theorem len_bound' {n y x m : Nat} (h : 10 ^ n * y ≤ x) (hy : 0 < y) (hx : x < 16777216 ^ m) : n < 24 * m := by
  rcases Nat.lt_or_ge n (24 * m) with h1 | h1
  · exact h1
  · exfalso
    have h2 : 10 ^ n * 1 ≤ 10 ^ n * y := Nat.mul_le_mul_left _ hy
    have h3 : 2 ^ n ≤ 10 ^ n := Nat.pow_le_pow_left (by omega) n
    have h4 : (2 : Nat) ^ (24 * m) ≤ 2 ^ n := Nat.pow_le_pow_right (by omega) h1
    rw [Na.pow24] at hx
    omega
theorem len_bound {n y x : Nat} (h : 10 ^ n * y ≤ x) (hy : 0 < y) (hx : x < Na.top) : n ≤ 4800 := by
  have := len_bound' h hy (m := 200) hx
  omega
theorem map_snoc (ds : List Nat) (d : Nat) : ds.map asc ++ [asc d] = (ds ++ [d]).map asc := by simp
theorem text_zero : text 0 = [48] := rfl
theorem text_pos {x : Nat} (h : 0 < x) : text x = ((dig x).map asc).reverse := by unfold text; rw [if_neg (by omega)]
theorem text_ne {x : Nat} (h : 0 < x) : ((dig x).map asc).reverse ≠ [] := by
  rw [dig_pos x h]
  simp
end De
theorem apart_grown {w w' : World} {base n c : Nat} {e e2 : TypeId} {A B : Option Addr} {n2 c2 : Nat} {xs : List Value} (h : w.ownsRow base e 1 (.slice A n c) n xs) (hg : w.grownBy w' (Value.slice B n2 c2).ownBlock) (hd : (Value.slice A n c).ownBlock = none ∨ (Value.slice A n c).ownBlock ≠ (Value.slice B n2 c2).ownBlock) : w'.ownsRow base e 1 (.slice A n c) n xs := own_keep h hg hd
def Apart (a b : Value) : Prop := a.ownBlock = none ∨ a.ownBlock ≠ b.ownBlock
theorem Apart.symm {a b : Value} (h : Apart a b) : Apart b a := by
  rcases h with h | h
  · by_cases hb : b.ownBlock = none
    · exact .inl hb
    · exact .inr (by rw [h]; exact hb)
  · exact .inr (fun e => h e.symm)
/-- an append leaves its row apart from another one -/
theorem Apart.next {w : World} {base n c n1 c1 n2 c2 : Nat} {e : TypeId} {A B B' : Option Addr} {xs : List Value} (h : Apart (.slice A n c) (.slice B n1 c1)) (ho : w.ownsRow base e 1 (.slice A n c) n xs) (hb : (Value.slice B' n2 c2).ownBlock = (Value.slice B n1 c1).ownBlock ∨ (Value.slice B' n2 c2).ownBlock = some w.heap.size) : Apart (.slice A n c) (.slice B' n2 c2) := by
  rcases hb with hb | hb
  · rcases h with h | h
    · exact .inl h
    · exact .inr (by rw [hb]; exact h)
  · by_cases ha : (Value.slice A n c).ownBlock = none
    · exact .inl ha
    · refine .inr fun e1 => ?_
      rw [hb] at e1
      have := (ho.lt _ e1).2
      omega
theorem Apart.of_len {A A' B B' : Option Addr} {n c n' c' m d m' d' : Nat} (h : Apart (.slice A n c) (.slice B m d)) (e1 : A' = A) (e2 : B' = B) : Apart (.slice A' n' c') (.slice B' m' d') := by
  subst e1 e2
  have f1 : ∀ (X : Option Addr) (a b a' b' : Nat), (Value.slice X a b).ownBlock = (Value.slice X a' b').ownBlock := fun X a b a' b' => by cases X <;> rfl
  rcases h with h | h
  · exact .inl (by rw [f1 A' n' c' n c]; exact h)
  · exact .inr (by rw [f1 A' n' c' n c, f1 B' m' d' m d]; exact h)
def NPt (w : World) (B x : Nat) (l o : Value) (wr : World) : Prop :=
  ∃ (y : Nat) (ds : List Nat) (A : Option Addr) (n c : Nat) (Ao : Option Addr) (no co : Nat), l = .slice A n c ∧ o = .slice Ao no co ∧ n ≤ 200 ∧ no ≤ 4900 ∧ Hid ((Na.dig y).length = n ∧ De.Lim ds ∧ ds.length = no ∧ De.val ds + 10 ^ no * y = x) ∧ Apart (.slice A n c) (.slice Ao no co) ∧
    wr.ownsRow B 3 1 (.slice A n c) n (nats (Na.dig y)) ∧ wr.ownsRow B 5 1 (.slice Ao no co) no (bys (ds.map De.asc)) ∧ Below B w wr ∧ B ≤ wr.heap.size
def NPi7 (w : World) (B x y : Nat) (Q : List Nat) (A : Option Addr) (n c no0 : Nat) (i o p : Value) (wr : World) : Prop :=
  ∃ (k r : Nat) (ds : List Nat) (Ao : Option Addr) (co : Nat), k ≤ 7 ∧ i = .int .i64 (k : Int) ∧ o = .slice Ao (no0 + k) co ∧ p = .int .i64 (r : Int) ∧ r < 10000000 ∧ Hid (r < 10 ^ (7 - k)) ∧ Hid (De.Lim ds ∧ ds.length = no0 + k ∧ De.val ds + 10 ^ (no0 + k) * (r + 10 ^ (7 - k) * y) = x) ∧ Apart (.slice A n c) (.slice Ao (no0 + k) co) ∧
    wr.ownsRow B 3 1 (.slice A n c) n (nats Q) ∧ wr.ownsRow B 5 1 (.slice Ao (no0 + k) co) (no0 + k) (bys (ds.map De.asc)) ∧ Below B w wr ∧ B ≤ wr.heap.size
theorem infoB' : (Tryz.prog.info? 5).map (fun i => (i.zero, i.size, i.bytes)) = some (some (.int .u8 0), 1, 1) := by kernel_rfl
set_option maxHeartbeats 4000000 in
theorem nprint_ok (A : Option Addr) (n c : Nat) (x : Nat) (w : World) (hn : (Na.dig x).length = n) (hs : Sl w w.heap.size A (nats (Na.dig x))) (hx : x < Na.top) :
    Calls Tryz.prog 44 #[.agg #[.slice A n c]] w fun e w' => e = .returned (.string (str (De.text x))) ∧ Below w.heap.size w w' := by
  obtain ⟨i0, hi, hz0, hz1, hz2⟩ := info_parts infoB'
  have hn2 : n ≤ 200 := by rw [← hn]; exact (Na.dig_200 x).2 hx
  obtain ⟨w0, hw0⟩ : ∃ w0, w.alloc (.cells #[.slice A n c] 24) = w0 := ⟨_, rfl⟩
  have HW : Hid (w.alloc (.cells #[.slice A n c] 24) = w0) := hw0
  have hb0 : Below w.heap.size w w0 := by rw [← hw0]; exact own_box1 _ _
  have HB0 := Lib.hid hb0
  have hzw : w0.heap.size = w.heap.size + 1 := by rw [← hw0]; simp
  have hc0 : w0.cell? ⟨w.heap.size, 0, none⟩ = some (.slice A n c) := by rw [← hw0]; simp [go_sem]
  have HV := Lib.hid (nvalid_any A n c w0.heap.size (Na.up (Na.dig x)) w0 (by rw [Na.up_length]; exact hn) (by rw [nats_up]; exact (hs.below hb0).more hb0.size) (Nat.le_refl _) (by omega))
  rw [Na.vld_dig hx] at HV
  have HN := Lib.hid hn
  have HS := Lib.hid hs
  have HX := Lib.hid hx
  clear hs hn hb0 hw0 hx
  go_enter Tryz.func44, Tryz.ntmps44
  go_wp2_with fail
  rw [HW.out]
  refine HV.out.mono ?_
  rintro e w1 ⟨rfl, hb⟩
  have HB1 := Lib.hid (btr HB0.out hb)
  have hd0 : w1.cell? ⟨w.heap.size, 0, none⟩ = some (.slice A n c) := (hb.cell (p := ⟨w.heap.size, 0, none⟩) (by simp [hzw])).trans hc0
  have HCl := Lib.hid (nclone_any A n c w1.heap.size (Na.dig x) w1 HN.out ((HS.out.below HB1.out).more HB1.out.size) (Nat.le_refl _) (by omega))
  clear hb hc0 HV HW hzw HB0
  go_wp2_with fail
  refine HCl.out.mono ?_
  rintro e w2 ⟨A2, n2, c2, rfl, hn2', ho2, hb2⟩
  have HN2 := Lib.hid hn2'
  have HO2 := Lib.hid ho2
  have HB2 := Lib.hid hb2
  have hn200 : n2 ≤ 200 := by rw [← hn2', HN.out]; exact hn2
  clear hn2' ho2 hb2 HCl hd0
  go_wp2_with fail
  go_loopw [4, 3] (fun l o wr => NPt w1 w1.heap.size x l o wr) (fun _ o _ => 5000 - slen o)
  case atStart => exact ⟨x, [], A2, n2, c2, none, 0, 0, rfl, rfl, hn200, by omega, ⟨HN2.out, De.Lim.nil, rfl, by simp [De.val]⟩, Apart.symm (.inl rfl), HO2.out, World.ownsRow_nil _ _ _ _, HB2.out, HB2.out.size⟩
  case round =>
    clear HN2 HO2 HB2 hn200
    obtain ⟨y, ds, A3, n3, c3, Ao, no, co, rfl, rfl, hn3, hno, HP, hap, ho1, ho2, hb, hbs⟩ := hrel
    have HAp := Lib.hid hap
    have HO1 := Lib.hid ho1
    have HO2 := Lib.hid ho2
    have HB := Lib.hid hb
    have HBS := Lib.hid hbs
    have HC3 : Hid (n3 ≤ c3) := (own_cap ho1).1
    have HCo : Hid (no ≤ co) := (own_cap ho2).1
    clear hap ho1 ho2 hb hbs
    rcases Nat.eq_zero_or_pos n3 with h0 | h0
    · have hy0 : y = 0 := Na.dig_len0.1 (by rw [HP.out.1]; exact h0)
      have HVal : Hid (De.val ds = x) := by
        have h1 := HP.out.2.2.2
        rw [hy0, Nat.mul_zero, Nat.add_zero] at h1
        exact h1
      have HStr := Lib.hid (De.strip_text ds HP.out.2.1)
      rw [HVal.out] at HStr
      have HRv := Lib.hid (reverse_any Ao no co w1.heap.size (ds.map De.asc) wr (by rw [List.length_map]; exact HP.out.2.2.1) HO2.out (by omega) HBS.out)
      have HLen : Hid ((ds.map De.asc).reverse.length = no) := by unfold Hid; rw [List.length_reverse, List.length_map]; exact HP.out.2.2.1
      clear hy0
      subst h0
      go_wp2_with fail
      refine HRv.out.mono ?_
      rintro e w4 ⟨rfl, ho4, hb4⟩
      have HB4 := Lib.hid (HB.out.trans hb4)
      have hconv : (convert 76 9 (.slice Ao no co)).run Tryz.prog w4 = .ok (.string (str (ds.map De.asc).reverse)) w4 := by
        rcases Nat.eq_zero_or_pos no with h5 | h5
        · subst h5
          have h6 : (ds.map De.asc).reverse = [] := List.eq_nil_of_length_eq_zero HLen.out
          rw [h6]
          rcases ho4.2 with ⟨h7, _⟩ | ⟨g, cap, cur, h7, _⟩
          · injection h7 with e1 e2 e3
            subst e1
            exact Lib.run_convert_nil_bytes w4 _ _ 5 co Tryz.underlying76 Tryz.underlying5 Tryz.underlying9
          · injection h7 with e1 e2 e3
            subst e1
            exact run_convert_bytes_back w4 _ _ 5 ⟨g, 0, none⟩ co [] Tryz.underlying76 Tryz.underlying5 Tryz.underlying9 (fun j hj => by cases hj)
        · obtain ⟨g, rfl, _, _⟩ := own_form ho4 h5
          have h6 := run_convert_bytes_back w4 76 9 5 ⟨g, 0, none⟩ co (ds.map De.asc).reverse Tryz.underlying76 Tryz.underlying5 Tryz.underlying9 (fun j hj => by rw [add_zero]; exact own_byte ho4 (List.getElem?_eq_getElem hj))
          rw [HLen.out] at h6
          exact h6
      have HTL := Lib.hid (trimLeft_any (ds.map De.asc).reverse w4 (by rw [HLen.out]; omega))
      rw [HStr.out] at HTL
      clear ho4 hb4 HRv
      go_wp2_with fail
      refine HTL.out.mono ?_
      rintro e w5 ⟨rfl, rfl⟩
      clear hconv
      rcases Nat.eq_zero_or_pos x with hx0 | hx0
      · subst hx0
        have hemp : (str ((De.dig 0).map De.asc).reverse).toList.isEmpty = true := by rw [str_toList, De.dig_zero]; rfl
        go_wp2_with fail
        go_ret
        exact ⟨rfl, HB1.out.trans (HB4.out.mono HB1.out.size)⟩
      · have hemp : (str ((De.dig x).map De.asc).reverse).toList.isEmpty = false := str_empty (De.text_ne hx0)
        have HTx := Lib.hid (De.text_pos hx0)
        go_wp2_with fail
        go_ret
        exact ⟨by rw [HTx.out]; rfl, HB1.out.trans (HB4.out.mono HB1.out.size)⟩
    · have hpos : decide (0 < (n3 : Int)) = true := decide_eq_true (by omega)
      have HY : Hid (0 < y) := by
        unfold Hid
        rcases Nat.eq_zero_or_pos y with h | h
        · have := Na.dig_len0.2 h
          rw [HP.out.1] at this
          omega
        · exact h
      have hno2 : no ≤ 4800 := De.len_bound (by have := HP.out.2.2.2; omega) HY.out HX.out
      have HSt := Lib.hid (De.part_start ds no x y HP.out.2.2.2)
      have HSm := Lib.hid (nsmall_any A3 n3 c3 w1.heap.size (Na.dig y) 10000000 10000000 rfl wr HP.out.1 HO1.out (Na.dig_lim _) (by omega) (by omega) (by omega))
      rw [Na.val_dig] at HSm
      clear hno
      go_wp2_with fail
      refine HSm.out.mono ?_
      rintro e w4 ⟨Q, rfl, hq1, hq2, hq3, hq4, hg4⟩
      obtain ⟨p, hp⟩ : ∃ p, y % 10000000 = p := ⟨_, rfl⟩
      obtain ⟨y', hy'⟩ : ∃ y', y / 10000000 = y' := ⟨_, rfl⟩
      rw [hp, hy'] at HSt
      rw [hp]
      have hp7 : p < 10000000 := by omega
      have HQ1 := Lib.hid hq1
      have HQ : Hid (Na.trim Q = Na.dig y') := by unfold Hid; rw [Na.trim_dig hq2, hq3, hy']
      have HOq := Lib.hid hq4
      have HOo := Lib.hid (own_keep HO2.out hg4 (HAp.out.symm))
      have HB4 := Lib.hid (HB.out.trans (below_row hg4 HBS.out (own_block HO1.out)))
      have HBS4 : Hid (w1.heap.size ≤ w4.heap.size) := Nat.le_trans HBS.out hg4.size
      clear hq1 hq2 hq3 hq4 hg4 HSm hp hy' HO1 HO2 HB HBS
      go_wp2_with fail
      go_loopw [20, 3, 5] (fun i o q wr => NPi7 w1 w1.heap.size x y' Q A3 n3 c3 no i o q wr) (fun i _ _ _ => 7 - (intOf i).toNat)
      case atStart => exact ⟨0, p, ds, Ao, co, by omega, rfl, rfl, rfl, hp7, hp7, ⟨HP.out.2.1, HP.out.2.2.1, HSt.out⟩, HAp.out, HOq.out, HOo.out, HB4.out, HBS4.out⟩
      case round =>
        clear HOq HOo HB4 HBS4 hp7 HAp HSt
        obtain ⟨k, r, es, A4, c4, hk, rfl, rfl, rfl, hr7, HR, HE, hap, ho1, ho2, hb, hbs⟩ := hrel
        have HAp := Lib.hid hap
        have HO1 := Lib.hid ho1
        have HB := Lib.hid hb
        have HBS := Lib.hid hbs
        rcases Nat.lt_or_ge k 7 with hk7 | hk7
        · obtain ⟨d, hd⟩ : ∃ d, r % 10 = d := ⟨_, rfl⟩
          obtain ⟨q, hq⟩ : ∃ q, r / 10 = q := ⟨_, rfl⟩
          have hd10 : d < 10 := by omega
          have hmod : (r : Int) % 10 = (d : Int) := by omega
          have hdiv : (r : Int) / 10 = (q : Int) := by omega
          obtain ⟨b, hb8⟩ : ∃ b, b = De.asc d := ⟨_, rfl⟩
          have hb9 : (48 : Int) + (d : Int) = (b.toNat : Int) := by rw [hb8, De.asc_toNat hd10]; omega
          have HSt := Lib.hid (De.part_step es (no + k) r y' (6 - k) x HE.out.2.1 (by have := HE.out.2.2; rw [show 7 - k = 6 - k + 1 by omega] at this; exact this))
          rw [hd, hq] at HSt
          have HRq : Hid (q < 10 ^ (7 - (k + 1))) := by
            have h1 := HR.out
            unfold Hid at h1 ⊢
            rw [show 7 - k = 6 - k + 1 by omega, Nat.pow_succ] at h1
            rw [show 7 - (k + 1) = 6 - k by omega]
            omega
          have hq7 : q < 10000000 := by omega
          have HLm : Hid (De.Lim (es ++ [d])) := HE.out.1.append (De.Lim.one hd10)
          have HLl : Hid ((es ++ [d]).length = no + (k + 1)) := by unfold Hid; rw [List.length_append, HE.out.2.1]; rfl
          have HMap : Hid (es.map De.asc ++ [b] = (es ++ [d]).map De.asc) := by unfold Hid; rw [hb8]; exact De.map_snoc es d
          have HO3 : Hid ((wr.alloc (.cells #[.int .u8 (b.toNat : Int)] 5)).ownsRow w1.heap.size 5 1 (.slice A4 (no + k) c4) (no + k) (bys (es.map De.asc))) := own_alloc ho2 _
          have HSl := Lib.hid (sl_new1 wr 5 (.int .u8 (b.toNat : Int)))
          have hrow : ∀ y, (Value.slice A4 (no + k) c4).ownBlock = some y → w1.heap.size ≤ y := own_block ho2
          have h48 : 0 ≤ (48 : Int) + (d : Int) := by omega
          clear hap ho1 ho2 hb hbs hd hq hb8 HR HE
          go_wp2_with (at_builtin; refine wpList_append_sl _ rfl (.tmp 22) (.tmp 27) 76 rfl w1.heap.size 5 i0 (.int .u8 0) 1 Tryz.underlying76 hi hz0 hz1 hz2 rfl _ _ _ _ rfl HO3.out _ _ 1 _ _ rfl rfl HSl.out (fun u hu => by simp at hu; subst hu; rfl) (by unfold maxLen; omega) (by omega) (by have := HBS.out; simp; omega) ?_; intro A' c' w8 hown hgrow hblk)
          go_roundw
          case rel =>
            rw [bys_snoc, HMap.out] at hown
            have hz9 : w1.heap.size ≤ w8.heap.size := Nat.le_trans HBS.out (Nat.le_trans (by simp) hgrow.size)
            have HO1a : (wr.alloc (.cells #[.int .u8 (b.toNat : Int)] 5)).ownsRow w1.heap.size 3 1 (.slice A3 n3 c3) n3 (nats Q) := own_alloc HO1.out _
            exact ⟨k + 1, q, es ++ [d], A', c', by omega, by go_num, rfl, rfl, hq7, HRq.out, ⟨HLm.out, HLl.out, by rw [show 7 - (k + 1) = 6 - k by omega]; exact HSt.out⟩, HAp.out.next HO1a hblk, own_keep HO1a hgrow HAp.out, hown, (HB.out.alloc HBS.out _).grown hgrow (by have := HBS.out; simp; omega) hrow, hz9⟩
          case measure => simp [intOf]; omega
        · have hk' : k = 7 := by omega
          subst hk'
          have HO2 := Lib.hid ho2
          have HEq : Hid (De.val es + 10 ^ (no + 7) * y' = x) := by
            unfold Hid
            have h1 := HE.out.2.2
            have h2 := HR.out
            unfold Hid at h2
            rw [Nat.sub_self] at h1 h2
            have h3 : r = 0 := by simpa using h2
            rw [h3] at h1
            simpa using h1
          have HT := Lib.hid (ntrim_any A3 n3 c3 _ Q wr HQ1.out (Sl.of_own HO1.out) HC3.out (by omega))
          clear hap ho1 ho2 hb hbs HR
          go_wp2_with fail
          refine HT.out.mono ?_
          rintro e w6 ⟨rfl, rfl⟩
          have HTl : Hid ((Na.dig y').length = Na.tl Q n3 ∧ Na.tl Q n3 ≤ n3 ∧ nats (Na.dig y') = (nats Q).take (Na.tl Q n3)) := by
            refine ⟨?_, Na.tl_le _ _, ?_⟩
            · rw [← HQ.out, Na.trim_length, HQ1.out]
            · rw [← HQ.out, nats_take]
              unfold Na.trim
              rw [HQ1.out]
          go_wp2_with fail
          go_roundw
          case rel => exact ⟨y', es, A3, _, c3, A4, no + 7, c4, rfl, rfl, by have := HTl.out.2.1; omega, by omega, ⟨HTl.out.1, HE.out.1, HE.out.2.1, HEq.out⟩, HAp.out.of_len rfl rfl, by rw [HTl.out.2.2]; exact own_take HO1.out HTl.out.2.1, HO2.out, HB.out, HBS.out⟩
          case measure => simp only [slen_slice]; omega
theorem nprint_bad (A : Option Addr) (n c : Nat) (zs : List Int) (w : World) (hn : zs.length = n) (hs : Sl w w.heap.size A (ints zs)) (hl : n ≤ 140737488351232) (hv : Na.vld zs = false) :
    Calls Tryz.prog 44 #[.agg #[.slice A n c]] w fun e w' => e = .returned (.string (str [])) ∧ Below w.heap.size w w' := by
  have HV := Lib.hid (nvalid_any A n c w.heap.size zs (w.alloc (.cells #[.slice A n c] 24)) hn (hs.alloc (Nat.le_refl _) _) (by simp) (by omega))
  rw [hv] at HV
  clear hs hn hv
  go_enter Tryz.func44, Tryz.ntmps44
  go_wp2_with fail
  refine HV.out.mono ?_
  rintro e w1 ⟨rfl, hb⟩
  have HB1 := Lib.hid (btr (own_box1 w _) hb)
  clear hb
  go_wp2_with fail
  go_ret
  exact ⟨rfl, HB1.out⟩
end Go.Proofs.YtnfjnlnphdmdmaaGreatDoor
