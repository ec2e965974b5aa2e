/- Long division, in plain Lean: one round over lists; the divisor moved; the rest moved back. -/
import Derived.Test.YtnfjnlnphdmdmaaDoorDm
import Derived.Test.YtnfjnlnphdmdmaaDoorNPowA
namespace Go.Proofs.YtnfjnlnphdmdmaaDoor
set_option linter.unusedVariables false
namespace Na
theorem val_top3 (l : List Nat) (m a b c : Nat) (hl : l.length = m + 3) (ha : l[m]? = some a) (hb : l[m + 1]? = some b) (hc : l[m + 2]? = some c) : val l = ((c * 16777216 + b) * 16777216 + a) * 16777216 ^ m + val (l.take m) := by
  rw [val_split l m (by omega), val_drop_cons l m a ha, val_drop_cons l (m + 1) b hb, val_drop_cons l (m + 2) c hc, List.drop_of_length_le (by omega)]
  simp only [val]
  rw [Nat.mul_comm (16777216 ^ m)]
  have : a + 16777216 * (b + 16777216 * (c + 16777216 * 0)) = (c * 16777216 + b) * 16777216 + a := by omega
  rw [this]
  omega
theorem val_top2 (l : List Nat) (m a b : Nat) (hl : l.length = m + 2) (ha : l[m]? = some a) (hb : l[m + 1]? = some b) : val l = (b * 16777216 + a) * 16777216 ^ m + val (l.take m) := by
  rw [val_split l m (by omega), val_drop_cons l m a ha, val_drop_cons l (m + 1) b hb, List.drop_of_length_le (by omega)]
  simp only [val]
  rw [Nat.mul_comm (16777216 ^ m)]
  have : a + 16777216 * (b + 16777216 * 0) = b * 16777216 + a := by omega
  rw [this]
  omega
theorem rnd_of (W V : List Nat) (m u0 u1 u2 v1 v2 : Nat) (hW : W.length = m + 3) (hV : V.length = m + 2) (hlW : Lim W) (hlV : Lim V) (w2 : W[m]? = some u2) (w1 : W[m + 1]? = some u1) (w0 : W[m + 2]? = some u0) (z2 : V[m]? = some v2) (z1 : V[m + 1]? = some v1)
    (h8 : 8388608 ≤ v1) (hlt : val W < 16777216 * val V) : Rnd (val W) (val V) (16777216 ^ m) u0 u1 u2 (val (W.take m)) v1 v2 (val (V.take m)) := by
  have e1 := val_lt (hlW.take m)
  have e2 := val_lt (hlV.take m)
  rw [List.length_take, Nat.min_eq_left (by omega)] at e1 e2
  exact ⟨val_top3 W m u2 u1 u0 hW w2 w1 w0, e1, val_top2 V m v2 v1 hV z2 z1, e2, hlW.at w1, hlW.at w2, hlV.at z1, hlV.at z2, h8, hlt⟩
theorem val_win (U o : List Nat) (j : Nat) (h : j + o.length ≤ U.length) : val (win U o j) = val (U.take j) + 16777216 ^ j * (val o + 16777216 ^ o.length * val (U.drop (j + o.length))) := by
  unfold win
  rw [val_append, val_append, List.length_take, Nat.min_eq_left (by omega)]
/-- the window holds all that is left above -/
theorem win_all (U V : List Nat) (j N : Nat) (hV : Lim V) (hN : N = V.length + 1) (hU : j + N ≤ U.length) (h : val U < 16777216 ^ (j + 1) * val V) : val ((U.drop j).take N) < 16777216 * val V ∧ val (U.drop (j + N)) = 0 ∧ val U = val (U.take j) + 16777216 ^ j * val ((U.drop j).take N) := by
  have h1 := val_split U j (by omega)
  have h2 := val_split (U.drop j) N (by rw [List.length_drop]; omega)
  rw [List.drop_drop] at h2
  have hp : 0 < 16777216 ^ j := Nat.pow_pos (by omega)
  have h3 : val (U.drop j) < 16777216 * val V := by
    rw [Nat.pow_succ, Nat.mul_assoc] at h
    exact Nat.lt_of_mul_lt_mul_left (Nat.lt_of_le_of_lt (by omega : 16777216 ^ j * val (U.drop j) ≤ val U) h)
  have h4 : val (U.drop (j + N)) = 0 := by
    rcases Nat.eq_zero_or_pos (val (U.drop (j + N))) with e | e
    · exact e
    · exfalso
      have h5 := Nat.mul_le_mul_left (16777216 ^ N) e
      rw [Nat.mul_one] at h5
      have h6 := val_lt hV
      have h7 : 16777216 ^ N = 16777216 * 16777216 ^ V.length := by rw [hN, Nat.pow_succ, Nat.mul_comm]
      omega
  rw [h4, Nat.mul_zero, Nat.add_zero] at h2
  exact ⟨by omega, h4, by rw [← h2]; exact h1⟩
theorem round_end (U V Q o : List Nat) (j N q X : Nat) (hlU : Lim U) (hV : Lim V) (hV0 : 0 < val V) (hN : N = V.length + 1) (hU : j + N ≤ U.length) (ho : o.length = N) (hX : X = val V * val Q + val U) (h : val U < 16777216 ^ (j + 1) * val V)
    (hq : q = val ((U.drop j).take N) / val V) (hQ : Q[j]? = some 0) (hv : val o = val ((U.drop j).take N) - q * val V) : X = val V * val (Q.set j q) + val (win U o j) ∧ val (win U o j) < 16777216 ^ j * val V := by
  obtain ⟨h1, h2, h3⟩ := win_all U V j N hV hN hU h
  have h4 := val_win U o j (by omega)
  rw [ho, h2, Nat.mul_zero, Nat.add_zero] at h4
  have h5 := val_set Q j 0 q hQ
  rw [Nat.mul_zero, Nat.add_zero] at h5
  obtain ⟨W, hW⟩ : ∃ W, val ((U.drop j).take N) = W := ⟨_, rfl⟩
  rw [hW] at hq hv h1 h3
  have h6 : q * val V ≤ W := by rw [hq]; exact Nat.div_mul_le_self W (val V)
  have h7 : W < q * val V + val V := by
    have e1 := Nat.div_add_mod W (val V)
    have e2 := Nat.mod_lt W hV0
    rw [← hq, Nat.mul_comm] at e1
    omega
  refine ⟨?_, ?_⟩
  · rw [h5, h4, hX, h3, Nat.mul_add, hv]
    have e : 16777216 ^ j * W = 16777216 ^ j * (W - q * val V) + 16777216 ^ j * (q * val V) := by rw [← Nat.mul_add]; congr 1; omega
    have e2 : val V * (16777216 ^ j * q) = 16777216 ^ j * (q * val V) := by rw [Nat.mul_left_comm, Nat.mul_comm (val V) q]
    omega
  · have e1 := val_lt (hlU.take j)
    rw [List.length_take, Nat.min_eq_left (by omega)] at e1
    have e2 : 16777216 ^ j * (val o + 1) ≤ 16777216 ^ j * val V := Nat.mul_le_mul_left _ (by omega)
    rw [Nat.mul_add, Nat.mul_one] at e2
    omega
/-- the divisor, moved until its highest bit is set -/
theorem norm (y m a k : Nat) (hm : (dig y).length = m + 1) (ha : (dig y)[m]? = some a) (hk : k = 24 - Nbl a) : k < 24 ∧ (dig (y * 2 ^ k)).length = m + 1 ∧ ∃ b, (dig (y * 2 ^ k))[m]? = some b ∧ 8388608 ≤ b := by
  obtain ⟨h1, h2, h3, h4⟩ := bitlen y m a hm ha
  have ha24 := (dig_lim y).at ha
  have h5 : Nbl a ≤ 24 := nbl_le (k := 24) (by omega) (by omega)
  have hlo : 2 ^ (24 * m + 23) ≤ y * 2 ^ k := by
    have e := Nat.mul_le_mul_right (2 ^ k) h3
    rw [← Nat.pow_add] at e
    rwa [show m * 24 + Nbl a - 1 + k = 24 * m + 23 by omega] at e
  have hhi : y * 2 ^ k < 16777216 ^ (m + 1) := by
    have e := Nat.mul_lt_mul_of_pos_right h4 (show 0 < 2 ^ k from Nat.pow_pos (by omega))
    rw [← Nat.pow_add] at e
    rw [pow24']
    rwa [show m * 24 + Nbl a + k = 24 * (m + 1) by omega] at e
  have hlen : (dig (y * 2 ^ k)).length = m + 1 := by
    have e1 := dig_len_le hhi
    have e2 : m < (dig (y * 2 ^ k)).length := dig_len_ge (Nat.le_trans (by rw [pow24']; exact Nat.pow_le_pow_right (by omega) (by omega)) hlo)
    omega
  refine ⟨by omega, hlen, ?_⟩
  have hb : (dig (y * 2 ^ k))[m]? = some ((dig (y * 2 ^ k))[m]'(by omega)) := List.getElem?_eq_getElem (by omega)
  refine ⟨_, hb, ?_⟩
  obtain ⟨b, hb2⟩ : ∃ b, (dig (y * 2 ^ k))[m]'(by omega) = b := ⟨_, rfl⟩
  rw [hb2] at hb ⊢
  have e1 := val_split (dig (y * 2 ^ k)) m (by omega)
  rw [val_drop_cons _ m b hb, List.drop_of_length_le (by omega), val_dig] at e1
  simp only [val, Nat.mul_zero, Nat.add_zero] at e1
  have e2 := val_lt ((dig_lim (y * 2 ^ k)).take m)
  rw [List.length_take, Nat.min_eq_left (by omega)] at e2
  rcases Nat.lt_or_ge b 8388608 with hc | hc
  · exfalso
    have e3 : 16777216 ^ m * (b + 1) ≤ 16777216 ^ m * 8388608 := Nat.mul_le_mul_left _ hc
    rw [Nat.mul_add, Nat.mul_one] at e3
    have e4 : 2 ^ (24 * m + 23) = 16777216 ^ m * 8388608 := by rw [Nat.pow_add, pow24']
    omega
  · exact hc
/-- the rest, moved back: one limb -/
theorem back_limb (u z k s : Nat) (hu : u < 16777216) (hk : k ≤ 24) (hs : s = 2 ^ (24 - k)) : (u + 16777216 * z) / 2 ^ k % 16777216 = u / 2 ^ k + (z * s) % 16777216 ∧ u / 2 ^ k < s := by
  have hp : 0 < 2 ^ k := Nat.pow_pos (by omega)
  have hB : 16777216 = s * 2 ^ k := by
    rw [hs, ← Nat.pow_add, Nat.sub_add_cancel hk]
  have h1 : u / 2 ^ k < s := by rw [Nat.div_lt_iff_lt_mul hp, ← hB]; exact hu
  have h2 : (u + 16777216 * z) / 2 ^ k = u / 2 ^ k + s * z := by
    conv => lhs; rw [show u + 16777216 * z = u + 2 ^ k * (s * z) by rw [← Nat.mul_assoc, Nat.mul_comm (2 ^ k) s, ← hB]]
    rw [Nat.add_mul_div_left _ _ hp]
  refine ⟨?_, h1⟩
  rw [h2, Nat.mul_comm z s]
  have h3 : (s * z) % 16777216 = s * (z % 2 ^ k) := by
    conv => lhs; rw [hB, Nat.mul_mod_mul_left]
  have h4 : z % 2 ^ k + 1 ≤ 2 ^ k := Nat.mod_lt _ hp
  have h5 : s * (z % 2 ^ k + 1) ≤ s * 2 ^ k := Nat.mul_le_mul_left _ h4
  rw [← hB, Nat.mul_add, Nat.mul_one] at h5
  rw [Nat.add_mod, h3, Nat.mod_eq_of_lt (a := u / 2 ^ k) (by omega), Nat.mod_eq_of_lt (by omega)]
theorem back_step (U o : List Nat) (i k u d Z : Nat) (ho : o.length = i) (hu : U[i]? = some u) (hu24 : u < 16777216) (h : val o + 16777216 ^ i * (val (U.drop i) / 2 ^ k) = Z) (hd : d = val (U.drop i) / 2 ^ k % 16777216) :
    val (o ++ [d]) + 16777216 ^ (i + 1) * (val (U.drop (i + 1)) / 2 ^ k) = Z := by
  have e : val (U.drop (i + 1)) / 2 ^ k = val (U.drop i) / 2 ^ k / 16777216 := by
    rw [val_drop_cons U i u hu]
    have e0 : (u + 16777216 * val (U.drop (i + 1))) / 2 ^ k / 16777216 = (u + 16777216 * val (U.drop (i + 1))) / 16777216 / 2 ^ k := by rw [Nat.div_div_eq_div_mul, Nat.div_div_eq_div_mul, Nat.mul_comm (2 ^ k)]
    rw [e0, Nat.add_mul_div_left _ _ (by omega), Nat.div_eq_of_lt hu24, Nat.zero_add]
  have h1 := split24 (16777216 ^ i) (val (U.drop i) / 2 ^ k)
  rw [val_snoc, ho, e, hd, Nat.pow_succ, ← h]
  omega
/-- the limb that is put together: of limb u and the next one -/
theorem back_or (u u1 r k s : Nat) (hu : u < 16777216) (h1 : u1 < 16777216) (hk : k ≤ 24) (hs : s = 2 ^ (24 - k)) : ((u1 + 16777216 * r) * s) % 16777216 = (u1 * s) % 16777216 ∧ (u / 2 ^ k ||| (u1 * s) % 16777216) = u / 2 ^ k + (u1 * s) % 16777216 := by
  have hp : 0 < 2 ^ k := Nat.pow_pos (by omega)
  have hB : 16777216 = s * 2 ^ k := by
    rw [hs, ← Nat.pow_add, Nat.sub_add_cancel hk]
  have h2 : u / 2 ^ k < s := by rw [Nat.div_lt_iff_lt_mul hp, ← hB]; exact hu
  refine ⟨by rw [Nat.add_mul, Nat.mul_assoc, Nat.add_mul_mod_self_left], ?_⟩
  have h3 : (u1 * s) % 16777216 = s * (u1 % 2 ^ k) := by
    rw [Nat.mul_comm u1 s]
    conv => lhs; rw [hB, Nat.mul_mod_mul_left]
  rw [h3, Nat.or_comm, hs, ← Nat.two_pow_add_eq_or_of_lt (by rw [← hs]; exact h2), Nat.add_comm]
end Na
end Go.Proofs.YtnfjnlnphdmdmaaDoor
