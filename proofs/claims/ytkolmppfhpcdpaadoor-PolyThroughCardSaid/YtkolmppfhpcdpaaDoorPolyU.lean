/- The walk of 'agree': the program's functions against the document's, for any two lists of at most 300 bytes. -/
import Derived.Test.YtkolmppfhpcdpaaDoorPolyDivides
import Derived.Test.YtkolmppfhpcdpaaDoorRefF
import Derived.Test.YtkolmppfhpcdpaaDoorRefC
namespace Go.Proofs.YtkolmppfhpcdpaaDoor
open Go.RowKit
set_option linter.unusedVariables false
set_option maxRecDepth 100000
namespace Po
theorem addR_len (p q : List UInt8) : (addR p q).length ≤ max p.length q.length := by
  unfold addR
  split
  · exact addV_len p q
  · exact Nat.zero_le _
theorem mulR_len (p q : List UInt8) : (mulR p q).length ≤ 255 := by
  cases hv : (vld p && vld q)
  · rw [(mul_no hv).1]; exact Nat.zero_le _
  · rcases Nat.eq_zero_or_pos p.length with h0 | h0
    · rw [(mul_empty hv (.inl h0)).1]; exact Nat.zero_le _
    · rcases Nat.eq_zero_or_pos q.length with h1 | h1
      · rw [(mul_empty hv (.inr h1)).1]; exact Nat.zero_le _
      · rcases Nat.lt_or_ge 255 (p.length + q.length - 1) with h2 | h2
        · rw [(mul_long hv h0 h1 (by omega)).1]; exact Nat.zero_le _
        · rw [(mul_some hv h0 h1 h2).1]
          unfold mulA
          rw [mulTo_length]
          exact h2
theorem divQ_len (p q : List UInt8) : (divQ p q).length ≤ p.length + 1 := by
  unfold divQ
  split
  · exact quo_length p q
  · exact Nat.zero_le _
theorem divR_len (p q : List UInt8) : (divR p q).length ≤ max p.length q.length := by
  unfold divR
  split
  · exact rem_le p q _ (Nat.le_max_left _ _) (Nat.le_max_right _ _)
  · exact Nat.zero_le _
theorem divQ_len2 (p q : List UInt8) : (divQ p q).length ≤ 256 := by
  unfold divQ
  split
  · rename_i h
    simp at h
    have := vld_len h.1.1
    have := quo_length p q
    omega
  · exact Nat.zero_le _
theorem gcdR_len (p q : List UInt8) : (gcdR p q).length ≤ 255 := by
  unfold gcdR
  split
  · rename_i h
    simp at h
    have h1 := (gcd_vld q.length p q (Nat.le_refl _) h.1 h.2).1
    rw [monic_length]
    exact vld_len h1
  · exact Nat.zero_le _
theorem rootsR_len (p : List UInt8) : (rootsR p).length ≤ 256 := by
  unfold rootsR
  split
  · exact rootsTo_le p 256
  · exact Nat.zero_le _
theorem trim_len (p : List UInt8) : (trim p).length ≤ p.length := by
  rw [trim_length]
  exact tl_le p p.length
end Po
section
variable {w0 w : World} {g : Option Nat} {L : List Ob} {A A2 : Option Addr} {n c m c2 : Nat} {p q : List UInt8}
theorem padd_gt (h : St w0 w g L) (i j : Nat) (hi : L[i]? = some ⟨A, n, c, p⟩) (hj : L[j]? = some ⟨A2, m, c2, q⟩) (l : List UInt8) (e : Int) (hl : Po.addR p q = l) (he : Po.errR p q = e) :
    Calls Tryd.prog 18 #[.slice A n c, .slice A2 m c2] w (GotE w0 g L l e) := by
  obtain ⟨h1, h2, h3, h4⟩ := h.sl hi
  obtain ⟨k1, k2, k3, k4⟩ := h.sl hj
  exact (padd_any A A2 n c m c2 p q w h1 k1 h4 k4 (by omega) (by omega)).mono fun en w' hr => got_res h hl he (by rw [← hl]; have := Po.addR_len p q; omega) hr
theorem radd_gt (h : St w0 w g L) (i j : Nat) (hi : L[i]? = some ⟨A, n, c, p⟩) (hj : L[j]? = some ⟨A2, m, c2, q⟩) (l : List UInt8) (e : Int) (hl : Po.addR p q = l) (he : Po.errR p q = e) :
    Calls Tryd.prog 42 #[.slice A n c, .slice A2 m c2] w (GotE w0 g L l e) := by
  obtain ⟨h1, h2, h3, h4⟩ := h.sl hi
  obtain ⟨k1, k2, k3, k4⟩ := h.sl hj
  exact (radd_any A A2 n c m c2 p q w h1 k1 h4 k4 (by omega) (by omega)).mono fun en w' hr => got_res h hl he (by rw [← hl]; have := Po.addR_len p q; omega) hr
theorem pmul_gt (h : St w0 w g L) (i j : Nat) (hi : L[i]? = some ⟨A, n, c, p⟩) (hj : L[j]? = some ⟨A2, m, c2, q⟩) (l : List UInt8) (e : Int) (hl : Po.mulR p q = l) (he : Po.mulE p q = e) :
    Calls Tryd.prog 13 #[.slice A n c, .slice A2 m c2] w (GotE w0 g L l e) := by
  obtain ⟨h1, h2, h3, h4⟩ := h.sl hi
  obtain ⟨k1, k2, k3, k4⟩ := h.sl hj
  exact (pmul_any A A2 n c m c2 p q w h1 k1 h4 k4 (by omega) (by omega)).mono fun en w' hr => got_res h hl he (by rw [← hl]; have := Po.mulR_len p q; omega) hr
theorem rmul_gt (h : St w0 w g L) (i j : Nat) (hi : L[i]? = some ⟨A, n, c, p⟩) (hj : L[j]? = some ⟨A2, m, c2, q⟩) (l : List UInt8) (e : Int) (hl : Po.mulR p q = l) (he : Po.mulE p q = e) :
    Calls Tryd.prog 27 #[.slice A n c, .slice A2 m c2] w (GotE w0 g L l e) := by
  obtain ⟨h1, h2, h3, h4⟩ := h.sl hi
  obtain ⟨k1, k2, k3, k4⟩ := h.sl hj
  exact (rmul_any A A2 n c m c2 p q w h1 k1 h4 k4 (by omega) (by omega)).mono fun en w' hr => got_res h hl he (by rw [← hl]; have := Po.mulR_len p q; omega) hr
theorem pgcd_gt (h : St w0 w g L) (i j : Nat) (hi : L[i]? = some ⟨A, n, c, p⟩) (hj : L[j]? = some ⟨A2, m, c2, q⟩) (l : List UInt8) (e : Int) (hl : Po.gcdR p q = l) (he : Po.errR p q = e) :
    Calls Tryd.prog 24 #[.slice A n c, .slice A2 m c2] w (GotE w0 g L l e) := by
  obtain ⟨h1, h2, h3, h4⟩ := h.sl hi
  obtain ⟨k1, k2, k3, k4⟩ := h.sl hj
  exact (pgcd_any A A2 n c m c2 p q w h1 k1 h4 k4 (by omega) (by omega)).mono fun en w' hr => got_res h hl he (by rw [← hl]; have := Po.gcdR_len p q; omega) hr
theorem rgcd_gt (h : St w0 w g L) (i j : Nat) (hi : L[i]? = some ⟨A, n, c, p⟩) (hj : L[j]? = some ⟨A2, m, c2, q⟩) (l : List UInt8) (e : Int) (hl : Po.gcdR p q = l) (he : Po.errR p q = e) :
    Calls Tryd.prog 44 #[.slice A n c, .slice A2 m c2] w (GotE w0 g L l e) := by
  obtain ⟨h1, h2, h3, h4⟩ := h.sl hi
  obtain ⟨k1, k2, k3, k4⟩ := h.sl hj
  exact (rgcd_any A A2 n c m c2 p q w h1 k1 h4 k4 (by omega) (by omega)).mono fun en w' hr => got_res h hl he (by rw [← hl]; have := Po.gcdR_len p q; omega) hr
theorem pdivide_gt (h : St w0 w g L) (i j : Nat) (hi : L[i]? = some ⟨A, n, c, p⟩) (hj : L[j]? = some ⟨A2, m, c2, q⟩) (l r : List UInt8) (e : Int) (hl : Po.divQ p q = l) (hr : Po.divR p q = r) (he : Po.divE p q = e) :
    Calls Tryd.prog 23 #[.slice A n c, .slice A2 m c2] w (GotT w0 g L l r e) := by
  obtain ⟨h1, h2, h3, h4⟩ := h.sl hi
  obtain ⟨k1, k2, k3, k4⟩ := h.sl hj
  exact (pdivide_any A A2 n c m c2 p q w h1 k1 h4 k4 (by omega) (by omega)).mono fun en w' hres => got_two h hl hr he (by rw [← hl]; have := Po.divQ_len2 p q; omega) (by rw [← hr]; have := Po.divR_len p q; omega) hres
theorem rdivide_gt (h : St w0 w g L) (i j : Nat) (hi : L[i]? = some ⟨A, n, c, p⟩) (hj : L[j]? = some ⟨A2, m, c2, q⟩) (l r : List UInt8) (e : Int) (hl : Po.divQ p q = l) (hr : Po.divR p q = r) (he : Po.divE p q = e) :
    Calls Tryd.prog 43 #[.slice A n c, .slice A2 m c2] w (GotT w0 g L l r e) := by
  obtain ⟨h1, h2, h3, h4⟩ := h.sl hi
  obtain ⟨k1, k2, k3, k4⟩ := h.sl hj
  exact (rdivide_any A A2 n c m c2 p q w h1 k1 h4 k4 (by omega) (by omega)).mono fun en w' hres => got_two h hl hr he (by rw [← hl]; have := Po.divQ_len2 p q; omega) (by rw [← hr]; have := Po.divR_len p q; omega) hres
theorem ptrim_gt (h : St w0 w g L) (i : Nat) (hi : L[i]? = some ⟨A, n, c, p⟩) (l : List UInt8) (hl : Po.trim p = l) : Calls Tryd.prog 46 #[.slice A n c] w (GotF w0 g L l) := by
  obtain ⟨h1, h2, h3, h4⟩ := h.sl hi
  exact (ptrim_any A n c p w h1 h4 h2 (by omega)).mono fun en w' hr => got_fresh h hl (by rw [← hl]; have := Po.trim_len p; omega) hr
theorem rtrim_gt (h : St w0 w g L) (i : Nat) (hi : L[i]? = some ⟨A, n, c, p⟩) (l : List UInt8) (hl : Po.trim p = l) : Calls Tryd.prog 39 #[.slice A n c] w (GotF w0 g L l) := by
  obtain ⟨h1, h2, h3, h4⟩ := h.sl hi
  exact (rtrim_any A n c _ p w h1 h4 (Nat.le_refl _) h2 (by omega)).mono fun en w' hr => got_fresh h hl (by rw [← hl]; have := Po.trim_len p; omega) hr
theorem pderive_gt (h : St w0 w g L) (i : Nat) (hi : L[i]? = some ⟨A, n, c, p⟩) (l : List UInt8) (hl : Po.derR p = l) : Calls Tryd.prog 16 #[.slice A n c] w (GotF w0 g L l) := by
  obtain ⟨h1, h2, h3, h4⟩ := h.sl hi
  exact (derive_any A n c p w h1 h4 h2 (by omega)).mono fun en w' hr => got_fresh h hl (by rw [← hl]; have := Po.derR_len p; omega) hr
theorem rderive_gt (h : St w0 w g L) (i : Nat) (hi : L[i]? = some ⟨A, n, c, p⟩) (l : List UInt8) (hl : Po.derR p = l) : Calls Tryd.prog 47 #[.slice A n c] w (GotF w0 g L l) := by
  obtain ⟨h1, h2, h3, h4⟩ := h.sl hi
  exact (rderive_any A n c p w h1 h4 (by omega)).mono fun en w' hr => got_fresh h hl (by rw [← hl]; have := Po.derR_len p; omega) hr
theorem proots_gt (h : St w0 w g L) (i : Nat) (hi : L[i]? = some ⟨A, n, c, p⟩) (l : List UInt8) (hl : Po.rootsR p = l) : Calls Tryd.prog 14 #[.slice A n c] w (GotF w0 g L l) := by
  obtain ⟨h1, h2, h3, h4⟩ := h.sl hi
  exact (roots_any A n c p w h1 h4 (by omega)).mono fun en w' hr => got_fresh h hl (by rw [← hl]; have := Po.rootsR_len p; omega) hr
theorem rroots_gt (h : St w0 w g L) (i : Nat) (hi : L[i]? = some ⟨A, n, c, p⟩) (l : List UInt8) (hl : Po.rootsR p = l) : Calls Tryd.prog 48 #[.slice A n c] w (GotF w0 g L l) := by
  obtain ⟨h1, h2, h3, h4⟩ := h.sl hi
  exact (rroots_any A n c p w h1 h4 (by omega)).mono fun en w' hr => got_fresh h hl (by rw [← hl]; have := Po.rootsR_len p; omega) hr
theorem pvalid_gt (h : St w0 w g L) (i : Nat) (hi : L[i]? = some ⟨A, n, c, p⟩) (v : Bool) (hv : Po.vld p = v) : Calls Tryd.prog 29 #[.slice A n c] w fun e w' => e = .returned (.bool v) ∧ w = w' := by
  obtain ⟨h1, h2, h3, h4⟩ := h.sl hi
  rw [← hv]
  exact valid_any A n c _ p w h1 h4 (by omega)
theorem rvalid_gt (h : St w0 w g L) (i : Nat) (hi : L[i]? = some ⟨A, n, c, p⟩) (v : Bool) (hv : Po.vld p = v) : Calls Tryd.prog 45 #[.slice A n c] w fun e w' => e = .returned (.bool v) ∧ w = w' := by
  obtain ⟨h1, h2, h3, h4⟩ := h.sl hi
  rw [← hv]
  exact rvalid_any A n c _ p w h1 h4 (by omega)
theorem reval_gt (h : St w0 w g L) (i : Nat) (hi : L[i]? = some ⟨A, n, c, p⟩) (x : UInt8) (y : UInt8) (hy : Po.eval p x = y) :
    Calls Tryd.prog 37 #[.slice A n c, .int .u8 (x.toNat : Int)] w fun e w' => e = .returned (.int .u8 (y.toNat : Int)) ∧ St w0 w' g L := by
  obtain ⟨h1, h2, h3, h4⟩ := h.sl hi
  rw [← hy]
  exact (reval_any A n c _ p x w h1 (by omega) h4).mono fun en w' ⟨he, hb⟩ => ⟨he, h.go hb⟩
end
end Go.Proofs.YtkolmppfhpcdpaaDoor
