/- The functions of fractions in lowest terms. -/
import Derived.Test.YtnfjnlnphdmdmaaGreatDoorQmc
import Derived.Test.YtnfjnlnphdmdmaaGreatDoorQmd
import Derived.Test.YtnfjnlnphdmdmaaGreatDoorQmf
namespace Go.Proofs.YtnfjnlnphdmdmaaGreatDoor
open Go.RowKit Go.Sort
set_option linter.unusedVariables false
set_option maxRecDepth 100000
structure FrK (x y : Nat) : Prop where
  px : x < Na.top
  py : y < Na.top
  pos : 0 < y
  g : Nat.gcd x y = 1
theorem FrK.rv {x y : Nat} (h : FrK x y) : rv (Na.up (Na.dig x)) (Na.up (Na.dig y)) = true := rv_low h.px h.py h.pos h.g
/-- the fraction of two numbers -/
theorem FrK.of {x y : Nat} (hx : x < Na.top) (hy : y < Na.top) (h0 : 0 < y) : ∃ n d, frM x y = (n, d, 0) ∧ FrK n d ∧ n * y = x * d ∧ n ≤ x ∧ d ≤ y := by
  obtain ⟨n, d, h1, h2, h3, h4, h5, h6⟩ := frM_spec (x := x) h0
  exact ⟨n, d, h1, ⟨by omega, by omega, h2, h3⟩, h4, h5, h6⟩
section
variable {w0 w w' : World} {g : Option Nat} {M M2 : List (Nat × Value)} {L : List Ob} {O : List Rw} {A A2 A3 A4 : Option Addr} {b n c m c2 n3 c3 n4 c4 x y : Nat} {p q r s : List Int}
theorem qadd_fr {x y u v : Nat} {t : Nat × Nat × Int} (h : Ow w0 w g M L O) (i j k l : Nat) (hi : L[i]? = some ⟨A, n, c, nats (Na.dig x)⟩) (hj : L[j]? = some ⟨A2, m, c2, nats (Na.dig y)⟩) (hk : L[k]? = some ⟨A3, n3, c3, nats (Na.dig u)⟩) (hl : L[l]? = some ⟨A4, n4, c4, nats (Na.dig v)⟩) (ht : Tab w0) (F : FrK x y) (G : FrK u v) (S : x * v + u * y < Na.top) (Z : y * v < Na.top) (e : frM (x * v + u * y) (y * v) = t) :
    Calls Tryz.prog 16 #[.agg #[.slice A n c, .slice A2 m c2], .agg #[.slice A3 n3 c3, .slice A4 n4 c4]] w (GotF w0 g M L O t) := by
  have := qAdd_any (p := Na.up (Na.dig x)) (q := Na.up (Na.dig y)) (r := Na.up (Na.dig u)) (s := Na.up (Na.dig v)) h i j k l (by rw [nats_up]; exact hi) (by rw [nats_up]; exact hj) (by rw [nats_up]; exact hk) (by rw [nats_up]; exact hl) ht
  rwa [addF_low F.px F.py G.px G.py F.pos G.pos F.g G.g S Z, e] at this
theorem qsub_fr {x y u v : Nat} {t : Nat × Nat × Int} (h : Ow w0 w g M L O) (i j k l : Nat) (hi : L[i]? = some ⟨A, n, c, nats (Na.dig x)⟩) (hj : L[j]? = some ⟨A2, m, c2, nats (Na.dig y)⟩) (hk : L[k]? = some ⟨A3, n3, c3, nats (Na.dig u)⟩) (hl : L[l]? = some ⟨A4, n4, c4, nats (Na.dig v)⟩) (ht : Tab w0) (F : FrK x y) (G : FrK u v) (X : x * v < Na.top) (Y : u * y < Na.top) (Z : y * v < Na.top) (e : (if u * y ≤ x * v then frM (x * v - u * y) (y * v) else frE 5) = t) :
    Calls Tryz.prog 19 #[.agg #[.slice A n c, .slice A2 m c2], .agg #[.slice A3 n3 c3, .slice A4 n4 c4]] w (GotF w0 g M L O t) := by
  have := qSub_any (p := Na.up (Na.dig x)) (q := Na.up (Na.dig y)) (r := Na.up (Na.dig u)) (s := Na.up (Na.dig v)) h i j k l (by rw [nats_up]; exact hi) (by rw [nats_up]; exact hj) (by rw [nats_up]; exact hk) (by rw [nats_up]; exact hl) ht
  rwa [subF_low F.px F.py G.px G.py F.pos G.pos F.g G.g X Y Z, e] at this
theorem qmul_fr {x y u v : Nat} {t : Nat × Nat × Int} (h : Ow w0 w g M L O) (i j k l : Nat) (hi : L[i]? = some ⟨A, n, c, nats (Na.dig x)⟩) (hj : L[j]? = some ⟨A2, m, c2, nats (Na.dig y)⟩) (hk : L[k]? = some ⟨A3, n3, c3, nats (Na.dig u)⟩) (hl : L[l]? = some ⟨A4, n4, c4, nats (Na.dig v)⟩) (ht : Tab w0) (F : FrK x y) (G : FrK u v) (S : x * u < Na.top) (Z : y * v < Na.top) (e : frM (x * u) (y * v) = t) :
    Calls Tryz.prog 21 #[.agg #[.slice A n c, .slice A2 m c2], .agg #[.slice A3 n3 c3, .slice A4 n4 c4]] w (GotF w0 g M L O t) := by
  have := qmul_any (p := Na.up (Na.dig x)) (q := Na.up (Na.dig y)) (r := Na.up (Na.dig u)) (s := Na.up (Na.dig v)) h i j k l (by rw [nats_up]; exact hi) (by rw [nats_up]; exact hj) (by rw [nats_up]; exact hk) (by rw [nats_up]; exact hl) ht
  rwa [mulF_low F.px F.py G.px G.py F.pos G.pos F.g G.g S Z, e] at this
theorem qdiv_fr {x y u v : Nat} {t : Nat × Nat × Int} (h : Ow w0 w g M L O) (i j k l : Nat) (hi : L[i]? = some ⟨A, n, c, nats (Na.dig x)⟩) (hj : L[j]? = some ⟨A2, m, c2, nats (Na.dig y)⟩) (hk : L[k]? = some ⟨A3, n3, c3, nats (Na.dig u)⟩) (hl : L[l]? = some ⟨A4, n4, c4, nats (Na.dig v)⟩) (ht : Tab w0) (F : FrK x y) (G : FrK u v) (S : x * v < Na.top) (Z : y * u < Na.top) (e : (if u = 0 then frE 4 else frM (x * v) (y * u)) = t) :
    Calls Tryz.prog 23 #[.agg #[.slice A n c, .slice A2 m c2], .agg #[.slice A3 n3 c3, .slice A4 n4 c4]] w (GotF w0 g M L O t) := by
  have := qdiv_any (p := Na.up (Na.dig x)) (q := Na.up (Na.dig y)) (r := Na.up (Na.dig u)) (s := Na.up (Na.dig v)) h i j k l (by rw [nats_up]; exact hi) (by rw [nats_up]; exact hj) (by rw [nats_up]; exact hk) (by rw [nats_up]; exact hl) ht
  rwa [divF_low F.px F.py G.px G.py F.pos G.pos F.g G.g S Z, e] at this
theorem qcmp_fr {x y u v : Nat} {t : Nat × Nat × Int} (h : Ow w0 w g M L O) (i j k l : Nat) (hi : L[i]? = some ⟨A, n, c, nats (Na.dig x)⟩) (hj : L[j]? = some ⟨A2, m, c2, nats (Na.dig y)⟩) (hk : L[k]? = some ⟨A3, n3, c3, nats (Na.dig u)⟩) (hl : L[l]? = some ⟨A4, n4, c4, nats (Na.dig v)⟩) (ht : Tab w0) (F : FrK x y) (G : FrK u v) {e1 : Int} (S : x * v < Na.top) (Z : u * y < Na.top) (e : Na.sgn (x * v) (u * y) = e1) :
    Calls Tryz.prog 25 #[.agg #[.slice A n c, .slice A2 m c2], .agg #[.slice A3 n3 c3, .slice A4 n4 c4]] w (fun e w' => e = .returned (.tuple #[.int .i64 e1, .int .i64 0]) ∧ Ow w0 w' g M L O) := by
  have := qcmp_any (p := Na.up (Na.dig x)) (q := Na.up (Na.dig y)) (r := Na.up (Na.dig u)) (s := Na.up (Na.dig v)) h i j k l (by rw [nats_up]; exact hi) (by rw [nats_up]; exact hj) (by rw [nats_up]; exact hk) (by rw [nats_up]; exact hl) ht
  unfold cmpV cmpE at this
  rw [F.rv, G.rv, num_dig, num_dig, num_dig, num_dig, Bool.and_true, if_pos rfl, if_pos rfl, if_pos ⟨S, Z⟩, if_pos ⟨S, Z⟩, e] at this
  exact this
theorem qfloor_fr {x y : Nat} (h : Ow w0 w g M L O) (i j : Nat) (hi : L[i]? = some ⟨A, n, c, nats (Na.dig x)⟩) (hj : L[j]? = some ⟨A2, m, c2, nats (Na.dig y)⟩) (ht : Tab w0) (F : FrK x y) :
    Calls Tryz.prog 27 #[.agg #[.slice A n c, .slice A2 m c2]] w (GotO w0 g M L O (Na.dig (x / y)) 0) := qfloor_ok h i j hi hj ht F.px F.py F.pos F.rv
theorem qvalid_fr {x y : Nat} (h : Ow w0 w g M L O) (i j : Nat) (hi : L[i]? = some ⟨A, n, c, nats (Na.dig x)⟩) (hj : L[j]? = some ⟨A2, m, c2, nats (Na.dig y)⟩) (ht : Tab w0) (F : FrK x y) :
    Calls Tryz.prog 30 #[.agg #[.slice A n c, .slice A2 m c2]] w fun e w' => e = .returned (.bool true) ∧ Ow w0 w' g M L O := by
  have := qvalid_ow (p := Na.up (Na.dig x)) (q := Na.up (Na.dig y)) h i j (by rw [nats_up]; exact hi) (by rw [nats_up]; exact hj) ht
  rwa [F.rv] at this
theorem qmake_fr {x y : Nat} {t : Nat × Nat × Int} (h : Ow w0 w g M L O) (i j : Nat) (hi : L[i]? = some ⟨A, n, c, nats (Na.dig x)⟩) (hj : L[j]? = some ⟨A2, m, c2, nats (Na.dig y)⟩) (ht : Tab w0) (hx : x < Na.top) (hy : y < Na.top) (e : frM x y = t) :
    Calls Tryz.prog 12 #[.agg #[.slice A n c], .agg #[.slice A2 m c2]] w (GotF w0 g M L O t) := by
  have := qmake_ow (p := Na.up (Na.dig x)) (q := Na.up (Na.dig y)) h i j (by rw [nats_up]; exact hi) (by rw [nats_up]; exact hj) ht
  unfold makeF at this
  rw [Na.vld_dig hx, Na.vld_dig hy, num_dig, num_dig, e] at this
  exact this
end
end Go.Proofs.YtnfjnlnphdmdmaaGreatDoor
