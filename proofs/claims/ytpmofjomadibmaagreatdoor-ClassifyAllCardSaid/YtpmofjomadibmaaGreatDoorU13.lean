/- Qma Qmb Qmc -/
import Derived.Test.YtpmofjomadibmaaGreatDoorU12
namespace Go.Proofs.YtpmofjomadibmaaGreatDoor
set_option maxHeartbeats 16000000
open Go.RowKit
set_option linter.unusedVariables false
abbrev Rw.pair (b:Nat)(T:TypeId)(x y:Value):Rw:=⟨some ⟨b,0,none⟩,2,2,T,[x,y]⟩
section
variable {w0 w w':World}{g:Option Nat}{M:List (Nat×Value)}{L:List Ob}{O:List Rw}
theorem Ow.pair (h:Ow w0 w g M L O)(x y:Value)(T:TypeId):Ow w0 (w.alloc (.cells #[x,y] T)) g M L (O++[Rw.pair w.heap.size T x y]):=
 h.add (World.ownsRow_lit (base:=w.heap.size) (e:=T) (size:=1) w #[x,y] 2 (zqj _) (by decide) rfl) (z0i _ _)
theorem Ow.p0 (h:Ow w0 w g M L O)(i:Nat){b:Nat}{T:TypeId}{x y:Value}(hi:O[i]?=some (Rw.pair b T x y)):w.cell? ⟨b,0,none⟩=some x:=
 (h.own i _ hi).cellAt 0 (show 0<2*1 by decide)
theorem Ow.p1 (h:Ow w0 w g M L O)(i:Nat){b:Nat}{T:TypeId}{x y:Value}(hi:O[i]?=some (Rw.pair b T x y)):w.cell? ⟨b,1,none⟩=some y:=
 (h.own i _ hi).cellAt 1 (show 1<2*1 by decide)
theorem Ow.pf (h:Ow w0 w g M L O)(i:Nat){b:Nat}{T:TypeId}{x y:Value}(hi:O[i]?=some (Rw.pair b T x y))(k:Nat):w.frozen? ⟨b,k,none⟩=false:=
 (h.own i _ hi).frozenAt k
theorem Ow.set0 (h:Ow w0 w g M L O)(i:Nat){b:Nat}{T:TypeId}{x y:Value}(hi:O[i]?=some (Rw.pair b T x y))(v:Value):Ow w0 (w.setCell ⟨b,0,none⟩ v) g M L (O.set i (Rw.pair b T v y)):=h.put i hi 0 v
theorem Ow.set1 (h:Ow w0 w g M L O)(i:Nat){b:Nat}{T:TypeId}{x y:Value}(hi:O[i]?=some (Rw.pair b T x y))(v:Value):Ow w0 (w.setCell ⟨b,1,none⟩ v) g M L (O.set i (Rw.pair b T x v)):=h.put i hi 1 v
end
def rv (p q:List Int):Bool:=(Na.vld p && Na.vld q) && (!(decide (num q=0)) && decide (Nat.gcd (num p) (num q)=1))
def frE (e:Int):Nat×Nat×Int:=(0,0,e)
def frM (x y:Nat):Nat×Nat×Int:=if y=0 then (0,0,4) else (x / Nat.gcd x y,y / Nat.gcd x y,0)
def z6l (p q:List Int):Nat×Nat×Int:=if Na.vld p && Na.vld q then frM (num p) (num q) else frE 1
def cmpV (p q r s:List Int):Int:=if rv p q && rv r s then (if num p*num s<Na.top/\num r*num q<Na.top then Na.sgn (num p*num s) (num r*num q) else 0) else 0
def cmpE (p q r s:List Int):Int:=if rv p q && rv r s then (if num p*num s<Na.top/\num r*num q<Na.top then 0 else 3) else 1
def rprt (p q:List Int):List UInt8:=if rv p q then De.text (num p)++47 :: De.text (num q) else []
theorem z6as {p q:List Int}(h:rv p q=true):∃ x y,x<Na.top/\y<Na.top/\0<y/\Nat.gcd x y=1/\p=Na.up (Na.dig x)/\q=Na.up (Na.dig y):=by
 unfold rv at h;obtain ⟨h1,h4⟩:=Bool.and_eq_true_iff.1 h
 obtain ⟨h2,h3⟩:=Bool.and_eq_true_iff.1 h4
 obtain ⟨x,y,hx,hy,rfl,rfl⟩:=z9f h1
 rw [z0l] at h2;rw [z0l,z0l] at h3;refine ⟨x,y,hx,hy,?_,of_decide_eq_true h3,rfl,rfl⟩
 simp at h2
 omega
theorem z5o {x y:Nat}(hx:x<Na.top)(hy:y<Na.top):(frM x y).1<Na.top/\(frM x y).2.1<Na.top:=by
 unfold frM;split
 ·exact ⟨by show 0<Na.top;omega,by show 0<Na.top;omega⟩
 ·exact ⟨zqu (Nat.div_le_self _ _) hx,zqu (Nat.div_le_self _ _) hy⟩
def ResF (w:World)(t:Nat×Nat×Int)(en:Ending)(w':World):Prop:=
 ∃ (A1:Option Addr) (n1 c1:Nat) (A2:Option Addr) (n2 c2:Nat),en=.returned (.tuple #[.agg #[.slice A1 n1 c1,.slice A2 n2 c2],.int .i64 t.2.2])/\(Na.dig t.1).length=n1/\(Na.dig t.2.1).length=n2/\w'.ownsRow w.heap.size 3 1 (.slice A1 n1 c1) n1 (z0c (Na.dig t.1))/\w'.ownsRow w.heap.size 3 1 (.slice A2 n2 c2) n2 (z0c (Na.dig t.2.1))/\Below w.heap.size w w'
theorem z4s (w w':World)(err:Int)(h:Below w.heap.size w w'):ResF w (frE err) (.returned (.tuple #[.agg #[.slice none 0 0,.slice none 0 0],.int .i64 err])) w':=
 ⟨none,0,0,none,0,0,rfl,by show (Na.dig 0).length=0;rw [Na.dig_zero];rfl,by show (Na.dig 0).length=0;rw [Na.dig_zero];rfl,by show World.ownsRow _ _ _ _ _ _ (z0c (Na.dig 0));rw [Na.dig_zero];exact World.ownsRow_nil _ _ _ _,by show World.ownsRow _ _ _ _ _ _ (z0c (Na.dig 0));rw [Na.dig_zero];exact World.ownsRow_nil _ _ _ _,h⟩
def GotF (w0:World)(g:Option Nat)(M:List (Nat×Value))(L:List Ob)(O:List Rw)(t:Nat×Nat×Int)(en:Ending)(w':World):Prop:=
 ∃ (A1:Option Addr) (n1 c1:Nat) (A2:Option Addr) (n2 c2:Nat),en=.returned (.tuple #[.agg #[.slice A1 n1 c1,.slice A2 n2 c2],.int .i64 t.2.2])/\Ow w0 w' g M (L++[⟨A1,n1,c1,z0c (Na.dig t.1)⟩]++[⟨A2,n2,c2,z0c (Na.dig t.2.1)⟩]) O
section
variable {w0 w w':World}{g:Option Nat}{M:List (Nat×Value)}{L:List Ob}{O:List Rw}{A A2:Option Addr}{n c m c2 x y:Nat}
theorem z2bu (h:Ow w0 w g M L O){t:Nat×Nat×Int}(h1:t.1<Na.top)(h2:t.2.1<Na.top){en:Ending}(hr:ResF w t en w'):GotF w0 g M L O t en w':=by
 obtain ⟨A1,n1,c1,A2,n2,c2,rfl,k1,k2,o1,o2,hb⟩:=hr;exact ⟨A1,n1,c1,A2,n2,c2,rfl,h.push2 o1 o2 (by rw [<- k1];exact z3a h1) (by rw [<- k2];exact z3a h2) hb⟩
theorem z6az (h:Ow w w' g M L O)(i j:Nat){e:Int}{t:Nat×Nat×Int}(ht:t.2.2=e)(hi:O[i]?=some ⟨A,n,c,3,z0c (Na.dig t.1)⟩)(hj:O[j]?=some ⟨A2,m,c2,3,z0c (Na.dig t.2.1)⟩):ResF w t (.returned (.tuple #[.agg #[.slice A n c,.slice A2 m c2],.int .i64 e])) w':=by
 have ho:=h.row i hi
 have hp:=h.row j hj
 subst ht
 exact ⟨A,n,c,A2,m,c2,rfl,by have:=z1m ho;rwa [z0e] at this,by have:=z1m hp;rwa [z0e] at this,ho,hp,h.below⟩
theorem z4bk (h:Ow w0 w g M L O)(hA:(Na.dig x).length=n/\n<=c/\Sl w w.heap.size A (z0c (Na.dig x)))(hB:(Na.dig y).length=m/\m<=c2/\Sl w w.heap.size A2 (z0c (Na.dig y)))(hx:x<Na.top)(hy:y<Na.top)(hy0:0<y):
  Calls Tryz.prog 127 #[.agg #[.slice A n c],.agg #[.slice A2 m c2]] w fun e w'=>∃ (A1:Option Addr) (n1 c1:Nat) (A2:Option Addr) (n2 c2:Nat),e=.returned (.tuple #[.agg #[.slice A1 n1 c1],.agg #[.slice A2 n2 c2],.int .i64 0])/\(Na.dig (x / y)).length=n1/\Ow w0 w' g M L (O++[⟨A1,n1,c1,3,z0c (Na.dig (x / y))⟩]):=
 (z5as A A2 n c m c2 x y w hA.1 hB.1 hA.2.2 hB.2.2 hx hy hy0).mono fun en w' ⟨A1,n1,c1,A3,n2,c3,he,e1,e2,o1,o2,hb⟩=>⟨A1,n1,c1,A3,n2,c3,he,e1,h.add o1 hb⟩
theorem z9bo (h:Ow w0 w g M L O)(hA:(Na.dig x).length=n/\n<=c/\Sl w w.heap.size A (z0c (Na.dig x)))(hB:(Na.dig y).length=m/\m<=c2/\Sl w w.heap.size A2 (z0c (Na.dig y)))(hx:x<Na.top)(hy:y<Na.top)(ht:Tab w0):
  Calls Tryz.prog 86 #[.agg #[.slice A n c],.agg #[.slice A2 m c2]] w fun e w'=>∃ (A':Option Addr) (n' c':Nat),e=.returned (.tuple #[.agg #[.slice A' n' c'],.int .i64 0])/\(Na.dig (Nat.gcd x y)).length=n'/\Ow w0 w' g M L (O++[⟨A',n',c',3,z0c (Na.dig (Nat.gcd x y))⟩]):=
 (z8ap A A2 n c m c2 x y w hA.1 hB.1 hA.2.2 hB.2.2 hx hy (ht.below h.below)).mono fun en w' hr=>h.addN hr
theorem z5bv (h:Ow w0 w g M L O)(hA:(Na.dig x).length=n/\n<=c/\Sl w w.heap.size A (z0c (Na.dig x)))(hB:(Na.dig y).length=m/\m<=c2/\Sl w w.heap.size A2 (z0c (Na.dig y)))(hx:x<Na.top)(hy:y<Na.top):
  Calls Tryz.prog 76 #[.agg #[.slice A n c],.agg #[.slice A2 m c2]] w fun e w'=>∃ (A':Option Addr) (n' c':Nat),e=.returned (.tuple #[.agg #[.slice A' n' c'],.int .i64 0])/\(Na.dig (Nat.gcd x y)).length=n'/\Ow w0 w' g M L (O++[⟨A',n',c',3,z0c (Na.dig (Nat.gcd x y))⟩]):=
 (z3ae A A2 n c m c2 x y w hA.1 hB.1 hA.2.1 hB.2.1 hA.2.2 hB.2.2 hx hy).mono fun en w' hr=>h.addN hr
theorem z9bt (h:Ow w0 w g M L O)(hA:(Na.dig x).length=n/\n<=c/\Sl w w.heap.size A (z0c (Na.dig x)))(hB:(Na.dig y).length=m/\m<=c2/\Sl w w.heap.size A2 (z0c (Na.dig y)))(hl:n<=1000)(hl2:m<=1000):
  Calls Tryz.prog 87 #[.agg #[.slice A n c],.agg #[.slice A2 m c2]] w fun e w'=>e=.returned (.int .i64 (Na.sgn x y))/\Ow w0 w' g M L O:=
 (z8r A A2 n c m c2 w.heap.size x y w hA.1 hB.1 hA.2.2 hB.2.2 (zqj _) (by omega) (by omega)).mono fun en w' ⟨he,hb⟩=>⟨he,h.go hb⟩
end
theorem z2ad {x y:Nat}(hy:0<y):frM x y=(x / Nat.gcd x y,y / Nat.gcd x y,0):=if_neg (by omega)
theorem z2bv {x y:Nat}(hy:0<y):∃ n d,frM x y=(n,d,0)/\0<d/\Nat.gcd n d=1/\n*y=x*d/\n<=x/\d<=y:=by
 have hg:0<Nat.gcd x y:=Nat.gcd_pos_of_pos_right _ hy
 obtain ⟨n,hn⟩:=Nat.gcd_dvd_left x y
 obtain ⟨d,hd⟩:=Nat.gcd_dvd_right x y
 have e1:x / Nat.gcd x y=n:=Nat.div_eq_of_eq_mul_right hg hn
 have e2:y / Nat.gcd x y=d:=Nat.div_eq_of_eq_mul_right hg hd
 have hd0:0<d:=by
  rcases zqh d with h|h
  ·rw [h,Nat.mul_zero] at hd;omega
  ·exact h
 refine ⟨n,d,by rw [z2ad hy,e1,e2],hd0,?_,?_,?_,?_⟩
 ·have:=Nat.gcd_div (Nat.gcd_dvd_left x y) (Nat.gcd_dvd_right x y)
  rwa [e1,e2,Nat.div_self hg] at this
 ·generalize Nat.gcd x y=k at hn hd
  subst hn hd
  grind
 ·rw [<- e1];exact Nat.div_le_self _ _
 ·rw [<- e2];exact Nat.div_le_self _ _
theorem z8br {n d:Nat}(hn:n<Na.top)(hd:d<Na.top)(hd0:0<d)(hg:Nat.gcd n d=1):rv (Na.up (Na.dig n)) (Na.up (Na.dig d))=true:=by
 unfold rv;rw [Na.vld_dig hn,Na.vld_dig hd,z0l,z0l];simp [hg]
 omega
open Go.RowKit Go.Sort
set_option maxRecDepth 100000
theorem z9ap:Na.dig 1=[1]:=Na.dig_small 1 (by omega) (by omega)
theorem z1bj (w:World):Calls Tryz.prog 88 #[] w (z0aw w (Na.dig 1)):=by
 go_enter Tryz.func88,Tryz.ntmps88
 go_wp2_with fail;have H2:=((Ow.of (St.refl w)).boxed (.slice (some ⟨w.heap.size+1,0,none⟩) 1 1) 25).lit1 (.int .i64 1) 3
 simp only [zqc,World.size_alloc] at H2;refine bodyPost_ret (v:=.agg #[.slice (some ⟨w.heap.size+1,0,none⟩) 1 1]) (by simp [results,Tryz.results88,go_sem]) rfl ?_
 rw [z9ap];exact z4o (l:=[1]) H2 0 rfl
theorem z7af (A:Option Addr)(n c:Nat)(w:World)(hl:n<=1000):Calls Tryz.prog 85 #[.agg #[.slice A n c]] w fun e w'=>e=.returned (.bool ((n:Int) == 0))/\Below w.heap.size w w':=by
 have H0:=(Ow.of (St.refl w)).boxed (.slice A n c) 25
 simp only [zqc] at H0;have hc0:=H0.cell 0 rfl
 have HB:=zh H0.below;clear H0;go_enter Tryz.func85,Tryz.ntmps85
 go_wp2_with fail;go_ret;exact ⟨rfl,HB.out⟩
section
variable {w0 w w':World}{g:Option Nat}{M:List (Nat×Value)}{L:List Ob}{O:List Rw}{A A2:Option Addr}{n c m c2 x y:Nat}
theorem z5bz (h:Ow w0 w g M L O):Calls Tryz.prog 88 #[] w fun e w'=>∃ (A':Option Addr) (n' c':Nat),e=.returned (.agg #[.slice A' n' c'])/\Ow w0 w' g M (L++[⟨A',n',c',z0c (Na.dig 1)⟩]) O:=
 (z1bj w).mono fun e w' hr=>by
  obtain ⟨A',n',c',he,-,ho⟩:=h.pushS hr (by rw [z9ap];decide)
  exact ⟨A',n',c',he,ho⟩
theorem z4bm (h:Ow w0 w g M L O)(i j:Nat)(hi:L[i]?=some ⟨A,n,c,z0c (Na.dig x)⟩)(hj:L[j]?=some ⟨A2,m,c2,z0c (Na.dig y)⟩):
  Calls Tryz.prog 87 #[.agg #[.slice A n c],.agg #[.slice A2 m c2]] w fun e w'=>e=.returned (.int .i64 (Na.sgn x y))/\Ow w0 w' g M L O:=
 z9bt h (h.seenL i hi) (h.seenL j hj) (h.sl hi).2.2.1 (h.sl hj).2.2.1
theorem z9bm {p q:List Int}(h:Ow w0 w g M L O)(i j:Nat)(hi:L[i]?=some ⟨A,n,c,z0p p⟩)(hj:L[j]?=some ⟨A2,m,c2,z0p q⟩)(h1:Na.vld p=true)(h2:Na.vld q=true)(ht:Tab w0):
  Calls Tryz.prog 86 #[.agg #[.slice A n c],.agg #[.slice A2 m c2]] w (z7v w0 g M L O (Na.dig (Nat.gcd (num p) (num q))) 0):=by
 have h:=z0cd h i j hi hj ht
 have e1:z9a p q=Na.dig (Nat.gcd (num p) (num q)):=by unfold z9a;rw [h1,h2];rfl
 have e2:gcdE p q=0:=by unfold gcdE;rw [h1,h2];rfl
 rwa [e1,e2] at h
theorem z5bu {p q:List Int}(h:Ow w0 w g M L O)(i j:Nat)(hi:L[i]?=some ⟨A,n,c,z0p p⟩)(hj:L[j]?=some ⟨A2,m,c2,z0p q⟩)(h1:Na.vld p=true)(h2:Na.vld q=true):
  Calls Tryz.prog 76 #[.agg #[.slice A n c],.agg #[.slice A2 m c2]] w (z7v w0 g M L O (Na.dig (Nat.gcd (num p) (num q))) 0):=by
 have h:=z7bv h i j hi hj
 have e1:z9a p q=Na.dig (Nat.gcd (num p) (num q)):=by unfold z9a;rw [h1,h2];rfl
 have e2:gcdE p q=0:=by unfold gcdE;rw [h1,h2];rfl
 rwa [e1,e2] at h
theorem z6p (h:Ow w0 w g M L O)(hl:n<=1000):Calls Tryz.prog 85 #[.agg #[.slice A n c]] w fun e w'=>e=.returned (.bool ((n:Int) == 0))/\Ow w0 w' g M L O:=
 (z7af A n c w hl).mono fun e w' ⟨he,hb⟩=>⟨he,h.go hb⟩
end
theorem z3bn {p q:List Int}(h1:Na.vld p=true)(h2:Na.vld q=true)(h0:0<num q):rv p q=(Na.sgn (Nat.gcd (num p) (num q)) 1 == 0):=by
 unfold rv;rw [h1,h2];have:decide (num q=0)=false:=zn (by omega)
 rw [this];rcases Na.sgn_cases (Nat.gcd (num p) (num q)) 1 with ⟨h,e⟩|⟨h,e⟩|⟨h,e⟩ <;> rw [e]
 ·rw [zn (by omega)];rfl
 ·simp [h]
 ·rw [zn (by omega)];rfl
theorem z4aw (A A2:Option Addr)(n c m c2:Nat)(p q:List Int)(w:World)(hn:p.length=n)(hm:q.length=m)(hnc:n<=c)(hmc:m<=c2)(hs:Sl w w.heap.size A (z0p p))(hs2:Sl w w.heap.size A2 (z0p q))(hl:n<=1000)(hl2:m<=1000)(ht:Tab w):
  Calls Tryz.prog 58 #[.agg #[.slice A n c,.slice A2 m c2]] w fun e w'=>e=.returned (.bool (rv p q))/\Below w.heap.size w w':=by
 have H0:=(((Ow.of (St.refl w)).old hs (by rw [z0s];exact hn) hnc hl).old hs2 (by rw [z0s];exact hm) hmc hl2).pair (.slice A n c) (.slice A2 m c2) 27
 simp only [zqc,zqb] at H0;have hc0:=H0.p0 0 rfl
 have HV:=zh (z5e H0 0 rfl)
 have HT:=zh ht;have HM:=zh hm;clear H0 hs hs2 hn hm ht;cases h1:Na.vld p
 ·have hr:rv p q=false:=by unfold rv;rw [h1];rfl
  rw [hr];rw [h1] at HV;clear h1 hr;go_enter Tryz.func58,Tryz.ntmps58
  go_wp2_with fail;refine HV.out.mono ?_;rintro e w1 ⟨rfl,H1⟩;have HB:=zh H1.below;clear H1 HV;go_wp2_with fail;go_ret;exact ⟨rfl,HB.out⟩
 rw [h1] at HV;cases h2:Na.vld q
 ·have hr:rv p q=false:=by unfold rv;rw [h1,h2];rfl
  rw [hr];clear h1 hr;have H2:=zh h2;clear h2;go_enter Tryz.func58,Tryz.ntmps58
  go_wp2_with fail;refine HV.out.mono ?_;rintro e w1 ⟨rfl,H1⟩;have hc1:=H1.p1 0 rfl
  have HK:=zh (z5e H1 1 rfl)
  rw [H2.out] at HK;clear H1 HV;go_wp2_with fail;refine HK.out.mono ?_;rintro e w1 ⟨rfl,H1⟩;have HB:=zh H1.below;clear H1 HK;go_wp2_with fail;go_ret;exact ⟨rfl,HB.out⟩
 have H12:=zh (And.intro h1 h2)
 rcases zqh (num q) with h0|h0
 ·have hr:rv p q=false:=by unfold rv;rw [h1,h2,h0];rfl
  obtain rfl:m=0:=by
   obtain ⟨y,hy,e⟩:=Na.vld_ex h2
   rw [e,z0l] at h0;rw [<- HM.out,e,h0,Na.dig_zero];rfl
  rw [hr];clear h1 h2 hr h0;go_enter Tryz.func58,Tryz.ntmps58
  go_wp2_with fail;refine HV.out.mono ?_;rintro e w1 ⟨rfl,H1⟩;have hc1:=H1.p1 0 rfl
  have HK:=zh (z5e H1 1 rfl)
  rw [H12.out.2] at HK;clear H1 HV;go_wp2_with fail;refine HK.out.mono ?_;rintro e w1 ⟨rfl,H1⟩;have hc1:=H1.p1 0 rfl
  have HZ:=zh (z6p (A:=A2) (n:=0) (c:=c2) H1 (by omega))
  clear H1 HK;go_wp2_with fail;refine HZ.out.mono ?_;rintro e w1 ⟨rfl,H1⟩;have HB:=zh H1.below;clear H1 HZ;go_wp2_with fail;go_ret;exact ⟨rfl,HB.out⟩
 ·have hr:=z3bn h1 h2 h0
  obtain ⟨sg,hsg⟩:∃ s:Int,Na.sgn (Nat.gcd (num p) (num q)) 1=s:=⟨_,rfl⟩
  rw [hsg] at hr;have HR:=zh hr;have HS:=zh hsg;have hm0:((m:Int) == 0)=false:=by
   rw [beq_eq_false_iff_ne];intro e;obtain ⟨y,hy,e2⟩:=Na.vld_ex h2
   rw [e2,z0l] at h0;have h3:=HM.out;rw [e2,Na.up_length] at h3;have:=Na.dig_len0.1 (show (Na.dig y).length=0 by omega)
   omega
  clear h1 h2 hr h0 hsg;go_enter Tryz.func58,Tryz.ntmps58
  go_wp2_with fail;refine HV.out.mono ?_;rintro e w1 ⟨rfl,H1⟩;have hc1:=H1.p1 0 rfl
  have HK:=zh (z5e H1 1 rfl)
  rw [H12.out.2] at HK;clear H1 HV;go_wp2_with fail;refine HK.out.mono ?_;rintro e w1 ⟨rfl,H1⟩;have hc1:=H1.p1 0 rfl
  have HZ:=zh (z6p (A:=A2) (n:=m) (c:=c2) H1 hl2)
  clear H1 HK;go_wp2_with fail;refine HZ.out.mono ?_;rw [hm0];rintro e w1 ⟨rfl,H1⟩;have hc0:=H1.p0 0 rfl
  have hc1:=H1.p1 0 rfl
  have HG:=zh (z9bm H1 0 1 rfl rfl H12.out.1 H12.out.2 HT.out)
  clear H1 HZ;go_wp2_with fail;refine HG.out.mono ?_;rintro e w2 ⟨A3,n3,c3,rfl,H2⟩;have H3:=H2.boxed (.slice A3 n3 c3) 25
  simp only [zqc,zqb] at H3;have hk3:=H3.cell 0 rfl
  have HD:=zh H3.drew;clear HG H2 H3 hc0 hc1;go_upto_region 4 with (fail)
  go_region_held3 (fun W=>W.cell? ⟨w2.heap.size,0,none⟩=some (.slice A3 n3 c3)) (first|exact hk3|exact how.cell 0 rfl|exact how2.cell 0 rfl) ((first|(go_at_call 88;(with_reducible refine (z5bz HD.out).mono ?_);rintro e w11 ⟨A5,n5,c5,rfl,how⟩)|(go_at_call 87;(with_reducible refine (z4bm how 2 3 rfl rfl).mono ?_);rw [HS.out];rintro e w12 ⟨rfl,how2⟩)))
  have HB:=zh how2.below;clear how how2;go_wp2_with fail;go_ret;exact ⟨by rw [HR.out];rfl,HB.out⟩
theorem z9bn {x y:Nat}(hx:x<Na.top)(hy:y<Na.top)(h0:0<y):Nat.gcd x y<Na.top/\0<Nat.gcd x y:=⟨z2ab hx hy,Nat.gcd_pos_of_pos_right _ h0⟩
theorem z1bk (A A2:Option Addr)(n c m c2 x y:Nat)(w:World)(hn:(Na.dig x).length=n)(hm:(Na.dig y).length=m)(hnc:n<=c)(hmc:m<=c2)(hs:Sl w w.heap.size A (z0c (Na.dig x)))(hs2:Sl w w.heap.size A2 (z0c (Na.dig y)))(hx:x<Na.top)(hy:y<Na.top)(h0:0<y)(ht:Tab w):
  Calls Tryz.prog 95 #[.agg #[.slice A n c],.agg #[.slice A2 m c2]] w (ResF w (frM x y)):=by
 have hn2:n<=200:=by rw [<- hn];exact (Na.dig_200 x).2 hx
 have hm2:m<=200:=by rw [<- hm];exact (Na.dig_200 y).2 hy
 have H0:=(((((Ow.of (St.refl w)).old hs (by rw [z0e];exact hn) hnc (by omega)).old hs2 (by rw [z0e];exact hm) hmc (by omega)).boxed (.slice A n c) 25).boxed (.slice A2 m c2) 25).pair (.slice none 0 0) (.slice none 0 0) 27
 simp only [World.size_alloc,zqc,zqb] at H0;have hc0:=H0.cell 0 rfl
 have HV:=zh (z5e (zs:=Na.up (Na.dig x)) H0 0 (by rw [z0g];rfl))
 rw [Na.vld_dig hx] at HV;have HT:=zh ht;have HX:=zh (And.intro hx (And.intro hy h0))
 have HGp:=zh (z9bn hx hy h0)
 have HF:=zh (z2ad (x:=x) h0)
 have hm0:((m:Int) == 0)=false:=by
  rw [beq_eq_false_iff_ne];intro e;have:=Na.dig_len0.1 (show (Na.dig y).length=0 by omega)
  omega
 clear H0 hs hs2 hn hm ht hx hy h0;go_enter Tryz.func95,Tryz.ntmps95
 go_wp2_with fail;refine HV.out.mono ?_;rintro e w1 ⟨rfl,H1⟩;have hc1:=H1.cell 1 rfl
 have HK:=zh (z5e (zs:=Na.up (Na.dig y)) H1 1 (by rw [z0g];rfl))
 rw [Na.vld_dig HX.out.2.1] at HK;clear H1 HV hc0;go_wp2_with fail;refine HK.out.mono ?_;rintro e w1 ⟨rfl,H1⟩;have hc1:=H1.cell 1 rfl
 have HZ:=zh (z6p (A:=A2) (n:=m) (c:=c2) H1 (by omega))
 clear H1 HK;go_wp2_with fail;refine HZ.out.mono ?_;rw [hm0];rintro e w1 ⟨rfl,H1⟩;have hc0:=H1.cell 0 rfl
 have hc1:=H1.cell 1 rfl
 have HG:=zh (z9bo H1 (H1.seenL 0 rfl) (H1.seenL 1 rfl) HX.out.1 HX.out.2.1 HT.out)
 clear H1 HZ;go_wp2_with fail;refine HG.out.mono ?_;rintro e w2 ⟨A3,n3,c3,rfl,-,H2⟩;have H3:=(H2.boxed (.slice A3 n3 c3) 25).pair (.slice none 0 0) (.slice none 0 0) 27
 simp only [zqc,zqb,World.size_alloc] at H3;have hc0:=H3.cell 0 rfl
 have hc2:=H3.cell 2 rfl
 have HD:=zh (z4bk H3 (H3.seenL 0 rfl) (H3.seen 1 rfl) HX.out.1 HGp.out.1 HGp.out.2)
 clear HG H2 H3 hc1;go_wp2_with fail;refine HD.out.mono ?_;rintro e w3 ⟨A4,n4,c4,A5,n5,c5,rfl,-,H4⟩;simp only [zqc,zqb] at H4;have hp:=H4.p0 2 rfl
 have hpf:=H4.pf 2 rfl 0
 have H5:=H4.set0 2 rfl (.slice A4 n4 c4)
 simp only [zqe,zqd] at H5;have hc1:=H5.cell 1 rfl
 have hc2:=H5.cell 2 rfl
 have HD2:=zh (z4bk H5 (H5.seenL 1 rfl) (H5.seen 1 rfl) HX.out.2.1 HGp.out.1 HGp.out.2)
 clear HD H4 H5 hc0;go_wp2_with fail;clear hp hpf;refine HD2.out.mono ?_;rintro e w4 ⟨A6,n6,c6,A7,n7,c7,rfl,-,H6⟩;simp only [zqc,zqb] at H6;have hq:=H6.p1 2 rfl
 have hqf:=H6.pf 2 rfl 1
 have H7:=H6.set1 2 rfl (.slice A6 n6 c6)
 simp only [zqe,zqd] at H7;have ha:=H7.p0 2 rfl
 have hb:=H7.p1 2 rfl
 have hr0:=H7.p0 0 rfl
 have hr1:=H7.p1 0 rfl
 have hrf0:=H7.pf 0 rfl 0
 have hrf1:=H7.pf 0 rfl 1
 have H8:=(H7.set0 0 rfl (.slice A4 n4 c4)).set1 0 rfl (.slice A6 n6 c6)
 simp only [zqd] at H8;clear HD2 H6 hc1 hc2;go_wp2_with fail;have hs0:=H8.p0 0 rfl
 have hs1:=H8.p1 0 rfl
 refine bodyPost_ret (v:=.tuple #[.agg #[.slice A4 n4 c4,.slice A6 n6 c6],.int .i64 0]) (by simp [results,Tryz.results95,go_sem,hs0,hs1]) rfl ?_
 rw [HF.out];exact z6az H8 3 4 rfl rfl rfl
theorem z9u (A A2:Option Addr)(n c m c2:Nat)(p q:List Int)(w:World)(hn:p.length=n)(hm:q.length=m)(hnc:n<=c)(hmc:m<=c2)(hs:Sl w w.heap.size A (z0p p))(hs2:Sl w w.heap.size A2 (z0p q))(hl:n<=1000)(hl2:m<=1000)(hb:(Na.vld p && Na.vld q)=false∨(Na.vld p=true/\Na.vld q=true/\m=0)):
  Calls Tryz.prog 95 #[.agg #[.slice A n c],.agg #[.slice A2 m c2]] w (ResF w (frE (if (Na.vld p && Na.vld q) then 4 else 1))):=by
 have H0:=(((((Ow.of (St.refl w)).old hs (by rw [z0s];exact hn) hnc hl).old hs2 (by rw [z0s];exact hm) hmc hl2).boxed (.slice A n c) 25).boxed (.slice A2 m c2) 25).pair (.slice none 0 0) (.slice none 0 0) 27
 simp only [World.size_alloc,zqc,zqb] at H0;have hc0:=H0.cell 0 rfl
 have HV:=zh (z5e H0 0 rfl)
 clear H0 hs hs2 hn hm;cases h1:Na.vld p
 ·rw [h1] at HV;rw [Bool.false_and,if_neg (by decide)]
  clear hb h1;go_enter Tryz.func95,Tryz.ntmps95
  go_wp2_with fail;refine HV.out.mono ?_;rintro e w1 ⟨rfl,H1⟩;have hr0:=H1.p0 0 rfl
  have hr1:=H1.p1 0 rfl
  have hrf0:=H1.pf 0 rfl 0
  have hrf1:=H1.pf 0 rfl 1
  have HH:=zh H1;clear H1 HV;go_wp2_with fail;have H8:=(HH.out.set0 0 rfl (.slice none 0 0)).set1 0 rfl (.slice none 0 0)
  have hs0:=H8.p0 0 rfl
  have hs1:=H8.p1 0 rfl
  refine bodyPost_ret (v:=.tuple #[.agg #[.slice none 0 0,.slice none 0 0],.int .i64 1]) (by simp [results,Tryz.results95,go_sem,hs0,hs1]) rfl ?_
  exact z4s _ _ _ H8.below
 rw [h1] at HV;rw [h1,Bool.true_and] at hb;cases h2:Na.vld q
 ·rw [Bool.and_false,if_neg (by decide)]
  have HQ:=zh h2;clear hb h1 h2;go_enter Tryz.func95,Tryz.ntmps95
  go_wp2_with fail;refine HV.out.mono ?_;rintro e w1 ⟨rfl,H1⟩;have hc1:=H1.cell 1 rfl
  have HK:=zh (z5e H1 1 rfl)
  rw [HQ.out] at HK;clear H1 HV;go_wp2_with fail;refine HK.out.mono ?_;rintro e w1 ⟨rfl,H1⟩;have HV:=0;have hr0:=H1.p0 0 rfl
  have hr1:=H1.p1 0 rfl
  have hrf0:=H1.pf 0 rfl 0
  have hrf1:=H1.pf 0 rfl 1
  have HH:=zh H1;clear H1 HV;go_wp2_with fail;have H8:=(HH.out.set0 0 rfl (.slice none 0 0)).set1 0 rfl (.slice none 0 0)
  have hs0:=H8.p0 0 rfl
  have hs1:=H8.p1 0 rfl
  refine bodyPost_ret (v:=.tuple #[.agg #[.slice none 0 0,.slice none 0 0],.int .i64 1]) (by simp [results,Tryz.results95,go_sem,hs0,hs1]) rfl ?_
  exact z4s _ _ _ H8.below
 ·obtain rfl:m=0:=by
   rcases hb with hb|hb
   ·rw [h2] at hb;cases hb
   ·exact hb.2.2
  rw [Bool.and_true,if_pos rfl];have HQ:=zh h2;clear hb h1 h2;go_enter Tryz.func95,Tryz.ntmps95
  go_wp2_with fail;refine HV.out.mono ?_;rintro e w1 ⟨rfl,H1⟩;have hc1:=H1.cell 1 rfl
  have HK:=zh (z5e H1 1 rfl)
  rw [HQ.out] at HK;clear H1 HV;go_wp2_with fail;refine HK.out.mono ?_;rintro e w1 ⟨rfl,H1⟩;have HV:=0;have hc1:=H1.cell 1 rfl
  have HZ:=zh (z6p (A:=A2) (n:=0) (c:=c2) H1 (by omega))
  clear H1 HV;go_wp2_with fail;refine HZ.out.mono ?_;rintro e w1 ⟨rfl,H1⟩;have HV:=0;have hr0:=H1.p0 0 rfl
  have hr1:=H1.p1 0 rfl
  have hrf0:=H1.pf 0 rfl 0
  have hrf1:=H1.pf 0 rfl 1
  have HH:=zh H1;clear H1 HV;go_wp2_with fail;have H8:=(HH.out.set0 0 rfl (.slice none 0 0)).set1 0 rfl (.slice none 0 0)
  have hs0:=H8.p0 0 rfl
  have hs1:=H8.p1 0 rfl
  refine bodyPost_ret (v:=.tuple #[.agg #[.slice none 0 0,.slice none 0 0],.int .i64 4]) (by simp [results,Tryz.results95,go_sem,hs0,hs1]) rfl ?_
  exact z4s _ _ _ H8.below
theorem z9v (A A2:Option Addr)(n c m c2:Nat)(p q:List Int)(w:World)(hn:p.length=n)(hm:q.length=m)(hnc:n<=c)(hmc:m<=c2)(hs:Sl w w.heap.size A (z0p p))(hs2:Sl w w.heap.size A2 (z0p q))(hl:n<=1000)(hl2:m<=1000)(ht:Tab w):
  Calls Tryz.prog 95 #[.agg #[.slice A n c],.agg #[.slice A2 m c2]] w (ResF w (z6l p q)):=by
 rcases z4r p q with hv|⟨hv,hx,hy,e1,e2⟩
 ·have:=z9u A A2 n c m c2 p q w hn hm hnc hmc hs hs2 hl hl2 (.inl hv)
  rw [hv] at this;unfold z6l;rw [hv];exact this
 ·unfold z6l;rw [hv,if_pos rfl];rcases zqh (num q) with h0|h0
  ·have hm0:m=0:=by rw [<- hm,e2,h0,Na.dig_zero];rfl
   have:=z9u A A2 n c m c2 p q w hn hm hnc hmc hs hs2 hl hl2 (.inr ⟨(Bool.and_eq_true_iff.1 hv).1,(Bool.and_eq_true_iff.1 hv).2,hm0⟩)
   rw [hv] at this;unfold frM;rw [if_pos h0];exact this
  ·exact z1bk A A2 n c m c2 _ _ w (by rw [<- hn];conv=>rhs;rw [e1];rw [Na.up_length]) (by rw [<- hm];conv=>rhs;rw [e2];rw [Na.up_length]) hnc hmc (z8s hs e1) (z8s hs2 e2) hx hy h0 ht
theorem z1ak (A A2:Option Addr)(n c m c2:Nat)(p q:List Int)(w:World)(hn:p.length=n)(hm:q.length=m)(hnc:n<=c)(hmc:m<=c2)(hs:Sl w w.heap.size A (z0p p))(hs2:Sl w w.heap.size A2 (z0p q))(hl:n<=1000)(hl2:m<=1000):
  Calls Tryz.prog 45 #[.agg #[.slice A n c,.slice A2 m c2]] w fun e w'=>e=.returned (.bool (rv p q))/\Below w.heap.size w w':=by
 have H0:=(((Ow.of (St.refl w)).old hs (by rw [z0s];exact hn) hnc hl).old hs2 (by rw [z0s];exact hm) hmc hl2).pair (.slice A n c) (.slice A2 m c2) 27
 simp only [zqc,zqb] at H0;have hc0:=H0.p0 0 rfl
 have HV:=zh (z1w H0 0 rfl)
 have HM:=zh hm;clear H0 hs hs2 hn hm;cases h1:Na.vld p
 ·have hr:rv p q=false:=by unfold rv;rw [h1];rfl
  rw [hr];rw [h1] at HV;clear h1 hr;go_enter Tryz.func45,Tryz.ntmps45
  go_wp2_with fail;refine HV.out.mono ?_;rintro e w1 ⟨rfl,H1⟩;have HB:=zh H1.below;clear H1 HV;go_wp2_with fail;go_ret;exact ⟨rfl,HB.out⟩
 rw [h1] at HV;cases h2:Na.vld q
 ·have hr:rv p q=false:=by unfold rv;rw [h1,h2];rfl
  rw [hr];clear h1 hr;have H2:=zh h2;clear h2;go_enter Tryz.func45,Tryz.ntmps45
  go_wp2_with fail;refine HV.out.mono ?_;rintro e w1 ⟨rfl,H1⟩;have hc1:=H1.p1 0 rfl
  have HK:=zh (z1w H1 1 rfl)
  rw [H2.out] at HK;clear H1 HV;go_wp2_with fail;refine HK.out.mono ?_;rintro e w1 ⟨rfl,H1⟩;have HB:=zh H1.below;clear H1 HK;go_wp2_with fail;go_ret;exact ⟨rfl,HB.out⟩
 have H12:=zh (And.intro h1 h2)
 rcases zqh (num q) with h0|h0
 ·have hr:rv p q=false:=by unfold rv;rw [h1,h2,h0];rfl
  obtain rfl:m=0:=by
   obtain ⟨y,hy,e⟩:=Na.vld_ex h2
   rw [e,z0l] at h0;rw [<- HM.out,e,h0,Na.dig_zero];rfl
  rw [hr];clear h1 h2 hr h0;go_enter Tryz.func45,Tryz.ntmps45
  go_wp2_with fail;refine HV.out.mono ?_;rintro e w1 ⟨rfl,H1⟩;have hc1:=H1.p1 0 rfl
  have HK:=zh (z1w H1 1 rfl)
  rw [H12.out.2] at HK;clear H1 HV;go_wp2_with fail;refine HK.out.mono ?_;rintro e w1 ⟨rfl,H1⟩;have hc1:=H1.p1 0 rfl
  have HB:=zh H1.below;clear H1 HK;go_wp2_with fail;go_ret;exact ⟨rfl,HB.out⟩
 ·have hr:=z3bn h1 h2 h0
  obtain ⟨sg,hsg⟩:∃ s:Int,Na.sgn (Nat.gcd (num p) (num q)) 1=s:=⟨_,rfl⟩
  rw [hsg] at hr;have HR:=zh hr;have HS:=zh hsg;have hm0:((m:Int) == 0)=false:=by
   rw [beq_eq_false_iff_ne];intro e;obtain ⟨y,hy,e2⟩:=Na.vld_ex h2
   rw [e2,z0l] at h0;have h3:=HM.out;rw [e2,Na.up_length] at h3;have:=Na.dig_len0.1 (show (Na.dig y).length=0 by omega)
   omega
  clear h1 h2 hr h0 hsg;go_enter Tryz.func45,Tryz.ntmps45
  go_wp2_with fail;refine HV.out.mono ?_;rintro e w1 ⟨rfl,H1⟩;have hc1:=H1.p1 0 rfl
  have HK:=zh (z1w H1 1 rfl)
  rw [H12.out.2] at HK;clear H1 HV;go_wp2_with fail;refine HK.out.mono ?_;rintro e w1 ⟨rfl,H1⟩;have hc0:=H1.p0 0 rfl
  have hc1:=H1.p1 0 rfl
  have HG:=zh (z5bu H1 0 1 rfl rfl H12.out.1 H12.out.2)
  clear H1 HK;go_wp2_with fail;refine HG.out.mono ?_;rintro e w2 ⟨A3,n3,c3,rfl,H2⟩;have H3:=H2.boxed (.slice A3 n3 c3) 25
  simp only [zqc,zqb] at H3;have HO:=zh (z8bu H3 1 (by omega))
  clear HG H2 H3 hc0 hc1;go_wp2_with fail;refine HO.out.mono ?_;rintro e w3 ⟨A4,n4,c4,rfl,-,H4⟩;have H5:=H4.boxed (.slice A4 n4 c4) 25
  simp only [zqc,zqb] at H5;have hk3:=H5.cell 0 rfl
  have hk4:=H5.cell 1 rfl
  have HC:=zh (z7c H5 2 3 rfl rfl)
  rw [HS.out] at HC;clear HO H4 H5;go_wp2_with fail;refine HC.out.mono ?_;rintro e w4 ⟨rfl,H6⟩;have HB:=zh H6.below;clear HC H6;go_wp2_with fail;go_ret;exact ⟨by rw [HR.out];rfl,HB.out⟩
theorem z7ah (A A2:Option Addr)(n c m c2 x y:Nat)(w:World)(hn:(Na.dig x).length=n)(hm:(Na.dig y).length=m)(hnc:n<=c)(hmc:m<=c2)(hs:Sl w w.heap.size A (z0c (Na.dig x)))(hs2:Sl w w.heap.size A2 (z0c (Na.dig y)))(hx:x<Na.top)(hy:y<Na.top)(h0:0<y):
  Calls Tryz.prog 44 #[.agg #[.slice A n c],.agg #[.slice A2 m c2]] w (ResF w (frM x y)):=by
 have hn2:n<=200:=by rw [<- hn];exact (Na.dig_200 x).2 hx
 have hm2:m<=200:=by rw [<- hm];exact (Na.dig_200 y).2 hy
 have H0:=(((((Ow.of (St.refl w)).old hs (by rw [z0e];exact hn) hnc (by omega)).old hs2 (by rw [z0e];exact hm) hmc (by omega)).boxed (.slice A n c) 25).boxed (.slice A2 m c2) 25).pair (.slice none 0 0) (.slice none 0 0) 27
 simp only [World.size_alloc,zqc,zqb] at H0;have hc0:=H0.cell 0 rfl
 have HV:=zh (z2e H0 0 rfl hx)
 have HX:=zh (And.intro hx (And.intro hy h0))
 have HGp:Hid (Nat.gcd x y<Na.top/\0<Nat.gcd x y):=⟨z2ab hx hy,Nat.gcd_pos_of_pos_right _ h0⟩
 have HF:=zh (z2ad (x:=x) h0)
 have hm0:((m:Int) == 0)=false:=by
  rw [beq_eq_false_iff_ne];intro e;have:=Na.dig_len0.1 (show (Na.dig y).length=0 by omega)
  omega
 clear H0 hs hs2 hn hm hx hy h0;go_enter Tryz.func44,Tryz.ntmps44
 go_wp2_with fail;refine HV.out.mono ?_;rintro e w1 ⟨rfl,H1⟩;have hc1:=H1.cell 1 rfl
 have HK:=zh (z2e H1 1 rfl HX.out.2.1)
 clear H1 HV hc0;go_wp2_with fail;refine HK.out.mono ?_;rintro e w1 ⟨rfl,H1⟩;have hc0:=H1.cell 0 rfl
 have hc1:=H1.cell 1 rfl
 have HG:=zh (z5bv H1 (H1.seenL 0 rfl) (H1.seenL 1 rfl) HX.out.1 HX.out.2.1)
 clear H1 HK;go_wp2_with fail;refine HG.out.mono ?_;rintro e w2 ⟨A3,n3,c3,rfl,-,H2⟩;have H3:=H2.boxed (.slice A3 n3 c3) 25
 simp only [zqc,zqb] at H3;have hc0:=H3.cell 0 rfl
 have hc2:=H3.cell 2 rfl
 have HD:=zh (z8c H3 (H3.seenL 0 rfl) (H3.seen 1 rfl) HX.out.1 HGp.out.1 HGp.out.2)
 clear HG H2 H3 hc1;go_wp2_with fail;refine HD.out.mono ?_;rintro e w3 ⟨A4,n4,c4,A5,n5,c5,rfl,-,H4⟩;have H5:=(H4.boxed (.slice A4 n4 c4) 25).boxed (.slice A5 n5 c5) 25
 simp only [zqc,zqb,World.size_alloc] at H5;have hc1:=H5.cell 1 rfl
 have hc2:=H5.cell 2 rfl
 have HD2:=zh (z8c H5 (H5.seenL 1 rfl) (H5.seen 1 rfl) HX.out.2.1 HGp.out.1 HGp.out.2)
 clear HD H4 H5 hc0;go_wp2_with fail;refine HD2.out.mono ?_;rintro e w4 ⟨A6,n6,c6,A7,n7,c7,rfl,-,H6⟩;have H7:=(H6.boxed (.slice A6 n6 c6) 25).boxed (.slice A7 n7 c7) 25
 simp only [zqc,zqb,World.size_alloc] at H7;have ha:=H7.cell 3 rfl
 have hb:=H7.cell 5 rfl
 have hr0:=H7.p0 0 rfl
 have hr1:=H7.p1 0 rfl
 have hrf0:=H7.pf 0 rfl 0
 have hrf1:=H7.pf 0 rfl 1
 have H8:=(H7.set0 0 rfl (.slice A4 n4 c4)).set1 0 rfl (.slice A6 n6 c6)
 simp only [zqd] at H8;clear HD2 H6 hc1 hc2;go_wp2_with fail;have hs0:=H8.p0 0 rfl
 have hs1:=H8.p1 0 rfl
 refine bodyPost_ret (v:=.tuple #[.agg #[.slice A4 n4 c4,.slice A6 n6 c6],.int .i64 0]) (by simp [results,Tryz.results44,go_sem,hs0,hs1]) rfl ?_
 rw [HF.out];exact z6az H8 2 3 rfl rfl rfl
theorem z8e (A A2:Option Addr)(n c m c2:Nat)(p q:List Int)(w:World)(hn:p.length=n)(hm:q.length=m)(hnc:n<=c)(hmc:m<=c2)(hs:Sl w w.heap.size A (z0p p))(hs2:Sl w w.heap.size A2 (z0p q))(hl:n<=1000)(hl2:m<=1000)(hb:(Na.vld p && Na.vld q)=false∨(Na.vld p=true/\Na.vld q=true/\m=0)):
  Calls Tryz.prog 44 #[.agg #[.slice A n c],.agg #[.slice A2 m c2]] w (ResF w (frE (if (Na.vld p && Na.vld q) then 4 else 1))):=by
 have H0:=(((((Ow.of (St.refl w)).old hs (by rw [z0s];exact hn) hnc hl).old hs2 (by rw [z0s];exact hm) hmc hl2).boxed (.slice A n c) 25).boxed (.slice A2 m c2) 25).pair (.slice none 0 0) (.slice none 0 0) 27
 simp only [World.size_alloc,zqc,zqb] at H0;have hc0:=H0.cell 0 rfl
 have HV:=zh (z1w H0 0 rfl)
 clear H0 hs hs2 hn hm;cases h1:Na.vld p
 ·rw [h1] at HV;rw [Bool.false_and,if_neg (by decide)]
  clear hb h1;go_enter Tryz.func44,Tryz.ntmps44
  go_wp2_with fail;refine HV.out.mono ?_;rintro e w1 ⟨rfl,H1⟩;have hr0:=H1.p0 0 rfl
  have hr1:=H1.p1 0 rfl
  have hrf0:=H1.pf 0 rfl 0
  have hrf1:=H1.pf 0 rfl 1
  have HH:=zh H1;clear H1 HV;go_wp2_with fail;have H8:=(HH.out.set0 0 rfl (.slice none 0 0)).set1 0 rfl (.slice none 0 0)
  have hs0:=H8.p0 0 rfl
  have hs1:=H8.p1 0 rfl
  refine bodyPost_ret (v:=.tuple #[.agg #[.slice none 0 0,.slice none 0 0],.int .i64 1]) (by simp [results,Tryz.results44,go_sem,hs0,hs1]) rfl ?_
  exact z4s _ _ _ H8.below
 rw [h1] at HV;rw [h1,Bool.true_and] at hb;cases h2:Na.vld q
 ·rw [Bool.and_false,if_neg (by decide)]
  have HQ:=zh h2;clear hb h1 h2;go_enter Tryz.func44,Tryz.ntmps44
  go_wp2_with fail;refine HV.out.mono ?_;rintro e w1 ⟨rfl,H1⟩;have hc1:=H1.cell 1 rfl
  have HK:=zh (z1w H1 1 rfl)
  rw [HQ.out] at HK;clear H1 HV;go_wp2_with fail;refine HK.out.mono ?_;rintro e w1 ⟨rfl,H1⟩;have HV:=0;have hr0:=H1.p0 0 rfl
  have hr1:=H1.p1 0 rfl
  have hrf0:=H1.pf 0 rfl 0
  have hrf1:=H1.pf 0 rfl 1
  have HH:=zh H1;clear H1 HV;go_wp2_with fail;have H8:=(HH.out.set0 0 rfl (.slice none 0 0)).set1 0 rfl (.slice none 0 0)
  have hs0:=H8.p0 0 rfl
  have hs1:=H8.p1 0 rfl
  refine bodyPost_ret (v:=.tuple #[.agg #[.slice none 0 0,.slice none 0 0],.int .i64 1]) (by simp [results,Tryz.results44,go_sem,hs0,hs1]) rfl ?_
  exact z4s _ _ _ H8.below
 ·obtain rfl:m=0:=by
   rcases hb with hb|hb
   ·rw [h2] at hb;cases hb
   ·exact hb.2.2
  rw [Bool.and_true,if_pos rfl];have HQ:=zh h2;clear hb h1 h2;go_enter Tryz.func44,Tryz.ntmps44
  go_wp2_with fail;refine HV.out.mono ?_;rintro e w1 ⟨rfl,H1⟩;have hc1:=H1.cell 1 rfl
  have HK:=zh (z1w H1 1 rfl)
  rw [HQ.out] at HK;clear H1 HV;go_wp2_with fail;refine HK.out.mono ?_;rintro e w1 ⟨rfl,H1⟩;have HV:=0;have hc1:=H1.cell 1 rfl
  have hr0:=H1.p0 0 rfl
  have hr1:=H1.p1 0 rfl
  have hrf0:=H1.pf 0 rfl 0
  have hrf1:=H1.pf 0 rfl 1
  have HH:=zh H1;clear H1 HV;go_wp2_with fail;have H8:=(HH.out.set0 0 rfl (.slice none 0 0)).set1 0 rfl (.slice none 0 0)
  have hs0:=H8.p0 0 rfl
  have hs1:=H8.p1 0 rfl
  refine bodyPost_ret (v:=.tuple #[.agg #[.slice none 0 0,.slice none 0 0],.int .i64 4]) (by simp [results,Tryz.results44,go_sem,hs0,hs1]) rfl ?_
  exact z4s _ _ _ H8.below
theorem z5aa (A A2:Option Addr)(n c m c2:Nat)(p q:List Int)(w:World)(hn:p.length=n)(hm:q.length=m)(hnc:n<=c)(hmc:m<=c2)(hs:Sl w w.heap.size A (z0p p))(hs2:Sl w w.heap.size A2 (z0p q))(hl:n<=1000)(hl2:m<=1000):
  Calls Tryz.prog 44 #[.agg #[.slice A n c],.agg #[.slice A2 m c2]] w (ResF w (z6l p q)):=by
 rcases z4r p q with hv|⟨hv,hx,hy,e1,e2⟩
 ·have:=z8e A A2 n c m c2 p q w hn hm hnc hmc hs hs2 hl hl2 (.inl hv)
  rw [hv] at this;unfold z6l;rw [hv];exact this
 ·unfold z6l;rw [hv,if_pos rfl];rcases zqh (num q) with h0|h0
  ·have hm0:m=0:=by rw [<- hm,e2,h0,Na.dig_zero];rfl
   have:=z8e A A2 n c m c2 p q w hn hm hnc hmc hs hs2 hl hl2 (.inr ⟨(Bool.and_eq_true_iff.1 hv).1,(Bool.and_eq_true_iff.1 hv).2,hm0⟩)
   rw [hv] at this;unfold frM;rw [if_pos h0];exact this
  ·exact z7ah A A2 n c m c2 _ _ w (by rw [<- hn];conv=>rhs;rw [e1];rw [Na.up_length]) (by rw [<- hm];conv=>rhs;rw [e2];rw [Na.up_length]) hnc hmc (z8s hs e1) (z8s hs2 e2) hx hy h0
section
variable {w0 w w':World}{g:Option Nat}{M:List (Nat×Value)}{L:List Ob}{O:List Rw}{A A2:Option Addr}{n c m c2 x y:Nat}{p q:List Int}
theorem z2au (h:Ow w0 w g M L O)(i j:Nat)(hi:L[i]?=some ⟨A,n,c,z0p p⟩)(hj:L[j]?=some ⟨A2,m,c2,z0p q⟩)(ht:Tab w0):
  Calls Tryz.prog 58 #[.agg #[.slice A n c,.slice A2 m c2]] w fun e w'=>e=.returned (.bool (rv p q))/\Below w.heap.size w w':=by
 have a:=h.raw hi
 have b:=h.raw hj
 exact z4aw A A2 n c m c2 p q w a.1 b.1 a.2.1 b.2.1 a.2.2.2 b.2.2.2 a.2.2.1 b.2.2.1 (ht.below h.below)
theorem z9t (h:Ow w0 w g M L O)(i j:Nat)(hi:L[i]?=some ⟨A,n,c,z0p p⟩)(hj:L[j]?=some ⟨A2,m,c2,z0p q⟩):
  Calls Tryz.prog 45 #[.agg #[.slice A n c,.slice A2 m c2]] w fun e w'=>e=.returned (.bool (rv p q))/\Below w.heap.size w w':=by
 have a:=h.raw hi
 have b:=h.raw hj
 exact z1ak A A2 n c m c2 p q w a.1 b.1 a.2.1 b.2.1 a.2.2.2 b.2.2.2 a.2.2.1 b.2.2.1
theorem z9s (h:Ow w0 w g M L O)(i j:Nat)(hi:L[i]?=some ⟨A,n,c,z0p p⟩)(hj:L[j]?=some ⟨A2,m,c2,z0p q⟩)(ht:Tab w0):
  Calls Tryz.prog 58 #[.agg #[.slice A n c,.slice A2 m c2]] w fun e w'=>e=.returned (.bool (rv p q))/\Ow w0 w' g M L O:=
 (z2au h i j hi hj ht).mono fun e w' ⟨he,hb⟩=>⟨he,h.go hb⟩
theorem z2t (h:Ow w0 w g M L O)(i j:Nat)(hi:L[i]?=some ⟨A,n,c,z0p p⟩)(hj:L[j]?=some ⟨A2,m,c2,z0p q⟩):
  Calls Tryz.prog 45 #[.agg #[.slice A n c,.slice A2 m c2]] w fun e w'=>e=.returned (.bool (rv p q))/\Ow w0 w' g M L O:=
 (z9t h i j hi hj).mono fun e w' ⟨he,hb⟩=>⟨he,h.go hb⟩
theorem z6ba (h:Ow w0 w g M L O)(i j:Nat)(hi:L[i]?=some ⟨A,n,c,z0p p⟩)(hj:L[j]?=some ⟨A2,m,c2,z0p q⟩)(ht:Tab w0):
  Calls Tryz.prog 95 #[.agg #[.slice A n c],.agg #[.slice A2 m c2]] w (ResF w (z6l p q)):=by
 have a:=h.raw hi
 have b:=h.raw hj
 exact z9v A A2 n c m c2 p q w a.1 b.1 a.2.1 b.2.1 a.2.2.2 b.2.2.2 a.2.2.1 b.2.2.1 (ht.below h.below)
theorem z2aw (h:Ow w0 w g M L O)(i j:Nat)(hi:L[i]?=some ⟨A,n,c,z0p p⟩)(hj:L[j]?=some ⟨A2,m,c2,z0p q⟩):
  Calls Tryz.prog 44 #[.agg #[.slice A n c],.agg #[.slice A2 m c2]] w (ResF w (z6l p q)):=by
 have a:=h.raw hi
 have b:=h.raw hj
 exact z5aa A A2 n c m c2 p q w a.1 b.1 a.2.1 b.2.1 a.2.2.2 b.2.2.2 a.2.2.1 b.2.2.1
theorem z2ax (h:Ow w0 w g M L O)(i j:Nat)(hi:L[i]?=some ⟨A,n,c,z0c (Na.dig x)⟩)(hj:L[j]?=some ⟨A2,m,c2,z0c (Na.dig y)⟩)(hx:x<Na.top)(hy:y<Na.top):
  Calls Tryz.prog 44 #[.agg #[.slice A n c],.agg #[.slice A2 m c2]] w (ResF w (frM x y)):=by
 have:=z2aw (p:=Na.up (Na.dig x)) (q:=Na.up (Na.dig y)) h i j (by rw [z0g];exact hi) (by rw [z0g];exact hj)
 unfold z6l at this;rw [Na.vld_dig hx,Na.vld_dig hy,z0l,z0l] at this;exact this
theorem z6bb (h:Ow w0 w g M L O)(i j:Nat)(hi:L[i]?=some ⟨A,n,c,z0c (Na.dig x)⟩)(hj:L[j]?=some ⟨A2,m,c2,z0c (Na.dig y)⟩)(hx:x<Na.top)(hy:y<Na.top)(ht:Tab w0):
  Calls Tryz.prog 95 #[.agg #[.slice A n c],.agg #[.slice A2 m c2]] w (ResF w (frM x y)):=by
 have:=z6ba (p:=Na.up (Na.dig x)) (q:=Na.up (Na.dig y)) h i j (by rw [z0g];exact hi) (by rw [z0g];exact hj) ht
 unfold z6l at this;rw [Na.vld_dig hx,Na.vld_dig hy,z0l,z0l] at this;exact this
end
section
variable {w0 w w':World}{g:Option Nat}{M:List (Nat×Value)}{L:List Ob}{O:List Rw}{A A2 A3 A4:Option Addr}{n c m c2 n3 c3 n4 c4:Nat}
end
section
variable {w0 w w':World}{g:Option Nat}{M:List (Nat×Value)}{L:List Ob}{O:List Rw}{A A2:Option Addr}{n c m c2:Nat}{p q:List Int}
theorem z5ab (h:Ow w0 w g M L O)(k b:Nat)(hk:M[k]?=some (b,.int .i64 0))(i j:Nat)(hi:L[i]?=some ⟨A,n,c,z0p p⟩)(hj:L[j]?=some ⟨A2,m,c2,z0p q⟩):
  Calls Tryz.prog 97 #[.pointer (some ⟨b,0,none⟩),.func (.func 98) #[] #[],.agg #[.slice A n c],.agg #[.slice A2 m c2]] w fun e w'=>∃ (A':Option Addr) (n' c':Nat),e=.returned (.agg #[.slice A' n' c'])/\Ow w0 w' g (M.set k (b,.int .i64 (mulE p q))) (L++[⟨A',n',c',z0c (mulL p q)⟩]) O:=by
 have hkl:k<M.length:=z0d hk
 obtain ⟨er,her⟩:∃ er,mulE p q=er:=⟨_,rfl⟩
 have H0:=((h.boxed (.slice A n c) 25).boxed (.slice A2 m c2) 25).boxed (.slice none 0 0) 25
 simp only [World.size_alloc,zqa,zqb,zqc] at H0;have hs0:=H0.cell k (by rw [z0r _ _ hkl];exact hk)
 have H1:=H0.boxed (.slice none 0 0) 25
 simp only [World.size_alloc,zqa,zqb,zqc] at H1;have ha:=H1.cell (M.length+0) (zk rfl)
 have hb:=H1.cell (M.length+1) (zk rfl)
 have HC:=zh (z4bp H1 i j hi hj)
 rw [her] at HC ⊢
 have HK:=zh (And.intro hkl hk)
 clear h H0 H1 hk hkl her hi hj;go_enter Tryz.func97,Tryz.ntmps97
 go_wp2_with fail;refine HC.out.mono ?_;rintro e v ⟨B1,m1,d1,rfl,H2⟩;have k3:=H2.cell (M.length+3) (zk rfl)
 have f3:=H2.free (M.length+3) (zk rfl)
 have H3:=H2.setv (M.length+3) (zk rfl) (.slice B1 m1 d1)
 rw [z0o] at H3;simp only [zqe,zqd] at H3;have kk:=H3.cell k (by rw [z0r _ _ HK.out.1];exact HK.out.2)
 have kf:=H3.free k (by rw [z0r _ _ HK.out.1];exact HK.out.2)
 have H4:=H3.setv k (by rw [z0r _ _ HK.out.1];exact HK.out.2) (.int .i64 er)
 rw [z1ba _ _ HK.out.1] at H4;obtain ⟨M1,hM1⟩:∃ M1,M.set k (b,.int .i64 er)=M1:=⟨_,rfl⟩
 rw [hM1] at H4;have HM1:=zh hM1;have k4:=H4.cell (M1.length+3) (zk rfl)
 have k2:=H4.cell (M1.length+2) (zk rfl)
 have f2:=H4.free (M1.length+2) (zk rfl)
 have H5:=H4.setv (M1.length+2) (zk rfl) (.slice B1 m1 d1)
 rw [z0o] at H5;simp only [zqe,zqd] at H5;have k5:=H5.cell (M1.length+2) (zk rfl)
 have HF:=zh H5.fewM;clear HC H2 H3 H4 H5 ha hb hM1;go_wp2_with fail;refine bodyPost_ret (v:=.agg #[.slice B1 m1 d1]) (by simp [results,Tryz.results97,go_sem,k5]) rfl ?_
 rw [HM1.out];exact ⟨B1,m1,d1,rfl,HF.out⟩
theorem z8bz (h:Ow w0 w g M L O)(k b:Nat)(e0:Int)(hk:M[k]?=some (b,.int .i64 e0))(he:(e0 != 0)=true)(f:Value):
  Calls Tryz.prog 97 #[.pointer (some ⟨b,0,none⟩),f,.agg #[.slice A n c],.agg #[.slice A2 m c2]] w fun e w'=>∃ (A':Option Addr) (n' c':Nat),e=.returned (.agg #[.slice A' n' c'])/\Ow w0 w' g M (L++[⟨A',n',c',z0c []⟩]) O:=by
 have hkl:k<M.length:=z0d hk
 have H0:=((h.boxed (.slice A n c) 25).boxed (.slice A2 m c2) 25).boxed (.slice none 0 0) 25
 simp only [World.size_alloc,zqa,zqb,zqc] at H0;have hs0:=H0.cell k (by rw [z0r _ _ hkl];exact hk)
 have HF:=zh H0.fewM;clear h H0 hk hkl;go_enter Tryz.func97,Tryz.ntmps97
 go_wp2_with fail;refine bodyPost_ret (v:=.agg #[.slice none 0 0]) (by simp [results,Tryz.results97,go_sem]) rfl ?_
 exact ⟨none,0,0,rfl,HF.out.old (A:=none) (n:=0) (c:=0) (vs:=z0c []) (Sl.nil _ _ _) rfl (zqj _) (by decide)⟩
end
section
variable {w0 w w':World}{g:Option Nat}{M:List (Nat×Value)}{L:List Ob}{O:List Rw}{A A2 A3 A4:Option Addr}{n c m c2 n3 c3 n4 c4:Nat}{p q r s:List Int}
theorem z6v (h:Ow w0 w g M L O)(e0:Int):GotF w0 g M L O (frE e0) (.returned (.tuple #[.agg #[.slice none 0 0,.slice none 0 0],.int .i64 e0])) w:=by
 refine ⟨none,0,0,none,0,0,rfl,?_⟩
 have e1:z0c (Na.dig 0)=[]:=by rw [Na.dig_zero];rfl
 show Ow w0 _ g M (L++[⟨none,0,0,z0c (Na.dig 0)⟩]++[⟨none,0,0,z0c (Na.dig 0)⟩]) O
 rw [e1];exact (h.old (A:=none) (n:=0) (c:=0) (vs:=[]) (Sl.nil _ _ _) rfl (zqj _) (by decide)).old (A:=none) (n:=0) (c:=0) (vs:=[]) (Sl.nil _ _ _) rfl (zqj _) (by decide)
theorem z1bm (h:Ow w0 w g M L O)(i j k l:Nat)(hi:L[i]?=some ⟨A,n,c,z0p p⟩)(hj:L[j]?=some ⟨A2,m,c2,z0p q⟩)(hk:L[k]?=some ⟨A3,n3,c3,z0p r⟩)(hl:L[l]?=some ⟨A4,n4,c4,z0p s⟩)(ht:Tab w0):
  Calls Tryz.prog 96 #[.agg #[.slice A n c,.slice A2 m c2],.agg #[.slice A3 n3 c3,.slice A4 n4 c4]] w fun e w'=>e=.returned (.bool (rv p q && rv r s))/\Ow w0 w' g M L O:=by
 have H0:=(h.pair (.slice A n c) (.slice A2 m c2) 27).pair (.slice A3 n3 c3) (.slice A4 n4 c4) 27
 simp only [World.size_alloc,zqa,zqb,zqc] at H0;have a0:=H0.p0 (O.length+0) (zk rfl)
 have a1:=H0.p1 (O.length+0) (zk rfl)
 have HV:=zh (z9s H0 i j hi hj ht)
 have HI:=zh (And.intro hk (And.intro hl ht))
 clear h H0 hi hj hk hl ht;cases h1:rv p q
 ·rw [h1] at HV;rw [Bool.false_and];clear h1;go_enter Tryz.func96,Tryz.ntmps96
  go_wp2_with fail;refine HV.out.mono ?_;rintro e w1 ⟨rfl,H1⟩;have HB:=zh H1.fewO;clear H1 HV;go_wp2_with fail;go_ret;exact ⟨rfl,HB.out⟩
 ·rw [h1] at HV;rw [Bool.true_and];obtain ⟨vb,hvb⟩:∃ vb,rv r s=vb:=⟨_,rfl⟩
  rw [hvb];have HVb:=zh hvb;clear h1 hvb;go_enter Tryz.func96,Tryz.ntmps96
  go_wp2_with fail;refine HV.out.mono ?_;rintro e w1 ⟨rfl,H1⟩;have b0:=H1.p0 (O.length+1) (zk rfl)
  have b1:=H1.p1 (O.length+1) (zk rfl)
  have HK:=zh (z9s H1 k l HI.out.1 HI.out.2.1 HI.out.2.2)
  rw [HVb.out] at HK;clear H1 HV a0 a1;go_wp2_with fail;refine HK.out.mono ?_;rintro e w1 ⟨rfl,H1⟩;have HB:=zh H1.fewO;clear H1 HK;go_wp2_with fail;go_ret;exact ⟨rfl,HB.out⟩
end
def DoR (w0:World)(g:Option Nat)(M M2:List (Nat×Value))(b:Nat)(L:List Ob)(O:List Rw)(er:Int)(l:List Nat)(e:Ending)(w':World):Prop:=
 ∃ (A':Option Addr) (n' c':Nat),e=.returned (.agg #[.slice A' n' c'])/\Ow w0 w' g (M++(b,.int .i64 er) :: M2) (L++[⟨A',n',c',z0c l⟩]) O
section
variable {w0 w w':World}{g:Option Nat}{M M2:List (Nat×Value)}{L:List Ob}{O:List Rw}{A A2 A3 A4:Option Addr}{b n c m c2 n3 c3 n4 c4 x y:Nat}
theorem z9bs (h:Ow w0 w g (M++(b,.int .i64 0) :: M2) L O)(i j:Nat)(hi:L[i]?=some ⟨A,n,c,z0c (Na.dig x)⟩)(hj:L[j]?=some ⟨A2,m,c2,z0c (Na.dig y)⟩)(hx:x<Na.top)(hy:y<Na.top):
  Calls Tryz.prog 97 #[.pointer (some ⟨b,0,none⟩),.func (.func 98) #[] #[],.agg #[.slice A n c],.agg #[.slice A2 m c2]] w (DoR w0 g M M2 b L O (z3v (x*y)) (z4j (x*y))):=
 (z5ab h (M.length+0) b (zk rfl) i j (p:=Na.up (Na.dig x)) (q:=Na.up (Na.dig y)) (by rw [z0g];exact hi) (by rw [z0g];exact hj)).mono fun e w' ⟨A',n',c',he,ho⟩=>by
  rw [z0o,zqd,(z5c hx hy).1,(z5c hx hy).2] at ho
  exact ⟨A',n',c',he,ho⟩
theorem z1cc {e0:Int}(h:Ow w0 w g (M++(b,.int .i64 e0) :: M2) L O)(he:(e0 != 0)=true)(f:Value):
  Calls Tryz.prog 97 #[.pointer (some ⟨b,0,none⟩),f,.agg #[.slice A n c],.agg #[.slice A2 m c2]] w (DoR w0 g M M2 b L O e0 []):=
 (z8bz h (M.length+0) b e0 (zk rfl) he f).mono fun e w' ho=>ho
end
def BX (L:Nat->Bool)(a s:Nat)(v u:Value)(ps:List (Nat×Value)):Prop:=
 L a=true->∃ (t b:Nat) (x:Value),v=.pointer (some ⟨b,0,none⟩)/\ps[t]?=some (b,x)/\(L s=false->x=.slice none 0 0)/\(L s=true->u=.agg #[x])
def GX (L:Nat->Bool)(k:Nat)(u:Value)(X:Nat)(Ls:List Ob):Prop:=
 L k=true->∃ (t:Nat) (B:Option Addr) (m d:Nat),u=.agg #[.slice B m d]/\Ls[t]?=some ⟨B,m,d,z0c (Na.dig X)⟩
theorem GX.more {L:Nat->Bool}{k:Nat}{u:Value}{X:Nat}{Ls l:List Ob}(h:GX L k u X Ls):GX L k u X (Ls++l):=fun e=>by
 obtain ⟨t,B,m,d,h1,h2⟩:=h e
 exact ⟨t,B,m,d,h1,by rw [zqn (z0d h2)];exact h2⟩
theorem BX.more {L:Nat->Bool}{a s:Nat}{v u:Value}{ps l:List (Nat×Value)}(h:BX L a s v u ps):BX L a s v u (ps++l):=fun e=>by
 obtain ⟨t,b,x,h1,h2,h3⟩:=h e
 exact ⟨t,b,x,h1,by rw [zqn (z0d h2)];exact h2,h3⟩
theorem BX.set {L:Nat->Bool}{a s:Nat}{v v' u:Value}{ps:List (Nat×Value)}(h:BX L a s v u ps){t b:Nat}{x y:Value}(ht:ps[t]?=some (b,x))(e:v'=.pointer (some ⟨b,0,none⟩))(hne:L a=true->v≠v'):BX L a s v u (ps.set t (b,y)):=fun hl=>by
 obtain ⟨t',b',x',h1,h2,h3⟩:=h hl
 refine ⟨t',b',x',h1,?_,h3⟩
 rw [zqf]
 ·exact h2
 ·rintro rfl;rw [ht] at h2;obtain ⟨rfl,rfl⟩:=Prod.mk.inj (zqk h2)
  exact hne hl (by rw [h1,e])
section
variable {w0 W:World}{g:Option Nat}{M ps:List (Nat×Value)}{s:Nat×Value}{Ls:List Ob}{O:List Rw}
theorem Ow.psc (h:Ow w0 W g (M++s :: ps) Ls O){t b:Nat}{x:Value}(ht:ps[t]?=some (b,x)):W.cell? ⟨b,0,none⟩=some x/\W.frozen? ⟨b,0,none⟩=false:=by
 have e:(M++s :: ps)[M.length+(t+1)]?=some (b,x):=by rw [z0b];exact ht
 exact ⟨h.cell _ e,h.free _ e⟩
theorem Ow.pss (h:Ow w0 W g (M++s :: ps) Ls O){t b:Nat}{x:Value}(ht:ps[t]?=some (b,x))(y:Value):Ow w0 (W.setCell ⟨b,0,none⟩ y) g (M++s :: ps.set t (b,y)) Ls O:=by
 have e:(M++s :: ps)[M.length+(t+1)]?=some (b,x):=by rw [z0b];exact ht
 have:=h.setv _ e y
 rwa [z0o,zqe] at this
theorem Ow.psb (h:Ow w0 W g (M++s :: ps) Ls O)(v:Value)(T:TypeId):Ow w0 (W.alloc (.cells #[v] T)) g (M++s :: (ps++[(W.heap.size,v)])) Ls O:=by
 have:=h.boxed v T
 rwa [zqa,zqb] at this
theorem Ow.psl (h:Ow w0 W g (M++s :: ps) Ls O){t b:Nat}{x:Value}(ht:ps[t]?=some (b,x)):b<W.heap.size:=
 (h.st.box (M.length+(t+1)) b x (by rw [z0b];exact ht)).1
end
structure Four where
 A:Option Addr
 n:Nat
 c:Nat
 A2:Option Addr
 m:Nat
 c2:Nat
 A3:Option Addr
 n3:Nat
 c3:Nat
 A4:Option Addr
 n4:Nat
 c4:Nat
theorem z2x {L:List Ob}{i:Nat}{A:Option Addr}{n c:Nat}{l:List Nat}(h:L[i]?=some ⟨A,n,c,z0p (Na.up l)⟩):L[i]?=some ⟨A,n,c,z0c l⟩:=by rw [z0g] at h;exact h
def doE (e0:Int)(v:Nat):Int:=if e0=0 then z3v v else e0
def doL (e0:Int)(v:Nat):List Nat:=if e0=0 then z4j v else []
theorem z7aa {v:Nat}(h:z3v v=0):v<Na.top:=by
 unfold z3v at h;split at h
 ·assumption
 ·cases h
theorem z1af {v:Nat}(h:¬ v<Na.top):z3v v=3:=if_neg h
theorem z6x {e:Int}{v:Nat}(h:doE e v=0):e=0/\v<Na.top:=by
 unfold doE at h;split at h
 ·exact ⟨by assumption,z7aa h⟩
 ·exact absurd h (by assumption)
theorem z4bg {v:Nat}(h:v<Na.top):doL 0 v=Na.dig v:=by rw [doL,if_pos rfl,z1t h]
theorem z4bi {v:Nat}(h:v<Na.top):doE 0 v=0:=by rw [doE,if_pos rfl,z1u h]
theorem z4bj {v:Nat}(h:¬ v<Na.top):doE 0 v=3:=by rw [doE,if_pos rfl,z1af h]
theorem z4bh {e:Int}(v:Nat)(h:e≠0):doE e v=e:=if_neg h
section
variable {w0 w w':World}{g:Option Nat}{M M2:List (Nat×Value)}{L:List Ob}{O:List Rw}{A A2 A3 A4:Option Addr}{b n c m c2 n3 c3 n4 c4 x y:Nat}{p q r s:List Int}
theorem z9ao {e0:Int}{l1 l2:List Nat}(h:Ow w0 w g (M++(b,.int .i64 e0) :: M2) L O)(i j:Nat)(hi:L[i]?=some ⟨A,n,c,z0c l1⟩)(hj:L[j]?=some ⟨A2,m,c2,z0c l2⟩)(he:e0=0->l1=Na.dig x/\l2=Na.dig y/\x<Na.top/\y<Na.top):
  Calls Tryz.prog 97 #[.pointer (some ⟨b,0,none⟩),.func (.func 98) #[] #[],.agg #[.slice A n c],.agg #[.slice A2 m c2]] w (DoR w0 g M M2 b L O (doE e0 (x*y)) (doL e0 (x*y))):=by
 unfold doE doL;by_cases h0:e0=0
 ·subst h0
  obtain ⟨rfl,rfl,hx,hy⟩:=he rfl
  rw [if_pos rfl,if_pos rfl];exact z9bs h i j hi hj hx hy
 ·rw [if_neg h0,if_neg h0];exact z1cc h (by simpa using h0) _
end
theorem Value.slice_of {A:Option Addr}{n c:Nat}{x:Value}(h:Value.agg #[.slice A n c]=.agg #[x]):x=.slice A n c:=by
 injection h with h
 simp at h
 exact h.symm
def GY (L:Nat->Bool)(k:Nat)(u:Value)(l:List Nat)(Ls:List Ob):Prop:=
 L k=true->∃ (t:Nat) (B:Option Addr) (m d:Nat),u=.agg #[.slice B m d]/\Ls[t]?=some ⟨B,m,d,z0c l⟩
theorem GY.more {L:Nat->Bool}{k:Nat}{u:Value}{l0:List Nat}{Ls l:List Ob}(h:GY L k u l0 Ls):GY L k u l0 (Ls++l):=fun e=>by
 obtain ⟨t,B,m,d,h1,h2⟩:=h e
 exact ⟨t,B,m,d,h1,by rw [zqn (z0d h2)];exact h2⟩
structure KO (L:Nat->Bool)(X Y:Nat)(er:Int)(l4 l9:List Nat):Prop where
 a:er=0->L 4=true->X<Na.top/\l4=Na.dig X
 b:er=0->L 9=true->Y<Na.top/\l9=Na.dig Y
 no:er≠0->er=3/\¬(X<Na.top/\Y<Na.top)
theorem KO.c4 {L:Nat->Bool}{X Y:Nat}{er:Int}{l4 l9:List Nat}(h:KO L X Y er l4 l9):KO (z3i L 4) X Y (doE er X) (doL er X) l9:=by
 refine ⟨fun e _=>?_,fun e e2=>h.b (z6x e).1 e2,fun e=>?_⟩
 ·obtain ⟨rfl,h1⟩:=z6x e
  exact ⟨h1,z4bg h1⟩
 ·by_cases h0:er=0
  ·subst h0
   by_cases h1:X<Na.top
   ·exact absurd (z4bi h1) e
   ·exact ⟨z4bj h1,fun h=>h1 h.1⟩
  ·rw [z4bh _ h0];exact h.no h0
theorem KO.c9 {L:Nat->Bool}{X Y:Nat}{er:Int}{l4 l9:List Nat}(h:KO L X Y er l4 l9):KO (z3i L 9) X Y (doE er Y) l4 (doL er Y):=by
 refine ⟨fun e e2=>h.a (z6x e).1 e2,fun e _=>?_,fun e=>?_⟩
 ·obtain ⟨rfl,h1⟩:=z6x e
  exact ⟨h1,z4bg h1⟩
 ·by_cases h0:er=0
  ·subst h0
   by_cases h1:Y<Na.top
   ·exact absurd (z4bi h1) e
   ·exact ⟨z4bj h1,fun h=>h1 h.2⟩
  ·rw [z4bh _ h0];exact h.no h0
structure CX (w0:World)(g:Option Nat)(M:List (Nat×Value))(s pa pb:Nat)(F:Four)(X Y:Nat)(Lh:List Ob)(O:List Rw)(L:Nat->Bool)(u0 u1 u2 u3 u4 u5 u6 u7 u8 u9 v1 v2:Value)(ps:List (Nat×Value))(Ls:List Ob)(er:Int)(l4 l9:List Nat)(W:World):Prop where
 ow:Ow w0 W g (M++(s,.int .i64 er) :: ps) (Lh++Ls) O
 h0:L 0=true->u0=.pointer (some ⟨pa,0,none⟩)
 h1:L 1=true->u1=.agg #[.slice F.A F.n F.c]
 h2:L 2=true->u2=.pointer (some ⟨pb,1,none⟩)
 h3:L 3=true->u3=.agg #[.slice F.A4 F.n4 F.c4]
 h5:L 5=true->u5=.pointer (some ⟨pb,0,none⟩)
 h6:L 6=true->u6=.agg #[.slice F.A3 F.n3 F.c3]
 h7:L 7=true->u7=.pointer (some ⟨pa,1,none⟩)
 h8:L 8=true->u8=.agg #[.slice F.A2 F.m F.c2]
 h4:GY L 4 u4 l4 Ls
 h9:GY L 9 u9 l9 Ls
 b1:BX L 10 12 v1 u4 ps
 b2:BX L 11 13 v2 u9 ps
 ne:L 10=true->L 11=true->v1≠v2
 s1:L 12=true->L 4=true/\L 10=true
 s2:L 13=true->L 9=true/\L 11=true
 ko:KO L X Y er l4 l9
section
variable {w0:World}{g:Option Nat}{M:List (Nat×Value)}{s pa pb:Nat}{F:Four}{X Y:Nat}{Lh:List Ob}{O:List Rw}{L:Nat->Bool}{u0 u1 u2 u3 u4 u5 u6 u7 u8 u9 v1 v2:Value}{ps:List (Nat×Value)}{Ls:List Ob}{er:Int}{l4 l9:List Nat}{W W':World}
theorem CX.c4 (h:CX w0 g M s pa pb F X Y Lh O L u0 u1 u2 u3 u4 u5 u6 u7 u8 u9 v1 v2 ps Ls er l4 l9 W)(hf:L 4=false){B:Option Addr}{m d:Nat}(ho:Ow w0 W' g (M++(s,.int .i64 (doE er X)) :: ps) (Lh++Ls++[⟨B,m,d,z0c (doL er X)⟩]) O):
  CX w0 g M s pa pb F X Y Lh O (z3i L 4) u0 u1 u2 u3 (.agg #[.slice B m d]) u5 u6 u7 u8 u9 v1 v2 ps (Ls++[⟨B,m,d,z0c (doL er X)⟩]) (doE er X) (doL er X) l9 W':=
 ⟨by rw [<- zqa];exact ho,h.h0,h.h1,h.h2,h.h3,h.h5,h.h6,h.h7,h.h8,fun _=>⟨Ls.length,B,m,d,rfl,by rw [zqo (zqj _),Nat.sub_self];rfl⟩,h.h9.more,fun e=>by
  obtain ⟨t,b,x,k1,k2,k3,k4⟩:=h.b1 e
  exact ⟨t,b,x,k1,k2,k3,fun e2=>by have:=(h.s1 e2).1;rw [hf] at this;cases this⟩,h.b2,h.ne,fun e=>(by have:=(h.s1 e).1;rw [hf] at this;cases this),h.s2,h.ko.c4⟩
theorem CX.c9 (h:CX w0 g M s pa pb F X Y Lh O L u0 u1 u2 u3 u4 u5 u6 u7 u8 u9 v1 v2 ps Ls er l4 l9 W)(hf:L 9=false){B:Option Addr}{m d:Nat}(ho:Ow w0 W' g (M++(s,.int .i64 (doE er Y)) :: ps) (Lh++Ls++[⟨B,m,d,z0c (doL er Y)⟩]) O):
  CX w0 g M s pa pb F X Y Lh O (z3i L 9) u0 u1 u2 u3 u4 u5 u6 u7 u8 (.agg #[.slice B m d]) v1 v2 ps (Ls++[⟨B,m,d,z0c (doL er Y)⟩]) (doE er Y) l4 (doL er Y) W':=
 ⟨by rw [<- zqa];exact ho,h.h0,h.h1,h.h2,h.h3,h.h5,h.h6,h.h7,h.h8,h.h4.more,fun _=>⟨Ls.length,B,m,d,rfl,by rw [zqo (zqj _),Nat.sub_self];rfl⟩,h.b1,fun e=>by
  obtain ⟨t,b,x,k1,k2,k3,k4⟩:=h.b2 e
  exact ⟨t,b,x,k1,k2,k3,fun e2=>by have:=(h.s2 e2).1;rw [hf] at this;cases this⟩,h.ne,h.s1,fun e=>(by have:=(h.s2 e).1;rw [hf] at this;cases this),h.ko.c9⟩
theorem CX.a10 (h:CX w0 g M s pa pb F X Y Lh O L u0 u1 u2 u3 u4 u5 u6 u7 u8 u9 v1 v2 ps Ls er l4 l9 W)(hf:L 10=false)(T:TypeId):
  CX w0 g M s pa pb F X Y Lh O (z3i L 10) u0 u1 u2 u3 u4 u5 u6 u7 u8 u9 (.pointer (some ⟨W.heap.size,0,none⟩)) v2 (ps++[(W.heap.size,.slice none 0 0)]) Ls er l4 l9 (W.alloc (.cells #[.slice none 0 0] T)):=
 ⟨h.ow.psb _ _,h.h0,h.h1,h.h2,h.h3,h.h5,h.h6,h.h7,h.h8,h.h4,h.h9,fun _=>⟨ps.length,W.heap.size,_,rfl,by rw [zqo (zqj _),Nat.sub_self];rfl,fun _=>rfl,fun e2=>by have:=(h.s1 e2).2;rw [hf] at this;cases this⟩,h.b2.more,fun _ e2 e=>by
  obtain ⟨t,b,x,k1,k2,_⟩:=h.b2 e2
  have:=h.ow.psl k2
  rw [k1] at e;injection e with e
  injection e with e
  injection e with e
  omega,fun e=>⟨(h.s1 e).1,rfl⟩,h.s2,⟨h.ko.a,h.ko.b,h.ko.no⟩⟩
theorem CX.a11 (h:CX w0 g M s pa pb F X Y Lh O L u0 u1 u2 u3 u4 u5 u6 u7 u8 u9 v1 v2 ps Ls er l4 l9 W)(hf:L 11=false)(T:TypeId):
  CX w0 g M s pa pb F X Y Lh O (z3i L 11) u0 u1 u2 u3 u4 u5 u6 u7 u8 u9 v1 (.pointer (some ⟨W.heap.size,0,none⟩)) (ps++[(W.heap.size,.slice none 0 0)]) Ls er l4 l9 (W.alloc (.cells #[.slice none 0 0] T)):=
 ⟨h.ow.psb _ _,h.h0,h.h1,h.h2,h.h3,h.h5,h.h6,h.h7,h.h8,h.h4,h.h9,h.b1.more,fun _=>⟨ps.length,W.heap.size,_,rfl,by rw [zqo (zqj _),Nat.sub_self];rfl,fun _=>rfl,fun e2=>by have:=(h.s2 e2).2;rw [hf] at this;cases this⟩,fun e2 _ e=>by
  obtain ⟨t,b,x,k1,k2,_⟩:=h.b1 e2
  have:=h.ow.psl k2
  rw [k1] at e;injection e with e
  injection e with e
  injection e with e
  omega,h.s1,fun e=>⟨(h.s2 e).1,rfl⟩,⟨h.ko.a,h.ko.b,h.ko.no⟩⟩
theorem CX.t12 (h:CX w0 g M s pa pb F X Y Lh O L u0 u1 u2 u3 u4 u5 u6 u7 u8 u9 v1 v2 ps Ls er l4 l9 W)(hc:L 4=true)(ha:L 10=true):
  ∃ b B m d x ps',v1=.pointer (some ⟨b,0,none⟩)/\u4=.agg #[.slice B m d]/\W.cell? ⟨b,0,none⟩=some x/\W.frozen? ⟨b,0,none⟩=false/\
   CX w0 g M s pa pb F X Y Lh O (z3i L 12) u0 u1 u2 u3 u4 u5 u6 u7 u8 u9 v1 v2 ps' Ls er l4 l9 (W.setCell ⟨b,0,none⟩ (.slice B m d)):=by
 obtain ⟨t,b,x,k1,k2,k3,k4⟩:=h.b1 ha
 obtain ⟨t2,B,m,d,q1,q2⟩:=h.h4 hc
 refine ⟨b,B,m,d,x,ps.set t (b,.slice B m d),k1,q1,(h.ow.psc k2).1,(h.ow.psc k2).2,h.ow.pss k2 _,h.h0,h.h1,h.h2,h.h3,h.h5,h.h6,h.h7,h.h8,h.h4,h.h9,fun _=>⟨t,b,_,k1,by rw [List.getElem?_set_self (z0d k2)],fun e=>(by cases e),fun _=>q1⟩,h.b2.set k2 k1 (fun e e2=>h.ne ha e e2.symm),h.ne,fun _=>⟨hc,ha⟩,h.s2,⟨h.ko.a,h.ko.b,h.ko.no⟩⟩
theorem CX.t13 (h:CX w0 g M s pa pb F X Y Lh O L u0 u1 u2 u3 u4 u5 u6 u7 u8 u9 v1 v2 ps Ls er l4 l9 W)(hc:L 9=true)(ha:L 11=true):
  ∃ b B m d x ps',v2=.pointer (some ⟨b,0,none⟩)/\u9=.agg #[.slice B m d]/\W.cell? ⟨b,0,none⟩=some x/\W.frozen? ⟨b,0,none⟩=false/\
   CX w0 g M s pa pb F X Y Lh O (z3i L 13) u0 u1 u2 u3 u4 u5 u6 u7 u8 u9 v1 v2 ps' Ls er l4 l9 (W.setCell ⟨b,0,none⟩ (.slice B m d)):=by
 obtain ⟨t,b,x,k1,k2,k3,k4⟩:=h.b2 ha
 obtain ⟨t2,B,m,d,q1,q2⟩:=h.h9 hc
 refine ⟨b,B,m,d,x,ps.set t (b,.slice B m d),k1,q1,(h.ow.psc k2).1,(h.ow.psc k2).2,h.ow.pss k2 _,h.h0,h.h1,h.h2,h.h3,h.h5,h.h6,h.h7,h.h8,h.h4,h.h9,h.b1.set k2 k1 (fun e=>h.ne e ha),fun _=>⟨t,b,_,k1,by rw [List.getElem?_set_self (z0d k2)],fun e=>(by cases e),fun _=>q1⟩,h.ne,h.s1,fun _=>⟨hc,ha⟩,⟨h.ko.a,h.ko.b,h.ko.no⟩⟩
end
section
variable {w0 w w':World}{g:Option Nat}{M M2:List (Nat×Value)}{L:List Ob}{O:List Rw}{A A2 A3 A4:Option Addr}{b n c m c2 n3 c3 n4 c4 x y:Nat}{p q r s:List Int}
end
theorem z4bv {x k:Nat}(hk:k=24*200)(h:x<Na.top):x<10 ^ k:=by
 have h1:Na.top<=(10 ^ 24) ^ 200:=Nat.pow_le_pow_left (by decide) 200
 rw [<- Nat.pow_mul,<- hk] at h1;exact zqv h h1
theorem z9g {x:Nat}(h:x<Na.top):(str (De.text x)).size<=4801:=by
 rw [z5r];unfold De.text;split
 ·decide
 ·rw [List.length_reverse,List.length_map];obtain ⟨k,hk⟩:∃ k,k=24*200:=⟨_,rfl⟩
  exact zqq ((De.dig_len_iff x k).2 (z4bv hk h)) (by omega)
section
variable {w0 w w':World}{g:Option Nat}{M M2:List (Nat×Value)}{L:List Ob}{O:List Rw}{A A2:Option Addr}{b n c m c2 x y:Nat}
theorem z8bt (h:Ow w0 w g M L O)(i:Nat)(hi:L[i]?=some ⟨A,n,c,z0c (Na.dig x)⟩)(hx:x<Na.top):
  Calls Tryz.prog 49 #[.agg #[.slice A n c]] w fun e w'=>e=.returned (.string (str (De.text x)))/\Below w.heap.size w w':=by
 have:=z0bf (zs:=Na.up (Na.dig x)) h i (by rw [z0g];exact hi)
 unfold prtL at this;rw [Na.vld_dig hx,z0l] at this;exact this
theorem z9n (h:Ow w0 w g M L O)(i:Nat)(hi:L[i]?=some ⟨A,n,c,z0c (Na.dig x)⟩)(hx:x<Na.top):
  Calls Tryz.prog 49 #[.agg #[.slice A n c]] w fun e w'=>e=.returned (.string (str (De.text x)))/\Ow w0 w' g M L O:=
 (z8bt h i hi hx).mono fun e w' ⟨he,hb⟩=>⟨he,h.go hb⟩
theorem z4ay (h:Ow w0 w g M L O)(i j:Nat)(hi:L[i]?=some ⟨A,n,c,z0c (Na.dig x)⟩)(hj:L[j]?=some ⟨A2,m,c2,z0c (Na.dig y)⟩)(hx:x<Na.top)(hy:y<Na.top)(h1:rv (Na.up (Na.dig x)) (Na.up (Na.dig y))=true):
  Calls Tryz.prog 24 #[.agg #[.slice A n c,.slice A2 m c2]] w fun e w'=>e=.returned (.string (str (De.text x++47 :: De.text y)))/\Ow w0 w' g M L O:=by
 have H0:=h.pair (.slice A n c) (.slice A2 m c2) 27
 have a0:=H0.p0 (O.length+0) (zk rfl)
 have a1:=H0.p1 (O.length+0) (zk rfl)
 have HV:=zh (z2t (p:=Na.up (Na.dig x)) (q:=Na.up (Na.dig y)) H0 i j (by rw [z0g];exact hi) (by rw [z0g];exact hj))
 rw [h1] at HV;have HI:=zh (And.intro hi hj)
 have HX:=zh (And.intro hx hy)
 obtain ⟨sx,hsx⟩:∃ s,str (De.text x)=s:=⟨_,rfl⟩
 obtain ⟨sy,hsy⟩:∃ s,str (De.text y)=s:=⟨_,rfl⟩
 have hz1:sx.size<=4801:=by rw [<- hsx];exact z9g hx
 have hz2:sy.size<=4801:=by rw [<- hsy];exact z9g hy
 have hz3:¬ 9223372036854775807<sx.size+1:=by omega
 have hz4:¬ 9223372036854775807<sx.size+1+sy.size:=by omega
 clear hz1 hz2;have HS:Hid (sx++⟨#[47]⟩++sy=str (De.text x++47 :: De.text y)):=by
  unfold Hid;rw [<- hsx,<- hsy,show (⟨#[47]⟩:ByteArray)=str [47] from rfl,z6a,z6a,zqa];rfl
 have HSx:=zh hsx;have HSy:=zh hsy;clear h H0 hi hj h1 hx hy hsx hsy;go_enter Tryz.func24,Tryz.ntmps24
 go_wp2_with fail;refine HV.out.mono ?_;rintro e w1 ⟨rfl,H1⟩;have HF:=zh H1;have HD:=zh H1.drew;have a0:=HD.out.p0 (O.length+0) (zk rfl)
 have a1:=HD.out.p1 (O.length+0) (zk rfl)
 have cP1:=zh (z9n HD.out i HI.out.1 HX.out.1)
 rw [HSx.out] at cP1;clear H1 HV HF;go_upto_region 3 with (fail)
 go_region_held3 (fun W=>W.cell? ⟨w.heap.size,0,none⟩=some (.slice A n c)/\W.cell? ⟨w.heap.size,1,none⟩=some (.slice A2 m c2)) (first|exact ⟨a0,a1⟩|exact ⟨how.p0 (O.length+0) (zk rfl),how.p1 (O.length+0) (zk rfl)⟩|exact ⟨how2.p0 (O.length+0) (zk rfl),how2.p1 (O.length+0) (zk rfl)⟩) ((first|(go_at_call 49;(with_reducible refine cP1.out.mono ?_);rintro e v2 ⟨rfl,how⟩;have cP2:=zh (z9n how j HI.out.2 HX.out.2);rw [HSy.out] at cP2)|(go_at_call 49;(with_reducible refine cP2.out.mono ?_);rintro e v3 ⟨rfl,how2⟩)))
 have HZ:=zh how2.fewO;clear a0 a1 cP1 cP2 how how2;go_wp2_with fail;go_ret;rw [<- HS.out];exact ⟨rfl,HZ.out⟩
end
def CmyI (w0:World)(g:Option Nat)(M:List (Nat×Value))(s pa pb:Nat)(F:Four)(X Y:Nat)(Lh:List Ob)(O:List Rw)(A0:Act)(Ld:Nat->Bool)(a:Act)(W:World):Prop:=
 ∃ (u0 u1 u2 u3 u4 u5 u6 u7 u8 u9 v1 v2:Value) (ps:List (Nat×Value)) (Ls:List Ob) (er:Int) (l4 l9:List Nat),a=((((((((((((A0.put (some 13) u0).put (some 14) u1).put (some 15) u2).put (some 16) u3).put (some 17) u4).put (some 18) u5).put (some 19) u6).put (some 20) u7).put (some 21) u8).put (some 22) u9).put (some 7) v1).put (some 8) v2)/\CX w0 g M s pa pb F X Y Lh O Ld u0 u1 u2 u3 u4 u5 u6 u7 u8 u9 v1 v2 ps Ls er l4 l9 W
section
variable {w0 w w':World}{g:Option Nat}{M M2:List (Nat×Value)}{L:List Ob}{O:List Rw}{A A2 A3 A4:Option Addr}{b n c m c2 n3 c3 n4 c4 x y:Nat}{p q r s:List Int}
theorem z1bl (h:Ow w0 w g M L O)(i j k l:Nat)(hi:L[i]?=some ⟨A,n,c,z0p p⟩)(hj:L[j]?=some ⟨A2,m,c2,z0p q⟩)(hk:L[k]?=some ⟨A3,n3,c3,z0p r⟩)(hl:L[l]?=some ⟨A4,n4,c4,z0p s⟩)(ht:Tab w0):
  Calls Tryz.prog 64 #[.agg #[.slice A n c,.slice A2 m c2],.agg #[.slice A3 n3 c3,.slice A4 n4 c4]] w (fun e w'=>e=.returned (.tuple #[.int .i64 (cmpV p q r s),.int .i64 (cmpE p q r s)])/\Ow w0 w' g M L O):=by
 unfold cmpV cmpE;have H0:=(h.pair (.slice A n c) (.slice A2 m c2) 27).pair (.slice A3 n3 c3) (.slice A4 n4 c4) 27
 simp only [World.size_alloc,zqa,zqb,zqc] at H0;have a0:=H0.p0 (O.length+0) (zk rfl)
 have a1:=H0.p1 (O.length+0) (zk rfl)
 have b0:=H0.p0 (O.length+1) (zk rfl)
 have b1:=H0.p1 (O.length+1) (zk rfl)
 have HV:=zh (z1bm H0 i j k l hi hj hk hl ht)
 cases hb:rv p q && rv r s with
 | false=>
 rw [hb] at HV;clear h H0 hi hj hk hl ht hb;go_enter Tryz.func64,Tryz.ntmps64
 go_wp2_with fail;refine HV.out.mono ?_;rintro e w1 ⟨rfl,H1⟩;have HB:=zh H1.fewO;clear H1 HV a0 a1 b0 b1;go_wp2_with fail;go_ret2
 exact ⟨rfl,HB.out⟩
 | true=>
 rw [hb] at HV;obtain ⟨h1,h2⟩:=Bool.and_eq_true_iff.1 hb
 obtain ⟨x,y,hx,hy,-,-,rfl,rfl⟩:=z6as h1
 obtain ⟨u,v,hu,hv,-,-,rfl,rfl⟩:=z6as h2
 rw [z0l,z0l,z0l,z0l,if_pos rfl,if_pos rfl];have HI:=zh (And.intro (z2x hi) (And.intro (z2x hj) (And.intro (z2x hk) (And.intro (z2x hl) ht))))
 have HX:=zh (And.intro hx (And.intro hy (And.intro hu hv)))
 obtain ⟨tv,hmk⟩:∃ t,(if x*v<Na.top/\u*y<Na.top then Na.sgn (x*v) (u*y) else 0)=t:=⟨_,rfl⟩
 obtain ⟨te,hme⟩:∃ t:Int,(if x*v<Na.top/\u*y<Na.top then 0 else 3)=t:=⟨_,rfl⟩
 have HMk:=zh (And.intro hmk hme)
 rw [hmk,hme];clear h H0 hi hj hk hl ht hb h1 h2 hx hy hu hv hmk hme;go_enter Tryz.func64,Tryz.ntmps64
 go_wp2_with fail;refine HV.out.mono ?_;rintro e w1 ⟨rfl,H1⟩;have HD:=zh (H1.boxed (.int .i64 0) 126).drew
 clear HV H1 a0 a1 b0 b1;go_upto_region 4 with (fail)
 refine z2as (CmyI w0 g M w1.heap.size w.heap.size (w.heap.size+1) ⟨A,n,c,A2,m,c2,A3,n3,c3,A4,n4,c4⟩ (x*v) (u*y) L (O++[Rw.pair w.heap.size 27 (.slice A n c) (.slice A2 m c2),Rw.pair (w.heap.size+1) 27 (.slice A3 n3 c3) (.slice A4 n4 c4)])) (by kernel_rfl) (by kernel_rfl) ?_ ?_ ?_
 ·refine ⟨undef,undef,undef,undef,undef,undef,undef,undef,undef,undef,undef,undef,[],[],0,[],[],?_,⟨by rw [List.append_nil];exact HD.out,?_,?_,?_,?_,?_,?_,?_,?_,?_,?_,?_,?_,?_,?_,?_,⟨fun _ h=>(by cases h),fun _ h=>(by cases h),fun h=>absurd rfl h⟩⟩⟩
  ·simp only [Act.put,zT,zZ,zS]
  all_goals (intro h;cases h)
 ·rintro jj Ld b W hj hf hd ⟨u0,u1,u2,u3,u4,u5,u6,u7,u8,u9,v1,v2,ps,Ls,er,l4,l9,rfl,hC⟩;have hj':jj<14:=hj
  have hcase:jj=0∨jj=1∨jj=2∨jj=3∨jj=4∨jj=5∨jj=6∨jj=7∨jj=8∨jj=9∨jj=10∨jj=11∨jj=12∨jj=13:=by omega
  have q0:=hC.ow.p0 (O.length+0) (zk rfl)
  have q1:=hC.ow.p1 (O.length+0) (zk rfl)
  have q2:=hC.ow.p0 (O.length+1) (zk rfl)
  have q3:=hC.ow.p1 (O.length+1) (zk rfl)
  clear hj hj' HD;simp only [Act.put,zT,zZ,zS];rcases hcase with rfl|rfl|rfl|rfl|rfl|rfl|rfl|rfl|rfl|rfl|rfl|rfl|rfl|rfl
  ·clear hd;refine zw rfl fun K hK=>?_
   go_simp;refine hK _ _ ⟨_,u1,u2,u3,u4,u5,u6,u7,u8,u9,v1,v2,ps,Ls,er,l4,l9,?_,⟨hC.ow,fun _=>rfl,hC.h1,hC.h2,hC.h3,hC.h5,hC.h6,hC.h7,hC.h8,hC.h4,hC.h9,hC.b1,hC.b2,hC.ne,hC.s1,hC.s2,⟨hC.ko.a,hC.ko.b,hC.ko.no⟩⟩⟩;simp only [Act.put,zT,zZ,zS]
  ·obtain rfl:=hC.h0 (hd 0 (by kernel_rfl));clear hd;refine zw rfl fun K hK=>?_
   go_simp;refine hK _ _ ⟨_,_,u2,u3,u4,u5,u6,u7,u8,u9,v1,v2,ps,Ls,er,l4,l9,?_,⟨hC.ow,hC.h0,fun _=>rfl,hC.h2,hC.h3,hC.h5,hC.h6,hC.h7,hC.h8,hC.h4,hC.h9,hC.b1,hC.b2,hC.ne,hC.s1,hC.s2,⟨hC.ko.a,hC.ko.b,hC.ko.no⟩⟩⟩;simp only [Act.put,zT,zZ,zS]
  ·clear hd;refine zw rfl fun K hK=>?_
   go_simp;refine hK _ _ ⟨u0,u1,_,u3,u4,u5,u6,u7,u8,u9,v1,v2,ps,Ls,er,l4,l9,?_,⟨hC.ow,hC.h0,hC.h1,fun _=>rfl,hC.h3,hC.h5,hC.h6,hC.h7,hC.h8,hC.h4,hC.h9,hC.b1,hC.b2,hC.ne,hC.s1,hC.s2,⟨hC.ko.a,hC.ko.b,hC.ko.no⟩⟩⟩;simp only [Act.put,zT,zZ,zS]
  ·obtain rfl:=hC.h2 (hd 2 (by kernel_rfl));clear hd;refine zw rfl fun K hK=>?_
   go_simp;refine hK _ _ ⟨u0,u1,_,_,u4,u5,u6,u7,u8,u9,v1,v2,ps,Ls,er,l4,l9,?_,⟨hC.ow,hC.h0,hC.h1,hC.h2,fun _=>rfl,hC.h5,hC.h6,hC.h7,hC.h8,hC.h4,hC.h9,hC.b1,hC.b2,hC.ne,hC.s1,hC.s2,⟨hC.ko.a,hC.ko.b,hC.ko.no⟩⟩⟩;simp only [Act.put,zT,zZ,zS]
  ·obtain rfl:=hC.h1 (hd 1 (by kernel_rfl));obtain rfl:=hC.h3 (hd 3 (by kernel_rfl));clear hd;refine zw rfl fun K hK=>?_
   go_simp;refine (z9ao hC.ow i l ((z0r _ _ (z0d HI.out.1)).trans HI.out.1) ((z0r _ _ (z0d HI.out.2.2.2.1)).trans HI.out.2.2.2.1) (fun _=>⟨rfl,rfl,HX.out.1,HX.out.2.2.2⟩)).mono ?_
   rintro e W' ⟨B,m1,d1,rfl,ho⟩;refine hK _ _ ⟨u0,_,u2,_,_,u5,u6,u7,u8,u9,v1,v2,ps,_,_,_,l9,?_,hC.c4 hf ho⟩;simp only [Act.put,zT,zZ,zS]
  ·clear hd;refine zw rfl fun K hK=>?_
   go_simp;refine hK _ _ ⟨u0,u1,u2,u3,u4,_,u6,u7,u8,u9,v1,v2,ps,Ls,er,l4,l9,?_,⟨hC.ow,hC.h0,hC.h1,hC.h2,hC.h3,fun _=>rfl,hC.h6,hC.h7,hC.h8,hC.h4,hC.h9,hC.b1,hC.b2,hC.ne,hC.s1,hC.s2,⟨hC.ko.a,hC.ko.b,hC.ko.no⟩⟩⟩;simp only [Act.put,zT,zZ,zS]
  ·obtain rfl:=hC.h5 (hd 5 (by kernel_rfl));clear hd;refine zw rfl fun K hK=>?_
   go_simp;refine hK _ _ ⟨u0,u1,u2,u3,u4,_,_,u7,u8,u9,v1,v2,ps,Ls,er,l4,l9,?_,⟨hC.ow,hC.h0,hC.h1,hC.h2,hC.h3,hC.h5,fun _=>rfl,hC.h7,hC.h8,hC.h4,hC.h9,hC.b1,hC.b2,hC.ne,hC.s1,hC.s2,⟨hC.ko.a,hC.ko.b,hC.ko.no⟩⟩⟩;simp only [Act.put,zT,zZ,zS]
  ·clear hd;refine zw rfl fun K hK=>?_
   go_simp;refine hK _ _ ⟨u0,u1,u2,u3,u4,u5,u6,_,u8,u9,v1,v2,ps,Ls,er,l4,l9,?_,⟨hC.ow,hC.h0,hC.h1,hC.h2,hC.h3,hC.h5,hC.h6,fun _=>rfl,hC.h8,hC.h4,hC.h9,hC.b1,hC.b2,hC.ne,hC.s1,hC.s2,⟨hC.ko.a,hC.ko.b,hC.ko.no⟩⟩⟩;simp only [Act.put,zT,zZ,zS]
  ·obtain rfl:=hC.h7 (hd 7 (by kernel_rfl));clear hd;refine zw rfl fun K hK=>?_
   go_simp;refine hK _ _ ⟨u0,u1,u2,u3,u4,u5,u6,_,_,u9,v1,v2,ps,Ls,er,l4,l9,?_,⟨hC.ow,hC.h0,hC.h1,hC.h2,hC.h3,hC.h5,hC.h6,hC.h7,fun _=>rfl,hC.h4,hC.h9,hC.b1,hC.b2,hC.ne,hC.s1,hC.s2,⟨hC.ko.a,hC.ko.b,hC.ko.no⟩⟩⟩;simp only [Act.put,zT,zZ,zS]
  ·obtain rfl:=hC.h6 (hd 6 (by kernel_rfl));obtain rfl:=hC.h8 (hd 8 (by kernel_rfl));clear hd;refine zw rfl fun K hK=>?_
   go_simp;refine (z9ao hC.ow k j ((z0r _ _ (z0d HI.out.2.2.1)).trans HI.out.2.2.1) ((z0r _ _ (z0d HI.out.2.1)).trans HI.out.2.1) (fun _=>⟨rfl,rfl,HX.out.2.2.1,HX.out.2.1⟩)).mono ?_
   rintro e W' ⟨B,m1,d1,rfl,ho⟩;refine hK _ _ ⟨u0,u1,u2,u3,u4,u5,_,u7,_,_,v1,v2,ps,_,_,l4,_,?_,hC.c9 hf ho⟩;simp only [Act.put,zT,zZ,zS]
  ·clear hd;refine zw rfl fun K hK=>?_
   go_simp;refine hK _ _ ⟨u0,u1,u2,u3,u4,u5,u6,u7,u8,u9,_,v2,_,Ls,er,l4,l9,?_,hC.a10 hf _⟩;simp only [Act.put,zT,zZ,zS]
  ·clear hd;refine zw rfl fun K hK=>?_
   go_simp;refine hK _ _ ⟨u0,u1,u2,u3,u4,u5,u6,u7,u8,u9,v1,_,_,Ls,er,l4,l9,?_,hC.a11 hf _⟩;simp only [Act.put,zT,zZ,zS]
  ·obtain ⟨b,B,m1,d1,x1,ps1,rfl,rfl,hx1,hz1,hC1⟩:=hC.t12 (hd 4 (by kernel_rfl)) (hd 10 (by kernel_rfl))
   clear hd;refine zw rfl fun K hK=>?_
   go_simp;refine hK _ _ ⟨u0,u1,u2,u3,_,u5,u6,u7,u8,u9,_,v2,ps1,Ls,er,l4,l9,?_,hC1⟩;simp only [Act.put,zT,zZ,zS]
  ·obtain ⟨b,B,m1,d1,x1,ps1,rfl,rfl,hx1,hz1,hC1⟩:=hC.t13 (hd 9 (by kernel_rfl)) (hd 11 (by kernel_rfl))
   clear hd;refine zw rfl fun K hK=>?_
   go_simp;refine hK _ _ ⟨u0,u1,u2,u3,u4,u5,u6,u7,u8,_,v1,_,ps1,Ls,er,l4,l9,?_,hC1⟩;simp only [Act.put,zT,zZ,zS]
 ·rintro Ld b W hL ⟨u0,u1,u2,u3,u4,u5,u6,u7,u8,u9,v1,v2,ps,Ls,er,l4,l9,rfl,hC⟩;obtain ⟨t1,B1,m1,d1,rfl,r1⟩:=hC.h4 (hL 4 (by show 4<14;decide))
  obtain ⟨t2,B2,m2,d2,rfl,r2⟩:=hC.h9 (hL 9 (by show 9<14;decide))
  obtain ⟨z1,g1,e1,rfl,r3,-,r4⟩:=hC.b1 (hL 10 (by show 10<14;decide))
  obtain rfl:=Value.slice_of (r4 (hL 12 (by show 12<14;decide)))
  obtain ⟨z2,g2,e2,rfl,r5,-,r6⟩:=hC.b2 (hL 11 (by show 11<14;decide))
  obtain rfl:=Value.slice_of (r6 (hL 13 (by show 13<14;decide)))
  have hs:=hC.ow.cell (M.length+0) (zk rfl)
  have y1:=(hC.ow.psc r3).1
  have y2:=(hC.ow.psc r5).1
  by_cases h0:er=0
  ·subst h0
   obtain ⟨hX,rfl⟩:=hC.ko.a rfl (hL 4 (by show 4<14;decide))
   obtain ⟨hY,rfl⟩:=hC.ko.b rfl (hL 9 (by show 9<14;decide))
   have HE:=zh (z4bm hC.ow (L.length+t1) (L.length+t2) ((z0b _ _ _).trans r1) ((z0b _ _ _).trans r2))
   have e1:=HMk.out.1;have e2:=HMk.out.2;rw [if_pos ⟨hX,hY⟩] at e1 e2
   rw [e1] at HE;subst e2
   clear hL hC r1 r2 r3 r4 r5 r6 HD HMk e1 hX hY;simp only [Act.put,zT,zZ,zS];go_wp2_with fail;refine HE.out.mono ?_;rintro e W2 ⟨rfl,ho⟩;have HF:=zh (ho.fewM.fewO.less (L':=L) (fun o ho=>List.mem_append_left _ ho))
   clear HE ho hs y1 y2;go_wp2_with fail;go_ret2
   exact ⟨rfl,HF.out⟩
  ·obtain ⟨rfl,hn⟩:=hC.ko.no h0
   have e1:=HMk.out.1;have e2:=HMk.out.2;rw [if_neg hn] at e1 e2;subst e1
   subst e2
   have HD2:=zh hC.ow.drew;clear hL hC r1 r2 r3 r4 r5 r6 HD HMk h0 hn y1 y2;simp only [Act.put,zT,zZ,zS];go_upto_region 6 with (fail)
   have kd:=HD2.out.cell (M.length+0) (zk rfl)
   go_region
   have HF:=zh (HD2.out.fewM.fewO.less (L':=L) (fun o ho=>List.mem_append_left _ ho))
   clear HD2 kd hs;go_wp2_with fail;go_ret2
   exact ⟨rfl,HF.out⟩
theorem z5k (h:Ow w0 w g M L O)(i j:Nat)(hi:L[i]?=some ⟨A,n,c,z0p p⟩)(hj:L[j]?=some ⟨A2,m,c2,z0p q⟩):
  Calls Tryz.prog 24 #[.agg #[.slice A n c,.slice A2 m c2]] w fun e w'=>e=.returned (.string (str (rprt p q)))/\Ow w0 w' g M L O:=by
 unfold rprt;cases hb:rv p q with
 | true=>
  obtain ⟨x,y,hx,hy,hy0,-,rfl,rfl⟩:=z6as hb
  rw [z0l,z0l,if_pos rfl];exact z4ay h i j (z2x hi) (z2x hj) hx hy hb
 | false=>
 have H0:=h.pair (.slice A n c) (.slice A2 m c2) 27
 have a0:=H0.p0 (O.length+0) (zk rfl)
 have a1:=H0.p1 (O.length+0) (zk rfl)
 have HV:=zh (z2t H0 i j hi hj)
 rw [hb] at HV;clear h H0 hi hj hb;go_enter Tryz.func24,Tryz.ntmps24
 go_wp2_with fail;refine HV.out.mono ?_;rintro e w1 ⟨rfl,H1⟩;have HF:=zh H1.fewO;clear HV H1 a0 a1;go_wp2_with fail;go_ret;exact ⟨rfl,HF.out⟩
end
end Go.Proofs.YtpmofjomadibmaaGreatDoor
