/- NatQ NPasA Odd Qmf Qx Qyz Ta Tb Tc Tj -/
import Derived.Test.YtpmofjomadibmaaGreatDoorV13
namespace Go.Proofs.YtpmofjomadibmaaGreatDoor
set_option maxHeartbeats 16000000
open Go.RowKit
set_option linter.unusedVariables false
set_option maxRecDepth 100000
theorem z6by {W W':World}{b o g:Nat}{u:Value}(h0:W.cell? ⟨b,o,none⟩=some u)(hne:b≠g)(hg:W.grownBy W' (some g)):W'.cell? ⟨b,o,none⟩=some u:=by
 have h2:=hg.block b (z5bm h0) (fun e=>hne (zqk e))
 exact (World.cell?_of_block (a:=⟨b,o,none⟩) h2).trans h0
structure NK (w:World)(g B rb vb base:Nat)(v:Value)(W:World):Prop where
 dice:Dice W g B
 cr:W.cell? ⟨rb,0,none⟩=some (.slice none 0 0)
 fr:W.frozen? ⟨rb,0,none⟩=false
 cv:W.cell? ⟨vb,0,none⟩=some v
 fv:W.frozen? ⟨vb,0,none⟩=false
 gr:w.grownBy W (some g)
 sz:base≤W.heap.size
 gw:g<w.heap.size
 hr:rb=w.heap.size
 hv:vb=w.heap.size+1
 hb:base=w.heap.size+2
def OwnV (W:World)(base:Nat)(v:Value)(o:List Nat):Prop:=∃ (A:Option Addr) (c:Nat),v=.slice A o.length c∧W.ownsRow base 3 1 (.slice A o.length c) o.length (z0c o)
def Cel (W:World)(g b k x:Nat):Prop:=b≠g∧W.cell? ⟨b,k,none⟩=some (.int .i64 (x:Int))∧x<16777216
section
variable {w W W':World}{g B rb vb base:Nat}{v:Value}{o:List Nat}
theorem Cel.grown {b k x:Nat}(h:Cel W g b k x)(hg:W.grownBy W' (some g)):Cel W' g b k x:=⟨h.1,z6by h.2.1 h.1 hg,h.2.2⟩
theorem Cel.alloc {b k x:Nat}(h:Cel W g b k x)(ob:Obj):Cel (W.alloc ob) g b k x:=h.grown (World.grownBy_alloc W ob _)
theorem NK.call (h:NK w g B rb vb base v W)(hd:Dice W' g B)(hg:W.grownBy W' (some g)):NK w g B rb vb base v W':=by
 have h1:=h.sz;have h2:=h.gw;have h3:=h.hr;have h4:=h.hv;have h5:=h.hb
 have k1:=hg.block rb (by omega) (fun e=>by cases e;omega)
 have k2:=hg.block vb (by omega) (fun e=>by cases e;omega)
 exact ⟨hd,(World.cell?_of_block (a:=⟨rb,0,none⟩) k1).trans h.cr,(World.frozen?_of_block (a:=⟨rb,0,none⟩) k1).trans h.fr,(World.cell?_of_block (a:=⟨vb,0,none⟩) k2).trans h.cv,(World.frozen?_of_block (a:=⟨vb,0,none⟩) k2).trans h.fv,z0j h.gr hg,zqq h1 hg.size,h2,h3,h4,h5⟩
theorem NK.high (h:NK w g B rb vb base v W){row:Option Nat}(hg:W.grownBy W' row)(hrow:∀ r,row=some r→base≤r):NK w g B rb vb base v W':=by
 have h1:=h.sz;have h2:=h.gw;have h3:=h.hr;have h4:=h.hv;have h5:=h.hb
 have k1:=hg.block rb (by omega) (fun e=>by have:=hrow _ e.symm;omega)
 have k2:=hg.block vb (by omega) (fun e=>by have:=hrow _ e.symm;omega)
 exact ⟨h.dice.grown hg (fun r e=>by have:=hrow r e;omega),(World.cell?_of_block (a:=⟨rb,0,none⟩) k1).trans h.cr,(World.frozen?_of_block (a:=⟨rb,0,none⟩) k1).trans h.fr,(World.cell?_of_block (a:=⟨vb,0,none⟩) k2).trans h.cv,(World.frozen?_of_block (a:=⟨vb,0,none⟩) k2).trans h.fv,z0m h.gr hg (fun r e=>by have:=hrow r e;omega),zqq h1 hg.size,h2,h3,h4,h5⟩
theorem NK.alloc (h:NK w g B rb vb base v W)(ob:Obj):NK w g B rb vb base v (W.alloc ob):=h.high (row:=none) (World.grownBy_alloc W ob none) (fun _ e=>by cases e)
theorem NK.drew (h:NK w g B rb vb base v W):NK w g B rb vb base v W.drew:=⟨h.dice,h.cr,h.fr,h.cv,h.fv,z1n h.gr,h.sz,h.gw,h.hr,h.hv,h.hb⟩
theorem NK.put (h:NK w g B rb vb base v W)(u:Value):NK w g B rb vb base u (W.setCell ⟨vb,0,none⟩ u):=by
 have h1:=h.sz;have h2:=h.gw;have h3:=h.hr;have h4:=h.hv;have h5:=h.hb
 have hg:=z0d W ⟨vb,0,none⟩ u
 have k1:=hg.block rb (by omega) (fun e=>by have:=zqk e;simp only at this;omega)
 exact ⟨h.dice.grown hg (fun r e=>by cases e;simp only;omega),(World.cell?_of_block (a:=⟨rb,0,none⟩) k1).trans h.cr,(World.frozen?_of_block (a:=⟨rb,0,none⟩) k1).trans h.fr,z0k _ h.cv,by rw [World.frozen?_setCell];exact h.fv,z0m h.gr hg (fun r e=>by cases e;simp only;omega),zqq h1 hg.size,h2,h3,h4,h5⟩
theorem OwnV.call (h:OwnV W base v o)(hg:W.grownBy W' (some g))(hb:g<base):OwnV W' base v o:=by
 obtain ⟨A,c,rfl,ho⟩:=h;exact ⟨A,c,rfl,z9c ho hg hb⟩
theorem OwnV.alloc (h:OwnV W base v o)(ob:Obj):OwnV (W.alloc ob) base v o:=by
 obtain ⟨A,c,rfl,ho⟩:=h;exact ⟨A,c,rfl,z0u ho ob⟩
theorem OwnV.drew (h:OwnV W base v o):OwnV W.drew base v o:=h
theorem OwnV.put (h:OwnV W base v o)(a:Addr)(u:Value)(ha:a.block<base):OwnV (W.setCell a u) base v o:=by
 obtain ⟨A,c,rfl,ho⟩:=h;exact ⟨A,c,rfl,z2c ho a u ha⟩
end
namespace Na
set_option maxHeartbeats 16000000
def cv (m i:Int):Nat:=if i<0∨m<i then 0 else bin m.toNat i.toNat
theorem two_top (m:Nat)(h:m≤40):2 ^ m<top:=by
 refine z4ao (m:=2) ?_ (by omega)
 have:(2:Nat) ^ m≤2 ^ 40:=Nat.pow_le_pow_right (by omega) h
 omega
end Na
section
variable {w0 w:World}{g:Option Nat}{M:List (Nat×Value)}{L:List Ob}{A:Option Addr}{n c x m:Nat}
theorem St.zero (h:St w0 w g M L):St w0 w g M (L++[⟨none,0,0,z0c (Na.dig 0)⟩]):=
 h.add (B:=0) (by rw [Na.dig_zero];exact Sl.nil _ _ _) (zqr _) (by rw [Na.dig_zero];rfl) (zqj _) (by omega) (fun ad e=>by cases e)
end
open Go.RowKit Go.Sort
section
variable {w0 w w':World}{g B:Nat}{M:List (Nat×Value)}{L:List Ob}{O:List Rw}{A:Option Addr}{n c:Nat}
theorem Ow.roll (h:Ow w0 w (some g) M L O)(hg:w.grownBy w' (some g)):Ow w0 w' (some g) M L O:=by
 refine ⟨h.st.roll hg,fun i r hi=>z1x (h.own i r hi) hg ?_,h.ap,h.two⟩
 by_cases e:(Value.slice r.A r.n r.c).ownBlock=none
 ·exact .inl e
 ·exact .inr fun e2=>(h.ap i r hi g e2).1 rfl
theorem z0y (h:Ow w0 w (some g) M L O)(hd:Dice w g B)(m:Nat)(hm:0<m)(hm2:m≤9223372036854775807):
  Calls Tryz.prog 32 #[.pointer (some ⟨g,0,none⟩),.int .i64 (m:Int)] w fun e w'=>∃ r:Nat,e=.returned (.int .i64 (r:Int))∧r<m∧Dice w' g B∧Ow w0 w' (some g) M L O∧w.grownBy w' (some g):=
 (z9av g B m w (by omega) (by omega) hd).mono fun e w' ⟨r,he,h0,h1,hd',hg⟩=>⟨r.toNat,by rw [he];congr 2;omega,by omega,hd',h.roll hg,hg⟩
theorem Dice.turned (hd:Dice w g B)(hB:B≤w0.heap.size)(h:Ow w0 w (some g) M L O){i:Nat}{r:Rw}(hi:O[i]?=some r)(hg:w.grownBy w' r.blk):Dice w' g B:=by
 have hlt:=hd.lt;obtain ⟨A,n,c,at_,ts,hh,h1,h2,h3,hs,hBg⟩:=hd;refine ⟨A,n,c,at_,ts,(hg.block g hlt (fun e=>(h.ap i r hi g e.symm).1 rfl)).trans hh,h1,h2,h3,hs.keep fun p hp=>World.cell?_of_block (hg.block p.block (by omega) (fun e=>?_)),hBg⟩
 have:=(h.lt hi e.symm).2
 omega
theorem Dice.set (hd:Dice w g B)(hB:B≤w0.heap.size)(h:Ow w0 w (some g) M L O){i b:Nat}{v:Value}(hi:M[i]?=some (b,v))(u:Value):Dice (w.setCell ⟨b,0,none⟩ u) g B:=by
 have hlt:=hd.lt;have hg:=z0d w ⟨b,0,none⟩ u
 obtain ⟨h1,h2,h3,h4,h5⟩:=h.st.box i b v hi
 obtain ⟨A,n,c,at_,ts,hh,k1,k2,k3,hs,hBg⟩:=hd;exact ⟨A,n,c,at_,ts,(hg.block g hlt (fun e=>h5 e)).trans hh,k1,k2,k3,hs.keep fun p hp=>World.cell?_of_block (hg.block p.block (by omega) (fun e=>by have:=zqk e;simp only at this;omega)),hBg⟩
end
section
variable {w0 w w':World}{g B:Nat}{M:List (Nat×Value)}{L:List Ob}{O:List Rw}{A:Option Addr}{n c:Nat}
theorem Ow.rolled (h:Ow w0 w (some g) M L O){e:TypeId}{vs:List Value}(ho:w'.ownsRow w.heap.size e 1 (.slice A n c) n vs)(hg:w.grownBy w' (some g))(hl:n≤1000)(hst:St w0 w' (some g) M (L++[⟨A,n,c,vs⟩])):Ow w0 w' (some g) M (L++[⟨A,n,c,vs⟩]) O:=by
 have h':=h.roll hg
 refine ⟨hst,h'.own,fun i r hi b hb=>?_,h.two⟩
 obtain ⟨a1,a2,a3⟩:=h.ap i r hi b hb
 refine ⟨a1,a2,fun o ho' ad ea h0=>?_⟩
 rcases List.mem_append.1 ho' with h2 | h2
 ·exact a3 o h2 ad ea h0
 ·rw [List.mem_singleton] at h2;subst h2
  have h3:=(h.lt hi hb).1
  have h4:=(ho.lt ad.block (by rw [show A=some ad from ea];rfl)).1
  omega
end
def Frac (Ls:List Ob)(C1:Option Addr)(k1 e1:Nat)(C2:Option Addr)(k2 e2:Nat):Prop:=∃ (t1 t2 x y:Nat),x<16777216 ^ 3∧y<16777216 ^ 3∧0<y∧Nat.gcd x y=1∧Ls[t1]?=some ⟨C1,k1,e1,z0c (Na.dig x)⟩∧Ls[t2]?=some ⟨C2,k2,e2,z0c (Na.dig y)⟩
theorem Frac.more {Ls l:List Ob}{C1:Option Addr}{k1 e1:Nat}{C2:Option Addr}{k2 e2:Nat}(h:Frac Ls C1 k1 e1 C2 k2 e2):Frac (Ls++l) C1 k1 e1 C2 k2 e2:=by
 obtain ⟨t1,t2,x,y,h1,h2,h3,h4,h5,h6⟩:=h;exact ⟨t1,t2,x,y,h1,h2,h3,h4,by rw [zqn (z0e h5)];exact h5,by rw [zqn (z0e h6)];exact h6⟩
structure Sm2K (w0:World)(g B:Nat)(M:List (Nat×Value))(L:List Ob)(O:List Rw)(rb db:Nat)(Ad:Option Addr)(nd cd yd:Nat)(Ld:Nat→Bool)(u0 u1 u2 u3 u4 u5 u6 v u8:Value)(C1:Option Addr)(k1 e1:Nat)(C2:Option Addr)(k2 e2:Nat)(ps:List Rw)(Ls:List Ob)(W:World):Prop where
 ow:Ow w0 W (some g) (M++[(db,.slice Ad nd cd)]) (L++⟨Ad,nd,cd,z0c (Na.dig yd)⟩ :: Ls) (O++Rw.pair rb 27 (.slice none 0 0) (.slice none 0 0) :: ps)
 dc:Dice W g B
 h0:Ld 0=true→u0=.pointer (some ⟨g,0,none⟩)
 h1:Ld 1=true→∃ (t:Nat) (A:Option Addr) (n c x:Nat),u1=.agg #[.slice A n c]∧x<16777216 ^ 3∧Ls[t]?=some ⟨A,n,c,z0c (Na.dig x)⟩
 h2:Ld 2=true→u2=.agg #[.slice Ad nd cd]
 h3:Ld 3=true→u3=.tuple #[.agg #[.slice C1 k1 e1,.slice C2 k2 e2],.int .i64 0]∧Frac Ls C1 k1 e1 C2 k2 e2
 h4:Ld 4=true→u4=.tuple #[.agg #[.slice C1 k1 e1,.slice C2 k2 e2],.int .i64 0]
 h5:Ld 5=true→u5=.agg #[.slice C1 k1 e1,.slice C2 k2 e2]
 h6:Ld 6=true→u6=.int .i64 0
 h7:Ld 7=true→∃ (t b:Nat) (p q:Value),v=.pointer (some ⟨b,0,none⟩)∧ps[t]?=some (Rw.pair b 27 p q)∧(Ld 8=true→p=.slice C1 k1 e1∧q=.slice C2 k2 e2)
section
variable {w0 w w' W W':World}{g B:Nat}{M:List (Nat×Value)}{L:List Ob}{O:List Rw}{rb db:Nat}{Ad:Option Addr}{nd cd yd:Nat}{Ld:Nat→Bool}{u0 u1 u2 u3 u4 u5 u6 v u8:Value}{C1:Option Addr}{k1 e1:Nat}{C2:Option Addr}{k2 e2:Nat}{ps:List Rw}{Ls:List Ob}
theorem Sm2K.c1 (h:Sm2K w0 g B M L O rb db Ad nd cd yd Ld u0 u1 u2 u3 u4 u5 u6 v u8 C1 k1 e1 C2 k2 e2 ps Ls W)(hf:Ld 8=false){A:Option Addr}{n c x:Nat}(hx:x<16777216 ^ 3)(hd:Dice W' g B)(ho:Ow w0 W' (some g) (M++[(db,.slice Ad nd cd)]) (L++⟨Ad,nd,cd,z0c (Na.dig yd)⟩ :: Ls++[⟨A,n,c,z0c (Na.dig x)⟩]) (O++Rw.pair rb 27 (.slice none 0 0) (.slice none 0 0) :: ps)):
  Sm2K w0 g B M L O rb db Ad nd cd yd (z2p Ld 1) u0 (.agg #[.slice A n c]) u2 u3 u4 u5 u6 v u8 C1 k1 e1 C2 k2 e2 ps (Ls++[⟨A,n,c,z0c (Na.dig x)⟩]) W':=
 ⟨by rw [zqa,zqb] at ho;exact ho,hd,h.h0,fun _=>⟨Ls.length,A,n,c,x,rfl,hx,by simp⟩,h.h2,fun e=>⟨(h.h3 e).1,(h.h3 e).2.more⟩,h.h4,h.h5,h.h6,h.h7⟩
theorem Sm2K.c3 (h:Sm2K w0 g B M L O rb db Ad nd cd yd Ld u0 u1 u2 u3 u4 u5 u6 v u8 C1 k1 e1 C2 k2 e2 ps Ls W)(f4:Ld 4=false)(f5:Ld 5=false)(f8:Ld 8=false){D1:Option Addr}{i1 j1:Nat}{D2:Option Addr}{i2 j2 X Y:Nat}(h1:X<16777216 ^ 3)(h2:Y<16777216 ^ 3)(h3:0<Y)(h4:Nat.gcd X Y=1)(hd:Dice W' g B)(ho:Ow w0 W' (some g) (M++[(db,.slice Ad nd cd)]) (L++⟨Ad,nd,cd,z0c (Na.dig yd)⟩ :: Ls++[⟨D1,i1,j1,z0c (Na.dig X)⟩]++[⟨D2,i2,j2,z0c (Na.dig Y)⟩]) (O++Rw.pair rb 27 (.slice none 0 0) (.slice none 0 0) :: ps)):
  Sm2K w0 g B M L O rb db Ad nd cd yd (z2p Ld 3) u0 u1 u2 (.tuple #[.agg #[.slice D1 i1 j1,.slice D2 i2 j2],.int .i64 0]) u4 u5 u6 v u8 D1 i1 j1 D2 i2 j2 ps (Ls++[⟨D1,i1,j1,z0c (Na.dig X)⟩,⟨D2,i2,j2,z0c (Na.dig Y)⟩]) W':=
 ⟨by rw [zqa,zqa,zqb] at ho;exact ho,hd,h.h0,fun e=>by
  obtain ⟨t,A,n,c,x,k1,k2,k3⟩:=h.h1 e
  exact ⟨t,A,n,c,x,k1,k2,by rw [zqn (z0e k3)];exact k3⟩,h.h2,fun _=>⟨rfl,Ls.length+0,Ls.length+1,X,Y,h1,h2,h3,h4,by rw [z0b];rfl,by rw [z0b];rfl⟩,fun e=>absurd ((show Ld 4=true from e).symm.trans f4) (by decide),fun e=>absurd ((show Ld 5=true from e).symm.trans f5) (by decide),h.h6,fun e=>by
  obtain ⟨t,b,p,q,k1,k2,k3⟩:=h.h7 e
  exact ⟨t,b,p,q,k1,k2,fun e2=>absurd ((show Ld 8=true from e2).symm.trans f8) (by decide)⟩⟩
theorem Sm2K.a7 (h:Sm2K w0 g B M L O rb db Ad nd cd yd Ld u0 u1 u2 u3 u4 u5 u6 v u8 C1 k1 e1 C2 k2 e2 ps Ls W)(f8:Ld 8=false):
  Sm2K w0 g B M L O rb db Ad nd cd yd (z2p Ld 7) u0 u1 u2 u3 u4 u5 u6 (.pointer (some ⟨W.heap.size,0,none⟩)) u8 C1 k1 e1 C2 k2 e2 (ps++[Rw.pair W.heap.size 27 (.slice none 0 0) (.slice none 0 0)]) Ls (W.alloc (.cells #[.slice none 0 0,.slice none 0 0] 27)):=
 ⟨by have:=h.ow.pair (.slice none 0 0) (.slice none 0 0) 27;rwa [zqa,zqb] at this,h.dc.below (z0i _ _),h.h0,h.h1,h.h2,h.h3,h.h4,h.h5,h.h6,fun _=>⟨ps.length,W.heap.size,.slice none 0 0,.slice none 0 0,rfl,by simp,fun e2=>absurd ((show Ld 8=true from e2).symm.trans f8) (by decide)⟩⟩
theorem Sm2K.s8 (h:Sm2K w0 g B M L O rb db Ad nd cd yd Ld u0 u1 u2 u3 u4 u5 u6 v u8 C1 k1 e1 C2 k2 e2 ps Ls W)(hB:B≤w0.heap.size)(h7:Ld 7=true)(h5:Ld 5=true):
  ∃ b p q ps',v=.pointer (some ⟨b,0,none⟩)∧u5=.agg #[.slice C1 k1 e1,.slice C2 k2 e2]∧W.cell? ⟨b,0,none⟩=some p∧W.cell? ⟨b,1,none⟩=some q∧W.frozen? ⟨b,0,none⟩=false∧W.frozen? ⟨b,1,none⟩=false∧
   Sm2K w0 g B M L O rb db Ad nd cd yd (z2p Ld 8) u0 u1 u2 u3 u4 u5 u6 v u8 C1 k1 e1 C2 k2 e2 ps' Ls ((W.setCell ⟨b,0,none⟩ (.slice C1 k1 e1)).setCell ⟨b,1,none⟩ (.slice C2 k2 e2)):=by
 obtain ⟨t,b,p,q,a1,a2,a3⟩:=h.h7 h7
 have hi:(O++Rw.pair rb 27 (.slice none 0 0) (.slice none 0 0) :: ps)[O.length+(t+1)]?=some (Rw.pair b 27 p q):=by rw [z0b];exact a2
 have o1:=h.ow.set0 _ hi (.slice C1 k1 e1)
 have d1:=h.dc.turned hB h.ow hi (z0d W ⟨b,0,none⟩ (.slice C1 k1 e1))
 rw [z0q,zqe] at o1;have hi2:(O++Rw.pair rb 27 (.slice none 0 0) (.slice none 0 0) :: ps.set t (Rw.pair b 27 (.slice C1 k1 e1) q))[O.length+(t+1)]?=some (Rw.pair b 27 (.slice C1 k1 e1) q):=by rw [z0b];exact List.getElem?_set_self (z0e a2)
 have o2:=o1.set1 _ hi2 (.slice C2 k2 e2)
 have d2:=d1.turned hB o1 hi2 (z0d _ ⟨b,1,none⟩ (.slice C2 k2 e2))
 rw [z0q,zqe,List.set_set] at o2;exact ⟨b,p,q,_,a1,h.h5 h5,h.ow.p0 _ hi,h.ow.p1 _ hi,h.ow.pf _ hi 0,h.ow.pf _ hi 1,o2,d2,h.h0,h.h1,h.h2,h.h3,h.h4,h.h5,h.h6,fun _=>⟨t,b,_,_,a1,List.getElem?_set_self (z0e a2),fun _=>⟨rfl,rfl⟩⟩⟩
end
section
variable {w0 w w':World}{g B:Nat}{M:List (Nat×Value)}{L:List Ob}{O:List Rw}
end
structure FrK (x y:Nat):Prop where
 px:x<Na.top
 py:y<Na.top
 pos:0<y
 g:Nat.gcd x y=1
theorem FrK.rv {x y:Nat}(h:FrK x y):rv (Na.up (Na.dig x)) (Na.up (Na.dig y))=true:=z6bk h.px h.py h.pos h.g
theorem FrK.of {x y:Nat}(hx:x<Na.top)(hy:y<Na.top)(h0:0<y):∃ n d,frM x y=(n,d,0)∧FrK n d∧n*y=x*d∧n≤x∧d≤y:=by
 obtain ⟨n,d,h1,h2,h3,h4,h5,h6⟩:=z0bo (x:=x) h0
 exact ⟨n,d,h1,⟨by omega,by omega,h2,h3⟩,h4,h5,h6⟩
section
variable {w0 w w':World}{g:Option Nat}{M M2:List (Nat×Value)}{L:List Ob}{O:List Rw}{A A2 A3 A4:Option Addr}{b n c m c2 n3 c3 n4 c4 x y:Nat}{p q r s:List Int}
end
section
variable {w0 w w':World}{g:Option Nat}{M M2:List (Nat×Value)}{L:List Ob}{O:List Rw}{A A2 A3 A4:Option Addr}{b n c m c2 n3 c3 n4 c4 x y:Nat}{p q r s:List Int}
theorem Ow.apart {M:List (Nat×Value)}(h:Ow w0 w g M L O)(i j:Nat){b c:Nat}{u v:Value}(hi:M[i]?=some (b,u))(hj:M[j]?=some (c,v))(hij:i≠j):b≠c:=by
 rintro rfl;exact hij (h.st.one i j b u v hi hj)
end
section
variable {w0 w w':World}{g:Option Nat}{M M2:List (Nat×Value)}{L:List Ob}{O:List Rw}{A A2 A3 A4:Option Addr}{b n c m c2 n3 c3 n4 c4 x y:Nat}{p q r s:List Int}
end
def GotU (w0:World)(g:Option Nat)(M:List (Nat×Value))(L:List Ob)(O:List Rw)(l:List Nat)(en:Ending)(w':World):Prop:=
 ∃ (A1:Option Addr) (n1 c1:Nat),en=.returned (.agg #[.slice A1 n1 c1])∧Ow w0 w' g M (L++[⟨A1,n1,c1,z0c l⟩]) O
theorem z4bj (k:Nat):ofL (k:Int)=Na.dig k:=by unfold ofL;rw [if_neg (by omega)];rfl
theorem z4bl (k:Nat):ofE (k:Int)=0:=by unfold ofE;rw [if_neg (by omega)]
theorem z9ac {x k:Nat}(hk:k≤4800)(h:x ^ k<Na.top):powL x (k:Int)=Na.dig (x ^ k):=by
 unfold powL;rw [if_neg (by omega),show ((k:Int)).toNat=k by omega]
 exact z3t h
theorem z9ad {x k:Nat}(hk:k≤4800)(h:x ^ k<Na.top):powE x (k:Int)=0:=by
 unfold powE;rw [if_neg (by omega),show ((k:Int)).toNat=k by omega]
 exact z3u h
section
variable {w0 w w':World}{g:Option Nat}{M M2:List (Nat×Value)}{L:List Ob}{O:List Rw}{A A2 A3 A4:Option Addr}{b n c m c2 n3 c3 n4 c4 x y:Nat}{p q r s:List Int}
theorem t_of (h:Ow w0 w g M L O)(k:Nat)(hk:k≤9223372036854775807):
  Calls Tryz.prog 91 #[.int .i64 (k:Int)] w (GotU w0 g M L O (Na.dig k)):=by
 have H0:=h.boxed (.slice none 0 0) 25
 have H00:=H0;have HC:=zh (z8bk H0 (k:Int) (by omega))
 rw [z4bj,z4bl] at HC;obtain ⟨l0,hl0⟩:∃ z,Na.dig k=z:=⟨_,rfl⟩
 rw [hl0] at HC ⊢
 clear h H0 hl0 H00 hk;go_enter Tryz.func91,Tryz.ntmps91
 go_wp2_with fail;refine HC.out.mono ?_;rintro e w1 ⟨B1,m1,d1,rfl,G⟩;have H:=G.boxed (.slice B1 m1 d1) 25
 simp only [zqa,zqb,zqc] at H;clear HC G ;have x0:=H.cell (M.length+1) (zk rfl)
 have r0:=H.cell (M.length+0) (zk rfl)
 have f0:=H.free (M.length+0) (zk rfl)
 have Z:=H.setv (M.length+0) (zk rfl) (.slice B1 m1 d1)
 rw [z0q] at Z;simp only [zqd] at Z;have s0:=Z.cell (M.length+0) (zk rfl)
 have HF:=zh Z.fewM;clear H Z;go_wp2_with fail;refine bodyPost_ret (v:=.agg #[.slice B1 m1 d1]) (by simp [results,Tryz.results91,go_sem,s0]) rfl ?_
 exact ⟨B1,m1,d1,rfl,HF.out⟩
theorem z2bt (h:Ow w0 w g M L O)(i:Nat)(hi:L[i]?=some ⟨A,n,c,z0c (Na.dig x)⟩)(hx:x<Na.top)(k:Nat)(hk:k≤4800)(hp:x ^ k<Na.top):
  Calls Tryz.prog 93 #[.agg #[.slice A n c],.int .i64 (k:Int)] w (GotU w0 g M L O (Na.dig (x ^ k))):=by
 have H0:=(h.boxed (.slice A n c) 25).boxed (.slice none 0 0) 25
 simp only [World.size_alloc,zqa,zqb,zqc] at H0;have k0:=H0.cell (M.length+0) (zk rfl)
 have HC:=zh (z7bo H0 i hi hx (k:Int))
 rw [z9ac hk hp,z9ad hk hp] at HC;obtain ⟨l0,hl0⟩:∃ z,Na.dig (x ^ k)=z:=⟨_,rfl⟩
 rw [hl0] at HC ⊢
 clear h H0 hl0 hi hx hk hp;go_enter Tryz.func93,Tryz.ntmps93
 go_wp2_with fail;refine HC.out.mono ?_;rintro e w1 ⟨B1,m1,d1,rfl,G⟩;have H:=G.boxed (.slice B1 m1 d1) 25
 simp only [zqa,zqb,zqc] at H;clear HC G k0;have x0:=H.cell (M.length+2) (zk rfl)
 have r0:=H.cell (M.length+1) (zk rfl)
 have f0:=H.free (M.length+1) (zk rfl)
 have Z:=H.setv (M.length+1) (zk rfl) (.slice B1 m1 d1)
 rw [z0q] at Z;simp only [zqd,zqe] at Z;have s0:=Z.cell (M.length+1) (zk rfl)
 have HF:=zh Z.fewM;clear H Z;go_wp2_with fail;refine bodyPost_ret (v:=.agg #[.slice B1 m1 d1]) (by simp [results,Tryz.results93,go_sem,s0]) rfl ?_
 exact ⟨B1,m1,d1,rfl,HF.out⟩
theorem z4bs (h:Ow w0 w g M L O)(i j:Nat)(hi:L[i]?=some ⟨A,n,c,z0c (Na.dig x)⟩)(hj:L[j]?=some ⟨A2,m,c2,z0c (Na.dig y)⟩)(hx:x<Na.top)(hy:y<Na.top):
  Calls Tryz.prog 146 #[.agg #[.slice A n c],.agg #[.slice A2 m c2]] w (GotO w0 g M L O (z5i (x+y)) (z4s (x+y))):=by
 have:=z7bq (zs:=Na.up (Na.dig x)) (ys:=Na.up (Na.dig y)) h i j (by rw [z0g];exact hi) (by rw [z0g];exact hj)
 unfold addL addE at this;rw [Na.vld_dig hx,Na.vld_dig hy,z0o,z0o] at this;exact this
theorem z9ar (h:Ow w0 w g M L O)(i j:Nat)(hi:L[i]?=some ⟨A,n,c,z0c (Na.dig x)⟩)(hj:L[j]?=some ⟨A2,m,c2,z0c (Na.dig y)⟩)(hx:x<Na.top)(hy:y<Na.top):
  Calls Tryz.prog 98 #[.agg #[.slice A n c],.agg #[.slice A2 m c2]] w (GotO w0 g M L O (z5i (x*y)) (z4s (x*y))):=by
 have:=z2bg (zs:=Na.up (Na.dig x)) (ys:=Na.up (Na.dig y)) h i j (by rw [z0g];exact hi) (by rw [z0g];exact hj)
 rwa [(z7k hx hy).1,(z7k hx hy).2] at this
theorem z6bh (h:Ow w0 w g M L O)(i j:Nat)(hi:L[i]?=some ⟨A,n,c,z0c (Na.dig x)⟩)(hj:L[j]?=some ⟨A2,m,c2,z0c (Na.dig y)⟩)(hx:x<Na.top)(hy:y<Na.top)(hs:x+y<Na.top):
  Calls Tryz.prog 123 #[.agg #[.slice A n c],.agg #[.slice A2 m c2]] w (GotU w0 g M L O (Na.dig (x+y))):=by
 have H0:=((h.boxed (.slice A n c) 25).boxed (.slice A2 m c2) 25).boxed (.slice none 0 0) 25
 simp only [World.size_alloc,zqa,zqb,zqc] at H0;have k0:=H0.cell (M.length+0) (zk rfl)
 have k1:=H0.cell (M.length+1) (zk rfl)
 have HC:=zh (z4bs H0 i j hi hj hx hy)
 rw [z3t hs,z3u hs] at HC;obtain ⟨l0,hl0⟩:∃ z,Na.dig (x+y)=z:=⟨_,rfl⟩
 rw [hl0] at HC ⊢
 clear h H0 hl0 hi hj hx hy hs;go_enter Tryz.func123,Tryz.ntmps123
 go_wp2_with fail;refine HC.out.mono ?_;rintro e w1 ⟨B1,m1,d1,rfl,G⟩;have H:=G.boxed (.slice B1 m1 d1) 25
 simp only [zqa,zqb,zqc] at H;clear HC G k0 k1;have x0:=H.cell (M.length+3) (zk rfl)
 have r0:=H.cell (M.length+2) (zk rfl)
 have f0:=H.free (M.length+2) (zk rfl)
 have Z:=H.setv (M.length+2) (zk rfl) (.slice B1 m1 d1)
 rw [z0q] at Z;simp only [zqd,zqe] at Z;have s0:=Z.cell (M.length+2) (zk rfl)
 have HF:=zh Z.fewM;clear H Z;go_wp2_with fail;refine bodyPost_ret (v:=.agg #[.slice B1 m1 d1]) (by simp [results,Tryz.results123,go_sem,s0]) rfl ?_
 exact ⟨B1,m1,d1,rfl,HF.out⟩
end
def pr:List Nat→Nat
 | []=>1
 | x :: xs=>x*pr xs
theorem z5af (a b:List Nat):pr (a++b)=pr a*pr b:=by
 induction a with
 | nil=>exact (Nat.one_mul _).symm
 | cons x a ih=>show x*pr (a++b)=x*pr a*pr b;rw [ih,zqs]
theorem z5ae {xs:List Nat}{k x:Nat}(h:xs[k]?=some x):pr (xs.take (k+1))=pr (xs.take k)*x:=by
 rw [List.take_add_one,h,z5af]
 show pr (xs.take k)*(x*1)=_
 rw [Nat.mul_one]
def Nums (L:List Ob)(vs:List Value)(xs:List Nat):Prop:=∀ (k x:Nat),xs[k]?=some x→∃ (A:Option Addr) (n c t:Nat),vs[k]?=some (.slice A n c)∧L[t]?=some ⟨A,n,c,z0c (Na.dig x)⟩
def RTm (w0:World)(g:Option Nat)(M:List (Nat×Value))(L:List Ob)(O:List Rw)(r0 x0 n:Nat)(xs:List Nat)(i:Value)(wr:World):Prop:=
 ∃ (k:Nat) (A1:Option Addr) (n1 c1:Nat),k≤n∧i=.int .i64 (k:Int)∧Hid (Ow w0 wr g (M++[(r0,.slice none 0 0),(x0,.slice A1 n1 c1)]) (L++[⟨A1,n1,c1,z0c (Na.dig (pr (xs.take k)))⟩]) O)
section
variable {w0 w w':World}{g:Option Nat}{M M2:List (Nat×Value)}{L:List Ob}{O:List Rw}{A A2 A3 A4:Option Addr}{b n c m c2 n3 c3 n4 c4 x y:Nat}{p q r s:List Int}
theorem Ow.m2 {p q:Nat×Value}{l:List (Nat×Value)}(h:Ow w0 w g (M++p :: q :: l) L O):Ow w0 w g (M++[p,q]) L O:=by
 have h':Ow w0 w g ((M++[p,q])++l) L O:=by rw [zqa];exact h
 exact h'.fewM
theorem z2bs (h:Ow w0 w g M L O)(i:Nat){vs:List Value}(hi:L[i]?=some ⟨A,n,c,vs⟩)(xs:List Nat)(hlen:xs.length=n)(hx:Nums L vs xs)(ht:∀ x∈xs,x<Na.top)(hp:∀ k,k≤n→pr (xs.take k)<Na.top):
  Calls Tryz.prog 124 #[.slice A n c] w (GotU w0 g M L O (Na.dig (pr xs))):=by
 have hn:n≤1000:=(h.sl hi).2.2.1
 have H0:=h.boxed (.slice none 0 0) 25
 have HC:=zh (t_of H0 1 (by omega))
 have HI:=zh (And.intro hi (And.intro hlen (And.intro hx (And.intro ht hp))))
 obtain ⟨r0,hr0⟩:∃ b,w.heap.size=b:=⟨_,rfl⟩
 clear h H0 hi hlen hx ht hp;go_enter Tryz.func124,Tryz.ntmps124
 go_wp2_with fail;refine HC.out.mono ?_;rintro e w1 ⟨B1,m1,d1,rfl,G⟩;have H:=G.boxed (.slice B1 m1 d1) 25
 simp only [zqa,zqb,zqc] at H;rw [hr0] at H;have HO:=zh H;clear HC G H;go_wp2_with fail
 try rw [hr0]
 go_loopw [9] (fun i wr=>RTm w0 g M L O r0 w1.heap.size n xs i wr) (fun i _=>n+1 - (intOf i).toNat)
 case atStart=>exact ⟨0,B1,m1,d1,zqr _,rfl,HO⟩
 case round=>
  clear HO;obtain ⟨k,A1,n1,c1,hk,rfl,HO⟩:=hrel;have x0:=HO.out.cell (M.length+1) (zk rfl)
  have xf:=HO.out.free (M.length+1) (zk rfl)
  have rc:=HO.out.cell (M.length+0) (zk rfl)
  have rf:=HO.out.free (M.length+0) (zk rfl)
  rcases Nat.eq_or_lt_of_le hk with he | hlt
  ·have hd:decide ((k:Int)<(n:Int))=false:=zn (by omega)
   have hd2:decide (k<n)=false:=zn (by omega)
   have Z:=HO.out.setv (M.length+0) (zk rfl) (.slice A1 n1 c1)
   rw [z0q,zqd] at Z;have s0:=Z.cell (M.length+0) (zk rfl)
   have e1:pr (xs.take k)=pr xs:=by rw [zqp (by have:=HI.out.2.1;omega)]
   have HF:=zh Z.fewM;rw [e1] at HF;clear HO Z e1 he hk;go_wp2_with fail;refine bodyPost_ret (v:=.agg #[.slice A1 n1 c1]) (by simp [results,Tryz.results124,go_sem,s0]) rfl ?_
   exact ⟨A1,n1,c1,rfl,HF.out⟩
  ·have hd:decide ((k:Int)<(n:Int))=true:=zt (by omega)
   have hd2:decide (k<n)=true:=zt hlt
   obtain ⟨x,hxk⟩:∃ x,xs[k]?=some x:=⟨xs[k]'(by have:=HI.out.2.1;omega),zql _⟩
   obtain ⟨Ak,nk,ck,t,hv,hl⟩:=HI.out.2.2.1 k x hxk
   obtain ⟨hvl,hkv⟩:=List.getElem?_eq_some_iff.1 hv
   have hsl:=(HO.out.sl (i:=i) (by rw [z1b _ _ (z0e HI.out.1)];exact HI.out.1)).2.2.2
   obtain ⟨ad,rfl,had,hcell⟩:=hsl.at_ hvl
   rw [hkv] at hcell;have hkm:k≤1000:=by omega
   have H2:=HO.out.boxed (.slice Ak nk ck) 25
   simp only [zqa,zqb,zqc] at H2;have hxt:x<Na.top:=HI.out.2.2.2.1 x (List.mem_of_getElem? hxk)
   have hpk:=HI.out.2.2.2.2 (k+1) hlt
   rw [z5ae hxk] at hpk;have HM:=zh (z9ar H2 (L.length+0) t (zk rfl) (by rw [z1b _ _ (z0e hl)];exact hl) (HI.out.2.2.2.2 k hk) hxt)
   rw [z3t hpk,z3u hpk,← z5ae hxk] at HM;have y0:=H2.cell (M.length+1) (zk rfl)
   clear HO H2 hsl hpk hxt hl hv hkv hvl hxk;go_wp2_with fail;refine HM.out.mono ?_;rintro e w4 ⟨A3,n3,c3,rfl,G⟩;have s2:=G.cell (M.length+1) (zk rfl)
   have s2f:=G.free (M.length+1) (zk rfl)
   have Z:=G.setv (M.length+1) (zk rfl) (.slice A3 n3 c3)
   rw [z0q,zqe,zqd] at Z;have HG:=zh (Z.m2.less (L':=L++[⟨A3,n3,c3,z0c (Na.dig (pr (xs.take (k+1))))⟩]) (fun o ho=>by
    rcases List.mem_append.1 ho with h | h
    ·exact List.mem_append_left _ (List.mem_append_left _ h)
    ·exact List.mem_append_right _ h))
   clear HM G Z x0 xf rc rf y0 hcell;go_wp2_with fail;go_roundw
   case rel=>exact ⟨k+1,A3,n3,c3,hlt,z0v (by omega),HG⟩
   case measure=>simp [intOf];omega
end
def GN (L:Nat→Bool)(k:Nat)(u:Value)(X:Nat)(Ls:List Ob):Prop:=
 L k=true→∃ (t:Nat) (A:Option Addr) (n c:Nat),u=.agg #[.slice A n c]∧Ls[t]?=some ⟨A,n,c,z0c (Na.dig X)⟩
theorem GN.more {L:Nat→Bool}{k:Nat}{u:Value}{X:Nat}{Ls l:List Ob}(h:GN L k u X Ls):GN L k u X (Ls++l):=fun e=>by
 obtain ⟨t,B,m,d,h1,h2⟩:=h e
 exact ⟨t,B,m,d,h1,by rw [zqn (z0e h2)];exact h2⟩
theorem GN.new (L:Nat→Bool)(k:Nat)(A:Option Addr)(n c X:Nat)(Ls:List Ob):GN L k (.agg #[.slice A n c]) X (Ls++[⟨A,n,c,z0c (Na.dig X)⟩]):=fun _=>⟨Ls.length,A,n,c,rfl,by simp⟩
def GV (L:Nat→Bool)(k:Nat)(u:Value)(X:Nat)(Ls:List Ob):Prop:=
 L k=true→∃ (t:Nat) (A:Option Addr) (n c:Nat),u=.slice A n c∧Ls[t]?=some ⟨A,n,c,z0c (Na.dig X)⟩
theorem GV.more {L:Nat→Bool}{k:Nat}{u:Value}{X:Nat}{Ls l:List Ob}(h:GV L k u X Ls):GV L k u X (Ls++l):=fun e=>by
 obtain ⟨t,B,m,d,h1,h2⟩:=h e
 exact ⟨t,B,m,d,h1,by rw [zqn (z0e h2)];exact h2⟩
def GL (L:Nat→Bool)(k:Nat)(u:Value)(xs:List Nat)(m:Nat)(LL Ls:List Ob):Prop:=
 L k=true→∃ (t:Nat) (A:Option Addr) (vs:List Value),u=.slice A m m∧Ls[t]?=some ⟨A,m,m,vs⟩∧Nums (LL++Ls) vs xs
theorem Nums.more {L l:List Ob}{vs:List Value}{xs:List Nat}(h:Nums L vs xs):Nums (L++l) vs xs:=fun k x hx=>by
 obtain ⟨A,n,c,t,h1,h2⟩:=h k x hx
 exact ⟨A,n,c,t,h1,by rw [zqn (z0e h2)];exact h2⟩
theorem GL.more {L:Nat→Bool}{k:Nat}{u:Value}{xs:List Nat}{m:Nat}{LL Ls l:List Ob}(h:GL L k u xs m LL Ls):GL L k u xs m LL (Ls++l):=fun e=>by
 obtain ⟨t,A,vs,h1,h2,h3⟩:=h e
 exact ⟨t,A,vs,h1,by rw [zqn (z0e h2)];exact h2,by rw [← zqa];exact h3.more⟩
theorem GL.new (L:Nat→Bool)(k:Nat)(A:Option Addr)(m:Nat)(vs:List Value)(LL Ls:List Ob){xs:List Nat}(h:Nums (LL++Ls) vs xs):GL L k (.slice A m m) xs m LL (Ls++[⟨A,m,m,vs⟩]):=fun _=>⟨Ls.length,A,vs,rfl,by simp,by rw [← zqa];exact h.more⟩
theorem Nums.three {L:List Ob}{A1 A2 A3:Option Addr}{n1 c1 n2 c2 n3 c3 x1 x2 x3 t1 t2 t3:Nat}(h1:L[t1]?=some ⟨A1,n1,c1,z0c (Na.dig x1)⟩)(h2:L[t2]?=some ⟨A2,n2,c2,z0c (Na.dig x2)⟩)(h3:L[t3]?=some ⟨A3,n3,c3,z0c (Na.dig x3)⟩):Nums L [.slice A1 n1 c1,.slice A2 n2 c2,.slice A3 n3 c3] [x1,x2,x3]:=fun k x hx=>by
  match k,hx with
  | 0,hx=>
    obtain rfl:x1=x:=by simpa using hx
    exact ⟨A1,n1,c1,t1,rfl,h1⟩
  | 1,hx=>
    obtain rfl:x2=x:=by simpa using hx
    exact ⟨A2,n2,c2,t2,rfl,h2⟩
  | 2,hx=>
    obtain rfl:x3=x:=by simpa using hx
    exact ⟨A3,n3,c3,t3,rfl,h3⟩
theorem Nums.two {L:List Ob}{A1 A2:Option Addr}{n1 c1 n2 c2 x1 x2 t1 t2:Nat}(h1:L[t1]?=some ⟨A1,n1,c1,z0c (Na.dig x1)⟩)(h2:L[t2]?=some ⟨A2,n2,c2,z0c (Na.dig x2)⟩):Nums L [.slice A1 n1 c1,.slice A2 n2 c2] [x1,x2]:=fun k x hx=>by
  match k,hx with
  | 0,hx=>
    obtain rfl:x1=x:=by simpa using hx
    exact ⟨A1,n1,c1,t1,rfl,h1⟩
  | 1,hx=>
    obtain rfl:x2=x:=by simpa using hx
    exact ⟨A2,n2,c2,t2,rfl,h2⟩
theorem two_top {k:Nat}(h:k<4800):2 ^ k<Na.top:=by
 have h1:(2 ^ 24) ^ 200≤Na.top:=Nat.pow_le_pow_left (by decide) 200
 rw [← Nat.pow_mul] at h1;exact zqv (Nat.pow_lt_pow_right (by omega) (by omega)) h1
theorem z4y {x k:Nat}(hx:x≤2 ^ k)(h:k<4800):x<Na.top:=zqu hx (two_top h)
theorem z5ag {x a:Nat}(hx:x≤2 ^ a)(j:Nat):x ^ j≤2 ^ (a*j):=by
 rw [Nat.pow_mul];exact Nat.pow_le_pow_left hx j
theorem z6o {x y a b:Nat}(hx:x≤2 ^ a)(hy:y≤2 ^ b):x*y≤2 ^ (a+b):=by
 rw [Nat.pow_add];exact Nat.mul_le_mul hx hy
theorem z1bg {x a b:Nat}(hx:x≤2 ^ a)(h:a≤b):x≤2 ^ b:=zqq hx (Nat.pow_le_pow_right (by omega) h)
theorem bin_two (n k:Nat):Na.bin n k≤2 ^ n:=by
 induction n generalizing k with
 | zero=>
  cases k with
  | zero=>exact zqj _
  | succ k=>exact zqr _
 | succ n ih=>
  cases k with
  | zero=>rw [Na.bin_zero];exact Nat.one_le_two_pow
  | succ k=>
   rw [Na.bin_succ,Nat.pow_succ];have h1:=ih k
   have h2:=ih (k+1)
   omega
section
variable {w0 w w':World}{g:Option Nat}{M M2:List (Nat×Value)}{L:List Ob}{O:List Rw}{A A2 A3 A4:Option Addr}{b n c m c2 n3 c3 n4 c4 x y:Nat}{p q r s:List Int}
theorem z8al {vs:List Value}{a b d:Nat}(h:Ow w0 w g M L O)(i:Nat)(hi:L[i]?=some ⟨A,3,3,vs⟩)(hN:Nums L vs [a,b,d])(ha:a<Na.top)(hb:b<Na.top)(hd:d<Na.top)(h1:a*b<Na.top)(h2:a*(b*d)<Na.top):
  Calls Tryz.prog 124 #[.slice A 3 3] w (GotU w0 g M L O (Na.dig (a*(b*d)))):=by
 have:=z2bs h i hi [a,b,d] rfl hN (fun x hx=>by
  simp only [List.mem_cons,List.mem_nil_iff,or_false] at hx;rcases hx with rfl | rfl | rfl <;> assumption) (fun k hk=>by
  have hk':k=0∨k=1∨k=2∨k=3:=by omega
  have ht:1<Na.top:=zqv (by omega) (two_top (k:=1) (by omega))
  rcases hk' with rfl | rfl | rfl | rfl
  ·exact ht
  ·show a*1<Na.top
   rwa [Nat.mul_one]
  ·show a*(b*1)<Na.top
   rwa [Nat.mul_one]
  ·show a*(b*(d*1))<Na.top
   rwa [Nat.mul_one])
 rwa [show pr [a,b,d]=a*(b*d) by show a*(b*(d*1))=_;rw [Nat.mul_one]] at this
end
theorem z7bz:(Tryz.prog.info? 73).map (fun i=>(i.zero,i.size,i.bytes))=some (some (.slice none 0 0),1,24):=by kernel_rfl
theorem z8ba:(Tryz.prog.info? 25).map (fun i=>(i.zero,i.size,i.bytes))=some (some (.agg #[.slice none 0 0]),1,24):=by kernel_rfl
theorem z6ag (a b:Int)(n:Nat)(ha:a=(n:Int))(hb:b=(n:Int))(h:n≤1000)(w:World):
  (Instr.makeSlice 75 (.int .i64 a) (.int .i64 b)).run Tryz.prog w=.ok (.slice (some ⟨w.heap.size,0,none⟩) n n) (w.alloc (.cells (madeCells #[.slice none 0 0] n) 73)):=by
 obtain ⟨i0,hi,hz0,hz1,hz2⟩:=info_parts z7bz
 exact z1f _ _ i0 (.slice none 0 0) Tryz.underlying75 hi hz0 hz1 .i64 .i64 a b n n ha hb (zqj _) (by rw [hz2];omega) (by omega) w
theorem z6ah (a b:Int)(n:Nat)(ha:a=(n:Int))(hb:b=(n:Int))(h:n≤1000)(w:World):
  (Instr.makeSlice 73 (.int .i64 a) (.int .i64 b)).run Tryz.prog w=.ok (.slice (some ⟨w.heap.size,0,none⟩) n n) (w.alloc (.cells (madeCells #[.slice none 0 0] n) 25)):=by
 obtain ⟨i0,hi,hz0,hz1,hz2⟩:=info_parts z8ba
 exact z1f _ _ i0 (.agg #[.slice none 0 0]) Tryz.underlying73 hi hz0 hz1 .i64 .i64 a b n n ha hb (zqj _) (by rw [hz2];omega) (by omega) w
def NumIn (L:List Ob)(v:Value)(x:Nat):Prop:=∃ (A:Option Addr) (n c t:Nat),v=.slice A n c∧L[t]?=some ⟨A,n,c,z0c (Na.dig x)⟩
theorem NumIn.more {L l:List Ob}{v:Value}{x:Nat}(h:NumIn L v x):NumIn (L++l) v x:=by
 obtain ⟨A,n,c,t,h1,h2⟩:=h;exact ⟨A,n,c,t,h1,by rw [zqn (z0e h2)];exact h2⟩
def TRow (L:List Ob)(v:Value)(i:Nat):Prop:=∃ (ad:Addr) (t:Nat) (vs:List Value),v=.slice (some ad) (i+1) (i+1)∧L[t]?=some ⟨some ad,i+1,i+1,vs⟩∧∀ k,k≤i→∃ u,vs[k]?=some u∧NumIn L u (Na.bin i k)
theorem TRow.more {L l:List Ob}{v:Value}{i:Nat}(h:TRow L v i):TRow (L++l) v i:=by
 obtain ⟨ad,t,vs,h1,h2,h3⟩:=h;exact ⟨ad,t,vs,h1,by rw [zqn (z0e h2)];exact h2,fun k hk=>by
  obtain ⟨u,a,b⟩:=h3 k hk
  exact ⟨u,a,b.more⟩⟩
def TRows (L:List Ob)(vs:List Value)(m:Nat):Prop:=∀ i,i<m→∃ u,vs[i]?=some u∧TRow L u i
theorem TRows.more {L l:List Ob}{vs:List Value}{m:Nat}(h:TRows L vs m):TRows (L++l) vs m:=fun i hi=>by
 obtain ⟨u,a,b⟩:=h i hi
 exact ⟨u,a,b.more⟩
def TSets (L:List Ob)(A:Option Addr)(m:Nat):Prop:=∃ (ad:Addr) (t:Nat) (vs:List Value),A=some ad∧L[t]?=some ⟨some ad,m+1,m+1,vs⟩∧TRows L vs (m+1)
def TFst (L:List Ob)(vs:List Value)(i k:Nat):Prop:=∀ q,q<k→∃ u,vs[q]?=some u∧NumIn L u (Na.bin i q)
theorem TFst.more {L l:List Ob}{vs:List Value}{i k:Nat}(h:TFst L vs i k):TFst (L++l) vs i k:=fun q hq=>by
 obtain ⟨u,a,b⟩:=h q hq
 exact ⟨u,a,b.more⟩
theorem TFst.set {L l:List Ob}{xs:List Value}{i k:Nat}{v:Value}(h:TFst L xs i k)(hk:k<xs.length)(hv:NumIn (L++l) v (Na.bin i k)):TFst (L++l) (xs.set k v) i (k+1):=fun q hq=>by
 rcases zqi q k with h1 | h1
 ·obtain ⟨u,a,b⟩:=h q h1
  exact ⟨u,by rw [zqf (by omega)];exact a,b.more⟩
 ·obtain rfl:q=k:=by omega
  exact ⟨v,List.getElem?_set_self hk,hv⟩
theorem Sl.c {w:World}{B:Nat}{ad:Addr}{vs:List Value}(h:Sl w B (some ad) vs){k:Nat}{v:Value}(hv:vs[k]?=some v):w.cell? (ad.add k)=some v:=by
 obtain ⟨h1,h2⟩:=List.getElem?_eq_some_iff.1 hv
 obtain ⟨ad',e,_,hc⟩:=h.at_ h1
 obtain rfl:=zqk e
 rw [hc,h2]
def RPas (w0:World)(g:Option Nat)(M:List (Nat×Value))(L:List Ob)(O:List Rw)(ob m:Nat)(v:Value)(wr:World):Prop:=
 ∃ (i:Nat) (vs:List Value) (Ls:List Ob),i≤m+1∧v=.int .i64 (i:Int)∧Hid (vs.length=m+1∧TRows (L++Ls) vs i)∧Hid (Ow w0 wr g M (L++Ls) (O++[⟨some ⟨ob,0,none⟩,m+1,m+1,73,vs⟩]))
def RPin (w0:World)(g:Option Nat)(M:List (Nat×Value))(L:List Ob)(O:List Rw)(ob rb m i:Nat)(v:Value)(wr:World):Prop:=
 ∃ (k:Nat) (vs xs:List Value) (Ls:List Ob),k≤i+1∧v=.int .i64 (k:Int)∧Hid (vs.length=m+1∧TRows (L++Ls) vs i∧xs.length=i+1∧TFst (L++Ls) xs i k∧vs[i]?=some (.slice (some ⟨rb,0,none⟩) (i+1) (i+1)))∧Hid (Ow w0 wr g M (L++Ls) (O++[⟨some ⟨ob,0,none⟩,m+1,m+1,73,vs⟩,⟨some ⟨rb,0,none⟩,i+1,i+1,25,xs⟩]))
section
variable {w0 w w':World}{g:Option Nat}{M M2:List (Nat×Value)}{L:List Ob}{O:List Rw}{A A2 A3 A4:Option Addr}{b n c m c2 n3 c3 n4 c4 x y:Nat}{p q r s:List Int}
theorem z1y (h:Ow w0 w g M L O){i:Nat}{b n c:Nat}{e:TypeId}{vs:List Value}(hi:O[i]?=some ⟨some ⟨b,0,none⟩,n,c,e,vs⟩){k:Nat}{v:Value}(hv:vs[k]?=some v)(hk:k<n*1):w.cell? ⟨b,k,none⟩=some v:=by
 exact ((h.own i _ hi).cellAt k hk).trans hv
theorem z6k {ob rb m i i1 k k1 t:Nat}{ad:Addr}{ys xs ws:List Value}{v u x1 x2:Value}{e1 e2:TypeId}(h:Ow w0 w g M L (O++[⟨some ⟨ob,0,none⟩,m+1,m+1,e1,ys⟩,⟨some ⟨rb,0,none⟩,i+1,i+1,e2,xs⟩]))(h1:ys[i]?=some v)(h2:ys[i1]?=some u)(ht:L[t]?=some ⟨some ad,i1+1,i1+1,ws⟩)(h3:ws[k1]?=some x1)(h4:ws[k]?=some x2)(hi:i<m+1)(hi1:i1<m+1):
  w.cell? ⟨ob,i,none⟩=some v∧w.cell? ⟨ob,i1,none⟩=some u∧w.cell? (ad.add k1)=some x1∧w.cell? (ad.add k)=some x2:=
 ⟨z1y h (i:=O.length+0) (zk rfl) h1 (by omega),z1y h (i:=O.length+0) (zk rfl) h2 (by omega),(h.sl ht).2.2.2.c h3,(h.sl ht).2.2.2.c h4⟩
theorem z2bu (h:Ow w0 w g M L O):Calls Tryz.prog 91 #[.int .i64 1] w (GotU w0 g M L O (Na.dig 1)):=t_of h 1 (by omega)
theorem z8am (h:Ow w0 w g M L O)(m:Nat)(hm:m≤40):
  Calls Tryz.prog 90 #[.int .i64 (m:Int)] w fun e w'=>∃ (A:Option Addr) (Ls:List Ob),e=.returned (.slice A (m+1) (m+1))∧Ow w0 w' g M (L++Ls) O∧TSets (L++Ls) A m:=by
 have hmk:=z6ag ((m:Int)+1) ((m:Int)+1) (m+1) (by omega) (by omega) (by omega) w
 have H:=h.made 73 (.slice none 0 0) (m+1) (m+1) rfl (zqj _) (by unfold maxLen;omega)
 have HO:=zh H;clear h H;go_enter Tryz.func90,Tryz.ntmps90
 go_wp2_with fail;obtain ⟨ob,hob⟩:∃ r,w.heap.size=r:=⟨_,rfl⟩
 rw [hob] at HO
 try rw [hob]
 clear hmk;go_loopw [11] (fun v wr=>RPas w0 g M L O ob m v wr) (fun v _=>m+2 - (intOf v).toNat)
 case atStart=>exact ⟨0,_,[],by omega,rfl,⟨List.length_replicate ..,fun i hi=>absurd hi (by omega)⟩,by rw [List.append_nil];exact HO⟩
 case round=>
  clear HO;obtain ⟨i,vs,Ls,hi,rfl,HV,HO⟩:=hrel;rcases Nat.eq_or_lt_of_le hi with he | hlt
  ·subst he
   have hd:decide (((m+1:Nat):Int)<((m+1:Nat):Int))=false:=zn (by omega)
   have hd9:decide (((m+1:Nat):Int)<(m:Int)+1)=false:=zn (by omega)
   have hd2:decide (m+1<m+1)=false:=zn (by omega)
   go_wp2_with fail;have hk:=HO.out.keep (O.length+0) (zk rfl) (by omega)
   rw [z0q,zqd] at hk;have hr:=hk.fewO;rw [zqa] at hr;refine bodyPost_ret (v:=.slice (some ⟨ob,0,none⟩) (m+1) (m+1)) (by simp [results,Tryz.results90,go_sem]) rfl ?_
   refine ⟨some ⟨ob,0,none⟩,Ls++[⟨some ⟨ob,0,none⟩,m+1,m+1,vs⟩],rfl,hr,⟨ob,0,none⟩,L.length+Ls.length,vs,rfl,?_,?_⟩
   ·rw [← zqa,← zqm,zqo (zqj _),Nat.sub_self];rfl
   ·rw [← zqa];exact TRows.more HV.out.2
  ·have hd:decide ((i:Int)<(m:Int)+1)=true:=zt (by omega)
   have hd2:decide (i<m+1)=true:=zt (by omega)
   have hi40:i≤40:=by omega
   have hmk:=fun W=>z6ah ((i:Int)+1) ((i:Int)+1) (i+1) (by omega) (by omega) (by omega) W
   have H:=HO.out.made 25 (.slice none 0 0) (i+1) (i+1) rfl (zqj _) (by unfold maxLen;omega)
   rw [zqa,zqb,zqc] at H;have hvi:vs[i]?=some (vs[i]'(by have:=HV.out.1;omega)):=zql _
   have co:=z1y H (i:=O.length+0) (zk rfl) hvi (by omega)
   have fo:=(H.own (O.length+0) _ (zk rfl)).frozenAt i
   go_wp2_with fail;have H2:=H.put (O.length+0) (zk rfl) i (.slice (some ⟨wr.heap.size,0,none⟩) (i+1) (i+1))
   rw [z0q,zqd] at H2;obtain ⟨rb,hrb⟩:∃ r,wr.heap.size=r:=⟨_,rfl⟩
   rw [hrb] at H2
   try rw [hrb]
   have HI2:=zh H2;have hm40:m≤40:=hm
   clear H H2 hmk hvi co fo HO;go_loopw [25] (fun v wr=>RPin w0 g M L O ob rb m i v wr) (fun v _=>i+2 - (intOf v).toNat)
   case atStart=>
    refine ⟨0,_,_,Ls,zqr _,rfl,⟨?_,?_,List.length_replicate ..,fun q hq=>absurd hq (by omega),?_⟩,HI2⟩
    ·rw [List.length_set];exact HV.out.1
    ·intro q hq;obtain ⟨u,a,b⟩:=HV.out.2 q hq
     exact ⟨u,by rw [zqf (by omega)];exact a,b⟩
    ·exact List.getElem?_set_self (by have:=HV.out.1;omega)
   case round=>
    clear HI2 HV;obtain ⟨k,ys,xs,Lt,hk,rfl,HV,HO⟩:=hrel;rcases Nat.eq_or_lt_of_le hk with he | hlt2
    ·subst he
     have hd3:decide (((i+1:Nat):Int)<(i:Int)+1)=false:=zn (by omega)
     have hd4:decide (((i+1:Nat):Int)<((i+1:Nat):Int))=false:=zn (by omega)
     have hd5:decide (i+1<i+1)=false:=zn (by omega)
     go_wp2_with fail;have hk2:=HO.out.keep (O.length+1) (zk rfl) (by omega)
     rw [z0q,zqe,zqd] at hk2;have hk3:=hk2.few (O.length+1)
     rw [List.take_append,zqp (by omega),Nat.add_sub_cancel_left,List.take_succ_cons,List.take_zero,zqa L] at hk3
     have HG:=zh hk3;have HW:Hid (ys.length=m+1∧TRows (L++(Lt++[(⟨some ⟨rb,0,none⟩,i+1,i+1,xs⟩:Ob)])) ys (i+1)):=by
      refine ⟨HV.out.1,fun q hq=>?_⟩
      rw [← zqa];rcases zqi q i with h | h
      ·obtain ⟨u,a,b⟩:=HV.out.2.1 q h
       exact ⟨u,a,b.more⟩
      ·obtain rfl:q=i:=by omega
       exact ⟨_,HV.out.2.2.2.2,⟨rb,0,none⟩,(L++Lt).length+0,xs,rfl,by rw [z0b];rfl,fun z hz=>by
        obtain ⟨u,a,b⟩:=HV.out.2.2.2.1 z (by omega)
        exact ⟨u,a,b.more⟩⟩
     clear hk2 hk3 HO HV;go_roundw
     case rel=>exact ⟨i+1,ys,_,by omega,z0v (by omega),HW,HG⟩
     case measure=>simp [intOf];omega
    ·have hd3:decide ((k:Int)<(i:Int)+1)=true:=zt (by omega)
     have hd4:decide (k<i+1)=true:=zt hlt2
     have hk40:k≤40:=by omega
     have HD:=zh HO.out.drew;have HA1:=zh (z2bu HD.out)
     have hyi:(ys)[i]?=some (.slice (some ⟨rb,0,none⟩) (i+1) (i+1)):=HV.out.2.2.2.2
     have HYI:=zh hyi;obtain ⟨xv,hxv⟩:∃ v,xs[k]?=some v:=⟨xs[k]'(by have:=HV.out.2.2.1;omega),zql _⟩
     have HXV:=zh hxv;clear HO hyi hxv;have hb1:(0:Int)≤(i:Int):=by omega
     have hb2:(i:Int)≤(m:Int):=by omega
     have hb3:(0:Int)≤(k:Int):=by omega
     have hb4:(k:Int)≤(i:Int):=by omega
     have hb5:(i:Int)<(m:Int)+1:=by omega
     have hb6:(k:Int)<(i:Int)+1:=by omega
     have hb7:i<m+1:=by omega
     have hb8:k<i+1:=by omega
     go_upto_region 9 with (fail)
     have c0:=z1y HD.out (i:=O.length+0) (zk rfl) HYI.out (by omega)
     go_region_held3 (fun W=>W.cell? ⟨ob,i,none⟩=some (.slice (some ⟨rb,0,none⟩) (i+1) (i+1))) (first | exact c0 | exact z1y how (i:=O.length+0) (zk rfl) HYI.out (by omega) | exact z1y how2 (i:=O.length+0) (zk rfl) HYI.out (by omega)) ((go_at_call 91;(with_reducible refine HA1.out.mono ?_);rintro e v2 ⟨B1,m1,d1,rfl,how⟩;have z0:=z1y how (i:=O.length+1) (zk rfl) HXV.out (by omega);have zf:=(how.own (O.length+1) _ (zk rfl)).frozenAt k;have how2:=how.put (O.length+1) (zk rfl) k (.slice B1 m1 d1);rw [z0q,zqe,zqd] at how2))
     have HN:=zh how2;clear how how2 z0 zf c0 HA1 HD HXV;have HX1:Hid (xs.length=i+1∧k<xs.length):=⟨HV.out.2.2.1,by have:=HV.out.2.2.1;omega⟩
     have hcs:(0<k∧k<i)∨(k=0∨k=i):=by omega
     rcases hcs with ⟨hk0,hki⟩ | hkk
     ·have q1:decide ((0:Int)<(k:Int))=true:=zt (by omega)
      have q2:decide (0<k)=true:=zt hk0
      have q3:decide ((k:Int)<(i:Int))=true:=zt (by omega)
      have q4:decide (k<i)=true:=zt hki
      obtain ⟨i1,hi1⟩:∃ z,i=z+1:=⟨i - 1,by omega⟩
      obtain ⟨k1,hk1⟩:∃ z,k=z+1:=⟨k - 1,by omega⟩
      obtain ⟨u,hu,ad,t,ws,rfl,ht,hnum⟩:=HV.out.2.1 i1 (by omega)
      obtain ⟨x1,hx1,X1,a1,b1,p1,rfl,hp1⟩:=hnum k1 (by omega)
      obtain ⟨x2,hx2,X2,a2,b2,p2,rfl,hp2⟩:=hnum k (by omega)
      have hsum:Na.bin i1 k1+Na.bin i1 k=Na.bin i k:=by rw [hi1,hk1,Na.bin_succ]
      have htop:∀ a b,a≤40→Na.bin a b<Na.top:=fun a b h=>z4y (bin_two a b) (by omega)
      have HC:=zh (z6bh HN.out.drew p1 p2 ((z1b _ _ (z0e hp1)).trans hp1) ((z1b _ _ (z0e hp2)).trans hp2) (htop _ _ (by omega)) (htop _ _ (by omega)) (by rw [hsum];exact htop _ _ (by omega)))
      rw [hsum] at HC;have HP:=zh (And.intro HYI.out (And.intro hu (And.intro ht (And.intro hx1 hx2))))
      have HD2:=zh HN.out.drew;have e1:((i:Int) - 1).toNat=i1:=by omega
      have e2:((k:Int) - 1).toNat=k1:=by omega
      have w1:IntKind.i64.wrap ((i:Int) - 1)=(i:Int) - 1:=IntWalk.i64_in _ (by omega)
      have w2:IntKind.i64.wrap ((k:Int) - 1)=(k:Int) - 1:=IntWalk.i64_in _ (by omega)
      have w3:(0:Int)≤(i:Int) - 1:=by omega
      have w4:(i:Int) - 1<(m:Int)+1:=by omega
      have w5:(0:Int)≤(k:Int) - 1:=by omega
      have w6:(k:Int) - 1<(i1:Int)+1:=by omega
      have x1:(1:Int)≤(i:Int):=by omega
      have x2:(i:Int)≤(m:Int)+1:=by omega
      have x3:(i:Int)<(m:Int)+1+1:=by omega
      have x4:(1:Int)≤(k:Int):=by omega
      have x5:(k:Int)≤(i1:Int)+1:=by omega
      have x6:(k:Int)<(i1:Int)+1+1:=by omega
      have x7:(0:Int)<(i:Int):=by omega
      have x8:1≤i:=by omega
      have x9:1≤k:=by omega
      have hc1:(0:Int)≤(i1:Int):=by omega
      have hc2:(i1:Int)<(m:Int)+1:=by omega
      have hc3:(0:Int)≤(k1:Int):=by omega
      have hc4:(k1:Int)<(i1:Int)+1:=by omega
      have hc5:(k:Int)<(i1:Int)+1:=by omega
      have hc6:i1<m+1:=by omega
      have hc7:k1<i1+1:=by omega
      have hc8:k<i1+1:=by omega
      have HI1:=zh (And.intro hi1 hk1)
      clear hu ht hnum hx1 hx2 hp1 hp2 hsum htop hi1 hk1;go_upto_region 11 with (fail)
      have c4:=z6k HD2.out HP.out.1 HP.out.2.1 ((z1b _ _ (z0e HP.out.2.2.1)).trans HP.out.2.2.1) HP.out.2.2.2.1 HP.out.2.2.2.2 (by omega) (by omega)
      go_region_held3 (fun W=>W.cell? ⟨ob,i,none⟩=some (.slice (some ⟨rb,0,none⟩) (i+1) (i+1))∧W.cell? ⟨ob,i1,none⟩=some (.slice (some ad) (i1+1) (i1+1))∧W.cell? (ad.add k1)=some (.slice X1 a1 b1)∧W.cell? (ad.add k)=some (.slice X2 a2 b2)) (first | exact c4 | exact z6k how HP.out.1 HP.out.2.1 ((z1b _ _ (by have:=z0e HP.out.2.2.1;rw [zqm];omega)).trans ((z1b _ _ (z0e HP.out.2.2.1)).trans HP.out.2.2.1)) HP.out.2.2.2.1 HP.out.2.2.2.2 (by omega) (by omega) | exact z6k how2 HP.out.1 HP.out.2.1 (by rw [← zqa];exact (z1b _ _ (z0e HP.out.2.2.1)).trans HP.out.2.2.1) HP.out.2.2.2.1 HP.out.2.2.2.2 (by omega) (by omega)) ((go_at_call 123;(with_reducible refine HC.out.mono ?_);rintro e v3 ⟨B2,m2,d2,rfl,how⟩;have hz:=z1y how (i:=O.length+1) (zk rfl) (List.getElem?_set_self HX1.out.2) (by omega);have zf:=(how.own (O.length+1) _ (zk rfl)).frozenAt k;have how2:=how.put (O.length+1) (zk rfl) k (.slice B2 m2 d2);rw [z0q,zqe,zqd,List.set_set,zqa,zqa] at how2))
      have HG:=zh how2;have HW:Hid (ys.length=m+1∧TRows (L++(Lt++([(⟨B1,m1,d1,z0c (Na.dig 1)⟩:Ob)]++[(⟨B2,m2,d2,z0c (Na.dig (Na.bin i k))⟩:Ob)]))) ys i∧(xs.set k (.slice B2 m2 d2)).length=i+1∧TFst (L++(Lt++([(⟨B1,m1,d1,z0c (Na.dig 1)⟩:Ob)]++[(⟨B2,m2,d2,z0c (Na.dig (Na.bin i k))⟩:Ob)]))) (xs.set k (.slice B2 m2 d2)) i (k+1)∧ys[i]?=some (.slice (some ⟨rb,0,none⟩) (i+1) (i+1))):=by
       refine ⟨HV.out.1,by rw [← zqa];exact TRows.more HV.out.2.1,by rw [List.length_set];exact HX1.out.1,?_,HYI.out⟩
       rw [← zqa];exact TFst.set HV.out.2.2.2.1 HX1.out.2 ⟨B2,m2,d2,(L++Lt).length+1,rfl,by rw [z0b];rfl⟩
      clear how how2 hz zf c4 HC HD2 HN HP HV HYI e1 e2 w1 w2 w3 w4 w5 w6 x1 x2 x3 x4 x5 x6 x7 x8 x9;go_wp2_with fail;go_roundw
      case rel=>exact ⟨k+1,ys,_,_,by omega,z0v (by omega),HW,HG⟩
      case measure=>simp [intOf];omega
     ·have hb1k:Na.bin i k=1:=by
       rcases hkk with rfl | rfl
       ·exact Na.bin_zero _
       ·exact Na.bin_self _
      have HW:Hid (ys.length=m+1∧TRows (L++(Lt++[(⟨B1,m1,d1,z0c (Na.dig 1)⟩:Ob)])) ys i∧(xs.set k (.slice B1 m1 d1)).length=i+1∧TFst (L++(Lt++[(⟨B1,m1,d1,z0c (Na.dig 1)⟩:Ob)])) (xs.set k (.slice B1 m1 d1)) i (k+1)∧ys[i]?=some (.slice (some ⟨rb,0,none⟩) (i+1) (i+1))):=by
       refine ⟨HV.out.1,by rw [← zqa];exact TRows.more HV.out.2.1,by rw [List.length_set];exact HX1.out.1,?_,HYI.out⟩
       rw [← zqa];exact TFst.set HV.out.2.2.2.1 HX1.out.2 (by rw [hb1k];exact ⟨B1,m1,d1,(L++Lt).length+0,rfl,by rw [z0b];rfl⟩)
      have HG2:=HN.out;rw [zqa L] at HG2;have HG:=zh HG2;have hq:(decide ((0:Int)<(k:Int))=false∧decide (0<k)=false)∨(decide ((0:Int)<(k:Int))=true∧decide (0<k)=true∧decide ((k:Int)<(i:Int))=false∧decide (k<i)=false):=by
       rcases zqh k with h | h
       ·exact .inl ⟨zn (by omega),zn (by omega)⟩
       ·exact .inr ⟨zt (by omega),zt h,zn (by omega),zn (by omega)⟩
      clear HG2 HN HV HYI hkk hb1k;rcases hq with ⟨q1,q2⟩ | ⟨q1,q2,q3,q4⟩
      ·go_wp2_with fail;go_roundw
       case rel=>exact ⟨k+1,ys,_,_,by omega,z0v (by omega),HW,HG⟩
       case measure=>simp [intOf];omega
      ·go_wp2_with fail;go_roundw
       case rel=>exact ⟨k+1,ys,_,_,by omega,z0v (by omega),HW,HG⟩
       case measure=>simp [intOf];omega
end
end Go.Proofs.YtpmofjomadibmaaGreatDoor
