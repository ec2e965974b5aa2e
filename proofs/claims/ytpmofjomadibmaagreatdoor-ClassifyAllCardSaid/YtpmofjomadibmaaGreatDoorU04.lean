/- Om Ox Xa Xb RegB Xc -/
import Derived.Test.YtpmofjomadibmaaGreatDoorU03
import Derived.StillTail
import Derived.Lib.QuietBelow
namespace Go.Proofs.YtpmofjomadibmaaGreatDoor
set_option maxHeartbeats 2000000
open Go.RowKit
set_option linter.unusedVariables false
set_option maxRecDepth 100000
structure Rw where
 A:Option Addr
 n:Nat
 c:Nat
 e:TypeId
 vs:List Value
def Rw.blk (r:Rw):Option Nat:=(Value.slice r.A r.n r.c).ownBlock
theorem z6y (A:Option Addr)(n c:Nat):(Value.slice A n c).ownBlock=A.map Addr.block:=by cases A <;> rfl
structure Ow (w0 w:World)(g:Option Nat)(M:List (Nat×Value))(L:List Ob)(O:List Rw):Prop where
 st:St w0 w g M L
 own:∀ (i:Nat) (r:Rw),O[i]?=some r->w.ownsRow w0.heap.size r.e 1 (.slice r.A r.n r.c) r.n r.vs
 ap:∀ (i:Nat) (r:Rw),O[i]?=some r->∀ b,r.blk=some b->g≠some b/\(∀ (j k:Nat) (v:Value),M[j]?=some (k,v)->b≠k)/\(∀ o∈L,∀ ad,o.A=some ad->0<o.n->b≠ad.block)
 two:∀ (i j:Nat) (r s:Rw),O[i]?=some r->O[j]?=some s->i≠j->∀ b,r.blk=some b->s.blk≠some b
section
variable {w0 w w':World}{g:Option Nat}{M:List (Nat×Value)}{L:List Ob}{O:List Rw}
theorem Ow.of (h:St w0 w g M L):Ow w0 w g M L []:=⟨h,fun i r e=>by simp at e,fun i r e=>by simp at e,fun i j r s e=>by simp at e⟩
theorem Ow.lt (h:Ow w0 w g M L O){i:Nat}{r:Rw}(hi:O[i]?=some r){b:Nat}(hb:r.blk=some b):b<w.heap.size/\w0.heap.size<=b:=by
 have:=(h.own i r hi).lt b hb
 exact ⟨this.2,this.1⟩
theorem Ow.go (h:Ow w0 w g M L O)(hb:Below w.heap.size w w'):Ow w0 w' g M L O:=
 ⟨h.st.go hb,fun i r hi=>z3c (h.own i r hi) hb,h.ap,h.two⟩
theorem Ow.size (h:Ow w0 w g M L O):w0.heap.size<=w.heap.size:=h.st.size
theorem Ow.below (h:Ow w0 w g M L O):Below w0.heap.size w0 w:=h.st.below
theorem Ow.cell (h:Ow w0 w g M L O)(i:Nat){b:Nat}{v:Value}(hi:M[i]?=some (b,v)):w.cell? ⟨b,0,none⟩=some v:=h.st.cell i hi
theorem Ow.free (h:Ow w0 w g M L O)(i:Nat){b:Nat}{v:Value}(hi:M[i]?=some (b,v)):w.frozen? ⟨b,0,none⟩=false:=h.st.free i hi
theorem Ow.sl (h:Ow w0 w g M L O){i:Nat}{A:Option Addr}{n c:Nat}{vs:List Value}(hi:L[i]?=some ⟨A,n,c,vs⟩):vs.length=n/\n<=c/\n<=1000/\Sl w w.heap.size A vs:=h.st.sl hi
theorem Ow.row (h:Ow w0 w g M L O)(i:Nat){A:Option Addr}{n c:Nat}{e:TypeId}{vs:List Value}(hi:O[i]?=some ⟨A,n,c,e,vs⟩):w.ownsRow w0.heap.size e 1 (.slice A n c) n vs:=h.own i _ hi
theorem Ow.add (h:Ow w0 w g M L O){A:Option Addr}{n c:Nat}{e:TypeId}{vs:List Value}(ho:w'.ownsRow w.heap.size e 1 (.slice A n c) n vs)(hb:Below w.heap.size w w'):Ow w0 w' g M L (O++[⟨A,n,c,e,vs⟩]):=by
 have h':=h.go hb
 have key:∀ (i:Nat) (r:Rw),(O++[⟨A,n,c,e,vs⟩])[i]?=some r->O[i]?=some r∨(O.length=i/\r=⟨A,n,c,e,vs⟩):=fun i r hi=>by
  rcases zqi i O.length with h1|h1
  ·rw [zqn h1] at hi;exact .inl hi
  ·rw [zqo h1] at hi;have h2:i - O.length=0:=by have:=z0d hi;simp at this;omega
   rw [h2] at hi;simp at hi
   exact .inr ⟨by omega,hi.symm⟩
 have new:∀ b,(⟨A,n,c,e,vs⟩:Rw).blk=some b->w.heap.size<=b:=fun b hb'=>(ho.lt b hb').1
 refine ⟨h'.st,fun i r hi=>?_,fun i r hi b hb'=>?_,fun i j r s hi hj hij b hb' e2=>?_⟩
 ·rcases key i r hi with h1|⟨_,rfl⟩
  ·exact h'.own i r h1
  ·exact z1f ho h.size
 ·rcases key i r hi with h1|⟨_,rfl⟩
  ·exact h'.ap i r h1 b hb'
  ·have h3:=new b hb'
   refine ⟨fun e=>by have:=(h.st.lt b e).1;omega,fun j k v hj e=>by have:=(h.st.box j k v hj).1;omega,fun o ho' ad ha h0 e=>?_⟩
   obtain ⟨h4,_,_,B,hB,hs,_⟩:=h.st.held o ho'
   obtain ⟨ad',ha',hlt,_⟩:=hs (by omega)
   rw [ha] at ha';obtain rfl:=zqk ha'
   omega
 ·rcases key i r hi with h1|⟨h1,rfl⟩ <;> rcases key j s hj with h2|⟨h2,rfl⟩
  ·exact h.two i j r s h1 h2 hij b hb' e2
  ·have:=(h.lt h1 hb').1;have:=new b e2;omega
  ·have:=(h.lt h2 e2).1;have:=new b hb';omega
  ·omega
theorem Ow.turn (h:Ow w0 w g M L O)(i:Nat){r r':Rw}(hi:O[i]?=some r)(hg:w.grownBy w' r.blk)(ho:w'.ownsRow w0.heap.size r'.e 1 (.slice r'.A r'.n r'.c) r'.n r'.vs)(hb:r'.blk=r.blk∨r'.blk=some w.heap.size):Ow w0 w' g M L (O.set i r'):=by
 have key:∀ (j:Nat) (x:Rw),(O.set i r')[j]?=some x->(j=i/\x=r')∨(j≠i/\O[j]?=some x):=fun j x hj=>by
  by_cases e:j=i
  ·subst e
   rw [List.getElem?_set_self (z0d hi)] at hj
   simp at hj
   exact .inl ⟨rfl,hj.symm⟩
  ·rw [zqf (fun e'=>e e'.symm)] at hj
   exact .inr ⟨e,hj⟩
 have low:∀ b,r.blk=some b->w0.heap.size<=b:=fun b hb'=>(h.lt hi hb').2
 have hbel:Below w0.heap.size w0 w':=h.below.trans ((Below.refl _ _).grown hg h.size low)
 have cellk:∀ b,b<w.heap.size->r.blk≠some b->w'.heap[b]?=w.heap[b]?:=fun b h1 h2=>hg.block b h1 (fun e=>h2 e.symm)
 refine ⟨⟨hbel,fun x e=>⟨zqv (h.st.lt x e).1 hg.size,(h.st.lt x e).2⟩,fun j b v hj=>?_,h.st.one,fun o ho'=>?_⟩,fun j x hj=>?_,fun j x hj b hb'=>?_,fun j k x y hj hk hjk b hb' e2=>?_⟩
 ·obtain ⟨h1,h2,h3,h4,h5⟩:=h.st.box j b v hj
  have e1:=cellk b h1 (fun e=>(h.ap i r hi b e).2.1 j b v hj rfl)
  exact ⟨zqv h1 hg.size,h2,(World.cell?_of_block (a:=⟨b,0,none⟩) e1).trans h3,(World.frozen?_of_block (a:=⟨b,0,none⟩) e1).trans h4,h5⟩
 ·obtain ⟨h1,h2,h3,B,hB,hs,hne⟩:=h.st.held o ho'
  refine ⟨h1,h2,h3,B,zqq hB hg.size,fun hn=>?_,hne⟩
  obtain ⟨ad,hA,hbk,hcell⟩:=hs hn
  refine ⟨ad,hA,hbk,fun k u hu=>?_⟩
  rw [World.cell?_of_block (cellk _ (by rw [z1d];omega) (by rw [z1d];intro e;exact (h.ap i r hi _ e).2.2 o ho' ad hA (by omega) rfl))]
  exact hcell k u hu
 ·rcases key j x hj with ⟨_,rfl⟩|⟨hne,hj'⟩
  ·exact ho
  ·refine z2d (h.own j x hj') hg ?_
   by_cases e:(Value.slice x.A x.n x.c).ownBlock=none
   ·exact .inl e
   ·refine .inr fun e2=>?_
    obtain ⟨b,hb'⟩:=Option.ne_none_iff_exists'.1 e
    exact h.two j i x r hj' hi hne b hb' (by rw [<- e2];exact hb')
 ·have old:∀ b,r'.blk=some b->(∃ b',r.blk=some b'/\b=b')∨b=w.heap.size:=fun b e=>by
   rcases hb with e1|e1
   ·exact .inl ⟨b,by rw [<- e1];exact e,rfl⟩
   ·rw [e] at e1;exact .inr (zqk e1)
  rcases key j x hj with ⟨_,rfl⟩|⟨hne,hj'⟩
  ·rcases old b hb' with ⟨b',e1,rfl⟩|rfl
   ·exact h.ap i r hi b e1
   ·refine ⟨fun e=>by have:=(h.st.lt _ e).1;omega,fun j k v hj e=>by have:=(h.st.box j k v hj).1;omega,fun o ho' ad ha h0 e=>?_⟩
    obtain ⟨h4,_,_,B,hB,hs,_⟩:=h.st.held o ho'
    obtain ⟨ad',ha',hlt,_⟩:=hs (by omega)
    rw [ha] at ha';obtain rfl:=zqk ha'
    omega
  ·exact h.ap j x hj' b hb'
 ·have old:∀ b,r'.blk=some b->r.blk=some b∨b=w.heap.size:=fun b e=>by
   rcases hb with e1|e1
   ·exact .inl (by rw [<- e1];exact e)
   ·rw [e] at e1;exact .inr (zqk e1)
  rcases key j x hj with ⟨a1,rfl⟩|⟨hne,hj'⟩ <;> rcases key k y hk with ⟨a2,rfl⟩|⟨hne2,hk'⟩
  ·omega
  ·rcases old b hb' with e1|rfl
   ·exact h.two i k r y hi hk' (fun e=>hne2 e.symm) b e1 e2
   ·have:=(h.lt hk' e2).1;omega
  ·rcases old b e2 with e1|rfl
   ·exact h.two j i x r hj' hi hne b hb' e1
   ·have:=(h.lt hj' hb').1;omega
  ·exact h.two j k x y hj' hk' hjk b hb' e2
theorem Ow.put (h:Ow w0 w g M L O)(i:Nat){gb n c:Nat}{e:TypeId}{vs:List Value}(hi:O[i]?=some ⟨some ⟨gb,0,none⟩,n,c,e,vs⟩)(k:Nat)(v:Value):Ow w0 (w.setCell ⟨gb,k,none⟩ v) g M L (O.set i ⟨some ⟨gb,0,none⟩,n,c,e,vs.set k v⟩):=
 h.turn i hi (r':=⟨some ⟨gb,0,none⟩,n,c,e,vs.set k v⟩) (z0f _ _ _) (z1x (h.own i _ hi) k v) (.inl rfl)
theorem Ow.cut (h:Ow w0 w g M L O)(i:Nat){A:Option Addr}{n c:Nat}{e:TypeId}{vs:List Value}(hi:O[i]?=some ⟨A,n,c,e,vs⟩){k:Nat}(hk:k<=n):Ow w0 w g M L (O.set i ⟨A,k,c,e,vs.take k⟩):=
 h.turn i hi (r':=⟨A,k,c,e,vs.take k⟩) (World.grownBy.refl w _) (z3j (h.own i _ hi) hk) (.inl (by show (Value.slice A k c).ownBlock=(Value.slice A n c).ownBlock;rw [z6y,z6y]))
theorem Ow.same (h:Ow w0 w g M L O)(i:Nat){A:Option Addr}{n c:Nat}{e:TypeId}{vs vs':List Value}(hi:O[i]?=some ⟨A,n,c,e,vs⟩)(hv:vs=vs'):Ow w0 w g M L (O.set i ⟨A,n,c,e,vs'⟩):=by
 subst hv
 exact h.turn i hi (r':=⟨A,n,c,e,vs⟩) (World.grownBy.refl w _) (h.own i _ hi) (.inl rfl)
theorem Ow.keep (h:Ow w0 w g M L O)(i:Nat){A:Option Addr}{n c:Nat}{e:TypeId}{vs:List Value}(hi:O[i]?=some ⟨A,n,c,e,vs⟩)(hl:n<=1000):Ow w0 w g M (L++[⟨A,n,c,vs⟩]) (O.set i ⟨none,0,0,e,[]⟩):=by
 have h1:=h.turn i hi (r':=⟨A,n,c,e,vs⟩) (World.grownBy.refl w _) (h.own i _ hi) (.inl rfl)
 have key:∀ (j:Nat) (x:Rw),(O.set i ⟨none,0,0,e,[]⟩)[j]?=some x->(j=i/\x=⟨none,0,0,e,[]⟩)∨(j≠i/\O[j]?=some x):=fun j x hj=>by
  by_cases e:j=i
  ·subst e
   rw [List.getElem?_set_self (z0d hi)] at hj
   simp at hj
   exact .inl ⟨rfl,hj.symm⟩
  ·rw [zqf (fun e'=>e e'.symm)] at hj
   exact .inr ⟨e,hj⟩
 have ho:=h.own i _ hi
 refine ⟨h.st.add (Sl.of_own ho) (zqj _) (z1m ho) (z1j ho).1 hl fun ad ea h0=>?_,fun j x hj=>?_,fun j x hj b hb=>?_,fun j k x y hj hk hjk b hb e2=>?_⟩
 ·have hb:(⟨A,n,c,e,vs⟩:Rw).blk=some ad.block:=by show (Value.slice A n c).ownBlock=_;rw [ea];rfl
  have:=h.ap i _ hi _ hb
  exact ⟨this.1,this.2.1⟩
 ·rcases key j x hj with ⟨_,rfl⟩|⟨hne,hj'⟩
  ·exact World.ownsRow_nil _ _ _ _
  ·exact h.own j x hj'
 ·rcases key j x hj with ⟨_,rfl⟩|⟨hne,hj'⟩
  ·cases hb
  ·obtain ⟨a1,a2,a3⟩:=h.ap j x hj' b hb
   refine ⟨a1,a2,fun o ho' ad ea h0=>?_⟩
   rcases List.mem_append.1 ho' with h2|h2
   ·exact a3 o h2 ad ea h0
   ·rw [List.mem_singleton] at h2;subst h2
    intro e3;have hb2:(⟨A,n,c,e,vs⟩:Rw).blk=some b:=by show (Value.slice A n c).ownBlock=_;rw [show A=some ad from ea,e3];rfl
    exact h.two j i x _ hj' hi hne b hb hb2
 ·rcases key j x hj with ⟨a1,rfl⟩|⟨hne,hj'⟩ <;> rcases key k y hk with ⟨a2,rfl⟩|⟨hne2,hk'⟩
  ·omega
  ·cases hb
  ·cases e2
  ·exact h.two j k x y hj' hk' hjk b hb e2
theorem Ow.boxed (h:Ow w0 w g M L O)(v:Value)(t:TypeId):Ow w0 (w.alloc (.cells #[v] t)) g (M++[(w.heap.size,v)]) L O:=by
 have hb:Below w.heap.size w (w.alloc (.cells #[v] t)):=(Below.refl _ _).alloc (zqj _) _
 have h':=h.go hb
 refine ⟨h.st.boxed v t,h'.own,fun i r hi b hb'=>?_,h.two⟩
 obtain ⟨a1,a2,a3⟩:=h.ap i r hi b hb'
 refine ⟨a1,fun j k u hj e=>?_,a3⟩
 rcases zqi j M.length with h1|h1
 ·rw [zqn h1] at hj;exact a2 j k u hj e
 ·rw [zqo h1] at hj;have h2:j - M.length=0:=by have:=z0d hj;simp at this;omega
  rw [h2] at hj;simp at hj
  have:=(h.lt hi hb').1
  omega
theorem Ow.setv (h:Ow w0 w g M L O)(i:Nat){b:Nat}{v:Value}(hi:M[i]?=some (b,v))(u:Value):Ow w0 (w.setCell ⟨b,0,none⟩ u) g (M.set i (b,u)) L O:=by
 have hg:=z0f w ⟨b,0,none⟩ u
 have key:∀ (j c:Nat) (x:Value),(M.set i (b,u))[j]?=some (c,x)->∃ y,M[j]?=some (c,y):=fun j c x hj=>by
  by_cases e:j=i
  ·subst e
   rw [List.getElem?_set_self (z0d hi)] at hj
   simp at hj
   exact ⟨v,by rw [hi,hj.1]⟩
  ·rw [zqf (fun e'=>e e'.symm)] at hj
   exact ⟨x,hj⟩
 refine ⟨h.st.put i hi u,fun j r hj=>z2d (h.own j r hj) hg ?_,fun j r hj x hb'=>?_,h.two⟩
 ·by_cases e:(Value.slice r.A r.n r.c).ownBlock=none
  ·exact .inl e
  ·exact .inr fun e2=>(h.ap j r hj b e2).2.1 i b v hi rfl
 ·obtain ⟨a1,a2,a3⟩:=h.ap j r hj x hb'
  refine ⟨a1,fun k c y hk=>?_,a3⟩
  obtain ⟨y',hy⟩:=key k c y hk
  exact a2 k c y' hy
theorem Ow.old (h:Ow w0 w g M L O){A:Option Addr}{n c:Nat}{vs:List Value}(hs:Sl w0 w0.heap.size A vs)(hn:vs.length=n)(hc:n<=c)(hl:n<=1000):Ow w0 w g M (L++[⟨A,n,c,vs⟩]) O:=by
 refine ⟨h.st.old hs hn hc hl,h.own,fun i r hi b hb=>?_,h.two⟩
 obtain ⟨a1,a2,a3⟩:=h.ap i r hi b hb
 refine ⟨a1,a2,fun o ho ad ea h0=>?_⟩
 rcases List.mem_append.1 ho with h1|h1
 ·exact a3 o h1 ad ea h0
 ·rw [List.mem_singleton] at h1;subst h1
  obtain ⟨ad',e',hbk,_⟩:=hs (by show 0<vs.length;rw [hn];exact h0)
  rw [show A=some ad from ea] at e'
  obtain rfl:=zqk e'
  have:=(h.lt hi hb).2
  omega
theorem Ow.push (h:Ow w0 w g M L O){A:Option Addr}{n c:Nat}{vs:List Value}{e:TypeId}(ho:w'.ownsRow w.heap.size e 1 (.slice A n c) n vs)(hl:n<=1000)(hb:Below w.heap.size w w'):Ow w0 w' g M (L++[⟨A,n,c,vs⟩]) O:=by
 have h1:=(h.add ho hb).keep O.length (A:=A) (n:=n) (c:=c) (e:=e) (vs:=vs) (by rw [zqo (zqj _),Nat.sub_self];rfl) hl
 have cut:∀ (i:Nat) (r:Rw),O[i]?=some r->((O++[(⟨A,n,c,e,vs⟩:Rw)]).set O.length (⟨none,0,0,e,[]⟩:Rw))[i]?=some r:=fun i r hi=>by
  have:=z0d hi
  rw [zqf (by omega),zqn this]
  exact hi
 exact ⟨h1.st,fun i r hi=>h1.own i r (cut i r hi),fun i r hi=>h1.ap i r (cut i r hi),fun i j r s hi hj=>h1.two i j r s (cut i r hi) (cut j s hj)⟩
theorem Ow.drewN (h:Ow w0 w g M L O)(k:Nat):Ow w0 (w.drewN k) g M L O:=h.go (z0w (Below.refl _ _) k)
end
def Elem (P:Program)(t e:TypeId)(z:Value)(bytes:Nat):Prop:=P.underlying t=some (.slice e)/\z.cells=#[z]/\∃ i,P.info? e=some i/\i.zero=some z/\i.size=1/\i.bytes=bytes
section
variable {P:Program}{w0 w:World}{g:Option Nat}{M:List (Nat×Value)}{L:List Ob}{O:List Rw}{t e:TypeId}{z:Value}{bytes:Nat}
theorem Ow.nil (h:Ow w0 w g M L O)(e:TypeId):Ow w0 w g M L (O++[⟨none,0,0,e,[]⟩]):=h.add (World.ownsRow_nil _ _ _ _) (Below.refl _ _)
theorem Ow.made (h:Ow w0 w g M L O)(e:TypeId)(z:Value)(n c:Nat)(hz:z.cells=#[z])(hnc:n<=c)(hc:c<=maxLen):
  Ow w0 (w.alloc (.cells (madeCells #[z] c) e)) g M L (O++[⟨some ⟨w.heap.size,0,none⟩,n,c,e,List.replicate n z⟩]):=by
 have h1:=z4d w e z n c hz hnc hc
 rw [hz] at h1;exact h.add h1 (z0i _ _)
theorem Elem.make (h:Elem P t e z bytes)(kl kc:IntKind)(a b:Int)(n c:Nat)(ha:a=(n:Int))(hb:b=(c:Int))(hnc:n<=c)(hbytes:bytes*c<=281474976710656)(h63:c<=9223372036854775807)(w:World):
  (Instr.makeSlice t (.int kl a) (.int kc b)).run P w=.ok (.slice (some ⟨w.heap.size,0,none⟩) n c) (w.alloc (.cells (madeCells #[z] c) e)):=by
 obtain ⟨ht,hzc,i,hi,hz,hs,hby⟩:=h;rw [<- hzc];exact z1h t e i z ht hi hz hs kl kc a b n c ha hb hnc (by rw [hby];exact hbytes) h63 w
theorem z5t {ops:Array Oper}{rest:List Oper}{o:Oper}{a:Act}{Q:Exit->Act->World->Prop}(hE:Elem P t e z bytes)(h:Ow w0 w g M L O)(i:Nat)(s x:Operand){A:Option Addr}{n c:Nat}{xs:List Value}(hi:O[i]?=some ⟨A,n,c,e,xs⟩)
  {B:Nat} {A2:Option Addr} {m c2:Nat} {news:List Value} (hm:news.length=m) (hr:Sl w B A2 news) (h1:∀ u∈news,u.oneCell'=true) (h63:n+m<=maxLen) (hbytes:(n+m)*bytes<=140737488355328)
  (hgd:o.guard=none) (ho:o.op=.call { callee:=.builtin .append,args:=#[s,x],argTypes:=#[t,t] }) (hs:a.eval s=.slice A n c) (hx:a.eval x=.slice A2 m c2)
  (hk:∀ A' c' w',Ow w0 w' g M L (O.set i ⟨A',n+m,c',e,xs++news⟩)->wpList P ops Q rest (a.put o.dst (.slice A' (n+m) c')) w'):wpList P ops Q (o :: rest) a w:=by
 obtain ⟨ht,hzc,inf,hi0,hz,hsz,hby⟩:=hE;exact z0h w hgd s x t ho w0.heap.size e inf z bytes ht hi0 hz hsz hby (by rw [hzc];rfl) A n c xs hs (h.own i _ hi) B A2 m c2 news hx hm hr h1 h63 hbytes h.size fun A' c' w' h2 h3 h4=>
  hk A' c' w' (h.turn i hi (r':=⟨A',n+m,c',e,xs++news⟩) h3 h2 h4)
theorem z2k {ops:Array Oper}{rest:List Oper}{o:Oper}{a:Act}{Q:Exit->Act->World->Prop}(hE:Elem P t e z bytes)(h:Ow w0 w g M L O)(i:Nat)(s x:Operand)(v:Value)(tt:TypeId){A:Option Addr}{n c:Nat}{xs:List Value}(hi:O[i]?=some ⟨A,n,c,e,xs⟩)
  (h1:v.oneCell'=true) (h63:n+1<=maxLen) (hbytes:(n+1)*bytes<=140737488355328)
  (hgd:o.guard=none) (ho:o.op=.call { callee:=.builtin .append,args:=#[s,x],argTypes:=#[t,t] }) (hs:a.eval s=.slice A n c) (hx:a.eval x=.slice (some ⟨w.heap.size,0,none⟩) 1 1)
  (hk:∀ A' c' w',Ow w0 w' g M L (O.set i ⟨A',n+1,c',e,xs++[v]⟩)->wpList P ops Q rest (a.put o.dst (.slice A' (n+1) c')) w'):wpList P ops Q (o :: rest) a (w.alloc (.cells #[v] tt)):=
 z5t hE (h.go (z0i w _)) i s x hi (m:=1) (news:=[v]) rfl (z2c w tt v) (fun u hu=>by rw [List.mem_singleton] at hu;subst hu;exact h1) h63 hbytes hgd ho hs hx hk
end
theorem z4p:Elem Tryz.prog 22 3 (.int .i64 0) 8:=by
 obtain ⟨i0,hi,hz0,hz1,hz2⟩:=info_parts z4y
 exact ⟨Tryz.underlying22,rfl,i0,hi,hz0,hz1,hz2⟩
namespace Na
set_option maxHeartbeats 2000000
theorem tl_case (l:List Nat)(n k:Nat)(hk:k<=l.length)(hT:tl l k=tl l n):(0<k/\l[k - 1]?=some 0/\tl l (k - 1)=tl l n)∨(tl l n=k/\(k=0∨(0<k/\∃ b,l[k - 1]?=some b/\(((b:Int) == 0)=false)))):=by
 rcases zqh k with h0|h0
 ·subst h0;exact .inr ⟨hT.symm,.inl rfl⟩
 ·have hlt:k - 1<l.length:=by omega
  by_cases e:l[k - 1]?=some 0
  ·refine .inl ⟨h0,e,?_⟩
   rw [<- hT,<- tl_zero l (k - 1) e,show k - 1+1=k by omega]
  ·have h2:=tl_stop l (k - 1) e
   rw [show k - 1+1=k by omega] at h2
   refine .inr ⟨hT.symm.trans h2,.inr ⟨h0,l[k - 1],zql hlt,?_⟩⟩
   rw [beq_eq_false_iff_ne];intro e2;exact e (by rw [zql hlt];congr 1;omega)
end Na
open Go.Sort
section
variable {P:Program}{md:Region.Mode}{ops:Array Oper}{C:World->Prop}
theorem z4ah {Q:Exit->Act->World->Prop}:∀ (f:Nat) (l:Array Bool) (a:Act) (w:World),wpAny P md ops Q f l a w->wpAny P md ops Q (f+1) l a w
 | 0,l,a,w,h=>⟨fun _=>h.2,fun i hi=>by rw [h.1] at hi;cases hi⟩
 | f+1,l,a,w,h=>⟨h.1,fun i hi=>wpOp_mono (fun a' w'=>z4ah f _ a' w') (h.2 i hi)⟩
theorem z0bc {Q:Exit->Act->World->Prop}(l:Array Bool)(a:Act)(w:World)(g:Nat)(h:wpAny P md ops Q g l a w):∀ f:Nat,wpAny P md ops Q (f+g) l a w
 | 0=>by rw [Nat.zero_add];exact h
 | f+1=>by rw [Nat.succ_add];exact z4ah _ _ _ _ (z0bc l a w g h f)
theorem z0at {Q:Act->Prop}(hs:Region.noSelect ops=true):∀ (l:List Oper) (k:Nat) (listed:Array Bool) (a:Act),(∀ j,j<l.length->l[j]?=ops[k+j]?)->
  Region.lexFrom md ops l.length k listed=true->wpQuiet P ops C Q l a->wpAnyQ P md ops C Q l.length listed a
 | [],_,_,_,_,hB,h=>⟨List.isEmpty_iff.1 hB,h⟩
 | o :: l,k,listed,a,hl,hB,h=>by
  have h0:ops[k]?=some o:=(hl 0 (Nat.succ_pos _)).symm
  rw [List.length_cons,Region.lexFrom,Bool.and_eq_true,Bool.and_eq_true] at hB;have hq:qOp P ops C k (wpQuiet P ops C Q l) a:=by unfold qOp;rw [h0];exact h
  obtain ⟨v,hy,hK⟩:=yieldsIn_of_qOp h0 hq
  refine wpAnyQ_first h0 (Region.noSelect_spec hs) l.length listed a (Region.free_spec h0 hB.1.2) (by simpa using hB.1.1) hy ?_
  refine z0at hs l (k+1) _ _ (fun j hj=>?_) hB.2 hK
  have:=hl (j+1) (by simp;omega)
  rw [show k+1+j=k+(j+1) by omega,<- this,List.getElem?_cons_succ]
def z9ay (ops:Array Oper):Bool:=(List.range ops.size).all fun i=>((ops[i]?).map fun o=>o.after.all fun e=>decide (e.on<i)).getD true
theorem z6i (h:z9ay ops=true){j:Nat}{o:Oper}(ho:ops[j]?=some o):∀ e∈o.after,e.on<j:=fun e he=>by
 have hj:j<ops.size:=(Array.getElem?_eq_some_iff.1 ho).1
 have h1:=List.all_eq_true.1 h j (List.mem_range.2 hj)
 rw [ho] at h1;exact of_decide_eq_true (Array.all_eq_true_iff_forall_mem.1 (show (o.after.all fun e=>decide (e.on<j))=true from h1) e he)
structure Twin (ops:Array Oper)(n:Nat)(l l':Array Bool):Prop where
 size:l'.size=ops.size
 head:∀ i,i<n->l'.getD i false=l.getD i false
 tail:∀ i,n<=i->i<ops.size->l'.getD i false=true
theorem z7o {l:Array Bool}{i:Nat}(hi:i<l.size):l.getD i true=l.getD i false:=by
 rw [Array.getD_eq_getD_getElem?,Array.getD_eq_getD_getElem?,Array.getElem?_eq_getElem hi];rfl
theorem Twin.set {n i:Nat}{l l':Array Bool}(h:Twin ops n l l')(hs:l.size=ops.size)(hi:i<n)(hn:n<=ops.size):Twin ops n (l.setIfInBounds i true) (l'.setIfInBounds i true):=by
 refine ⟨by rw [Array.size_setIfInBounds];exact h.size,fun j hj=>?_,fun j h1 h2=>?_⟩
 ·by_cases e:i=j
  ·subst e
   rw [Array.getD_eq_getD_getElem?,Array.getD_eq_getD_getElem?,Array.getElem?_setIfInBounds_self_of_lt (by rw [h.size];omega),Array.getElem?_setIfInBounds_self_of_lt (by rw [hs];omega)]
  ·have:=h.head j hj
   rw [Array.getD_eq_getD_getElem?,Array.getD_eq_getD_getElem?] at this ⊢
   rw [Array.getElem?_setIfInBounds_ne e,Array.getElem?_setIfInBounds_ne e];exact this
 ·have:=h.tail j h1 h2
  rw [Array.getD_eq_getD_getElem?] at this ⊢
  rw [Array.getElem?_setIfInBounds_ne (by omega)]
  exact this
theorem Twin.ready {n i:Nat}{l l':Array Bool}(h:Twin ops n l l')(hl:l.size=ops.size)(hb:z9ay ops=true)(hi:i<n)(hn:n<=ops.size):i∈Region.ready md ops l↔i∈Region.ready md ops l':=by
 rw [Go.mem_ready,Go.mem_ready];have e1:l'.getD i true=l.getD i true:=by rw [z7o (by rw [h.size];omega),z7o (by rw [hl];omega),h.head i hi]
 rw [e1];refine and_congr_right fun _=>⟨fun ⟨o,ho,hd⟩=>⟨o,ho,fun e he hbd=>?_⟩,fun ⟨o,ho,hd⟩=>⟨o,ho,fun e he hbd=>?_⟩⟩
 ·have:=z6i hb ho e he
  rw [h.head _ (by omega)]
  exact hd e he hbd
 ·have:=z6i hb ho e he
  rw [<- h.head _ (by omega)]
  exact hd e he hbd
theorem z9ak {n:Nat}{l l':Array Bool}(h:Twin ops n l l')(hb:z9ay ops=true)(hn:n<=ops.size)(hr:Region.ready md ops l'=[]):∀ j,j<n->l'.getD j false=true:=by
 intro j
 induction j using Nat.strongRecOn with
 | _ j ih=>
  intro hj;cases e:l'.getD j false with
  | true=>rfl
  | false=>
   exfalso
   have h1:j∈Region.ready md ops l':=by
    rw [Go.mem_ready,z7o (by rw [h.size];omega),e]
    have ho:ops[j]?=some ops[j]:=Array.getElem?_eq_getElem (by omega)
    exact ⟨rfl,_,ho,fun x hx _=>by have:=z6i hb ho x hx;exact ih _ this (by omega)⟩
   rw [hr] at h1;cases h1
theorem z0bd {n g:Nat}{Q:Act->Prop}{Q':Exit->Act->World->Prop}(hs:Region.sinkB md ops n=true)(hc:Region.chainB md ops n=true)(hn:n<ops.size)(hb:z9ay ops=true)
  (hQ:∀ listed a w,C w->Q a->HeadInv md ops n listed->(∀ i,i<n->listed.getD i false=true)->wpAny P md ops Q' g listed a w) :
  ∀ (f:Nat) (l l':Array Bool) (a:Act) (w:World),HeadInv md ops n l->Twin ops n l l'->C w->wpAnyQ P md ops C Q f l' a->wpAny P md ops Q' (f+g) l a w:=by
 have fin:∀ (l l':Array Bool) (a:Act) (w:World),HeadInv md ops n l->Twin ops n l l'->C w->Q a->Region.ready md ops l'=[]->wpAny P md ops Q' g l a w:=fun l l' a w inv ht hw hq hr=>
  hQ l a w hw hq inv fun i hi=>by rw [<- ht.head i hi];exact z9ak ht hb (by omega) hr i hi
 intro f
 induction f with
 | zero=>intro l l' a w inv ht hw h;rw [Nat.zero_add];exact fin l l' a w inv ht hw h.2 h.1
 | succ f ih=>
  intro l l' a w inv ht hw h;by_cases hr:Region.ready md ops l'=[]
  ·exact z0bc _ _ _ _ (fin l l' a w inv ht hw (h.1 hr) hr) _
  ·obtain ⟨i0,hi0⟩:=List.exists_mem_of_ne_nil _ hr
   have hi0n:i0<n:=by
    rcases zqi i0 n with h1|h1
    ·exact h1
    ·obtain ⟨h2,o,ho,_⟩:=Go.mem_ready.1 hi0
     have h3:i0<ops.size:=(Array.getElem?_eq_some_iff.1 ho).1
     rw [z7o (by rw [ht.size];exact h3),ht.tail i0 h1 h3] at h2
     cases h2
   have hi0l:=(ht.ready inv.size hb hi0n (by omega)).2 hi0
   have hwait:=tail_waits hs hc hn inv _ i0 rfl hi0n (Go.mem_ready.1 hi0l).1
   rw [Nat.succ_add];refine ⟨fun e=>(by rw [e] at hi0l;cases hi0l),fun i hi=>?_⟩
   have hin:i<n:=by
    rcases zqi i n with h1|h1
    ·exact h1
    ·exact absurd hi (hwait i h1)
   exact wpOp_of_qOp hw (fun a' w' hw' h'=>ih _ _ a' w' (inv.set hi hin) (ht.set inv.size hin (by omega)) hw' h') (h.2 i ((ht.ready inv.size hb hin (by omega)).1 hi))
def z3t (n m:Nat):Array Bool:=(List.replicate n true++List.replicate m false).toArray
def z3l (n m:Nat):Array Bool:=(List.replicate n false++List.replicate m true).toArray
theorem z2ae {n:Nat}{l:Array Bool}(inv:HeadInv md ops n l)(hn:n<=ops.size)(h:∀ i,i<n->l.getD i false=true):l=z3t n (ops.size - n):=by
 have hs:=inv.size;apply Array.ext
 ·unfold z3t;simp;omega
 ·intro i h1 h2;have e1:l[i]=l.getD i false:=by rw [Array.getD_eq_getD_getElem?,Array.getElem?_eq_getElem h1];rfl
  rw [e1];have e2:(z3t n (ops.size - n))[i]=(z3t n (ops.size - n)).getD i false:=by rw [Array.getD_eq_getD_getElem?,Array.getElem?_eq_getElem h2];rfl
  have e3:(z3t n (ops.size - n)).getD i false=decide (i<n):=by
   rw [Array.getD_eq_getD_getElem?];unfold z3t;rw [List.getElem?_toArray];rcases zqi i n with h3|h3
   ·rw [zqn (by simpa using h3),List.getElem?_replicate,if_pos h3,zt h3]
    rfl
   ·rw [zqo (by simpa using h3),List.getElem?_replicate,List.length_replicate,if_pos (by have:=inv.size;omega),zn (by omega)]
    rfl
  rw [e2,e3];rcases zqi i n with h3|h3
  ·rw [h i h3,zt h3]
  ·have h4:=inv.tail i h3 (by omega)
   rw [z7o h1] at h4;rw [h4,zn (by omega)]
def z4bx (ops:Array Oper)(n:Nat):Bool:=
 Region.noSelect ops && (decide (n<ops.size) && (z9ay ops && (Region.sinkB .any ops n && (Region.chainB .any ops n && (Region.seqB .any ops (ops.size - n) n (z3t n (ops.size - n)) && Region.lexFrom .any ops n 0 (z3l n (ops.size - n)))))))
theorem z1ag {id:Nat}{Q:Exit->Act->World->Prop}{a:Act}{w:World}{l:List Oper}(n:Nat)(hm:P.follows .mixedOrders=true)(hB:z4bx l.toArray n=true)(hC:C { w with drawn:=w.drawn+1 })
  (h:wpQuiet P l.toArray C (fun a'=>∀ w',C w'->wpList P l.toArray Q (l.drop n) a' w') (l.take n) a):(Code.region id l.toArray true).wp P Q a w:=by
 simp only [z4bx,Bool.and_eq_true,decide_eq_true_eq] at hB;obtain ⟨hsel,hn,hbk,hs,hc,hseq,hlex⟩:=hB;have hn':n<l.length:=by simpa using hn
 have htl:(l.take n).length=n:=by simp;omega
 have hdl:(l.drop n).length=l.toArray.size - n:=by simp
 have hz:l.toArray.size=l.length:=by simp
 have inv0:HeadInv .any l.toArray n (Array.replicate l.toArray.size false):=
  ⟨by simp,fun j oj _ hl=>(by rw [getD_replicate_false] at hl;cases hl),fun t _ ht=>getD_in (by simpa using ht) (getD_replicate_false _ _)⟩
 have tw0:Twin l.toArray n (Array.replicate l.toArray.size false) (z3l n (l.toArray.size - n)):=by
  refine ⟨by unfold z3l;simp;omega,fun i hi=>?_,fun i h1 h2=>?_⟩
  ·rw [getD_replicate_false,Array.getD_eq_getD_getElem?];unfold z3l;rw [List.getElem?_toArray,zqn (by simpa using hi),List.getElem?_replicate,if_pos hi]
   rfl
  ·rw [Array.getD_eq_getD_getElem?];unfold z3l;rw [List.getElem?_toArray,zqo (by simpa using h1),List.getElem?_replicate,List.length_replicate,if_pos (by omega)]
   rfl
 refine wp_region_any hm ?_
 have hA:=z0at (C:=C) (md:=.any) hsel (l.take n) 0 (z3l n (l.toArray.size - n)) a (fun j hj=>by
  rw [htl] at hj;rw [Nat.zero_add,List.getElem?_toArray,List.getElem?_take,if_pos hj]) (by rw [htl];exact hlex) h
 have hfin:=z0bd (P:=P) (C:=C) (g:=l.toArray.size - n) (Q':=Q) hs hc hn hbk (fun listed a' w' hw' hq inv hd=>by
  have e:=z2ae inv (by omega) hd
  subst e
  have:=wpAny_of_seq (P:=P) (md:=.any) (Q':=Q) (l.drop n) n (z3t n (l.toArray.size - n)) a' w' (fun j=>by simp [List.getElem?_drop]) (by rw [hdl];exact hseq) (hq w' hw')
  rwa [hdl] at this) _ _ _ a _ inv0 tw0 hC hA
 rw [htl,show n+(l.toArray.size - n)=l.toArray.size by omega] at hfin
 exact hfin
theorem z2s {id:Nat}{Q:Exit->Act->World->Prop}{a:Act}{w:World}{l:List Oper}(n:Nat)(hm:P.follows .mixedOrders=true)(hB:z4bx l.toArray n=true)
  (h:wpQuiet P l.toArray (fun w'=>∃ p:Regrown,w'=grow (redrawn w p.d) p.os) (fun a'=>∀ w',(∃ p:Regrown,w'=grow (redrawn w p.d) p.os)->wpList P l.toArray Q (l.drop n) a' w') (l.take n) a):(Code.region id l.toArray true).wp P Q a w:=
 z1ag n hm hB ⟨⟨w.drawn+1,#[]⟩,by rw [grow_empty];rfl⟩ h
end
section
variable {P:Program}{w0 w w':World}{g:Option Nat}{M:List (Nat×Value)}{L:List Ob}{O:List Rw}{t e:TypeId}{z:Value}{bytes:Nat}
theorem Ow.drew (h:Ow w0 w g M L O):Ow w0 w.drew g M L O:=h.go (Below.refl _ _).drew
theorem Ow.few (h:Ow w0 w g M L O)(k:Nat):Ow w0 w g M L (O.take k):=by
 have key:∀ (i:Nat) (r:Rw),(O.take k)[i]?=some r->O[i]?=some r:=fun i r hi=>by
  rw [List.getElem?_take] at hi;split at hi
  ·exact hi
  ·cases hi
 exact ⟨h.st,fun i r hi=>h.own i r (key i r hi),fun i r hi=>h.ap i r (key i r hi),fun i j r s hi hj=>h.two i j r s (key i r hi) (key j s hj)⟩
theorem Ow.lit1 (h:Ow w0 w g M L O)(v:Value)(e:TypeId):Ow w0 (w.alloc (.cells #[v] e)) g M L (O++[⟨some ⟨w.heap.size,0,none⟩,1,1,e,[v]⟩]):=
 h.add (World.ownsRow_lit (base:=w.heap.size) (e:=e) (size:=1) w #[v] 1 (zqj _) (by unfold maxLen;omega) rfl) (z0i _ _)
theorem z8g {o:Oper}{a:Act}{K:Act->World->Prop}{Q:Exit->Act->World->Prop}(hE:Elem P t e z bytes)(h:Ow w0 w g M L O)(i:Nat)(s x:Operand){A:Option Addr}{n c:Nat}{xs:List Value}(hi:O[i]?=some ⟨A,n,c,e,xs⟩)
  {B:Nat} {A2:Option Addr} {m c2:Nat} {news:List Value} (hm:news.length=m) (hr:Sl w B A2 news) (h1:∀ u∈news,u.oneCell'=true) (h63:n+m<=maxLen) (hbytes:(n+m)*bytes<=140737488355328)
  (ho:o.op=.call { callee:=.builtin .append,args:=#[s,x],argTypes:=#[t,t] }) (hs:a.eval s=.slice A n c) (hx:a.eval x=.slice A2 m c2)
  (hk:∀ A' c' w',Ow w0 w' g M L (O.set i ⟨A',n+m,c',e,xs++news⟩)->K (a.put o.dst (.slice A' (n+m) c')) w'):o.wp P a w K Q:=by
 obtain ⟨ht,hzc,inf,hi0,hz,hsz,hby⟩:=hE;exact z4k w s x t ho w0.heap.size e inf z bytes ht hi0 hz hsz hby (by rw [hzc];rfl) A n c xs hs (h.own i _ hi) B A2 m c2 news hx hm hr h1 h63 hbytes h.size fun A' c' w' h2 h3 h4=>
  hk A' c' w' (h.turn i hi (r':=⟨A',n+m,c',e,xs++news⟩) h3 h2 h4)
theorem Ow.less (h:Ow w0 w g M L O){L':List Ob}(hL:∀ o∈L',o∈L):Ow w0 w g M L' O:=
 ⟨h.st.sub (fun _ h=>h) h.st.one hL,h.own,fun i r hi b hb=>⟨(h.ap i r hi b hb).1,(h.ap i r hi b hb).2.1,fun o ho=>(h.ap i r hi b hb).2.2 o (hL o ho)⟩,h.two⟩
theorem Ow.few2 (h:Ow w0 w g M L O){M':List (Nat×Value)}{L':List Ob}(hM:M'=M.take M'.length)(hL:∀ o∈L',o∈L):Ow w0 w g M' L' O:=by
 have key:∀ (i:Nat) (p:Nat×Value),M'[i]?=some p->M[i]?=some p:=fun i p hp=>by
  rw [hM,List.getElem?_take] at hp;split at hp
  ·exact hp
  ·cases hp
 exact ⟨h.st.sub (fun p hp=>by
   obtain ⟨i,hi⟩:=List.mem_iff_getElem?.1 hp
   exact List.mem_of_getElem? (key i p hi)) (fun i j b u v hi hj=>h.st.one i j b u v (key i _ hi) (key j _ hj)) hL,h.own,fun i r hi b hb=>⟨(h.ap i r hi b hb).1,fun j k v hj=>(h.ap i r hi b hb).2.1 j k v (key j _ hj),fun o ho=>(h.ap i r hi b hb).2.2 o (hL o ho)⟩,h.two⟩
theorem Ow.tail {r:Rw}(h:Ow w0 w g M L (r :: O)):Ow w0 w g M L O:=
 ⟨h.st,fun i r hi=>h.own (i+1) r hi,fun i r hi=>h.ap (i+1) r hi,fun i j r s hi hj hij=>h.two (i+1) (j+1) r s hi hj (by omega)⟩
theorem Ow.fewM {l:List (Nat×Value)}(h:Ow w0 w g (M++l) L O):Ow w0 w g M L O:=h.few2 (by rw [List.take_left]) (fun _ h=>h)
theorem Ow.fewO {l:List Rw}(h:Ow w0 w g M L (O++l)):Ow w0 w g M L O:=by
 have:=h.few O.length
 rwa [List.take_left] at this
theorem z0b {α:Type}(M l:List α)(j:Nat):(M++l)[M.length+j]?=l[j]?:=by rw [zqo (by omega)];congr 1;omega
theorem zw {P:Program}{ops:Array Oper}{Q:Exit->Act->World->Prop}{i:Nat}{o:Oper}{K:Act->World->Prop}{a:Act}{w:World}(ho:ops[i]?=some o)(h:∀ K':Act->World->Prop,(∀ a w,K a w->K' a w)->if Region.wanted o (yielded ops a.tmps)=true then Oper.wp P o a w K' Q else K' (a.put o.dst undef) w):wpOp P ops Q i K a w:=wpOp_step ho h
theorem zk {α:Type}{M l:List α}{j:Nat}{x:α}(h:l[j]?=some x):(M++l)[M.length+j]?=some x:=(z0b M l j).trans h
section
variable {w:World}{B b n c s:Nat}{e:TypeId}{v0 v1 v2 v3 v4 v5 v6 v7 v8 v9 v10:Value}
theorem zc6 (h:w.ownsRow B e s (.slice (some ⟨b,0,none⟩) n c) n [v0,v1,v2,v3,v4,v5]):w.cell? ⟨b,0,none⟩=some v0/\w.cell? ⟨b,1,none⟩=some v1/\w.cell? ⟨b,2,none⟩=some v2/\w.cell? ⟨b,3,none⟩=some v3/\w.cell? ⟨b,4,none⟩=some v4/\w.cell? ⟨b,5,none⟩=some v5:=by
  have k0:n*s=6:=h.1.symm
  exact ⟨h.cellAt 0 (by omega),h.cellAt 1 (by omega),h.cellAt 2 (by omega),h.cellAt 3 (by omega),h.cellAt 4 (by omega),h.cellAt 5 (by omega)⟩
theorem zc8 (h:w.ownsRow B e s (.slice (some ⟨b,0,none⟩) n c) n [v0,v1,v2,v3,v4,v5,v6,v7]):w.cell? ⟨b,0,none⟩=some v0/\w.cell? ⟨b,1,none⟩=some v1/\w.cell? ⟨b,2,none⟩=some v2/\w.cell? ⟨b,3,none⟩=some v3/\w.cell? ⟨b,4,none⟩=some v4/\w.cell? ⟨b,5,none⟩=some v5/\w.cell? ⟨b,6,none⟩=some v6/\w.cell? ⟨b,7,none⟩=some v7:=by
  have k0:n*s=8:=h.1.symm
  exact ⟨h.cellAt 0 (by omega),h.cellAt 1 (by omega),h.cellAt 2 (by omega),h.cellAt 3 (by omega),h.cellAt 4 (by omega),h.cellAt 5 (by omega),h.cellAt 6 (by omega),h.cellAt 7 (by omega)⟩
theorem zc11 (h:w.ownsRow B e s (.slice (some ⟨b,0,none⟩) n c) n [v0,v1,v2,v3,v4,v5,v6,v7,v8,v9,v10]):w.cell? ⟨b,0,none⟩=some v0/\w.cell? ⟨b,1,none⟩=some v1/\w.cell? ⟨b,2,none⟩=some v2/\w.cell? ⟨b,3,none⟩=some v3/\w.cell? ⟨b,4,none⟩=some v4/\w.cell? ⟨b,5,none⟩=some v5/\w.cell? ⟨b,6,none⟩=some v6/\w.cell? ⟨b,7,none⟩=some v7/\w.cell? ⟨b,8,none⟩=some v8/\w.cell? ⟨b,9,none⟩=some v9/\w.cell? ⟨b,10,none⟩=some v10:=by
  have k0:n*s=11:=h.1.symm
  exact ⟨h.cellAt 0 (by omega),h.cellAt 1 (by omega),h.cellAt 2 (by omega),h.cellAt 3 (by omega),h.cellAt 4 (by omega),h.cellAt 5 (by omega),h.cellAt 6 (by omega),h.cellAt 7 (by omega),h.cellAt 8 (by omega),h.cellAt 9 (by omega),h.cellAt 10 (by omega)⟩
theorem zf6 (h:w.ownsRow B e s (.slice (some ⟨b,0,none⟩) n c) n [v0,v1,v2,v3,v4,v5]):w.frozen? ⟨b,0,none⟩=false/\w.frozen? ⟨b,1,none⟩=false/\w.frozen? ⟨b,2,none⟩=false/\w.frozen? ⟨b,3,none⟩=false/\w.frozen? ⟨b,4,none⟩=false/\w.frozen? ⟨b,5,none⟩=false:=
  ⟨h.frozenAt 0,h.frozenAt 1,h.frozenAt 2,h.frozenAt 3,h.frozenAt 4,h.frozenAt 5⟩
theorem zf8 (h:w.ownsRow B e s (.slice (some ⟨b,0,none⟩) n c) n [v0,v1,v2,v3,v4,v5,v6,v7]):w.frozen? ⟨b,0,none⟩=false/\w.frozen? ⟨b,1,none⟩=false/\w.frozen? ⟨b,2,none⟩=false/\w.frozen? ⟨b,3,none⟩=false/\w.frozen? ⟨b,4,none⟩=false/\w.frozen? ⟨b,5,none⟩=false/\w.frozen? ⟨b,6,none⟩=false/\w.frozen? ⟨b,7,none⟩=false:=
  ⟨h.frozenAt 0,h.frozenAt 1,h.frozenAt 2,h.frozenAt 3,h.frozenAt 4,h.frozenAt 5,h.frozenAt 6,h.frozenAt 7⟩
theorem zf11 (h:w.ownsRow B e s (.slice (some ⟨b,0,none⟩) n c) n [v0,v1,v2,v3,v4,v5,v6,v7,v8,v9,v10]):w.frozen? ⟨b,0,none⟩=false/\w.frozen? ⟨b,1,none⟩=false/\w.frozen? ⟨b,2,none⟩=false/\w.frozen? ⟨b,3,none⟩=false/\w.frozen? ⟨b,4,none⟩=false/\w.frozen? ⟨b,5,none⟩=false/\w.frozen? ⟨b,6,none⟩=false/\w.frozen? ⟨b,7,none⟩=false/\w.frozen? ⟨b,8,none⟩=false/\w.frozen? ⟨b,9,none⟩=false/\w.frozen? ⟨b,10,none⟩=false:=
  ⟨h.frozenAt 0,h.frozenAt 1,h.frozenAt 2,h.frozenAt 3,h.frozenAt 4,h.frozenAt 5,h.frozenAt 6,h.frozenAt 7,h.frozenAt 8,h.frozenAt 9,h.frozenAt 10⟩
end
theorem Ow.got {w0 w:World}{g:Option Nat}{M:List (Nat×Value)}{L Ls:List Ob}{O:List Rw}{t:Nat}{o:Ob}(h:Ow w0 w g M (L++Ls) O)(r:Ls[t]?=some o):(L++Ls)[L.length+t]?=some o:=(z0b _ _ _).trans r
theorem z0o {α:Type}(M l:List α)(j:Nat)(x:α):(M++l).set (M.length+j) x=M++l.set j x:=by rw [List.set_append_right _ _ (by omega)];congr 2;omega
theorem z1ba {α:Type}(M l:List α){k:Nat}(hk:k<M.length)(x:α):(M++l).set k x=M.set k x++l:=List.set_append_left _ _ hk
theorem z0r {α:Type}(M l:List α){k:Nat}(hk:k<M.length):(M++l)[k]?=M[k]?:=zqn hk
theorem Ow.arr (h:Ow w0 w g M L O)(xs:Array Value)(k:Nat)(hx:xs.size=k)(hk:k<=1000)(T:TypeId):Ow w0 (w.alloc (.cells xs T)) g M L (O++[⟨some ⟨w.heap.size,0,none⟩,k,k,T,xs.toList⟩]):=
 h.add (World.ownsRow_lit (base:=w.heap.size) (e:=T) (size:=1) w xs k (zqj _) (by unfold maxLen;omega) (by omega)) (z0i _ _)
theorem Ow.rowHeap (h:Ow w0 w g M L O)(i:Nat){b k:Nat}{T:TypeId}{xs:List Value}(hi:O[i]?=some ⟨some ⟨b,0,none⟩,k,k,T,xs⟩):w.heap[b]?=some (.cells xs.toArray T (0,0))/\xs.length=k:=by
 obtain ⟨hl,⟨h1,_⟩|⟨g',cap,cur,e,_,hg,_,_,hs,ht⟩⟩:=h.own i _ hi
 ·cases h1
 ·have e1:(⟨b,0,none⟩:Addr)=⟨g',0,none⟩/\k=cap:=by
   injection e with e1 e2 e3
   exact ⟨zqk e1,e3⟩
  obtain ⟨e2,e3⟩:=e1;injection e2 with e4
  rw [zqp (by rw [Array.length_toList,hs,<- e3];exact zqj _)] at ht
  have hl':xs.length=k*1:=hl
  refine ⟨?_,by omega⟩
  rw [e4,hg]
  show some (Obj.cells cur T (0,0))=some (Obj.cells xs.toArray T (0,0))
  have ht':cur.toList=xs:=ht
  rw [<- ht']
theorem Ow.putRow (h:Ow w0 w g M L O)(i:Nat){b k:Nat}{T:TypeId}{xs:List Value}(hi:O[i]?=some ⟨some ⟨b,0,none⟩,k,k,T,xs⟩)(ys:Array Value)(hy:ys.size=k)(hk:k<=1000):Ow w0 (w.setRow b ys) g M L (O.set i ⟨some ⟨b,0,none⟩,k,k,T,ys.toList⟩):=by
 obtain ⟨h1,h2⟩:=h.rowHeap i hi
 refine h.turn i hi (r':=⟨some ⟨b,0,none⟩,k,k,T,ys.toList⟩) ⟨rfl,rfl,rfl,by simp [World.setRow],fun q hq hne=>setRow_other _ _ _ _ (fun e=>hne (by rw [e];rfl))⟩ ⟨by show ys.toList.length=k*1;simp [hy],.inr ⟨b,k,ys,rfl,(h.lt hi rfl).2,setRow_heap w b xs.toArray ys T (0,0) h1,zqj _,by unfold maxLen;omega,by omega,?_⟩⟩ (.inl rfl)
 exact zqp (by simp [hy])
theorem Ow.re (h:Ow w0 w g M L O){O':List Rw}(f:Nat->Nat)(hf:∀ i j,i<O'.length->j<O'.length->f i=f j->i=j)(hO:∀ (i:Nat) (r:Rw),O'[i]?=some r->O[f i]?=some r):Ow w0 w g M L O':=
 ⟨h.st,fun i r hi=>h.own (f i) r (hO i r hi),fun i r hi=>h.ap (f i) r (hO i r hi),fun i j r s hi hj hij=>h.two (f i) (f j) r s (hO i r hi) (hO j s hj) fun e=>hij (hf i j (z0d hi) (z0d hj) e)⟩
end
structure Rx where
 A:Option Addr
 n:Nat
 c:Nat
 e:TypeId
 s:Nat
 vs:List Value
def Rx.blk (r:Rx):Option Nat:=(Value.slice r.A r.n r.c).ownBlock
structure Ox (w0 w:World)(g:Option Nat)(M:List (Nat×Value))(L:List Ob)(O:List Rw)(X:List Rx):Prop where
 ow:Ow w0 w g M L O
 own:∀ (i:Nat) (r:Rx),X[i]?=some r->w.ownsRow w0.heap.size r.e r.s (.slice r.A r.n r.c) r.n r.vs
 ap:∀ (i:Nat) (r:Rx),X[i]?=some r->∀ b,r.blk=some b->g≠some b/\(∀ (j k:Nat) (v:Value),M[j]?=some (k,v)->b≠k)/\(∀ o∈L,∀ ad,o.A=some ad->0<o.n->b≠ad.block)/\∀ (j:Nat) (q:Rw),O[j]?=some q->q.blk≠some b
 two:∀ (i j:Nat) (r s:Rx),X[i]?=some r->X[j]?=some s->i≠j->∀ b,r.blk=some b->s.blk≠some b
section
variable {w0 w w':World}{g:Option Nat}{M:List (Nat×Value)}{L:List Ob}{O:List Rw}{X:List Rx}
theorem Ow.off {row:Option Nat}(h:Ow w0 w g M L O)(hg:w.grownBy w' row)(hr:∀ b,row=some b->w0.heap.size<=b/\g≠some b/\(∀ (j k:Nat) (v:Value),M[j]?=some (k,v)->b≠k)/\(∀ o∈L,∀ ad,o.A=some ad->0<o.n->b≠ad.block)/\∀ (j:Nat) (q:Rw),O[j]?=some q->q.blk≠some b):Ow w0 w' g M L O:=by
 have hbel:Below w0.heap.size w0 w':=h.below.trans ((Below.refl _ _).grown hg h.size (fun b e=>(hr b e).1))
 have cellk:∀ b,b<w.heap.size->row≠some b->w'.heap[b]?=w.heap[b]?:=fun b h1 h2=>hg.block b h1 (fun e=>h2 e.symm)
 refine ⟨⟨hbel,fun x e=>⟨zqv (h.st.lt x e).1 hg.size,(h.st.lt x e).2⟩,fun j b v hj=>?_,h.st.one,fun o ho'=>?_⟩,fun j x hj=>?_,h.ap,h.two⟩
 ·obtain ⟨h1,h2,h3,h4,h5⟩:=h.st.box j b v hj
  have e1:=cellk b h1 (fun e=>(hr b e).2.2.1 j b v hj rfl)
  exact ⟨zqv h1 hg.size,h2,(World.cell?_of_block (a:=⟨b,0,none⟩) e1).trans h3,(World.frozen?_of_block (a:=⟨b,0,none⟩) e1).trans h4,h5⟩
 ·obtain ⟨h1,h2,h3,B,hB,hs,hne⟩:=h.st.held o ho'
  refine ⟨h1,h2,h3,B,zqq hB hg.size,fun hn=>?_,hne⟩
  obtain ⟨ad,hA,hbk,hcell⟩:=hs hn
  refine ⟨ad,hA,hbk,fun k u hu=>?_⟩
  rw [World.cell?_of_block (cellk _ (by rw [z1d];omega) (by rw [z1d];intro e;exact (hr _ e).2.2.2.1 o ho' ad hA (by omega) rfl))]
  exact hcell k u hu
 ·refine z2d (h.own j x hj) hg ?_
  by_cases e:(Value.slice x.A x.n x.c).ownBlock=none
  ·exact .inl e
  ·refine .inr fun e2=>?_
   obtain ⟨b,hb'⟩:=Option.ne_none_iff_exists'.1 e
   exact (hr b (e2.symm.trans hb')).2.2.2.2 j x hj hb'
theorem Ox.of (h:Ow w0 w g M L O):Ox w0 w g M L O []:=⟨h,fun i r e=>by simp at e,fun i r e=>by simp at e,fun i j r s e=>by simp at e⟩
theorem Ox.size (h:Ox w0 w g M L O X):w0.heap.size<=w.heap.size:=h.ow.size
theorem Ox.row (h:Ox w0 w g M L O X)(i:Nat){A:Option Addr}{n c s:Nat}{e:TypeId}{vs:List Value}(hi:X[i]?=some ⟨A,n,c,e,s,vs⟩):w.ownsRow w0.heap.size e s (.slice A n c) n vs:=h.own i _ hi
theorem Ox.lt (h:Ox w0 w g M L O X){i:Nat}{r:Rx}(hi:X[i]?=some r){b:Nat}(hb:r.blk=some b):b<w.heap.size/\w0.heap.size<=b:=by
 have:=(h.own i r hi).lt b hb
 exact ⟨this.2,this.1⟩
theorem Ox.go (h:Ox w0 w g M L O X)(hb:Below w.heap.size w w'):Ox w0 w' g M L O X:=
 ⟨h.ow.go hb,fun i r hi=>(h.own i r hi).kept (row:=none) ⟨hb.os,hb.tape,hb.output,hb.size,fun k hk _=>hb.block k hk⟩ (by
  by_cases he:(Value.slice r.A r.n r.c).ownBlock=none
  ·exact .inl he
  ·exact .inr he),h.ap,h.two⟩
theorem Ox.keepRow (h:Ox w0 w g M L O X){row:Option Nat}(hg:w.grownBy w' row){i:Nat}{r:Rx}(hi:X[i]?=some r)(hne:∀ b,r.blk=some b->row≠some b):w'.ownsRow w0.heap.size r.e r.s (.slice r.A r.n r.c) r.n r.vs:=by
 refine (h.own i r hi).kept hg ?_
 by_cases e:(Value.slice r.A r.n r.c).ownBlock=none
 ·exact .inl e
 ·refine .inr fun e2=>?_
  obtain ⟨b,hb'⟩:=Option.ne_none_iff_exists'.1 e
  exact hne b hb' (e2.symm.trans hb')
theorem Ox.roll {x:Nat}(h:Ox w0 w (some x) M L O X)(hw:Ow w0 w' (some x) M L O)(hg:w.grownBy w' (some x)):Ox w0 w' (some x) M L O X:=
 ⟨hw,fun i r hi=>h.keepRow hg hi fun b hb e=>(h.ap i r hi b hb).1 e,h.ap,h.two⟩
theorem Ox.boxed (h:Ox w0 w g M L O X)(v:Value)(t:TypeId):Ox w0 (w.alloc (.cells #[v] t)) g (M++[(w.heap.size,v)]) L O X:=by
 have h':=h.go ((Below.refl w.heap.size w).alloc (zqj _) (.cells #[v] t))
 refine ⟨h.ow.boxed v t,h'.own,fun i r hi b hb'=>?_,h.two⟩
 obtain ⟨a1,a2,a3,a4⟩:=h.ap i r hi b hb'
 refine ⟨a1,fun j k u hj e=>?_,a3,a4⟩
 rcases zqi j M.length with h1|h1
 ·rw [zqn h1] at hj;exact a2 j k u hj e
 ·rw [zqo h1] at hj;have h2:j - M.length=0:=by have:=z0d hj;simp at this;omega
  rw [h2] at hj;simp at hj
  have:=(h.lt hi hb').1
  omega
theorem Ox.setv (h:Ox w0 w g M L O X)(i:Nat){b:Nat}{v:Value}(hi:M[i]?=some (b,v))(u:Value):Ox w0 (w.setCell ⟨b,0,none⟩ u) g (M.set i (b,u)) L O X:=by
 have hg:=z0f w ⟨b,0,none⟩ u
 have key:∀ (j c:Nat) (x:Value),(M.set i (b,u))[j]?=some (c,x)->∃ y,M[j]?=some (c,y):=fun j c x hj=>by
  by_cases e:j=i
  ·subst e
   rw [List.getElem?_set_self (z0d hi)] at hj
   simp at hj
   exact ⟨v,by rw [hi,hj.1]⟩
  ·rw [zqf (fun e'=>e e'.symm)] at hj
   exact ⟨x,hj⟩
 refine ⟨h.ow.setv i hi u,fun j r hj=>h.keepRow hg hj fun b' hb e=>?_,fun j r hj x hb'=>?_,h.two⟩
 ·have:=(h.ap j r hj b' hb).2.1 i b v hi
  exact this (zqk e).symm
 ·obtain ⟨a1,a2,a3,a4⟩:=h.ap j r hj x hb'
  refine ⟨a1,fun k c y hk=>?_,a3,a4⟩
  obtain ⟨y',hy⟩:=key k c y hk
  exact a2 k c y' hy
theorem Ox.addX (h:Ox w0 w g M L O X){A:Option Addr}{n c s:Nat}{e:TypeId}{vs:List Value}(ho:w'.ownsRow w.heap.size e s (.slice A n c) n vs)(hb:Below w.heap.size w w'):Ox w0 w' g M L O (X++[⟨A,n,c,e,s,vs⟩]):=by
 have h':=h.go hb
 have key:∀ (i:Nat) (r:Rx),(X++[⟨A,n,c,e,s,vs⟩])[i]?=some r->X[i]?=some r∨(X.length=i/\r=⟨A,n,c,e,s,vs⟩):=fun i r hi=>by
  rcases zqi i X.length with h1|h1
  ·rw [zqn h1] at hi;exact .inl hi
  ·rw [zqo h1] at hi;have h2:i - X.length=0:=by have:=z0d hi;simp at this;omega
   rw [h2] at hi;simp at hi
   exact .inr ⟨by omega,hi.symm⟩
 have new:∀ b,(⟨A,n,c,e,s,vs⟩:Rx).blk=some b->w.heap.size<=b:=fun b hb'=>(ho.lt b hb').1
 have more:w'.ownsRow w0.heap.size e s (.slice A n c) n vs:=by
  refine ⟨ho.1,?_⟩
  rcases ho.2 with h' | ⟨g',cap',cur,h',hb',r⟩
  ·exact .inl h'
  ·exact .inr ⟨g',cap',cur,h',zqq h.size hb',r⟩
 refine ⟨h'.ow,fun i r hi=>?_,fun i r hi b hb'=>?_,fun i j r t hi hj hij b hb' e2=>?_⟩
 ·rcases key i r hi with h1|⟨_,rfl⟩
  ·exact h'.own i r h1
  ·exact more
 ·rcases key i r hi with h1|⟨_,rfl⟩
  ·exact h'.ap i r h1 b hb'
  ·have h3:=new b hb'
   refine ⟨fun e=>by have:=(h.ow.st.lt b e).1;omega,fun j k v hj e=>by have:=(h.ow.st.box j k v hj).1;omega,fun o ho' ad ha h0 e=>?_,fun j q hq e2=>by have:=(h.ow.lt hq e2).1;omega⟩
   obtain ⟨h4,_,_,B,hB,hs,_⟩:=h.ow.st.held o ho'
   obtain ⟨ad',ha',hlt,_⟩:=hs (by omega)
   rw [ha] at ha';obtain rfl:=zqk ha'
   omega
 ·rcases key i r hi with h1|⟨h1,rfl⟩ <;> rcases key j t hj with h2|⟨h2,rfl⟩
  ·exact h.two i j r t h1 h2 hij b hb' e2
  ·have:=(h.lt h1 hb').1;have:=new b e2;omega
  ·have:=(h.lt h2 e2).1;have:=new b hb';omega
  ·omega
theorem Ox.turnX (h:Ox w0 w g M L O X)(i:Nat){r r':Rx}(hi:X[i]?=some r)(hg:w.grownBy w' r.blk)(ho:w'.ownsRow w0.heap.size r'.e r'.s (.slice r'.A r'.n r'.c) r'.n r'.vs)(hb:r'.blk=r.blk∨r'.blk=some w.heap.size):Ox w0 w' g M L O (X.set i r'):=by
 have key:∀ (j:Nat) (x:Rx),(X.set i r')[j]?=some x->(j=i/\x=r')∨(j≠i/\X[j]?=some x):=fun j x hj=>by
  by_cases e:j=i
  ·subst e
   rw [List.getElem?_set_self (z0d hi)] at hj
   simp at hj
   exact .inl ⟨rfl,hj.symm⟩
  ·rw [zqf (fun e'=>e e'.symm)] at hj
   exact .inr ⟨e,hj⟩
 have how:Ow w0 w' g M L O:=h.ow.off hg fun b e=>⟨(h.lt hi e).2,h.ap i r hi b e⟩
 refine ⟨how,fun j x hj=>?_,fun j x hj b hb'=>?_,fun j k x y hj hk hjk b hb' e2=>?_⟩
 ·rcases key j x hj with ⟨_,rfl⟩|⟨hne,hj'⟩
  ·exact ho
  ·exact h.keepRow hg hj' fun b hb' e=>h.two j i x r hj' hi hne b hb' e
 ·have old:∀ b,r'.blk=some b->r.blk=some b∨b=w.heap.size:=fun b e=>by
   rcases hb with e1|e1
   ·exact .inl (by rw [<- e1];exact e)
   ·rw [e] at e1;exact .inr (zqk e1)
  rcases key j x hj with ⟨_,rfl⟩|⟨hne,hj'⟩
  ·rcases old b hb' with e1|rfl
   ·exact h.ap i r hi b e1
   ·refine ⟨fun e=>by have:=(h.ow.st.lt _ e).1;omega,fun j k v hj e=>by have:=(h.ow.st.box j k v hj).1;omega,fun o ho' ad ha h0 e=>?_,fun j q hq e3=>by have:=(h.ow.lt hq e3).1;omega⟩
    obtain ⟨h4,_,_,B,hB,hs,_⟩:=h.ow.st.held o ho'
    obtain ⟨ad',ha',hlt,_⟩:=hs (by omega)
    rw [ha] at ha';obtain rfl:=zqk ha'
    omega
  ·exact h.ap j x hj' b hb'
 ·have old:∀ b,r'.blk=some b->r.blk=some b∨b=w.heap.size:=fun b e=>by
   rcases hb with e1|e1
   ·exact .inl (by rw [<- e1];exact e)
   ·rw [e] at e1;exact .inr (zqk e1)
  rcases key j x hj with ⟨a1,rfl⟩|⟨hne,hj'⟩ <;> rcases key k y hk with ⟨a2,rfl⟩|⟨hne2,hk'⟩
  ·omega
  ·rcases old b hb' with e1|rfl
   ·exact h.two i k r y hi hk' (fun e=>hne2 e.symm) b e1 e2
   ·have:=(h.lt hk' e2).1;omega
  ·rcases old b e2 with e1|rfl
   ·exact h.two j i x r hj' hi hne b hb' e1
   ·have:=(h.lt hj' hb').1;omega
  ·exact h.two j k x y hj' hk' hjk b hb' e2
theorem Ox.nilX (h:Ox w0 w g M L O X)(e:TypeId)(s:Nat):Ox w0 w g M L O (X++[⟨none,0,0,e,s,[]⟩]):=h.addX (World.ownsRow_nil _ _ _ _) (Below.refl _ _)
theorem Ox.drewN (h:Ox w0 w g M L O X)(k:Nat):Ox w0 (w.drewN k) g M L O X:=h.go (z0w (Below.refl _ _) k)
theorem Ox.push (h:Ox w0 w g M L O X){A:Option Addr}{n c:Nat}{vs:List Value}{e:TypeId}(ho:w'.ownsRow w.heap.size e 1 (.slice A n c) n vs)(hl:n<=1000)(hb:Below w.heap.size w w'):Ox w0 w' g M (L++[⟨A,n,c,vs⟩]) O X:=by
 have h':=h.go hb
 refine ⟨h.ow.push ho hl hb,h'.own,fun i r hi b hb'=>?_,h.two⟩
 obtain ⟨a1,a2,a3,a4⟩:=h.ap i r hi b hb'
 refine ⟨a1,a2,fun o ho' ad ea h0=>?_,a4⟩
 rcases List.mem_append.1 ho' with h1|h1
 ·exact a3 o h1 ad ea h0
 ·rw [List.mem_singleton] at h1;subst h1
  obtain ⟨g',hg',k1,_⟩:=z0n ho h0
  rw [show A=some ad from ea] at hg'
  obtain rfl:=zqk hg'
  have:=(h.lt hi hb').1
  intro e5;simp only at e5
  omega
theorem Ox.old (h:Ox w0 w g M L O X){A:Option Addr}{n c:Nat}{vs:List Value}(hs:Sl w0 w0.heap.size A vs)(hn:vs.length=n)(hc:n<=c)(hl:n<=1000):Ox w0 w g M (L++[⟨A,n,c,vs⟩]) O X:=by
 refine ⟨h.ow.old hs hn hc hl,h.own,fun i r hi b hb=>?_,h.two⟩
 obtain ⟨a1,a2,a3,a4⟩:=h.ap i r hi b hb
 refine ⟨a1,a2,fun o ho ad ea h0=>?_,a4⟩
 rcases List.mem_append.1 ho with h1|h1
 ·exact a3 o h1 ad ea h0
 ·rw [List.mem_singleton] at h1;subst h1
  obtain ⟨ad',e',hbk,_⟩:=hs (by show 0<vs.length;rw [hn];exact h0)
  rw [show A=some ad from ea] at e'
  obtain rfl:=zqk e'
  have:=(h.lt hi hb).2
  omega
end
section
variable {w w':World}{base n c s:Nat}{e:TypeId}{A:Option Addr}{xs:List Value}
theorem z7g (h:w.ownsRow base e s (.slice A n c) n xs)(hs0:0<s):Sl w w.heap.size A xs:=fun hn=>by
 have hl:0<n:=by
  have:=h.1
  rcases zqh n with rfl|h0
  ·omega
  ·exact h0
 obtain ⟨g,cap,hv,_,hlt⟩:=h.form hl
 have hA:A=some ⟨g,0,none⟩:=by injection hv
 subst hA
 exact ⟨_,rfl,hlt,h.cells (g:=g) rfl⟩
end
section
variable {w0 w w':World}{g:Option Nat}{M:List (Nat×Value)}{L:List Ob}{O:List Rw}{X:List Rx}
theorem Ox.keepX (h:Ox w0 w g M L O X)(i:Nat){A:Option Addr}{n c s m:Nat}{e:TypeId}{vs:List Value}(hi:X[i]?=some ⟨A,n,c,e,s,vs⟩)(hm:n*s=m)(hl:m<=1000)(hs0:0<s):Ox w0 w g M (L++[⟨A,m,m,vs⟩]) O (X.set i ⟨none,0,0,e,s,[]⟩):=by
 have key:∀ (j:Nat) (x:Rx),(X.set i ⟨none,0,0,e,s,[]⟩)[j]?=some x->(j=i/\x=⟨none,0,0,e,s,[]⟩)∨(j≠i/\X[j]?=some x):=fun j x hj=>by
  by_cases e:j=i
  ·subst e
   rw [List.getElem?_set_self (z0d hi)] at hj
   simp at hj
   exact .inl ⟨rfl,hj.symm⟩
  ·rw [zqf (fun e'=>e e'.symm)] at hj
   exact .inr ⟨e,hj⟩
 have ho:=h.own i _ hi
 have blkA:∀ ad,A=some ad->(⟨A,n,c,e,s,vs⟩:Rx).blk=some ad.block:=fun ad ea=>by show (Value.slice A n c).ownBlock=_;rw [ea];rfl
 have hst:St w0 w g M (L++[⟨A,m,m,vs⟩]):=h.ow.st.add (z7g ho hs0) (zqj _) (ho.1.trans hm) (zqj _) hl fun ad ea h0=>by
  have:=h.ap i _ hi _ (blkA ad ea)
  exact ⟨this.1,this.2.1⟩
 have how:Ow w0 w g M (L++[⟨A,m,m,vs⟩]) O:=⟨hst,h.ow.own,fun j q hj b hb=>by
  obtain ⟨a1,a2,a3⟩:=h.ow.ap j q hj b hb
  refine ⟨a1,a2,fun o ho' ad ea h0=>?_⟩
  rcases List.mem_append.1 ho' with h1|h1
  ·exact a3 o h1 ad ea h0
  ·rw [List.mem_singleton] at h1;subst h1
   intro e5;exact (h.ap i _ hi _ (blkA ad ea)).2.2.2 j q hj (by rw [hb,e5]),h.ow.two⟩
 refine ⟨how,fun j x hj=>?_,fun j x hj b hb=>?_,fun j k x y hj hk hjk b hb e2=>?_⟩
 ·rcases key j x hj with ⟨_,rfl⟩|⟨hne,hj'⟩
  ·exact World.ownsRow_nil _ _ _ _
  ·exact h.own j x hj'
 ·rcases key j x hj with ⟨_,rfl⟩|⟨hne,hj'⟩
  ·cases hb
  ·obtain ⟨a1,a2,a3,a4⟩:=h.ap j x hj' b hb
   refine ⟨a1,a2,fun o ho' ad ea h0=>?_,a4⟩
   rcases List.mem_append.1 ho' with h2|h2
   ·exact a3 o h2 ad ea h0
   ·rw [List.mem_singleton] at h2;subst h2
    intro e3;exact h.two j i x _ hj' hi hne b hb (by rw [blkA ad ea,e3])
 ·rcases key j x hj with ⟨a1,rfl⟩|⟨hne,hj'⟩ <;> rcases key k y hk with ⟨a2,rfl⟩|⟨hne2,hk'⟩
  ·omega
  ·cases hb
  ·cases e2
  ·exact h.two j k x y hj' hk' hjk b hb e2
end
def z3bh (P:Program)(t e:TypeId)(s bytes:Nat):Prop:=P.underlying t=some (.slice e)/\0<s/\∃ i z,P.info? e=some i/\i.zero=some z/\i.size=s/\i.bytes=bytes/\z.cells.size=s
section
variable {P:Program}{w0 w:World}{g:Option Nat}{M:List (Nat×Value)}{L:List Ob}{O:List Rw}{X:List Rx}{t e:TypeId}{s bytes:Nat}
theorem z5s {ops:Array Oper}{rest:List Oper}{o:Oper}{a:Act}{Q:Exit->Act->World->Prop}(hE:z3bh P t e s bytes)(h:Ox w0 w g M L O X)(i:Nat)(so x:Operand){A:Option Addr}{n c:Nat}{xs:List Value}(hi:X[i]?=some ⟨A,n,c,e,s,xs⟩)
  {ad:Addr} {m c2:Nat} {news:List Value} (hm:news.length=m*s) (hr:∀ j u,news[j]?=some u->w.cell? (ad.add j)=some u) (h1:∀ u∈news,u.oneCell'=true) (h63:n+m<=maxLen) (hbytes:(n+m)*bytes<=140737488355328)
  (hgd:o.guard=none) (ho:o.op=.call { callee:=.builtin .append,args:=#[so,x],argTypes:=#[t,t] }) (hs:a.eval so=.slice A n c) (hx:a.eval x=.slice (some ad) m c2)
  (hk:∀ A' c' w',Ox w0 w' g M L O (X.set i ⟨A',n+m,c',e,s,xs++news⟩)->wpList P ops Q rest (a.put o.dst (.slice A' (n+m) c')) w'):wpList P ops Q (o :: rest) a w:=by
 obtain ⟨ht,hs0,inf,z,hi0,hz,hsz,hby,hzs⟩:=hE;refine wpList_append_own_at w hgd so x t ho w0.heap.size e inf z s bytes ht hi0 hz hsz hby hzs hs0 _ n xs hs (h.own i _ hi) ad m c2 news hx hm hr h1 h63 hbytes h.size fun v' w' h2 h3 _ h5=>?_
 have hf:∃ A' c',v'=.slice A' (n+m) c':=by
  rcases h2.2 with ⟨h',h0⟩|⟨g,cap,cur,h',_⟩
  ·exact ⟨none,0,by rw [h',h0]⟩
  ·exact ⟨_,_,h'⟩
 obtain ⟨A',c',rfl⟩:=hf;exact hk A' c' w' (h.turnX i hi (r':=⟨A',n+m,c',e,s,xs++news⟩) h3 h2 h5)
end
open Go.RowKit Go.Sort
namespace Cl
set_option maxHeartbeats 2000000
structure Pl where
 so:Int
 ch:Int
 ra:Int
 ba:Int
 ro:Int
 co:Int
def Pl.vs (p:Pl):Array Value:=#[.int .i64 p.so,.int .i64 p.ch,.int .i64 p.ra,.int .i64 p.ba,.int .i64 p.ro,.int .i64 p.co]
def Pl.l (p:Pl):List Int:=[p.so,p.ch,p.ra,p.ba,p.ro,p.co]
theorem Pl.ext' {p q:Pl}(h:p.l=q.l):p=q:=by
 obtain ⟨a,b,c,d,e,f⟩:=p;obtain ⟨a',b',c',d',e',f'⟩:=q;simp only [Pl.l,List.cons.injEq] at h;obtain ⟨rfl,rfl,rfl,rfl,rfl,rfl,_⟩:=h;rfl
instance:DecidableEq Pl:=fun p q=>if h:p.l=q.l then .isTrue (Pl.ext' h) else .isFalse fun e=>h (by rw [e])
structure Sn where
 p:Pl
 cp:Int
 ti:Int
def Sn.vs (x:Sn):Array Value:=#[.int .i64 x.p.so,.int .i64 x.p.ch,.int .i64 x.p.ra,.int .i64 x.p.ba,.int .i64 x.p.ro,.int .i64 x.p.co,.int .i64 x.cp,.int .i64 x.ti]
def wh (k:Int)(p:Pl):Pl:=⟨p.so,p.ch,if k=6 then 0 else p.ra,if k=5∨k=6 then 0 else p.ba,if k=1∨k=2 then p.ro else 0,if k=1∨k=3 then p.co else 0⟩
def kd (k:Int):Prop:=1<=k/\k<=6
instance (k:Int):Decidable (kd k):=inferInstanceAs (Decidable (_/\_))
theorem z6t {k:Int}(h:kd k):k=1∨k=2∨k=3∨k=4∨k=5∨k=6:=by unfold kd at h;omega
def z3u (k:Int)(x:Sn):Pl×Int:=(wh k x.p,x.cp)
end Cl
open Cl
theorem z1n {a b:Int}(h:a≠b):(a == b)=false:=by rw [beq_eq_false_iff_ne];exact h
theorem z8bl (so ch ra ba ro co:Int)(w:World):
  Calls Tryz.prog 60 #[.int .i64 1,.agg #[.int .i64 so,.int .i64 ch,.int .i64 ra,.int .i64 ba,.int .i64 ro,.int .i64 co]] w fun e w'=>e=.returned (.tuple #[.agg #[.int .i64 so,.int .i64 ch,.int .i64 ra,.int .i64 ba,.int .i64 ro,.int .i64 co],.bool true])/\Below w.heap.size w w':=by
 have H:=((Ow.of (St.refl w)).arr #[.int .i64 so,.int .i64 ch,.int .i64 ra,.int .i64 ba,.int .i64 ro,.int .i64 co] 6 rfl (by omega) 38).arr #[.int .i64 so,.int .i64 ch,.int .i64 ra,.int .i64 ba,.int .i64 ro,.int .i64 co] 6 rfl (by omega) 38
 simp only [zqc,zqb,World.size_alloc] at H;obtain ⟨c0,c1,c2,c3,c4,c5⟩:=zc6 (H.row 1 rfl);go_enter Tryz.func60,Tryz.ntmps60
 go_wp2_with fail;refine bodyPost_ret (v:=.tuple #[.agg #[.int .i64 so,.int .i64 ch,.int .i64 ra,.int .i64 ba,.int .i64 ro,.int .i64 co],.bool true]) (by simp [results,Tryz.results60,go_sem,c0,c1,c2,c3,c4,c5]) rfl ?_
 exact ⟨rfl,H.below⟩
theorem z8bk (so ch ra ba ro co:Int)(w:World):
  Calls Tryz.prog 60 #[.int .i64 2,.agg #[.int .i64 so,.int .i64 ch,.int .i64 ra,.int .i64 ba,.int .i64 ro,.int .i64 co]] w fun e w'=>e=.returned (.tuple #[.agg #[.int .i64 so,.int .i64 ch,.int .i64 ra,.int .i64 ba,.int .i64 ro,.int .i64 0],.bool true])/\Below w.heap.size w w':=by
 have H:=((Ow.of (St.refl w)).arr #[.int .i64 so,.int .i64 ch,.int .i64 ra,.int .i64 ba,.int .i64 ro,.int .i64 0] 6 rfl (by omega) 38).arr #[.int .i64 so,.int .i64 ch,.int .i64 ra,.int .i64 ba,.int .i64 ro,.int .i64 0] 6 rfl (by omega) 38
 simp only [zqc,zqb,World.size_alloc] at H;obtain ⟨c0,c1,c2,c3,c4,c5⟩:=zc6 (H.row 1 rfl);go_enter Tryz.func60,Tryz.ntmps60
 go_wp2_with fail;refine bodyPost_ret (v:=.tuple #[.agg #[.int .i64 so,.int .i64 ch,.int .i64 ra,.int .i64 ba,.int .i64 ro,.int .i64 0],.bool true]) (by simp [results,Tryz.results60,go_sem,c0,c1,c2,c3,c4,c5]) rfl ?_
 exact ⟨rfl,H.below⟩
theorem z8bj (so ch ra ba ro co:Int)(w:World):
  Calls Tryz.prog 60 #[.int .i64 3,.agg #[.int .i64 so,.int .i64 ch,.int .i64 ra,.int .i64 ba,.int .i64 ro,.int .i64 co]] w fun e w'=>e=.returned (.tuple #[.agg #[.int .i64 so,.int .i64 ch,.int .i64 ra,.int .i64 ba,.int .i64 0,.int .i64 co],.bool true])/\Below w.heap.size w w':=by
 have H:=((Ow.of (St.refl w)).arr #[.int .i64 so,.int .i64 ch,.int .i64 ra,.int .i64 ba,.int .i64 0,.int .i64 co] 6 rfl (by omega) 38).arr #[.int .i64 so,.int .i64 ch,.int .i64 ra,.int .i64 ba,.int .i64 0,.int .i64 co] 6 rfl (by omega) 38
 simp only [zqc,zqb,World.size_alloc] at H;obtain ⟨c0,c1,c2,c3,c4,c5⟩:=zc6 (H.row 1 rfl);go_enter Tryz.func60,Tryz.ntmps60
 go_wp2_with fail;refine bodyPost_ret (v:=.tuple #[.agg #[.int .i64 so,.int .i64 ch,.int .i64 ra,.int .i64 ba,.int .i64 0,.int .i64 co],.bool true]) (by simp [results,Tryz.results60,go_sem,c0,c1,c2,c3,c4,c5]) rfl ?_
 exact ⟨rfl,H.below⟩
theorem z8bi (so ch ra ba ro co:Int)(w:World):
  Calls Tryz.prog 60 #[.int .i64 4,.agg #[.int .i64 so,.int .i64 ch,.int .i64 ra,.int .i64 ba,.int .i64 ro,.int .i64 co]] w fun e w'=>e=.returned (.tuple #[.agg #[.int .i64 so,.int .i64 ch,.int .i64 ra,.int .i64 ba,.int .i64 0,.int .i64 0],.bool true])/\Below w.heap.size w w':=by
 have H:=((Ow.of (St.refl w)).arr #[.int .i64 so,.int .i64 ch,.int .i64 ra,.int .i64 ba,.int .i64 0,.int .i64 0] 6 rfl (by omega) 38).arr #[.int .i64 so,.int .i64 ch,.int .i64 ra,.int .i64 ba,.int .i64 0,.int .i64 0] 6 rfl (by omega) 38
 simp only [zqc,zqb,World.size_alloc] at H;obtain ⟨c0,c1,c2,c3,c4,c5⟩:=zc6 (H.row 1 rfl);go_enter Tryz.func60,Tryz.ntmps60
 go_wp2_with fail;refine bodyPost_ret (v:=.tuple #[.agg #[.int .i64 so,.int .i64 ch,.int .i64 ra,.int .i64 ba,.int .i64 0,.int .i64 0],.bool true]) (by simp [results,Tryz.results60,go_sem,c0,c1,c2,c3,c4,c5]) rfl ?_
 exact ⟨rfl,H.below⟩
theorem z8bh (so ch ra ba ro co:Int)(w:World):
  Calls Tryz.prog 60 #[.int .i64 5,.agg #[.int .i64 so,.int .i64 ch,.int .i64 ra,.int .i64 ba,.int .i64 ro,.int .i64 co]] w fun e w'=>e=.returned (.tuple #[.agg #[.int .i64 so,.int .i64 ch,.int .i64 ra,.int .i64 0,.int .i64 0,.int .i64 0],.bool true])/\Below w.heap.size w w':=by
 have H:=((Ow.of (St.refl w)).arr #[.int .i64 so,.int .i64 ch,.int .i64 ra,.int .i64 0,.int .i64 0,.int .i64 0] 6 rfl (by omega) 38).arr #[.int .i64 so,.int .i64 ch,.int .i64 ra,.int .i64 0,.int .i64 0,.int .i64 0] 6 rfl (by omega) 38
 simp only [zqc,zqb,World.size_alloc] at H;obtain ⟨c0,c1,c2,c3,c4,c5⟩:=zc6 (H.row 1 rfl);go_enter Tryz.func60,Tryz.ntmps60
 go_wp2_with fail;refine bodyPost_ret (v:=.tuple #[.agg #[.int .i64 so,.int .i64 ch,.int .i64 ra,.int .i64 0,.int .i64 0,.int .i64 0],.bool true]) (by simp [results,Tryz.results60,go_sem,c0,c1,c2,c3,c4,c5]) rfl ?_
 exact ⟨rfl,H.below⟩
theorem z8bg (so ch ra ba ro co:Int)(w:World):
  Calls Tryz.prog 60 #[.int .i64 6,.agg #[.int .i64 so,.int .i64 ch,.int .i64 ra,.int .i64 ba,.int .i64 ro,.int .i64 co]] w fun e w'=>e=.returned (.tuple #[.agg #[.int .i64 so,.int .i64 ch,.int .i64 0,.int .i64 0,.int .i64 0,.int .i64 0],.bool true])/\Below w.heap.size w w':=by
 have H:=((Ow.of (St.refl w)).arr #[.int .i64 so,.int .i64 ch,.int .i64 0,.int .i64 0,.int .i64 0,.int .i64 0] 6 rfl (by omega) 38).arr #[.int .i64 so,.int .i64 ch,.int .i64 0,.int .i64 0,.int .i64 0,.int .i64 0] 6 rfl (by omega) 38
 simp only [zqc,zqb,World.size_alloc] at H;obtain ⟨c0,c1,c2,c3,c4,c5⟩:=zc6 (H.row 1 rfl);go_enter Tryz.func60,Tryz.ntmps60
 go_wp2_with fail;refine bodyPost_ret (v:=.tuple #[.agg #[.int .i64 so,.int .i64 ch,.int .i64 0,.int .i64 0,.int .i64 0,.int .i64 0],.bool true]) (by simp [results,Tryz.results60,go_sem,c0,c1,c2,c3,c4,c5]) rfl ?_
 exact ⟨rfl,H.below⟩
theorem z8bf (so ch ra ba ro co:Int)(k:Int)(hk:¬ kd k)(w:World):
  Calls Tryz.prog 60 #[.int .i64 k,.agg #[.int .i64 so,.int .i64 ch,.int .i64 ra,.int .i64 ba,.int .i64 ro,.int .i64 co]] w fun e w'=>e=.returned (.tuple #[.agg #[.int .i64 0,.int .i64 0,.int .i64 0,.int .i64 0,.int .i64 0,.int .i64 0],.bool false])/\Below w.heap.size w w':=by
 have H:=((Ow.of (St.refl w)).arr #[.int .i64 so,.int .i64 ch,.int .i64 ra,.int .i64 ba,.int .i64 ro,.int .i64 co] 6 rfl (by omega) 38).arr #[.int .i64 0,.int .i64 0,.int .i64 0,.int .i64 0,.int .i64 0,.int .i64 0] 6 rfl (by omega) 38
 simp only [zqc,zqb,World.size_alloc] at H;obtain ⟨c0,c1,c2,c3,c4,c5⟩:=zc6 (H.row 1 rfl);unfold kd at hk;have b1:(k == 1)=false:=z1n (by omega)
 have b2:(k == 2)=false:=z1n (by omega)
 have b3:(k == 3)=false:=z1n (by omega)
 have b4:(k == 4)=false:=z1n (by omega)
 have b5:(k == 5)=false:=z1n (by omega)
 have b6:(k == 6)=false:=z1n (by omega)
 clear hk;go_enter Tryz.func60,Tryz.ntmps60
 go_wp2_with fail;refine bodyPost_ret (v:=.tuple #[.agg #[.int .i64 0,.int .i64 0,.int .i64 0,.int .i64 0,.int .i64 0,.int .i64 0],.bool false]) (by simp [results,Tryz.results60,go_sem,c0,c1,c2,c3,c4,c5]) rfl ?_
 exact ⟨rfl,H.below⟩
def Cl.whV (k:Int)(p:Pl):Pl:=if kd k then wh k p else ⟨0,0,0,0,0,0⟩
theorem z5q (k:Int)(p:Pl)(w:World):
  Calls Tryz.prog 60 #[.int .i64 k,.agg p.vs] w fun e w'=>e=.returned (.tuple #[.agg (whV k p).vs,.bool (decide (kd k))])/\Below w.heap.size w w':=by
 by_cases hk:kd k
 ·unfold whV;rw [if_pos hk,zt hk];rcases z6t hk with rfl|rfl|rfl|rfl|rfl|rfl
  ·exact z8bl p.so p.ch p.ra p.ba p.ro p.co w
  ·exact z8bk p.so p.ch p.ra p.ba p.ro p.co w
  ·exact z8bj p.so p.ch p.ra p.ba p.ro p.co w
  ·exact z8bi p.so p.ch p.ra p.ba p.ro p.co w
  ·exact z8bh p.so p.ch p.ra p.ba p.ro p.co w
  ·exact z8bg p.so p.ch p.ra p.ba p.ro p.co w
 ·unfold whV;rw [if_neg hk,zn hk];exact z8bf p.so p.ch p.ra p.ba p.ro p.co k hk w
theorem z0cv (so ch ra ba ro co:Int)(w:World):
  Calls Tryz.prog 48 #[.int .i64 1,.agg #[.int .i64 so,.int .i64 ch,.int .i64 ra,.int .i64 ba,.int .i64 ro,.int .i64 co]] w fun e w'=>e=.returned (.agg #[.int .i64 so,.int .i64 ch,.int .i64 ra,.int .i64 ba,.int .i64 ro,.int .i64 co])/\Below w.heap.size w w':=by
 have H:=((Ow.of (St.refl w)).arr #[.int .i64 so,.int .i64 ch,.int .i64 ra,.int .i64 ba,.int .i64 ro,.int .i64 co] 6 rfl (by omega) 38).arr #[.int .i64 so,.int .i64 ch,.int .i64 ra,.int .i64 ba,.int .i64 ro,.int .i64 co] 6 rfl (by omega) 38
 simp only [zqc,zqb,World.size_alloc] at H;obtain ⟨c0,c1,c2,c3,c4,c5⟩:=zc6 (H.row 1 rfl);go_enter Tryz.func48,Tryz.ntmps48
 go_wp2_with fail;refine bodyPost_ret (v:=.agg #[.int .i64 so,.int .i64 ch,.int .i64 ra,.int .i64 ba,.int .i64 ro,.int .i64 co]) (by simp [results,Tryz.results48,go_sem,c0,c1,c2,c3,c4,c5]) rfl ?_
 exact ⟨rfl,H.below⟩
theorem z0cu (so ch ra ba ro co:Int)(w:World):
  Calls Tryz.prog 48 #[.int .i64 2,.agg #[.int .i64 so,.int .i64 ch,.int .i64 ra,.int .i64 ba,.int .i64 ro,.int .i64 co]] w fun e w'=>e=.returned (.agg #[.int .i64 so,.int .i64 ch,.int .i64 ra,.int .i64 ba,.int .i64 ro,.int .i64 0])/\Below w.heap.size w w':=by
 have H:=((Ow.of (St.refl w)).arr #[.int .i64 so,.int .i64 ch,.int .i64 ra,.int .i64 ba,.int .i64 ro,.int .i64 0] 6 rfl (by omega) 38).arr #[.int .i64 so,.int .i64 ch,.int .i64 ra,.int .i64 ba,.int .i64 ro,.int .i64 0] 6 rfl (by omega) 38
 simp only [zqc,zqb,World.size_alloc] at H;obtain ⟨c0,c1,c2,c3,c4,c5⟩:=zc6 (H.row 1 rfl);go_enter Tryz.func48,Tryz.ntmps48
 go_wp2_with fail;refine bodyPost_ret (v:=.agg #[.int .i64 so,.int .i64 ch,.int .i64 ra,.int .i64 ba,.int .i64 ro,.int .i64 0]) (by simp [results,Tryz.results48,go_sem,c0,c1,c2,c3,c4,c5]) rfl ?_
 exact ⟨rfl,H.below⟩
theorem z0ct (so ch ra ba ro co:Int)(w:World):
  Calls Tryz.prog 48 #[.int .i64 3,.agg #[.int .i64 so,.int .i64 ch,.int .i64 ra,.int .i64 ba,.int .i64 ro,.int .i64 co]] w fun e w'=>e=.returned (.agg #[.int .i64 so,.int .i64 ch,.int .i64 ra,.int .i64 ba,.int .i64 0,.int .i64 co])/\Below w.heap.size w w':=by
 have H:=((Ow.of (St.refl w)).arr #[.int .i64 so,.int .i64 ch,.int .i64 ra,.int .i64 ba,.int .i64 0,.int .i64 co] 6 rfl (by omega) 38).arr #[.int .i64 so,.int .i64 ch,.int .i64 ra,.int .i64 ba,.int .i64 0,.int .i64 co] 6 rfl (by omega) 38
 simp only [zqc,zqb,World.size_alloc] at H;obtain ⟨c0,c1,c2,c3,c4,c5⟩:=zc6 (H.row 1 rfl);go_enter Tryz.func48,Tryz.ntmps48
 go_wp2_with fail;refine bodyPost_ret (v:=.agg #[.int .i64 so,.int .i64 ch,.int .i64 ra,.int .i64 ba,.int .i64 0,.int .i64 co]) (by simp [results,Tryz.results48,go_sem,c0,c1,c2,c3,c4,c5]) rfl ?_
 exact ⟨rfl,H.below⟩
theorem z0cs (so ch ra ba ro co:Int)(w:World):
  Calls Tryz.prog 48 #[.int .i64 4,.agg #[.int .i64 so,.int .i64 ch,.int .i64 ra,.int .i64 ba,.int .i64 ro,.int .i64 co]] w fun e w'=>e=.returned (.agg #[.int .i64 so,.int .i64 ch,.int .i64 ra,.int .i64 ba,.int .i64 0,.int .i64 0])/\Below w.heap.size w w':=by
 have H:=((Ow.of (St.refl w)).arr #[.int .i64 so,.int .i64 ch,.int .i64 ra,.int .i64 ba,.int .i64 0,.int .i64 0] 6 rfl (by omega) 38).arr #[.int .i64 so,.int .i64 ch,.int .i64 ra,.int .i64 ba,.int .i64 0,.int .i64 0] 6 rfl (by omega) 38
 simp only [zqc,zqb,World.size_alloc] at H;obtain ⟨c0,c1,c2,c3,c4,c5⟩:=zc6 (H.row 1 rfl);go_enter Tryz.func48,Tryz.ntmps48
 go_wp2_with fail;refine bodyPost_ret (v:=.agg #[.int .i64 so,.int .i64 ch,.int .i64 ra,.int .i64 ba,.int .i64 0,.int .i64 0]) (by simp [results,Tryz.results48,go_sem,c0,c1,c2,c3,c4,c5]) rfl ?_
 exact ⟨rfl,H.below⟩
theorem z0cr (so ch ra ba ro co:Int)(w:World):
  Calls Tryz.prog 48 #[.int .i64 5,.agg #[.int .i64 so,.int .i64 ch,.int .i64 ra,.int .i64 ba,.int .i64 ro,.int .i64 co]] w fun e w'=>e=.returned (.agg #[.int .i64 so,.int .i64 ch,.int .i64 ra,.int .i64 0,.int .i64 0,.int .i64 0])/\Below w.heap.size w w':=by
 have H:=((Ow.of (St.refl w)).arr #[.int .i64 so,.int .i64 ch,.int .i64 ra,.int .i64 0,.int .i64 0,.int .i64 0] 6 rfl (by omega) 38).arr #[.int .i64 so,.int .i64 ch,.int .i64 ra,.int .i64 0,.int .i64 0,.int .i64 0] 6 rfl (by omega) 38
 simp only [zqc,zqb,World.size_alloc] at H;obtain ⟨c0,c1,c2,c3,c4,c5⟩:=zc6 (H.row 1 rfl);go_enter Tryz.func48,Tryz.ntmps48
 go_wp2_with fail;refine bodyPost_ret (v:=.agg #[.int .i64 so,.int .i64 ch,.int .i64 ra,.int .i64 0,.int .i64 0,.int .i64 0]) (by simp [results,Tryz.results48,go_sem,c0,c1,c2,c3,c4,c5]) rfl ?_
 exact ⟨rfl,H.below⟩
theorem z0cq (so ch ra ba ro co:Int)(w:World):
  Calls Tryz.prog 48 #[.int .i64 6,.agg #[.int .i64 so,.int .i64 ch,.int .i64 ra,.int .i64 ba,.int .i64 ro,.int .i64 co]] w fun e w'=>e=.returned (.agg #[.int .i64 so,.int .i64 ch,.int .i64 0,.int .i64 0,.int .i64 0,.int .i64 0])/\Below w.heap.size w w':=by
 have H:=((Ow.of (St.refl w)).arr #[.int .i64 so,.int .i64 ch,.int .i64 0,.int .i64 0,.int .i64 0,.int .i64 0] 6 rfl (by omega) 38).arr #[.int .i64 so,.int .i64 ch,.int .i64 0,.int .i64 0,.int .i64 0,.int .i64 0] 6 rfl (by omega) 38
 simp only [zqc,zqb,World.size_alloc] at H;obtain ⟨c0,c1,c2,c3,c4,c5⟩:=zc6 (H.row 1 rfl);go_enter Tryz.func48,Tryz.ntmps48
 go_wp2_with fail;refine bodyPost_ret (v:=.agg #[.int .i64 so,.int .i64 ch,.int .i64 0,.int .i64 0,.int .i64 0,.int .i64 0]) (by simp [results,Tryz.results48,go_sem,c0,c1,c2,c3,c4,c5]) rfl ?_
 exact ⟨rfl,H.below⟩
theorem z8n (k:Int)(hk:kd k)(p:Pl)(w:World):
  Calls Tryz.prog 48 #[.int .i64 k,.agg p.vs] w fun e w'=>e=.returned (.agg (wh k p).vs)/\Below w.heap.size w w':=by
 rcases z6t hk with rfl|rfl|rfl|rfl|rfl|rfl
 ·exact z0cv p.so p.ch p.ra p.ba p.ro p.co w
 ·exact z0cu p.so p.ch p.ra p.ba p.ro p.co w
 ·exact z0ct p.so p.ch p.ra p.ba p.ro p.co w
 ·exact z0cs p.so p.ch p.ra p.ba p.ro p.co w
 ·exact z0cr p.so p.ch p.ra p.ba p.ro p.co w
 ·exact z0cq p.so p.ch p.ra p.ba p.ro p.co w
section
variable {P:Program}{md:Region.Mode}{ops:Array Oper}{Q:Exit->Act->World->Prop}
def z9az (md:Region.Mode)(ops:Array Oper):Bool:=(List.range ops.size).all fun i=>((ops[i]?).map fun o=>o.after.all fun e=>!Region.binds md e || decide (e.on<i)).getD true
theorem z1ai {l:Array Bool}(hb:z9az md ops=true)(h:Region.ready md ops l=[]):∀ j,j<ops.size->l.getD j true=true:=by
 intro j
 induction j using Nat.strongRecOn with
 | _ j ih=>
  intro hj;cases hl:l.getD j true with
  | true=>rfl
  | false=>
   exfalso
   have:j∈Region.ready md ops l:=by
    unfold Region.ready;rw [List.mem_filter];refine ⟨List.mem_range.2 hj,?_⟩
    rw [hl];have ho:ops[j]?=some ops[j]:=Array.getElem?_eq_getElem hj
    have hbj:=List.all_eq_true.1 hb j (List.mem_range.2 hj)
    rw [ho] at hbj;have hbj':(ops[j].after.all fun e=>!Region.binds md e || decide (e.on<j))=true:=hbj
    rw [ho]
    show (!false && (ops[j].after.all fun e=>!Region.binds md e || l.getD e.on false))=true
    rw [Bool.not_false,Bool.true_and,Array.all_eq_true_iff_forall_mem];intro e he;have h50:=Array.all_eq_true_iff_forall_mem.1 hbj' e he
    cases hbi:Region.binds md e with
    | false=>rfl
    | true=>
    rw [hbi] at h50;have h5:e.on<j:=of_decide_eq_true h50
    have h6:=ih e.on h5 (by omega)
    have h7:l.getD e.on false=true:=by
     rw [Array.getD_eq_getD_getElem?] at h6 ⊢
     rcases zqi e.on l.size with h8|h8
     ·rw [Array.getElem?_eq_getElem h8] at h6 ⊢;exact h6
     ·exfalso
      have h9:l.size<=j:=by omega
      rw [Array.getD_eq_getD_getElem?,Array.getElem?_eq_none h9] at hl;cases hl
    rw [h7,Bool.or_true]
   rw [h] at this;cases this
theorem z1ah (Inv:(Nat->Bool)->Act->World->Prop)(hb:z9az md ops=true)
  (hstep:∀ j L a w,j<ops.size->L j=false->(∀ o,ops[j]?=some o->∀ e∈o.after,Region.binds md e=true->L e.on=true)->Inv L a w->wpOp P ops Q j (Inv (z3i L j)) a w)
  (hend:∀ L a w,(∀ i,i<ops.size->L i=true)->Inv L a w->Q .normal a w):∀ (n:Nat) (l:Array Bool) (a:Act) (w:World),l.size=ops.size->(l.toList.countP (· == false))<=n->
   Inv (fun i=>l.getD i false) a w->wpAny P md ops Q n l a w:=by
 intro n;have fin:∀ (l:Array Bool) (a:Act) (w:World),l.size=ops.size->Inv (fun i=>l.getD i false) a w->Region.ready md ops l=[]->Q .normal a w:=fun l a w hs hi hr=>by
  refine hend _ a w (fun i hi=>?_) hi
  have h1:=z1ai hb hr i hi
  rw [Array.getD_eq_getD_getElem?] at h1 ⊢
  rw [Array.getElem?_eq_getElem (by omega)] at h1 ⊢
  exact h1
 induction n with
 | zero=>
  intro l a w hs hc hi;have hr:Region.ready md ops l=[]:=by
   cases e:Region.ready md ops l with
   | nil=>rfl
   | cons j r=>
    exfalso
    obtain ⟨h1,h2,_⟩:=mem_ready (md:=md) (ops:=ops) (l:=l) (j:=j) (by rw [e];exact List.mem_cons_self)
    have h3:l.toList.countP (· == false)=0:=by omega
    rw [List.countP_eq_zero] at h3;rw [Array.getD_eq_getD_getElem?,Array.getElem?_eq_getElem (by omega)] at h2
    have h4:j<l.size:=by omega
    exact h3 _ (Array.mem_toList_iff.2 (Array.getElem_mem h4)) (by simpa using h2)
  exact ⟨hr,fin l a w hs hi hr⟩
 | succ n ih=>
  intro l a w hs hc hi;refine ⟨fin l a w hs hi,fun j hj=>?_⟩
  obtain ⟨h1,h2,h3⟩:=mem_ready hj
  have hjl:j<l.size:=by omega
  have h2':l[j]=false:=by rw [Array.getD_eq_getD_getElem?,Array.getElem?_eq_getElem hjl] at h2;exact h2
  have e1:(fun i=>(l.setIfInBounds j true).getD i false)=z3i (fun i=>l.getD i false) j:=by
   funext i
   unfold z3i;by_cases e:i=j
   ·subst e
    rw [if_pos rfl,Array.getD_eq_getD_getElem?,Array.getElem?_setIfInBounds_self_of_lt hjl];rfl
   ·rw [if_neg e,Array.getD_eq_getD_getElem?,Array.getElem?_setIfInBounds_ne (fun e'=>e e'.symm)]
    exact (Array.getD_eq_getD_getElem? ..).symm
  refine wpOp_mono (fun a' w' h=>ih _ a' w' (by rw [Array.size_setIfInBounds];exact hs) ?_ (by rw [e1];exact h)) (hstep j _ a w h1 (by show l.getD j false=false;rw [Array.getD_eq_getD_getElem?,Array.getElem?_eq_getElem hjl];exact h2') h3 hi)
  have h5:(l.setIfInBounds j true).toList=l.toList.set j true:=by simp
  rw [h5];have key:∀ (xs:List Bool) (j:Nat),xs[j]?=some false->(xs.set j true).countP (· == false)+1=xs.countP (· == false):=by
   intro xs
   induction xs with
   | nil=>intro j h;simp at h
   | cons x xs ih2=>
    intro j h;cases j with
    | zero=>
     simp at h
     subst h
     simp
    | succ j=>
     simp at h
     have:=ih2 j h
     simp only [zqe,List.countP_cons];omega
  have:=key l.toList j (by rw [Array.getElem?_toList,Array.getElem?_eq_getElem hjl,h2'])
  omega
theorem z1bf {id:Nat}{a:Act}{w:World}(Inv:(Nat->Bool)->Act->World->Prop)(hm:P.follows .mixedOrders=true)(hb:z9az .any ops=true)
  (h0:Inv (fun _=>false) a w.drew)
  (hstep:∀ j L a w,j<ops.size->L j=false->(∀ o,ops[j]?=some o->∀ e∈o.after,Region.binds .any e=true->L e.on=true)->Inv L a w->wpOp P ops Q j (Inv (z3i L j)) a w)
  (hend:∀ L a w,(∀ i,i<ops.size->L i=true)->Inv L a w->Q .normal a w):(Code.region id ops true).wp P Q a w:=by
 refine wp_region_any hm (z1ah Inv hb hstep hend _ _ _ _ (by simp) ?_ ?_)
 ·refine zqq List.countP_le_length ?_
  simp
 ·have:(fun i=>(Array.replicate ops.size false).getD i false)=fun _=>false:=by
   funext i
   rw [Array.getD_eq_getD_getElem?];rcases zqi i ops.size with h|h
   ·rw [Array.getElem?_eq_getElem (by simpa using h)];simp
   ·rw [Array.getElem?_eq_none (by simpa using h)];rfl
  rw [this];exact h0
theorem z7ab {id:Nat}{a:Act}{w:World}(I:Act->(Nat->Bool)->Act->World->Prop)(hm:P.follows .mixedOrders=true)(hb:z9az .any ops=true)
  (h0:I a (fun _=>false) a w.drew)
  (hstep:∀ j L b v,j<ops.size->L j=false->(∀ i,(z9x .any ops j).elem i=true->L i=true)->I a L b v->wpOp P ops Q j (I a (z3i L j)) b v)
  (hend:∀ L b v,(∀ i,i<ops.size->L i=true)->I a L b v->Q .normal b v):(Code.region id ops true).wp P Q a w:=
 z1bf (I a) hm hb h0 (fun j L b v hj hf hd hi=>hstep j L b v hj hf (z0al (Array.getElem?_eq_getElem hj) (fun e he hb=>hd _ (Array.getElem?_eq_getElem hj) e he hb)) hi) hend
theorem z1k {id:Nat}{a:Act}{w:World}(I:Act->(Nat->Bool)->Act->World->Prop)(hm:P.follows .mixedOrders=true)(hb:z9az .any ops=true)
  (h0:I a (fun _=>false) a w.drew)
  (hstep:∀ j L b v,j<ops.size->L j=false->z0ax ops L->(∀ i,(z9x .any ops j).elem i=true->L i=true)->I a L b v->wpOp P ops Q j (I a (z3i L j)) b v)
  (hend:∀ L b v,(∀ i,i<ops.size->L i=true)->I a L b v->Q .normal b v):(Code.region id ops true).wp P Q a w:=by
 refine z7ab (fun a L b v=>z0ax ops L/\I a L b v) hm hb ⟨(fun j i h=>nomatch h),h0⟩ (fun j L b v hj hf hp hi=>?_) (fun L b v hl hi=>hend L b v hl hi.2)
 refine wpOp_mono (fun a' w' h=>⟨fun j' i' h1 h2=>?_,h⟩) (hstep j L b v hj hf hi.1 hp hi.2)
 unfold z3i at h1 ⊢
 by_cases e:i'=j
 ·rw [if_pos e]
 ·rw [if_neg e];by_cases e2:j'=j
  ·subst e2
   exact hp i' h2
  ·rw [if_neg e2] at h1;exact hi.1 j' i' h1 h2
end
def Cl.spV (k:Int)(x:Sn):Array Value:=#[.int .i64 (whV k x.p).so,.int .i64 (whV k x.p).ch,.int .i64 (whV k x.p).ra,.int .i64 (whV k x.p).ba,.int .i64 (whV k x.p).ro,.int .i64 (whV k x.p).co,.int .i64 x.cp]
theorem z0ba (k:Int)(x:Sn)(w:World):
  Calls Tryz.prog 61 #[.int .i64 k,.agg x.vs] w fun e w'=>e=.returned (.agg (spV k x))/\Below w.heap.size w w':=by
 have H0:=((Ow.of (St.refl w)).arr x.vs 8 rfl (by omega) 40).arr #[.int .i64 0,.int .i64 0,.int .i64 0,.int .i64 0,.int .i64 0,.int .i64 0,.int .i64 0] 7 rfl (by omega) 99
 simp only [zqc,zqb,World.size_alloc] at H0;obtain ⟨⟨so,ch,ra,ba,ro,co⟩,cp,ti⟩:=x
 have HW:=zh (z5q k ⟨so,ch,ra,ba,ro,co⟩)
 unfold spV;obtain ⟨⟨q0,q1,q2,q3,q4,q5⟩,hq⟩:∃ q,whV k ⟨so,ch,ra,ba,ro,co⟩=q:=⟨_,rfl⟩
 rw [hq] at HW ⊢
 unfold Sn.vs at *
 unfold Pl.vs at HW;obtain ⟨a0,a1,a2,a3,a4,a5,a6,a7⟩:=zc8 (H0.row 0 rfl);go_enter Tryz.func61,Tryz.ntmps61
 go_wp2_with fail;refine (HW.out _).mono ?_
 rintro e w1 ⟨rfl,hb⟩;have H1:=(H0.go hb).arr #[.int .i64 q0,.int .i64 q1,.int .i64 q2,.int .i64 q3,.int .i64 q4,.int .i64 q5] 6 rfl (by omega) 38
 simp only [zqc,zqb] at H1;clear HW hb H0 a0 a1 a2 a3 a4 a5 a6 a7;have b6:=(H1.row 0 rfl).cellAt 6 (by decide)
 have y0:=(H1.row 1 rfl).cellAt 0 (by decide)
 have y1:=(H1.row 1 rfl).cellAt 1 (by decide)
 have y2:=(H1.row 1 rfl).cellAt 2 (by decide)
 have y3:=(H1.row 1 rfl).cellAt 3 (by decide)
 have y4:=(H1.row 1 rfl).cellAt 4 (by decide)
 have y5:=(H1.row 1 rfl).cellAt 5 (by decide)
 have y6:=(H1.row 1 rfl).cellAt 6 (by decide)
 have yf0:=(H1.row 1 rfl).frozenAt 0
 have yf1:=(H1.row 1 rfl).frozenAt 1
 have yf2:=(H1.row 1 rfl).frozenAt 2
 have yf3:=(H1.row 1 rfl).frozenAt 3
 have yf4:=(H1.row 1 rfl).frozenAt 4
 have yf5:=(H1.row 1 rfl).frozenAt 5
 have yf6:=(H1.row 1 rfl).frozenAt 6
 have Z0:=H1.put 1 rfl 0 (.int .i64 q0)
 simp only [zqe,zqd] at Z0;have Z1:=Z0.put 1 rfl 1 (.int .i64 q1)
 simp only [zqe,zqd] at Z1;have Z2:=Z1.put 1 rfl 2 (.int .i64 q2)
 simp only [zqe,zqd] at Z2;have Z3:=Z2.put 1 rfl 3 (.int .i64 q3)
 simp only [zqe,zqd] at Z3;have Z4:=Z3.put 1 rfl 4 (.int .i64 q4)
 simp only [zqe,zqd] at Z4;have Z5:=Z4.put 1 rfl 5 (.int .i64 q5)
 simp only [zqe,zqd] at Z5;have Z6:=Z5.put 1 rfl 6 (.int .i64 cp)
 simp only [zqe,zqd] at Z6;have s0:=(Z6.row 1 rfl).cellAt 0 (by decide)
 have s1:=(Z6.row 1 rfl).cellAt 1 (by decide)
 have s2:=(Z6.row 1 rfl).cellAt 2 (by decide)
 have s3:=(Z6.row 1 rfl).cellAt 3 (by decide)
 have s4:=(Z6.row 1 rfl).cellAt 4 (by decide)
 have s5:=(Z6.row 1 rfl).cellAt 5 (by decide)
 have s6:=(Z6.row 1 rfl).cellAt 6 (by decide)
 go_wp2_with fail;refine bodyPost_ret (v:=.agg #[.int .i64 q0,.int .i64 q1,.int .i64 q2,.int .i64 q3,.int .i64 q4,.int .i64 q5,.int .i64 cp]) (by simp [results,Tryz.results61,go_sem,s0,s1,s2,s3,s4,s5,s6]) rfl ?_
 exact ⟨rfl,Z6.below⟩
end Go.Proofs.YtpmofjomadibmaaGreatDoor
