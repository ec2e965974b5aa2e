/- Kit Mem Range Nat Mod Dice NatA Ni -/
import Derived.WalkKit
import Derived.WalkLawsBesides
import Derived.WalkSpells
import Derived.Lib.Hide
import Derived.Laws.BitsAllLaws
import Derived.Deep.QuietTactic
import Derived.BigQuiet
import Derived.Below
import Derived.OwnWalk
import Derived.Laws.OwnMore
import Derived.Laws.Rows
import Derived.Deep.AppendLies
import Derived.Maps.AppendAt
import Derived.RangeFuncNested
import Derived.RangeFuncBound
import Derived.RangeFuncCalls
import Derived.RangeFuncLeaves
import Derived.RangeFuncBox
import Derived.RangeFuncWrites
import Derived.Shelf.Abstract
import Derived.Shelf.RegionOpen
import Derived.OwnWalkIn
import Derived.TacticsInMore
import Derived.LoopNIn
import Derived.LoopIn
import Derived.Test.YtpmofjomadibmaaGreatDoorChecked
import Derived.StillTailTactics
import Derived.Outline
namespace Go.Proofs.YtpmofjomadibmaaGreatDoor
set_option maxHeartbeats 2000000
open Go.RowKit
theorem zh {p:Prop}(h:p):Hid p:=Lib.hid h
theorem zt {p:Prop}[Decidable p](h:p):decide p=true:=decide_eq_true h
theorem zn {p:Prop}[Decidable p](h:¬ p):decide p=false:=decide_eq_false h
theorem zqa {α:Type}(a b c:List α):a++b++c=a++(b++c):=List.append_assoc a b c
theorem zqb {α:Type}{a:α}{b c:List α}:(a :: b)++c=a :: (b++c):=List.cons_append
theorem zqc {α:Type}(a:List α):[]++a=a:=List.nil_append a
theorem zqd {α:Type}{x a:α}{l:List α}:(x :: l).set 0 a=a :: l:=List.set_cons_zero
theorem zqe {α:Type}{x a:α}{l:List α}{n:Nat}:(x :: l).set (n+1) a=x :: l.set n a:=List.set_cons_succ
theorem zqf {α:Type}{l:List α}{i j:Nat}(h:i≠j){a:α}:(l.set i a)[j]?=l[j]?:=List.getElem?_set_ne h
theorem zqh (n:Nat):n=0∨0<n:=Nat.eq_zero_or_pos n
theorem zqi (a b:Nat):a<b∨a≥b:=Nat.lt_or_ge a b
theorem zqj (n:Nat):n<=n:=Nat.le_refl n
theorem zql {α:Type}{l:List α}{i:Nat}(h:i<l.length):l[i]?=some l[i]:=List.getElem?_eq_getElem h
theorem zqm {α:Type}{a b:List α}:(a++b).length=a.length+b.length:=List.length_append
theorem zqn {α:Type}{a b:List α}{n:Nat}(h:n<a.length):(a++b)[n]?=a[n]?:=List.getElem?_append_left h
theorem zqo {α:Type}{a b:List α}{n:Nat}(h:a.length<=n):(a++b)[n]?=b[n - a.length]?:=List.getElem?_append_right h
theorem zqp {α:Type}{l:List α}{i:Nat}(h:l.length<=i):l.take i=l:=List.take_of_length_le h
theorem zqq {a b c:Nat}(h:a<=b)(k:b<=c):a<=c:=Nat.le_trans h k
theorem zqr (n:Nat):0<=n:=Nat.zero_le n
theorem zqs (a b c:Nat):a*b*c=a*(b*c):=Nat.mul_assoc a b c
theorem zqt (a b c:Nat):a*(b+c)=a*b+a*c:=Nat.mul_add a b c
theorem zqu {a b c:Nat}(h:a<=b)(k:b<c):a<c:=Nat.lt_of_le_of_lt h k
theorem zqv {a b c:Nat}(h:a<b)(k:b<=c):a<c:=Nat.lt_of_lt_of_le h k
theorem zqw {α:Type}{i:Nat}{l:List α}:(l.take i).length=min i l.length:=List.length_take
theorem zqk {α:Type}{a b:α}(h:some a=some b):a=b:=Option.some.inj h
theorem zT {α:Type}(l:List α)(i:Nat)(a:α):l.toArray.setIfInBounds i a=(l.set i a).toArray:=List.setIfInBounds_toArray ..
theorem zZ {α:Type}(x:α)(l:List α)(a:α):(x :: l).set 0 a=a :: l:=zqd
theorem zS {α:Type}(x:α)(l:List α)(n:Nat)(a:α):(x :: l).set (n+1) a=x :: l.set n a:=zqe
theorem z4ax {P:Program}{f:FuncId}{args:Array Value}{w:World}{n:Nat}{v:Value}
  (h:Calls P f args (w.drewN n) fun e w'=>e=.returned v/\w.drewN n=w'):Calls P f args (w.drewN n) fun e w''=>e=.returned v/\∃ m,w''=w.drewN m:=
 h.mono fun _ _ ⟨he,hm⟩=>⟨he,n,hm.symm⟩
theorem z0w {B:Nat}{a w:World}(h:Below B a w)(n:Nat):Below B a (w.drewN n):=⟨h.os,h.tape,h.output,h.size,h.block⟩
def Sl (w:World)(B:Nat)(A:Option Addr)(xs:List Value):Prop:=
 0<xs.length->∃ ad,A=some ad/\ad.block<B/\∀ j u,xs[j]?=some u->w.cell? (ad.add j)=some u
theorem z1d (a:Addr)(n:Nat):(a.add n).block=a.block:=by unfold Addr.add;split <;> rfl
theorem add_add (a:Addr)(i j:Nat):(a.add i).add j=a.add (i+j):=by
 unfold Addr.add;rcases zqh i with rfl|hi
 ·simp
 ·rcases zqh j with rfl|hj
  ·simp
  ·rw [if_neg (by omega),if_neg (by omega),if_neg (by omega)]
   simp [Nat.add_assoc]
section
variable {w w':World}{B B':Nat}{A:Option Addr}{xs:List Value}
theorem Sl.nil (w:World)(B:Nat)(A:Option Addr):Sl w B A []:=fun h=>absurd h (by simp)
theorem Sl.at_ (h:Sl w B A xs){k:Nat}(hk:k<xs.length):∃ ad,A=some ad/\ad.block<B/\w.cell? (ad.add k)=some xs[k]:=by
 obtain ⟨ad,e,hb,hc⟩:=h (by omega)
 exact ⟨ad,e,hb,hc k _ (zql hk)⟩
theorem Sl.keep (h:Sl w B A xs)(hk:∀ p:Addr,p.block<B->w'.cell? p=w.cell? p):Sl w' B A xs:=fun hn=>by
 obtain ⟨ad,e,hb,hc⟩:=h hn
 exact ⟨ad,e,hb,fun j u hu=>(hk _ (by rw [z1d];exact hb)).trans (hc j u hu)⟩
theorem Sl.more (h:Sl w B A xs)(hB:B<=B'):Sl w B' A xs:=fun hn=>by
 obtain ⟨ad,e,hb,hc⟩:=h hn
 exact ⟨ad,e,by omega,hc⟩
theorem Sl.below (h:Sl w B A xs)(hb:Below B w w'):Sl w' B A xs:=h.keep fun _ hp=>hb.cell hp
theorem Sl.drewN (h:Sl w B A xs)(k:Nat):Sl (w.drewN k) B A xs:=h
theorem Sl.alloc (h:Sl w B A xs)(hB:B<=w.heap.size)(o:Obj):Sl (w.alloc o) B A xs:=h.below ((Below.refl B w).alloc hB o)
theorem Sl.grown (h:Sl w B A xs){row:Option Nat}(hg:w.grownBy w' row)(hB:B<=w.heap.size)(hr:∀ g,row=some g->B<=g):Sl w' B A xs:=
 h.keep fun p hp=>World.cell?_of_block (hg.block p.block (by omega) (fun e=>by have:=hr _ e.symm;omega))
theorem Sl.take (h:Sl w B A xs)(k:Nat):Sl w B A (xs.take k):=fun hn=>by
 obtain ⟨ad,e,hb,hc⟩:=h (by rw [zqw] at hn;omega)
 refine ⟨ad,e,hb,fun j u hu=>hc j u ?_⟩
 rw [List.getElem?_take] at hu;split at hu
 ·exact hu
 ·cases hu
theorem Sl.drop (h:Sl w B A xs)(k:Nat):Sl w B (A.map (·.add k)) (xs.drop k):=fun hn=>by
 obtain ⟨ad,e,hb,hc⟩:=h (by rw [List.length_drop] at hn;omega)
 subst e
 refine ⟨ad.add k,rfl,by rw [z1d];exact hb,fun j u hu=>?_⟩
 rw [add_add];exact hc _ u (by rw [<- hu,List.getElem?_drop])
theorem Sl.of_own {base:Nat}{e:TypeId}{n c:Nat}(h:w.ownsRow base e 1 (.slice A n c) n xs):Sl w w.heap.size A xs:=fun hn=>by
 have hl:0<n:=by have:=h.1;omega
 obtain ⟨g,cap,hv,_,hlt⟩:=h.form hl
 have hA:A=some ⟨g,0,none⟩:=by injection hv
 subst hA
 exact ⟨_,rfl,hlt,h.cells (g:=g) rfl⟩
end
section
variable {w w':World}{base n c:Nat}{e:TypeId}{A:Option Addr}{xs:List Value}
theorem z1m (h:w.ownsRow base e 1 (.slice A n c) n xs):xs.length=n:=by have:=h.1;omega
theorem z0n (h:w.ownsRow base e 1 (.slice A n c) n xs)(hn:0<n):∃ g,A=some ⟨g,0,none⟩/\base<=g/\g<w.heap.size:=by
 obtain ⟨g,cap,hv,hb,hlt⟩:=h.form hn
 injection hv with h1 h2 h3
 exact ⟨g,h1,hb,hlt⟩
theorem z1j (h:w.ownsRow base e 1 (.slice A n c) n xs):n<=c/\c<=maxLen:=by
 rcases h.2 with ⟨h',h0⟩|⟨g',cap',cur,h',hb,hg,hnc,hcm,hcs,htake⟩
 ·injection h' with h1 h2 h3
  subst h0 h3
  exact ⟨zqj _,by unfold maxLen;omega⟩
 ·injection h' with h1 h2 h3
  subst h3
  exact ⟨hnc,hcm⟩
theorem z1r (h:w.ownsRow base e 1 (.slice A n c) n xs):∀ g,(Value.slice A n c).ownBlock=some g->base<=g:=fun g hg=>(h.lt g hg).1
theorem z3j (h:w.ownsRow base e 1 (.slice A n c) n xs){k:Nat}(hk:k<=n):w.ownsRow base e 1 (.slice A k c) k (xs.take k):=by
 have hl:=z1m h
 refine ⟨by rw [zqw,hl];omega,?_⟩
 rcases h.2 with ⟨h',h0⟩|⟨g',cap',cur,h',hb,hg,hnc,hcm,hcs,htake⟩
 ·injection h' with h1 h2 h3
  subst h0 h1 h3
  left
  have:k=0:=by omega
  subst this
  exact ⟨rfl,rfl⟩
 ·injection h' with h1 h2 h3
  subst h1 h3
  right
  refine ⟨g',c,cur,rfl,hb,hg,by omega,hcm,hcs,?_⟩
  rw [<- htake,List.take_take];congr 1
  omega
theorem z1f {base':Nat}(h:w.ownsRow base e 1 (.slice A n c) n xs)(hb:base'<=base):w.ownsRow base' e 1 (.slice A n c) n xs:=by
 refine ⟨h.1,?_⟩
 rcases h.2 with h' | ⟨g',cap',cur,h',hb',r⟩
 ·exact .inl h'
 ·exact .inr ⟨g',cap',cur,h',by omega,r⟩
theorem z2d (h:w.ownsRow base e 1 (.slice A n c) n xs){row:Option Nat}(hg:w.grownBy w' row)(hne:(Value.slice A n c).ownBlock=none∨(Value.slice A n c).ownBlock≠row):w'.ownsRow base e 1 (.slice A n c) n xs:=h.kept hg hne
theorem z3c (h:w.ownsRow base e 1 (.slice A n c) n xs)(hb:Below w.heap.size w w'):w'.ownsRow base e 1 (.slice A n c) n xs:=
 h.kept (row:=none) ⟨hb.os,hb.tape,hb.output,hb.size,fun k hk _=>hb.block k hk⟩ (by
  by_cases he:(Value.slice A n c).ownBlock=none
  ·exact .inl he
  ·exact .inr he)
theorem z4l (h:w.ownsRow base e 1 (.slice A n c) n xs)(k:Nat):(w.drewN k).ownsRow base e 1 (.slice A n c) n xs:=h
end
section
variable {P:Program}(w:World)
theorem z8k (base:Nat)(t ty e:TypeId)(i:TypeInfo)(z:Value)(bytes:Nat)(ht:P.underlying t=some (.slice e))(hi:P.info? e=some i)(hz:i.zero=some z)
  (hsize:i.size=1) (hby:i.bytes=bytes) (hzs:z.cells.size=1)
  (A:Option Addr) (n c:Nat) (xs:List Value) (hown:w.ownsRow base e 1 (.slice A n c) n xs)
  (B:Nat) (A2:Option Addr) (m c2:Nat) (news:List Value) (hm:news.length=m) (hr:Sl w B A2 news) (h1:∀ u∈news,u.oneCell'=true)
  (h63:n+m<=maxLen) (hbytes:(n+m)*bytes<=140737488355328) (hbase:base<=w.heap.size) :
  ∃ A' c' w',(Builtin.append_ #[t,t] ty #[.slice A n c,.slice A2 m c2]).run P w=.ok (.slice A' (n+m) c') w'/\w'.ownsRow base e 1 (.slice A' (n+m) c') (n+m) (xs++news)/\w.grownBy w' (Value.slice A n c).ownBlock/\
   ((Value.slice A' (n+m) c').ownBlock=(Value.slice A n c).ownBlock∨(Value.slice A' (n+m) c').ownBlock=some w.heap.size):=by
 rcases A2 with _|ad
 ·have h0:m=0:=by
   rcases zqh m with h0|h0
   ·exact h0
   ·obtain ⟨ad,h,_⟩:=hr (by omega)
    cases h
  subst h0
  have hn:news=[]:=List.eq_nil_of_length_eq_zero hm
  subst hn
  refine ⟨A,c,w,?_,by simpa using hown,World.grownBy.refl w _,.inl rfl⟩
  rcases hown.2 with ⟨h',h0⟩|⟨g,cap,cur,h',_,_,hnc,_⟩
  ·injection h' with a1 a2 a3
   subst a1 a2 a3
   simp [Builtin.append_,run_underlying ht,sizeOf,typeInfo,hi,Builtin.lenOf,Builtin.firstCells]
  ·injection h' with a1 a2 a3
   subst a1 a3
   simp [Builtin.append_,run_underlying ht,sizeOf,typeInfo,hi,Builtin.lenOf,Builtin.firstCells,hnc,storeCells]
 ·have hc:∀ j u,news[j]?=some u->w.cell? (ad.add j)=some u:=by
   rcases zqh m with h0|h0
   ·have hn:news=[]:=List.eq_nil_of_length_eq_zero (hm.trans h0)
    subst hn
    intro j u hu;simp at hu
   ·obtain ⟨ad',h,_,hc⟩:=hr (by omega)
    injection h with h
    subst h
    exact hc
  obtain ⟨v',w',hrun,h2,h3,_,h5⟩:=run_append_own_at (P:=P) w base t ty e i z 1 bytes ht hi hz hsize hby hzs (by omega) _ n xs hown ad m c2 news (by omega) hc h1 h63 hbytes hbase
  have hf:∃ A' c',v'=.slice A' (n+m) c':=by
   rcases h2.2 with ⟨h',h0⟩|⟨g,cap,cur,h',_⟩
   ·exact ⟨none,0,by rw [h',h0]⟩
   ·exact ⟨_,_,h'⟩
  obtain ⟨A',c',rfl⟩:=hf;exact ⟨_,_,w',hrun,h2,h3,h5⟩
theorem z4k {o:Oper}{a:Act}{K:Act->World->Prop}{Q:Exit->Act->World->Prop}(s x:Operand)(t:TypeId)
  (ho:o.op=.call { callee:=.builtin .append,args:=#[s,x],argTypes:=#[t,t] })
  (base:Nat) (e:TypeId) (i:TypeInfo) (z:Value) (bytes:Nat) (ht:P.underlying t=some (.slice e)) (hi:P.info? e=some i) (hz:i.zero=some z)
  (hsize:i.size=1) (hby:i.bytes=bytes) (hzs:z.cells.size=1)
  (A:Option Addr) (n c:Nat) (xs:List Value) (hs:a.eval s=.slice A n c) (hown:w.ownsRow base e 1 (.slice A n c) n xs)
  (B:Nat) (A2:Option Addr) (m c2:Nat) (news:List Value) (hx:a.eval x=.slice A2 m c2) (hm:news.length=m) (hr:Sl w B A2 news) (h1:∀ u∈news,u.oneCell'=true)
  (h63:n+m<=maxLen) (hbytes:(n+m)*bytes<=140737488355328) (hbase:base<=w.heap.size)
  (h:∀ A' c' w',w'.ownsRow base e 1 (.slice A' (n+m) c') (n+m) (xs++news)->w.grownBy w' (Value.slice A n c).ownBlock->((Value.slice A' (n+m) c').ownBlock=(Value.slice A n c).ownBlock∨(Value.slice A' (n+m) c').ownBlock=some w.heap.size)->K (a.put o.dst (.slice A' (n+m) c')) w'):o.wp P a w K Q:=by
 obtain ⟨A',c',w',hrun,h2,h3,h4⟩:=z8k (P:=P) w base t o.type e i z bytes ht hi hz hsize hby hzs A n c xs hown B A2 m c2 news hm hr h1 h63 hbytes hbase
 unfold Oper.wp execOp;simp only [ho,resolve,invoke,builtin,Sem.run_bind,Sem.run_pure,Result.andThen_ok,List.map_toArray,List.map_cons,List.map_nil,hs,hx,hrun];exact h A' c' w' h2 h3 h4
theorem z0h {ops:Array Oper}{rest:List Oper}{o:Oper}{a:Act}{Q:Exit->Act->World->Prop}(hgd:o.guard=none)(s x:Operand)(t:TypeId)
  (ho:o.op=.call { callee:=.builtin .append,args:=#[s,x],argTypes:=#[t,t] })
  (base:Nat) (e:TypeId) (i:TypeInfo) (z:Value) (bytes:Nat) (ht:P.underlying t=some (.slice e)) (hi:P.info? e=some i) (hz:i.zero=some z)
  (hsize:i.size=1) (hby:i.bytes=bytes) (hzs:z.cells.size=1)
  (A:Option Addr) (n c:Nat) (xs:List Value) (hs:a.eval s=.slice A n c) (hown:w.ownsRow base e 1 (.slice A n c) n xs)
  (B:Nat) (A2:Option Addr) (m c2:Nat) (news:List Value) (hx:a.eval x=.slice A2 m c2) (hm:news.length=m) (hr:Sl w B A2 news) (h1:∀ u∈news,u.oneCell'=true)
  (h63:n+m<=maxLen) (hbytes:(n+m)*bytes<=140737488355328) (hbase:base<=w.heap.size)
  (h:∀ A' c' w',w'.ownsRow base e 1 (.slice A' (n+m) c') (n+m) (xs++news)->w.grownBy w' (Value.slice A n c).ownBlock->((Value.slice A' (n+m) c').ownBlock=(Value.slice A n c).ownBlock∨(Value.slice A' (n+m) c').ownBlock=some w.heap.size)->wpList P ops Q rest (a.put o.dst (.slice A' (n+m) c')) w') :
  wpList P ops Q (o :: rest) a w:=
 wpList_plain hgd fun _ hK=>z4k w s x t ho base e i z bytes ht hi hz hsize hby hzs A n c xs hs hown B A2 m c2 news hx hm hr h1 h63 hbytes hbase fun A' c' w' h2 h3 h4=>hK _ _ (h A' c' w' h2 h3 h4)
end
theorem z0q {k:IntKind}{a b:Int}(h:a=b):(Value.int k a)=.int k b:=by rw [h]
theorem z2i {a b:Bool}(h:a=b):Ending.returned (.bool a)=.returned (.bool b):=by rw [h]
def slen:Value->Nat
 | .slice _ n _=>n
 | _=>0
theorem z8t {n:Nat}(h:0<n):((n:Int) == 0)=false:=by rw [beq_eq_false_iff_ne];omega
theorem z7av (w:World)(e:TypeId):(w.alloc (.cells #[] e)).ownsRow w.heap.size e 1 (.slice (some ⟨w.heap.size,0,none⟩) 0 0) 0 []:=
 World.ownsRow_made w #[] 0 (zqj _) (zqr _) (by simp)
theorem z5az {w w':World}{g:Nat}{B:Nat}(h:w.grownBy w' (some g))(hB:B<=w.heap.size)(hg:B<=g):Below B w w':=(Below.refl B w).grown h hB (fun k e=>by cases e;exact hg)
theorem z0j {a b c:World}{row:Option Nat}(h:a.grownBy b row)(k:b.grownBy c row):a.grownBy c row:=
 ⟨k.os.trans h.os,k.tape.trans h.tape,k.output.trans h.output,zqq h.size k.size,fun i hi hn=>(k.block i (zqv hi h.size) hn).trans (h.block i hi hn)⟩
theorem z5l {a b:World}{row:Option Nat}(h:a.grownBy b row)(n:Nat):a.grownBy (b.drewN n) row:=⟨h.os,h.tape,h.output,h.size,h.block⟩
theorem z1z {a b:World}{row:Option Nat}(h:a.grownBy b row):a.grownBy b.drew row:=⟨h.os,h.tape,h.output,h.size,h.block⟩
theorem z0t {a b c:World}{g:Option Nat}{row:Option Nat}(h:a.grownBy b g)(k:b.grownBy c row)(hr:∀ x,row=some x->a.heap.size<=x):a.grownBy c g:=
 ⟨k.os.trans h.os,k.tape.trans h.tape,k.output.trans h.output,zqq h.size k.size,fun i hi hn=>(k.block i (zqv hi h.size) (fun e=>by have:=hr i e.symm;omega)).trans (h.block i hi hn)⟩
theorem z1q {a b:World}{g:Option Nat}(h:a.grownBy b g)(o:Obj):a.grownBy (b.alloc o) g:=z0t h (World.grownBy_alloc b o none) (fun x e=>by cases e)
theorem z0x {w:World}{base n c:Nat}{e:TypeId}{A:Option Addr}{xs:List Value}(h:w.ownsRow base e 1 (.slice A n c) n xs)(o:Obj):(w.alloc o).ownsRow base e 1 (.slice A n c) n xs:=h.alloc o
theorem z0ad {w w':World}{base n c g:Nat}{e:TypeId}{A:Option Addr}{xs:List Value}(h:w.ownsRow base e 1 (.slice A n c) n xs)(hg:w.grownBy w' (some g))(hb:g<base):w'.ownsRow base e 1 (.slice A n c) n xs:=
 z2d h hg (.inr (fun e=>by have:=z1r h _ e;omega))
theorem z2c (w:World)(e:TypeId)(u:Value):Sl (w.alloc (.cells #[u] e)) (w.heap.size+1) (some ⟨w.heap.size,0,none⟩) [u]:=fun _=>
 ⟨_,rfl,Nat.lt_succ_self _,cell_one_new _ _ _⟩
theorem z5d {w w':World}(h:w.grownBy w' none):Below w.heap.size w w':=⟨h.os,h.tape,h.output,h.size,fun k hk=>h.block k hk (by simp)⟩
theorem z1h {P:Program}(t e:TypeId)(i:TypeInfo)(z:Value)(ht:P.underlying t=some (.slice e))(hi:P.info? e=some i)(hz:i.zero=some z)(hsz:i.size=1)
  (kl kc:IntKind) (L C:Int) (n c:Nat) (hL:L=(n:Int)) (hC:C=(c:Int)) (hnc:n<=c) (hbytes:i.bytes*c<=281474976710656) (h63:c<=9223372036854775807) (w:World) :
  (Instr.makeSlice t (.int kl L) (.int kc C)).run P w=.ok (.slice (some ⟨w.heap.size,0,none⟩) n c) (w.alloc (.cells (madeCells z.cells c) e)):=by
 subst hL hC
 have hb:(i.bytes:Int)*(c:Int)<=281474976710656:=by
  have h:((i.bytes*c:Nat):Int)<=281474976710656:=by omega
  rwa [Int.natCast_mul] at h
 have hr:=run_make (P:=P) w t e i z ht hi hz kl kc n c (by omega) (by omega) hb (by omega)
 simp only [Int.toNat_natCast,hsz,Nat.mul_one] at hr;exact hr
theorem z4d (w:World)(e:TypeId)(z:Value)(n c:Nat)(hz:z.cells=#[z])(hnc:n<=c)(hc:c<=maxLen):
  (w.alloc (.cells (madeCells z.cells c) e)).ownsRow w.heap.size e 1 (.slice (some ⟨w.heap.size,0,none⟩) n c) n (List.replicate n z):=by
 have h:=World.ownsRow_lit (base:=w.heap.size) (e:=e) (size:=1) w (madeCells z.cells c) c (zqj _) hc (by rw [size_madeCells,Nat.mul_one])
 have h2:=z3j h hnc
 rw [hz,toList_madeCells_one,List.take_replicate,Nat.min_eq_left hnc] at h2;rw [hz];exact h2
open Go.RowKit Go.Shelf
attribute [local go_sem] Oper.semAt_some
set_option linter.unusedVariables false
set_option maxRecDepth 100000
section
variable {F:Fence}{n:Nat}{P:Program}
def z0bl (B:Nat)(I X:World->Prop)(W:World):Exit->Act->World->Prop
 | .normal,_,W'=>KeepsFrom B W W'/\I W'
 | .ret,_,W'=>KeepsFrom B W W'/\X W'
 | _,_,_=>False
def z0bm (F:Fence)(m:Nat)(P:Program)(gf:Nat)(lb:Array Value)(N:Nat)(enc:Nat->Value->Array Value)(Rd:Nat->Value->World->Prop)(Bx:World->Prop):Prop:=
 ∀ (l:Nat) (J:Nat->World->Prop) (Jx:World->Prop),(∀ k W,J k W->Bx W)->(∀ k W,J k W->k<N->∃ v,Rd k v W)->
  (∀ k v W,J k W->k<N->Rd k v W->YieldAt F (m - 1) P l (enc k v) W fun e W'=>(e=.returned (.bool true)/\J (k+1) W')∨(e=.returned (.bool false)/\Jx W'))->
  ∀ W,J 0 W->CallsIn F m P gf (#[.func (.yield l) #[] #[]]++lb) W fun e W'=>(∃ v,e=.returned v)/\(J N W'∨Jx W')
theorem z7ac {g:Operand}{ps:Array Tmp}{assign body:Code}{Q:Exit->Act->World->Prop}{a:Act}{w:World}(hro:F.round=none)(h1:1<=n){gf:Nat}{lb:Array Value}(hg:a.eval g=.func (.func gf) #[] lb)(hFg:F.fn gf)
  (eg:∀ args w,(callFunc gf args).run P w=.ok (.enter gf args) w) {N:Nat} {enc:Nat->Value->Array Value} {Rd:Nat->Value->World->Prop} {Bx:World->Prop} (hseq:z0bm F (n - 1) P gf lb N enc Rd Bx) (hps:∀ k v,(enc k v).size=ps.size)
  (I:Nat->World->Prop) (X:World->Prop) (hI:OwnFrom w.heap.size I) (hX:OwnFrom w.heap.size (fun (_:Unit) W=>X W)) (hRs:∀ v,OwnFrom w.heap.size (fun k W=>Rd k v W)) (hBx:∀ k W,I k W->Bx W) (hRd:∀ k W,I k W->k<N->∃ v,Rd k v W)
  (h0:I 0 w) (a₁:Nat->Value->Act)
  (hassign:∀ (l k:Nat) (v:Value) (W:World) (K:Act->World->Prop),K (a₁ k v) W->assign.wpIn (F.inRound l) (n - 1 - 1) P (Exit.then K (fun _ _ _=>False)) { tmps:=(ps.zip (enc k v)).foldl (fun t (p,v)=>t.setIfInBounds p v) a.tmps,defers:=[] } W)
  (hbody:∀ (l k:Nat) (v:Value) (W:World),I k W->k<N->Rd k v W->body.wpIn (F.inRound l) (n - 1 - 1) P (z0bl w.heap.size (I (k+1)) X W) (a₁ k v) W)
  (hdone:∀ (D:Nat) (W:World),w.heap.size<=D->I N W->W.heap[D]?=some (.deferred (some []))->Q .normal { a with defers:={ target:=.collected D,args:=#[] } :: a.defers } W)
  (hstop:∀ (D:Nat) (W:World),w.heap.size<=D->X W->W.heap[D]?=some (.deferred (some []))->Code.ret.wpIn F n P Q { a with defers:={ target:=.collected D,args:=#[] } :: a.defers } W) :
  (Code.rangeFunc g ps assign body).wpIn F n P Q a w:=by
 refine wpIn_rangeFunc fun fn hfn=>?_
 rw [hro];obtain ⟨L,hL⟩:∃ L:LoopState->Option Code->Loop,L=fun st pe=>{ state:=st,pending:=pe,fn,tmps:=a.tmps,params:=ps,assign,body,defers:=w.heap.size }:=⟨_,rfl⟩
 have enter:=run_enterLoop_outer (P:=P) (w:=w) fn a.tmps ps assign body
 obtain ⟨Y,hY⟩:∃ Y,(w.alloc (.deferred (some []))).alloc (.loop (L .ready none))=Y:=⟨_,rfl⟩
 have enter2:(Instr.enterLoop fn a.tmps ps assign body none).run P w=.ok (w.heap.size+1,[{ target:=.collected w.heap.size,args:=#[] }]) Y:=by
  rw [enter,<- hY,hL]
 have yl:Y.heap[w.heap.size+1]?=some (.loop (L .ready none)):=by
  rw [<- hY];have:=World.alloc_heap_new (w.alloc (.deferred (some []))) (.loop (L .ready none))
  rwa [World.size_alloc] at this
 have yd:Y.heap[w.heap.size]?=some (.deferred (some [])):=by
  rw [<- hY,Below.heap_alloc _ _ _ (by simp)]
  exact World.alloc_heap_new w _
 have yI:I 0 Y:=by
  rw [<- hY];exact hI.alloc _ (hI.alloc _ h0)
 -- the call of the iterator
 refine ⟨w.heap.size+1,[{ target:=.collected w.heap.size,args:=#[] }],Y,{ target:=.fn (.func gf) lb,args:=#[.func (.yield (w.heap.size+1)) #[] #[]] },Y,gf,#[.func (.yield (w.heap.size+1)) #[] #[]]++lb,Y,enter2,?_,?_,?_,fun _=>h1,?_⟩
 ·simp only [resolve,hg];simp [go_sem]
 ·intro f' hf';simp [Target.leads] at hf'
  subst hf'
  exact hFg
 ·simp [invoke,go_sem,eg]
 refine (hseq (w.heap.size+1) (fun k W=>(I k W/\W.heap[w.heap.size]?=some (.deferred (some [])))/\W.heap[w.heap.size+1]?=some (.loop (L .ready none)))
  (fun W=>(X W/\W.heap[w.heap.size]?=some (.deferred (some [])))/\W.heap[w.heap.size+1]?=some (.loop (L .done (some .ret))))
  (fun k W h=>hBx k W h.1.1) (fun k W h=>hRd k W h.1.1) ?_ Y ⟨⟨yI,yd⟩,yl⟩).mono ?_
 ·rintro k v W ⟨⟨hi,hd⟩,hl⟩ hk hr;have hlt:w.heap.size+1<W.heap.size:=(Array.getElem?_eq_some_iff.1 hl).1
  have hy:=run_yield (P:=P) (args:=enc k v) hl (by rw [hL];exact hps k v)
  rw [hL] at hy;refine ⟨fn,_,assign,body,hy,roundIn_of_wpIn hfn (hassign _ k v W _ ⟨_,run_beginRound hl (by rw [hL]),?_⟩)⟩
  obtain ⟨B,hB⟩:∃ B,(W.putObj (w.heap.size+1) (.loop { L .ready none with state:=.busy }))=B:=⟨_,rfl⟩
  have bl:B.heap[w.heap.size+1]?=some (.loop { L .ready none with state:=.busy }):=by rw [<- hB];exact World.putObj_heap_same hlt
  have bd:B.heap[w.heap.size]?=some (.deferred (some [])):=by rw [<- hB,World.putObj_heap_other (by omega)];exact hd
  have bI:I k B:=by rw [<- hB];exact hI.putObj _ hi (by omega) hl rfl
  have bR:Rd k v B:=by rw [<- hB];exact (hRs v).putObj (s:=k) _ hr (by omega) hl rfl
  rw [hB];have out:∀ (j:Option Code) (W3:World),KeepsFrom w.heap.size B W3->∃ W4,(Instr.endRound (w.heap.size+1) j).run P W3=.ok (.bool j.isNone) W4/\W4.heap[w.heap.size]?=some (.deferred (some []))/\W4.heap[w.heap.size+1]?=some (.loop (L (if j.isNone then .ready else .done) j))/\
    (∀ k',I k' W3->I k' W4)/\(X W3->X W4):=by
   intro j W3 hk3;have l3:=hk3.same _ _ (by omega) bl rfl
   have e3:=run_endRound (P:=P) j l3
   rw [hL] at e3 l3 ⊢
   exact ⟨_,e3,(World.putObj_heap_other (by omega)).trans (hk3.same _ _ (zqj _) bd rfl),World.putObj_heap_same (Array.getElem?_eq_some_iff.1 l3).1,fun k' h=>hI.putObj _ h (by omega) l3 rfl,fun h=>hX.putObj (s:=()) _ h (by omega) l3 rfl⟩
  refine wpIn_mono (hbody _ k v B bI hk bR) ?_
  intro e a3 W3 hp;cases e with
  | normal=>
   obtain ⟨W4,e4,d4,l4,i4,_⟩:=out none W3 hp.1
   exact ⟨_,_,e4,.inl ⟨rfl,⟨i4 _ hp.2,d4⟩,l4⟩⟩
  | ret=>
   obtain ⟨W4,e4,d4,l4,_,x4⟩:=out (some .ret) W3 hp.1
   exact ⟨_,_,e4,.inr ⟨rfl,⟨x4 hp.2,d4⟩,l4⟩⟩
  | exit id=>exact hp.elim
  | goto t=>exact hp.elim
  | panic ch=>exact hp.elim
  | outgrown=>exact hp.elim
 ·rintro e W2 ⟨⟨v,rfl⟩,(⟨⟨hi,hd⟩,hl⟩|⟨⟨hx,hd⟩,hl⟩)⟩
  ·have e2:=run_endLoop (P:=P) hl (by rw [hL];simp)
   rw [hL] at e2;exact ⟨none,_,e2,hdone _ _ (zqj _) (hI.putObj _ hi (by omega) hl rfl) ((World.putObj_heap_other (by omega)).trans hd)⟩
  ·have e2:=run_endLoop (P:=P) hl (by rw [hL];simp)
   rw [hL] at e2;exact ⟨some .ret,_,e2,hstop _ _ (zqj _) (hX.putObj (s:=()) _ hx (by omega) hl rfl) ((World.putObj_heap_other (by omega)).trans hd)⟩
end
def z4h (A:Option Addr)(len k:Nat)(v:Value)(W:World):Prop:=∃ ad,A=some ad/\W.cell? (ad.add (len - 1 - k))=some v
def z4f (len k:Nat)(v:Value):Array Value:=#[.int .i64 ((len - 1 - k:Nat):Int),v]
theorem z6j (B:Nat)(A:Option Addr)(len:Nat)(v:Value):OwnFrom B (fun k W=>z4h A len k v W):=fun k W W' row h hg hr=>by
 obtain ⟨ad,e,hc⟩:=h;exact ⟨ad,e,cell_kept hc hg (fun r e=>(hr r e).2)⟩
namespace Na
set_option maxHeartbeats 2000000
def dig (x:Nat):List Nat:=if x=0 then [] else (x % 16777216) :: dig (x / 16777216)
termination_by x
decreasing_by omega
def val:List Nat->Nat
 | []=>0
 | a :: l=>a+16777216*val l
def Lim (l:List Nat):Prop:=∀ a∈l,a<16777216
theorem dig_zero:dig 0=[]:=by unfold dig;rfl
theorem dig_pos (x:Nat)(h:0<x):dig x=(x % 16777216) :: dig (x / 16777216):=by
 rw [dig,if_neg (by omega)]
theorem dig_small (x:Nat)(h:0<x)(h2:x<16777216):dig x=[x]:=by
 rw [dig_pos x h,Nat.mod_eq_of_lt h2,Nat.div_eq_of_lt h2,dig_zero]
theorem val_dig (x:Nat):val (dig x)=x:=by
 induction x using Nat.strongRecOn with
 | ind x ih=>
  rcases zqh x with rfl|h
  ·rw [dig_zero];rfl
  ·rw [dig_pos x h,val,ih _ (by omega)]
   omega
theorem dig_inj {x y:Nat}(h:dig x=dig y):x=y:=by rw [<- val_dig x,h,val_dig]
theorem dig_lim (x:Nat):Lim (dig x):=by
 induction x using Nat.strongRecOn with
 | ind x ih=>
  rcases zqh x with rfl|h
  ·rw [dig_zero];intro a ha;cases ha
  ·rw [dig_pos x h];intro a ha;rcases List.mem_cons.1 ha with rfl|ha
   ·omega
   ·exact ih _ (by omega) a ha
theorem Lim.tail {a:Nat}{l:List Nat}(h:Lim (a :: l)):Lim l:=fun b hb=>h b (List.mem_cons_of_mem _ hb)
theorem Lim.head {a:Nat}{l:List Nat}(h:Lim (a :: l)):a<16777216:=h a (List.mem_cons_self ..)
theorem Lim.at {l:List Nat}(h:Lim l){k a:Nat}(hk:l[k]?=some a):a<16777216:=h a (List.mem_of_getElem? hk)
theorem Lim.nil:Lim []:=fun a h=>by cases h
theorem Lim.cons {a:Nat}{l:List Nat}(h:a<16777216)(hl:Lim l):Lim (a :: l):=fun b hb=>by
 rcases List.mem_cons.1 hb with rfl|hb
 ·exact h
 ·exact hl b hb
theorem Lim.append {l m:List Nat}(h:Lim l)(hm:Lim m):Lim (l++m):=fun b hb=>by
 rcases List.mem_append.1 hb with hb|hb
 ·exact h b hb
 ·exact hm b hb
theorem Lim.one {a:Nat}(h:a<16777216):Lim [a]:=Lim.cons h Lim.nil
theorem Lim.take {l:List Nat}(h:Lim l)(k:Nat):Lim (l.take k):=fun b hb=>h b (List.mem_of_mem_take hb)
theorem Lim.drop {l:List Nat}(h:Lim l)(k:Nat):Lim (l.drop k):=fun b hb=>h b (List.mem_of_mem_drop hb)
theorem Lim.set {l:List Nat}(h:Lim l)(k:Nat){a:Nat}(ha:a<16777216):Lim (l.set k a):=fun b hb=>by
 rcases List.mem_or_eq_of_mem_set hb with hb|rfl
 ·exact h b hb
 ·exact ha
theorem Lim.zeros (n:Nat):Lim (List.replicate n 0):=fun b hb=>by
 have:=List.eq_of_mem_replicate hb
 omega
theorem val_lt {l:List Nat}(h:Lim l):val l<16777216 ^ l.length:=by
 induction l with
 | nil=>simp [val]
 | cons a l ih=>
  have h1:=ih h.tail
  have h2:=h.head;rw [val,List.length_cons,Nat.pow_succ];omega
theorem val_append (l m:List Nat):val (l++m)=val l+16777216 ^ l.length*val m:=by
 induction l with
 | nil=>simp [val]
 | cons a l ih=>
  rw [zqb,val,val,ih,List.length_cons,Nat.pow_succ,zqt,<- zqs,Nat.mul_comm 16777216 (16777216 ^ l.length)]
  omega
theorem val_snoc (l:List Nat)(a:Nat):val (l++[a])=val l+16777216 ^ l.length*a:=by
 rw [val_append];simp [val]
theorem val_zeros (n:Nat):val (List.replicate n 0)=0:=by
 induction n with
 | zero=>rfl
 | succ n ih=>rw [List.replicate_succ,val,ih]
theorem val_split (l:List Nat)(k:Nat)(h:k<=l.length):val l=val (l.take k)+16777216 ^ k*val (l.drop k):=by
 have h1:=val_append (l.take k) (l.drop k)
 rw [List.take_append_drop,zqw,Nat.min_eq_left h] at h1;exact h1
theorem val_take_succ (l:List Nat)(k a:Nat)(h:l[k]?=some a):val (l.take (k+1))=val (l.take k)+16777216 ^ k*a:=by
 have hlt:k<l.length:=by
  rcases zqi k l.length with h1|h1
  ·exact h1
  ·rw [List.getElem?_eq_none h1] at h;cases h
 rw [List.take_add_one,h,Option.toList_some,val_snoc,zqw,Nat.min_eq_left (by omega)]
theorem val_drop_cons (l:List Nat)(k a:Nat)(h:l[k]?=some a):val (l.drop k)=a+16777216*val (l.drop (k+1)):=by
 have hlt:k<l.length:=by
  rcases zqi k l.length with h1|h1
  ·exact h1
  ·rw [List.getElem?_eq_none h1] at h;cases h
 have ha:l[k]=a:=by rw [zql hlt] at h;exact zqk h
 rw [List.drop_eq_getElem_cons hlt,val,ha]
theorem val_set (l:List Nat)(k a b:Nat)(h:l[k]?=some a):val (l.set k b)+16777216 ^ k*a=val l+16777216 ^ k*b:=by
 induction l generalizing k with
 | nil=>simp at h
 | cons c l ih=>
  cases k with
  | zero=>
   have hc:c=a:=by simpa using h
   subst hc
   simp [val]
   omega
  | succ k=>
   have h1:=ih k (by simpa using h)
   rw [zqe,val,val,Nat.pow_succ,Nat.mul_comm (16777216 ^ k) 16777216,zqs,zqs]
   omega
def tl (l:List Nat):Nat->Nat
 | 0=>0
 | n+1=>if l[n]?=some 0 then tl l n else n+1
theorem tl_le (l:List Nat):∀ n,tl l n<=n:=by
 intro n
 induction n with
 | zero=>exact zqj _
 | succ n ih=>
  unfold tl;split
  ·omega
  ·exact zqj _
theorem tl_zero (l:List Nat)(n:Nat)(h:l[n]?=some 0):tl l (n+1)=tl l n:=by rw [tl,if_pos h]
theorem tl_stop (l:List Nat)(n:Nat)(h:l[n]?≠some 0):tl l (n+1)=n+1:=by rw [tl,if_neg h]
theorem tl_last (l:List Nat):∀ n,tl l n=0∨l[tl l n - 1]?≠some 0:=by
 intro n
 induction n with
 | zero=>exact .inl rfl
 | succ n ih=>
  by_cases h:l[n]?=some 0
  ·rw [tl_zero l n h];exact ih
  ·rw [tl_stop l n h];exact .inr h
theorem val_tl (l:List Nat):∀ n,n<=l.length->val (l.take (tl l n))=val (l.take n):=by
 intro n
 induction n with
 | zero=>intro _;rfl
 | succ n ih=>
  intro hn;by_cases h:l[n]?=some 0
  ·rw [tl_zero l n h,ih (by omega),val_take_succ l n 0 h,Nat.mul_zero,Nat.add_zero]
  ·rw [tl_stop l n h]
def trim (l:List Nat):List Nat:=l.take (tl l l.length)
theorem trim_length (l:List Nat):(trim l).length=tl l l.length:=by
 unfold trim;rw [zqw];have:=tl_le l l.length
 omega
theorem dig_val {l:List Nat}(h:Lim l)(h0:l.length=0∨l[l.length - 1]?≠some 0):dig (val l)=l:=by
 induction l with
 | nil=>exact dig_zero
 | cons a l ih=>
  have ha:=h.head;rw [val];cases l with
  | nil=>
   have:a≠0:=by simpa using h0
   rw [show a+16777216*val []=a from by simp [val]]
   exact dig_small a (by omega) ha
  | cons b l=>
   have h1:(b :: l).length=0∨(b :: l)[(b :: l).length - 1]?≠some 0:=by
    right
    rcases h0 with h0|h0
    ·simp at h0
    ·simpa using h0
   have h2:=ih h.tail h1
   have hv:val (b :: l)≠0:=by
    intro e;rw [e,dig_zero] at h2;cases h2
   rw [dig_pos _ (by omega),show (a+16777216*val (b :: l)) / 16777216=val (b :: l) by omega,show (a+16777216*val (b :: l)) % 16777216=a by omega,h2]
theorem dig_last (x:Nat):(dig x).length=0∨(dig x)[(dig x).length - 1]?≠some 0:=by
 induction x using Nat.strongRecOn with
 | ind x ih=>
  rcases zqh x with rfl|h
  ·left;rw [dig_zero];rfl
  ·right
   have h1:=ih (x / 16777216) (by omega)
   rw [dig_pos x h];rcases h1 with h1|h1
   ·have h2:dig (x / 16777216)=[]:=List.eq_nil_of_length_eq_zero h1
    have h3:x / 16777216=0:=by rw [<- val_dig (x / 16777216),h2];rfl
    rw [h2];simp
    omega
   ·cases hd:dig (x / 16777216) with
    | nil=>
     have h3:x / 16777216=0:=by rw [<- val_dig (x / 16777216),hd];rfl
     simp
     omega
    | cons b l=>
     rw [hd] at h1;simpa using h1
theorem trim_dig {l:List Nat}(h:Lim l):trim l=dig (val l):=by
 have h1:=val_tl l l.length (zqj _)
 rw [List.take_length] at h1;have h2:(trim l).length=0∨(trim l)[(trim l).length - 1]?≠some 0:=by
  rw [trim_length];rcases tl_last l l.length with h2|h2
  ·exact .inl h2
  ·rcases zqh (tl l l.length) with h3|h3
   ·exact .inl h3
   ·right
    unfold trim;rw [List.getElem?_take,if_pos (by omega)]
    exact h2
 have h3:=dig_val (h.take (tl l l.length)) h2
 have h4:val (l.take (tl l l.length))=val l:=h1
 rw [h4] at h3;exact h3.symm
theorem trim_len {l:List Nat}(h:Lim l):tl l l.length=(dig (val l)).length:=by rw [<- trim_dig h,trim_length]
theorem dig_len_le {x n:Nat}(h:x<16777216 ^ n):(dig x).length<=n:=by
 induction n generalizing x with
 | zero=>
  have:x=0:=by simpa using h
  rw [this,dig_zero];exact zqj _
 | succ n ih=>
  rcases zqh x with rfl|h0
  ·rw [dig_zero];exact zqr _
  ·rw [dig_pos x h0,List.length_cons];have:=ih (x:=x / 16777216) (by rw [Nat.pow_succ] at h;omega)
   omega
theorem dig_len_ge {x n:Nat}(h:16777216 ^ n<=x):n<(dig x).length:=by
 rcases zqi n (dig x).length with h1|h1
 ·exact h1
 ·have h2:=val_lt (dig_lim x)
  rw [val_dig] at h2;have h3:=Nat.pow_le_pow_right (show 0<16777216 by omega) h1
  omega
theorem dig_len_iff (x n:Nat):(dig x).length<=n↔x<16777216 ^ n:=by
 constructor
 ·intro h;rcases zqi x (16777216 ^ n) with h1|h1
  ·exact h1
  ·have:=dig_len_ge h1
   omega
 ·exact dig_len_le
theorem dig_len_mono {x y:Nat}(h:x<=y):(dig x).length<=(dig y).length:=
 dig_len_le (zqu h (by have:=val_lt (dig_lim y);rwa [val_dig] at this))
theorem dig_len0 {x:Nat}:(dig x).length=0↔x=0:=by
 constructor
 ·intro h;have h1:dig x=[]:=List.eq_nil_of_length_eq_zero h
  rw [<- val_dig x,h1];rfl
 ·rintro rfl;rw [dig_zero];rfl
theorem dig_low (x k:Nat)(h:k+1=(dig x).length):16777216 ^ k<=x:=by
 rcases zqi x (16777216 ^ k) with h1|h1
 ·have:=dig_len_le h1
  omega
 ·exact h1
def top:Nat:=16777216 ^ 200
theorem dig_200 (x:Nat):(dig x).length<=200↔x<top:=dig_len_iff x 200
def sgn (x y:Nat):Int:=if x<y then -1 else if y<x then 1 else 0
theorem sgn_lt {x y:Nat}(h:x<y):sgn x y=-1:=by unfold sgn;rw [if_pos h]
theorem sgn_gt {x y:Nat}(h:y<x):sgn x y=1:=by unfold sgn;rw [if_neg (by omega),if_pos h]
theorem sgn_eq {x y:Nat}(h:x=y):sgn x y=0:=by unfold sgn;rw [if_neg (by omega),if_neg (by omega)]
theorem sgn_cases (x y:Nat):(x<y/\sgn x y=-1)∨(x=y/\sgn x y=0)∨(y<x/\sgn x y=1):=by
 rcases Nat.lt_trichotomy x y with h|h|h
 ·exact .inl ⟨h,sgn_lt h⟩
 ·exact .inr (.inl ⟨h,sgn_eq h⟩)
 ·exact .inr (.inr ⟨h,sgn_gt h⟩)
theorem sgn_len {x y:Nat}(h:(dig x).length<(dig y).length):x<y:=by
 rcases zqi x y with h1|h1
 ·exact h1
 ·have:=dig_len_mono h1
  omega
theorem val_cmp {l m:List Nat}(hl:Lim l)(hm:Lim m)(i a b:Nat)(h1:l[i]?=some a)(h2:m[i]?=some b)(h3:l.drop (i+1)=m.drop (i+1))(hab:a<b):val l<val m:=by
 have hlt:i<l.length:=by
  rcases zqi i l.length with h|h
  ·exact h
  ·rw [List.getElem?_eq_none h] at h1;cases h1
 have hlt2:i<m.length:=by
  rcases zqi i m.length with h|h
  ·exact h
  ·rw [List.getElem?_eq_none h] at h2;cases h2
 have e1:=val_split l (i+1) (by omega)
 have e2:=val_split m (i+1) (by omega)
 rw [val_take_succ l i a h1] at e1;rw [val_take_succ m i b h2] at e2;rw [h3] at e1;have e3:=val_lt (hl.take i)
 rw [zqw,Nat.min_eq_left (by omega)] at e3
 have e4:16777216 ^ i*(a+1)<=16777216 ^ i*b:=Nat.mul_le_mul_left _ hab
 rw [zqt,Nat.mul_one] at e4;omega
def lim (z:Int):Bool:=decide (0<=z) && decide (z<16777216)
def vld (zs:List Int):Bool:=zs.all lim && (decide (zs.length<=200) && (zs.getLast? != some 0))
def up (l:List Nat):List Int:=l.map Int.ofNat
theorem up_length (l:List Nat):(up l).length=l.length:=List.length_map _
theorem z3bl (l:List Nat)(k:Nat):(up l)[k]?=(l[k]?).map Int.ofNat:=by unfold up;rw [List.getElem?_map]
theorem z9bg {zs:List Int}(h:zs.all lim=true):∃ l,zs=up l/\Lim l:=by
 induction zs with
 | nil=>exact ⟨[],rfl,Lim.nil⟩
 | cons z zs ih=>
  rw [List.all_cons,Bool.and_eq_true] at h;obtain ⟨l,rfl,hl⟩:=ih h.2
  have h1:0<=z/\z<16777216:=by
   have:=h.1
   unfold lim at this;simpa using this
  obtain ⟨a,rfl⟩:=Int.eq_ofNat_of_zero_le h1.1
  exact ⟨a :: l,rfl,Lim.cons (by omega) hl⟩
theorem vld_dig {x:Nat}(h:x<top):vld (up (dig x))=true:=by
 have h1:=dig_last x
 have h2:=(dig_200 x).2 h
 unfold vld;rw [Bool.and_eq_true,Bool.and_eq_true];refine ⟨?_,by rw [up_length];exact zt h2,?_⟩
 ·rw [List.all_eq_true];intro z hz;unfold up at hz;obtain ⟨a,ha,rfl⟩:=List.mem_map.1 hz
  have:=dig_lim x a ha
  unfold lim;rw [Bool.and_eq_true];exact ⟨zt (Int.natCast_nonneg a),zt (by show (a:Int)<_;omega)⟩
 ·rw [bne_iff_ne,List.getLast?_eq_getElem?,z3bl,up_length];intro e;rcases h1 with h1|h1
  ·rw [List.getElem?_eq_none (by omega)] at e
   cases e
  ·cases hx:(dig x)[(dig x).length - 1]? with
   | none=>rw [hx] at e;cases e
   | some a=>
    rw [hx] at e h1;simp at e
    simp at h1
    exact h1 e
theorem vld_ex {zs:List Int}(h:vld zs=true):∃ x,x<top/\zs=up (dig x):=by
 unfold vld at h;rw [Bool.and_eq_true,Bool.and_eq_true] at h;obtain ⟨h1,h2,h3⟩:=h;obtain ⟨l,rfl,hl⟩:=z9bg h1
 have h4:dig (val l)=l:=by
  refine dig_val hl ?_
  rcases zqh l.length with h|h
  ·exact .inl h
  ·right
   intro e;rw [bne_iff_ne,List.getLast?_eq_getElem?,z3bl,up_length,e] at h3;exact h3 rfl
 refine ⟨val l,?_,by rw [h4]⟩
 rw [<- dig_200,h4];have:=of_decide_eq_true h2
 rwa [up_length] at this
end Na
theorem z6b {k:IntKind}{a b:Int}(h:a=b):Ending.returned (.int k a)=.returned (.int k b):=by rw [h]
theorem z7bc (n m:Int)(h:1<=m)(h':n.tmod m<0):n.tmod m+m=n % m:=by
 have h1:=Int.tmod_eq_emod (a:=n) (b:=m)
 have h2:=Int.emod_nonneg n (show m≠0 by omega)
 have h3:=Int.emod_lt_of_pos n (show 0<m by omega)
 split at h1 <;> omega
theorem z2bo (n m:Int)(h:1<=m)(h':0<=n.tmod m):n.tmod m=n % m:=by
 have h1:=Int.tmod_eq_emod (a:=n) (b:=m)
 have h2:=Int.emod_nonneg n (show m≠0 by omega)
 have h3:=Int.emod_lt_of_pos n (show 0<m by omega)
 split at h1
 ·omega
 ·rename_i h4
  have:(m.natAbs:Int)=m:=by omega
  omega
theorem z4bw (n m:Int)(h:1<=m): - m<n.tmod m/\n.tmod m<m:=by
 have h1:=Int.tmod_eq_emod (a:=n) (b:=m)
 have h2:=Int.emod_nonneg n (show m≠0 by omega)
 have h3:=Int.emod_lt_of_pos n (show 0<m by omega)
 have h5:(m.natAbs:Int)=m:=by omega
 split at h1
 ·omega
 ·rename_i h4
  rw [Int.dvd_iff_emod_eq_zero] at h4;omega
theorem z8ar (n m:Int)(w:World)(h1:1<=m)(h2:m<=9223372036854775807):Calls Tryz.prog 14 #[.int .i64 n,.int .i64 m] w fun e w'=>e=.returned (.int .i64 (n % m))/\w=w':=by
 obtain ⟨hb,hb'⟩:=z4bw n m h1
 rcases Int.lt_or_le (n.tmod m) 0 with hn|hn
 ·have H:=zh (z7bc n m h1 hn)
  go_enter Tryz.func14,Tryz.ntmps14
  go_wp2_with fail;go_ret;exact ⟨z6b H.out,rfl⟩
 ·have H:=zh (z2bo n m h1 hn)
  go_enter Tryz.func14,Tryz.ntmps14
  go_wp2_with fail;go_ret;exact ⟨z6b H.out,rfl⟩
def encI (n:Int):Value:=.int .i64 n
def z0p (l:List Int):List Value:=l.map encI
theorem z0s (l:List Int):(z0p l).length=l.length:=List.length_map _
theorem Sl.int {w:World}{B:Nat}{A:Option Addr}{l:List Int}(h:Sl w B A (z0p l)){k:Nat}{b:Int}(hk:l[k]?=some b):∃ ad,A=some ad/\ad.block<B/\w.cell? (ad.add k)=some (.int .i64 b):=by
 have hlt:k<l.length:=by
  rcases zqi k l.length with h|h
  ·exact h
  ·rw [List.getElem?_eq_none h] at hk;cases hk
 obtain ⟨ad,e,hb,hc⟩:=h (by rw [z0s];omega)
 exact ⟨ad,e,hb,hc k _ (by unfold z0p;rw [List.getElem?_map,hk];rfl)⟩
theorem z8i (l:List Int)(k:Nat)(h:k<l.length):∃ b:Int,l[k]?=some b:=⟨_,zql h⟩
def Dice (w:World)(g B:Nat):Prop:=
 ∃ (A:Option Addr) (n c at_:Nat) (ts:List Int),w.heap[g]?=some (.cells #[.slice A n c,.int .i64 at_] 67 (0,0))/\ts.length=n/\at_<=n/\n<=140737488355328/\Sl w B A (z0p ts)/\B<=g
theorem Dice.lt {w:World}{g B:Nat}(h:Dice w g B):g<w.heap.size:=by
 obtain ⟨A,n,c,at_,ts,hh,_⟩:=h;rcases zqi g w.heap.size with hlt|hge
 ·exact hlt
 ·rw [Array.getElem?_eq_none hge] at hh;cases hh
theorem Dice.keep {w w':World}{g B:Nat}(h:Dice w g B)(hk:∀ b,b<=g->w'.heap[b]?=w.heap[b]?):Dice w' g B:=by
 obtain ⟨A,n,c,at_,ts,hh,h1,h2,h3,hs,hB⟩:=h;exact ⟨A,n,c,at_,ts,(hk g (zqj _)).trans hh,h1,h2,h3,hs.keep fun p hp=>World.cell?_of_block (hk p.block (by omega)),hB⟩
theorem Dice.below {w w':World}{g B:Nat}(h:Dice w g B)(hb:Below w.heap.size w w'):Dice w' g B:=h.keep fun b hb'=>hb.block b (by have:=h.lt;omega)
theorem Dice.drewN {w:World}{g B:Nat}(h:Dice w g B)(k:Nat):Dice (w.drewN k) g B:=h
theorem Dice.drew {w:World}{g B:Nat}(h:Dice w g B):Dice w.drew g B:=h
theorem Dice.grown {w w':World}{g B:Nat}(h:Dice w g B){row:Option Nat}(hg:w.grownBy w' row)(hr:∀ k,row=some k->g<k):Dice w' g B:=h.keep fun b hb'=>hg.block b (by have:=h.lt;omega) (fun e=>by have:=hr b e.symm;omega)
theorem z0am (A:Option Addr)(n c:Nat)(w:World)(hl:n<=9223372036854775807):Calls Tryz.prog 8 #[.slice A n c] w fun e w'=>e=.returned (.bool (decide ((n:Int)<=400)))/\w=w':=by
 go_enter Tryz.func8,Tryz.ntmps8
 go_wp2_with fail;go_ret;exact ⟨rfl,rfl⟩
def Gave (w:World)(g B:Nat)(m:Int)(e:Ending)(w':World):Prop:=∃ r:Int,e=.returned (.int .i64 r)/\0<=r/\r<m/\Dice w' g B/\w.grownBy w' (some g)
theorem z2bh (g B:Nat)(m:Int)(w:World)(hm:1<=m)(hm2:m<=9223372036854775807)(hd:Dice w g B):Calls Tryz.prog 32 #[.pointer (some ⟨g,0,none⟩),.int .i64 m] w (Gave w g B m):=by
 obtain ⟨A,n,c,k,ts,hh,hts,hk,hn,hs,hB⟩:=hd;have hc0:w.cell? ⟨g,0,none⟩=some (.slice A n c):=cell_of_row w g 0 _ _ _ hh
 have hc1:w.cell? ⟨g,1,none⟩=some (.int .i64 k):=cell_of_row w g 1 _ _ _ hh
 have hf1:w.frozen? ⟨g,1,none⟩=false:=frozen_of_row w g 1 _ _ hh
 have HD:Hid (Dice w g B):=⟨A,n,c,k,ts,hh,hts,hk,hn,hs,hB⟩
 rcases zqi k n with hlt|hge
 ·obtain ⟨x,hx⟩:=z8i ts k (by omega)
  obtain ⟨ad,rfl,hbk,hcx⟩:=hs.int hx
  have hcx':(w.setCell ⟨g,1,none⟩ (.int .i64 ((k:Int)+1))).cell? (ad.add k)=some (.int .i64 x):=by
   rw [World.cell?_setCell_other _ _ _ _ (fun e=>by have:=congrArg Addr.block e;rw [z1d] at this;simp at this;omega)]
   exact hcx
  have HD1:Hid (Dice (w.setCell ⟨g,1,none⟩ (.int .i64 ((k:Int)+1))) g B):=
   ⟨some ad,n,c,k+1,ts,by rw [heap_setCell_same w g 1 _ _ _ hh];rfl,hts,by omega,hn,hs.below ((Below.refl B w).setCell (p:=⟨g,1,none⟩) hB _),hB⟩
  have HG:Hid (w.grownBy (w.setCell ⟨g,1,none⟩ (.int .i64 ((k:Int)+1))) (some g)):=
   ⟨rfl,rfl,rfl,by simp [World.setCell],fun i hi hne=>Below.heap_setCell _ _ _ _ (fun e=>hne (by rw [e]))⟩
  have hc0':(w.setCell ⟨g,1,none⟩ (.int .i64 ((k:Int)+1))).cell? ⟨g,0,none⟩=some (.slice (some ad) n c):=by
   rw [World.cell?_setCell_other _ _ _ _ (by simp)]
   exact hc0
  have hc1':(w.setCell ⟨g,1,none⟩ (.int .i64 ((k:Int)+1))).cell? ⟨g,1,none⟩=some (.int .i64 ((k:Int)+1)):=World.cell?_setCell_same' _ _ _ (by rw [hc1];rfl)
  have HF:Hid (∀ nq:Nat,∃ w2,((w.drewN nq).setCell ⟨g,1,none⟩ (.int .i64 ((k:Int)+1)))=w2/\w2.cell? ⟨g,0,none⟩=some (.slice (some ad) n c)/\w2.cell? ⟨g,1,none⟩=some (.int .i64 ((k:Int)+1))/\w2.cell? (ad.add k)=some (.int .i64 x)/\Hid (Dice w2 g B)/\Hid (w.grownBy w2 (some g))):=
   fun nq=>⟨_,rfl,hc0',hc1',hcx',HD1.drewN nq,z5l HG nq⟩
  clear hh hts hx hs hcx HD hc0' hc1' hcx' HD1 HG;go_enter Tryz.func32,Tryz.ntmps32
  go_wp2_with fail;go_quiet (fail)
  go_wp2_with fail;obtain ⟨w2,hw2,d0,d1,dx,HD,HG⟩:=HF.out nq
  rw [hw2];clear hw2 hc0 hc1 hf1 HF;have s1:IntKind.i64.wrap (k:Int)=(k:Int):=IntWalk.i64_in _ (by omega)
  have s2:(k:Int)<n:=by omega
  go_quiet ((go_at_call 14;with_reducible exact z4ax (z8ar _ _ _ hm hm2)))
  go_wp2_with fail;go_ret;exact ⟨x % m,rfl,Int.emod_nonneg _ (by omega),Int.emod_lt_of_pos _ (by omega),HD.out.drewN _,z5l HG.out _⟩
 ·have hz:(n:Int)<=(k:Int):=by omega
  have hz':decide (n<=k)=true:=zt hge
  clear hh hts hs hge;go_enter Tryz.func32,Tryz.ntmps32
  go_wp2_with fail;go_quiet (fail)
  go_wp2_with fail;go_ret;exact ⟨0,rfl,Int.le_refl _,by omega,HD.out.drewN _,z5l (World.grownBy.refl _ _) _⟩
theorem z6m (n:Int):bits .and .i64 n 16777215=n % 16777216:=by
 have hm:(BitVec.ofInt 64 16777215).toNat=2 ^ 24 - 1:=by decide
 have key:(BitVec.ofInt 64 n &&& BitVec.ofInt 64 16777215).toNat=(n % ((2 ^ 64:Nat):Int)).toNat % 2 ^ 24:=by
  rw [BitVec.toNat_and,BitVec.toNat_ofInt,hm,Nat.and_two_pow_sub_one_eq_mod]
 show IntKind.i64.wrap ((BitVec.ofInt 64 n &&& BitVec.ofInt 64 16777215).toNat:Nat)=n % 16777216
 rw [key,IntKind.wrap_i64];omega
def encN (n:Nat):Value:=.int .i64 n
def z0c (l:List Nat):List Value:=l.map encN
theorem z0e (l:List Nat):(z0c l).length=l.length:=List.length_map _
theorem z3k (l:List Nat):∀ u∈z0c l,u.oneCell'=true:=by
 intro u hu;obtain ⟨b,_,rfl⟩:=List.mem_map.1 hu
 rfl
theorem z0g (l:List Nat):z0p (Na.up l)=z0c l:=by unfold z0p Na.up z0c;rw [List.map_map];rfl
theorem z3f (l:List Nat)(k:Nat):(z0c l).take k=z0c (l.take k):=by simp [z0c,List.map_take]
theorem z1a (l:List Nat)(b:Nat):z0c l++[.int .i64 b]=z0c (l++[b]):=by simp [z0c,encN]
theorem z1s (l:List Nat)(k b:Nat):(z0c l).set k (.int .i64 b)=z0c (l.set k b):=by unfold z0c;rw [List.map_set];rfl
theorem z7j (l m:List Nat):z0c (l++m)=z0c l++z0c m:=by simp [z0c]
theorem z0d {α:Type}{l:List α}{k:Nat}{b:α}(hk:l[k]?=some b):k<l.length:=by
 rcases zqi k l.length with h|h
 ·exact h
 ·rw [List.getElem?_eq_none h] at hk;cases hk
theorem Sl.nat {w:World}{B:Nat}{A:Option Addr}{l:List Nat}(h:Sl w B A (z0c l)){k:Nat}{b:Nat}(hk:l[k]?=some b):∃ ad,A=some ad/\ad.block<B/\w.cell? (ad.add k)=some (.int .i64 b):=by
 have hlt:=z0d hk
 obtain ⟨ad,e,hb,hc⟩:=h (by rw [z0e];omega)
 exact ⟨ad,e,hb,hc k _ (by unfold z0c;rw [List.getElem?_map,hk];rfl)⟩
theorem z1b {w:World}{base n c g:Nat}{e:TypeId}{l:List Nat}(h:w.ownsRow base e 1 (.slice (some ⟨g,0,none⟩) n c) n (z0c l)){k:Nat}{b:Nat}(hk:l[k]?=some b):w.cell? ⟨g,k,none⟩=some (.int .i64 b):=by
 have hl:=z1m h
 rw [z0e] at hl;have hlt:=z0d hk
 rw [h.cellAt k (by omega)]
 unfold z0c;rw [List.getElem?_map,hk];rfl
theorem z0m (l:List Nat)(k:Nat)(h:k<l.length):∃ b:Nat,l[k]?=some b:=⟨_,zql h⟩
theorem z1cd {W w1:World}(hb:Below W.heap.size W w1):(∀ b o,b<W.heap.size->w1.cell? ⟨b,o,none⟩=W.cell? ⟨b,o,none⟩)/\(∀ b o,b<W.heap.size->w1.frozen? ⟨b,o,none⟩=W.frozen? ⟨b,o,none⟩):=
 ⟨fun b o h=>hb.cell (p:=⟨b,o,none⟩) h,fun b o h=>hb.frozen (p:=⟨b,o,none⟩) h⟩
theorem z4y:(Tryz.prog.info? 3).map (fun i=>(i.zero,i.size,i.bytes))=some (some (.int .i64 0),1,8):=by kernel_rfl
def z3m (w:World)(l:List Nat)(err:Int)(en:Ending)(w':World):Prop:=
 ∃ (A:Option Addr) (n c:Nat),en=.returned (.tuple #[.agg #[.slice A n c],.int .i64 err])/\l.length=n/\w'.ownsRow w.heap.size 3 1 (.slice A n c) n (z0c l)/\Below w.heap.size w w'
theorem z0y (w w':World)(err:Int)(h:Below w.heap.size w w'):z3m w [] err (.returned (.tuple #[.agg #[.slice none 0 0],.int .i64 err])) w':=⟨none,0,0,rfl,rfl,World.ownsRow_nil _ _ _ _,h⟩
def z4ao (w:World)(l:List Nat)(en:Ending)(w':World):Prop:=
 ∃ (A:Option Addr) (n c:Nat),en=.returned (.slice A n c)/\l.length=n/\w'.ownsRow w.heap.size 3 1 (.slice A n c) n (z0c l)/\Below w.heap.size w w'
namespace Na
set_option maxHeartbeats 2000000
theorem vld_bad (zs:List Int)(k:Nat)(z:Int)(hz:zs[k]?=some z)(h:lim z=false):vld zs=false:=by
 unfold vld;have:zs.all lim=false:=by
  rw [List.all_eq_false];exact ⟨z,List.mem_of_getElem? hz,by rw [h];exact Bool.false_ne_true⟩
 rw [this,Bool.false_and]
theorem all_take (zs:List Int)(k:Nat)(z:Int)(hz:zs[k]?=some z)(h:(zs.take k).all lim=true)(h1:lim z=true):(zs.take (k+1)).all lim=true:=by
 rw [List.take_add_one,hz,List.all_append,h];simp [h1]
theorem vld_long (zs:List Int)(h:200<zs.length):vld zs=false:=by
 unfold vld;rw [zn (by omega)]
 simp
theorem vld_nil:vld []=true:=by rfl
theorem vld_end (zs:List Int)(z:Int)(h:zs.all lim=true)(h2:zs.length<=200)(h3:zs[zs.length - 1]?=some z):vld zs=(z != 0):=by
 unfold vld;rw [h,zt h2,List.getLast?_eq_getElem?,h3,Bool.eq_iff_iff];simp
theorem lim_lo {z:Int}(h:z<0):lim z=false:=by unfold lim;rw [zn (by omega),Bool.false_and]
theorem lim_hi {z:Int}(h:16777216<=z):lim z=false:=by unfold lim;rw [zn (p:=z<16777216) (by omega),Bool.and_false]
theorem lim_ok {z:Int}(h:0<=z)(h2:z<16777216):lim z=true:=by unfold lim;rw [zt h,zt h2];rfl
end Na
theorem z0i (w:World)(o:Obj):Below w.heap.size w (w.alloc o):=(Below.refl _ _).alloc (zqj _) _
theorem z4u (A:Option Addr)(n c B:Nat)(zs:List Int)(w:World)(hn:zs.length=n)(hs:Sl w B A (z0p zs))(hB:B<=w.heap.size)(hl:n<=140737488355328):
  Calls Tryz.prog 84 #[.agg #[.slice A n c]] w fun e w'=>e=.returned (.bool (Na.vld zs))/\Below w.heap.size w w':=by
 have HN:=zh hn;have HS:=zh ((hs.more hB).alloc (zqj _) (.cells #[.slice A n c] 25))
 have HB:=zh (z0i w (.cells #[.slice A n c] 25))
 clear hs hn;go_enter Tryz.func84,Tryz.ntmps84
 go_wp2_with fail;go_loop [4,9] (fun x v=>∃ k:Nat,k<=n/\v=.int .i64 k/\Hid ((zs.take k).all Na.lim=true)) (fun _ v=>n - (intOf v).toNat)
 case atStart=>exact ⟨0,zqr _,rfl,rfl⟩
 case round=>
  obtain ⟨k,hk,rfl,HA⟩:=hrel;rcases zqi k n with hkn|hkn
  ·obtain ⟨z,hz⟩:=z8i zs k (by rw [HN.out];exact hkn)
   obtain ⟨ad,rfl,hbk,hc⟩:=HS.out.int hz
   have HZ:=zh hz;clear hz;by_cases h0:z<0
   ·have HR:=zh (Na.vld_bad zs k z HZ.out (Na.lim_lo h0))
    go_wp2_with fail;go_ret;exact ⟨z2i HR.out.symm,HB.out⟩
   ·have h0':0<=z:=by omega
    clear h0;by_cases h1:z<16777216
    ·have HA2:=zh (Na.all_take zs k z HZ.out HA.out (Na.lim_ok h0' h1))
     go_wp2_with fail;go_round
     case rel=>exact ⟨k+1,by omega,by go_num,HA2⟩
     case measure=>simp [intOf];omega
    ·have h1':16777216<=z:=by omega
     have HR:=zh (Na.vld_bad zs k z HZ.out (Na.lim_hi h1'))
     clear h1;go_wp2_with fail;go_ret;exact ⟨z2i HR.out.symm,HB.out⟩
  ·obtain rfl:k=n:=by omega
   have HA2:Hid (zs.all Na.lim=true):=by
    have:=HA.out
    rw [<- HN.out,List.take_length] at this;exact this
   clear HA;rcases zqi 200 k with h2|h2
   ·have HR:=zh (Na.vld_long zs (by rw [HN.out];exact h2))
    go_wp2_with fail;go_ret;exact ⟨z2i HR.out.symm,HB.out⟩
   ·rcases zqh k with h3|h3
    ·have hz:zs=[]:=List.eq_nil_of_length_eq_zero (by rw [HN.out,h3])
     have HR:Hid (Na.vld zs=true):=by rw [hz];exact Na.vld_nil
     clear hz;subst h3
     go_wp2_with fail;go_ret;exact ⟨z2i HR.out.symm,HB.out⟩
    ·obtain ⟨z,hz⟩:=z8i zs (k - 1) (by rw [HN.out];omega)
     obtain ⟨ad,rfl,hbk,hc⟩:=HS.out.int hz
     have HR:=zh (Na.vld_end zs z HA2.out (by rw [HN.out];exact h2) (by rw [HN.out];exact hz))
     have hne:=z8t h3
     clear hz;go_wp2_with fail;go_ret;exact ⟨z2i HR.out.symm,HB.out⟩
theorem z3w (A:Option Addr)(n c B:Nat)(l:List Nat)(w:World)(hn:l.length=n)(hs:Sl w B A (z0c l))(hnc:n<=c)(hl:n<=140737488355328):
  Calls Tryz.prog 137 #[.slice A n c] w fun e w'=>e=.returned (.slice A (Na.tl l n) c)/\w=w':=by
 go_enter Tryz.func137,Tryz.ntmps137
 go_wp2_with fail;go_loop [0] (fun v=>∃ k:Nat,k<=n/\v=.slice A k c/\Hid (Na.tl l k=Na.tl l n)) (fun v=>slen v)
 case atStart=>exact ⟨n,zqj _,rfl,rfl⟩
 case round=>
  obtain ⟨k,hk,rfl,HT⟩:=hrel;rcases zqh k with rfl|hk0
  ·go_wp2_with fail;go_ret;have:=HT.out
   exact ⟨by rw [<- this];rfl,rfl⟩
  ·have hd:decide (0<(k:Int))=true:=zt (by omega)
   obtain ⟨b,hb⟩:=z0m l (k - 1) (by omega)
   obtain ⟨ad,rfl,hbk,hc⟩:=hs.nat hb
   by_cases hb0:b=0
   ·have ht:Hid (Na.tl l (k - 1)=Na.tl l n):=by
     unfold Hid;rw [<- HT.out,<- Na.tl_zero l (k - 1) (by rw [hb,hb0]),show k - 1+1=k from by omega]
    subst hb0
    clear hb;go_wp2_with fail;go_round
    case rel=>exact ⟨k - 1,by omega,rfl,ht⟩
    case measure=>simp [slen];omega
   ·have ht:Hid (Na.tl l n=k):=by
     unfold Hid;rw [<- HT.out,show k=k - 1+1 from by omega]
     exact Na.tl_stop l (k - 1) (by rw [hb];intro e;exact hb0 (zqk e))
    have hne:((b:Int) == 0)=false:=by rw [beq_eq_false_iff_ne];omega
    clear hb hb0;go_wp2_with fail;go_ret;exact ⟨by rw [ht.out];rfl,rfl⟩
def z4j (x:Nat):List Nat:=if x<Na.top then Na.dig x else []
def z3v (x:Nat):Int:=if x<Na.top then 0 else 3
theorem z1t {x:Nat}(h:x<Na.top):z4j x=Na.dig x:=if_pos h
theorem z1u {x:Nat}(h:x<Na.top):z3v x=0:=if_pos h
theorem z5h {x:Nat}(h:Na.top<=x):z4j x=[]:=if_neg (by omega)
theorem z5i {x:Nat}(h:Na.top<=x):z3v x=3:=if_neg (by omega)
theorem z2u (A:Option Addr)(n c base:Nat)(l:List Nat)(w:World)(hn:l.length=n)(ho:w.ownsRow base 3 1 (.slice A n c) n (z0c l))(hl:Na.Lim l)(h47:n<=140737488355328):
  Calls Tryz.prog 126 #[.slice A n c] w fun e w'=>∃ A' n' c',e=.returned (.tuple #[.agg #[.slice A' n' c'],.int .i64 (z3v (Na.val l))])/\(z4j (Na.val l)).length=n'/\w'.ownsRow base 3 1 (.slice A' n' c') n' (z0c (z4j (Na.val l)))/\Below w.heap.size w w':=by
 have HT:=zh (z3w A n c _ l (w.alloc (.cells #[.slice none 0 0] 25)) hn ((Sl.of_own ho).alloc (zqj _) _) (z1j ho).1 h47)
 have HLn:Hid (Na.tl l n=(Na.dig (Na.val l)).length):=by unfold Hid;rw [<- hn];exact Na.trim_len hl
 have HO:=zh ho;have HL:=zh hl;have HN:=zh hn;clear ho hl hn;go_enter Tryz.func126,Tryz.ntmps126
 go_wp2_with fail;refine HT.out.mono ?_;rintro e w1 ⟨rfl,rfl⟩;rcases zqi (Na.val l) Na.top with h|h
 ·have h1:Na.tl l n<=200:=by rw [HLn.out];exact (Na.dig_200 _).2 h
  have HR:=zh (z1t h)
  have HE:=zh (z1u h)
  clear h;go_wp2_with fail;have hd:Na.dig (Na.val l)=l.take (Na.tl l n):=by rw [<- Na.trim_dig HL.out];unfold Na.trim;rw [HN.out]
  refine bodyPost_ret (v:=.tuple #[.agg #[.slice A (Na.tl l n) c],.int .i64 0]) (by simp [results,Tryz.results126,go_sem]) rfl ?_
  rw [HR.out,HE.out];refine ⟨A,Na.tl l n,c,rfl,HLn.out.symm,?_,?_⟩
  ·rw [hd,<- z3f];exact z0x (z3j HO.out (Na.tl_le l n)) _
  ·exact z0i _ _
 ·have h1:200<Na.tl l n:=by
   rw [HLn.out];exact Na.dig_len_ge h
  have HR:=zh (z5h h)
  have HE:=zh (z5i h)
  clear h;go_wp2_with fail;refine bodyPost_ret (v:=.tuple #[.agg #[.slice none 0 0],.int .i64 3]) (by simp [results,Tryz.results126,go_sem]) rfl ?_
  rw [HR.out,HE.out];exact ⟨none,0,0,rfl,rfl,World.ownsRow_nil _ _ _ _,z0i _ _⟩
def z3bg (w:World)(m:Nat)(v l:Value)(wr:World):Prop:=
 ∃ (x:Nat) (A:Option Addr) (c:Nat) (d:List Nat),x<=m/\v=.int .i64 x/\l=.slice A d.length c/\Hid (Na.dig m=d++Na.dig x)/\wr.ownsRow w.heap.size 3 1 (.slice A d.length c) d.length (z0c d)/\Below w.heap.size w wr
theorem z5ar (m:Nat)(w:World)(hm:m<=9223372036854775807):
  Calls Tryz.prog 129 #[.int .i64 m] w (z4ao w (Na.dig m)):=by
 obtain ⟨i0,hi,hz0,hz1,hz2⟩:=info_parts z4y
 have hlen:(Na.dig m).length<=3:=Na.dig_len_le (zqu hm (by decide))
 go_enter Tryz.func129,Tryz.ntmps129
 go_wp2_with fail;go_loopw [0,3] (fun v l wr=>z3bg w m v l wr) (fun v _ _=>(intOf v).toNat)
 case atStart=>exact ⟨m,none,0,[],zqj _,rfl,rfl,rfl,World.ownsRow_nil _ _ _ _,Below.refl _ _⟩
 case round=>
  obtain ⟨x,A,c,d,hx,rfl,rfl,HD,ho,hb⟩:=hrel;rcases zqh x with rfl|h0
  ·have hd:Na.dig m=d:=by rw [HD.out,Na.dig_zero,List.append_nil]
   have HO:=zh ho;have HB:=zh hb;have HDD:=zh hd;clear ho hb hd;go_wp2_with fail;go_ret;rw [HDD.out];exact ⟨A,_,c,rfl,rfl,HO.out,HB.out⟩
  ·have hdx:=Na.dig_pos x h0
   have hdl:d.length+1<=3:=by
    have h1:=congrArg List.length HD.out
    rw [zqm,hdx,List.length_cons] at h1;omega
   have HD2:Hid (Na.dig m=(d++[x % 16777216])++Na.dig (x / 16777216)):=by
    unfold Hid;rw [HD.out,hdx,zqa];rfl
   clear hdx;have hand:bits .and .i64 (x:Int) 16777215=((x % 16777216:Nat):Int):=by rw [z6m];omega
   obtain ⟨r,hr⟩:∃ r,x % 16777216=r:=⟨_,rfl⟩
   rw [hr] at hand HD2;have hd:decide (0<(x:Int))=true:=zt (by omega)
   have HO3:Hid ((wr.alloc (.cells #[.int .i64 r] 3)).ownsRow w.heap.size 3 1 (.slice A d.length c) d.length (z0c d)):=z0x ho _
   have HSl:=zh (z2c wr 3 (.int .i64 r))
   have HBW:Hid (w.heap.size<=wr.heap.size):=hb.size
   have HB:=zh hb;have hrow:∀ y,(Value.slice A d.length c).ownBlock=some y->w.heap.size<=y:=z1r ho
   clear ho hb hr;go_wp2_with (at_builtin;refine z0h _ rfl (.tmp 8) (.tmp 11) 22 rfl w.heap.size 3 i0 (.int .i64 0) 8 Tryz.underlying22 hi hz0 hz1 hz2 rfl _ _ _ _ rfl HO3.out _ _ 1 _ _ rfl rfl HSl.out (fun u hu=>by simp at hu;subst hu;rfl) (by unfold maxLen;omega) (by omega) (by have:=HBW.out;simp;omega) ?_;intro A' c' w8 hown hgrow hblk)
   go_roundw
   case rel=>
    rw [z1a] at hown;have hl1:(d++[r]).length=d.length+1:=by simp
    refine ⟨x / 16777216,A',c',d++[r],by omega,z0q (by omega),by rw [hl1],HD2,by rw [hl1];exact hown,(HB.out.alloc HBW.out _).grown hgrow (by have:=HBW.out;simp;omega) hrow⟩
   case measure=>simp [intOf];omega
theorem z0f (w:World)(a:Addr)(v:Value):w.grownBy (w.setCell a v) (some a.block):=⟨rfl,rfl,rfl,by simp [World.setCell],fun i hi hne=>Below.heap_setCell _ _ _ _ (fun e=>hne (by rw [e]))⟩
theorem z2f {w:World}{base n c:Nat}{e:TypeId}{A:Option Addr}{xs:List Value}(h:w.ownsRow base e 1 (.slice A n c) n xs)(a:Addr)(v:Value)(ha:a.block<base):(w.setCell a v).ownsRow base e 1 (.slice A n c) n xs:=
 z0ad h (z0f w a v) ha
theorem z0k {w:World}{a:Addr}{u:Value}(v:Value)(h:w.cell? a=some u):(w.setCell a v).cell? a=some v:=World.cell?_setCell_same' _ _ _ (by rw [h];rfl)
theorem bal {w W:World}(h:Below w.heap.size w W)(o:Obj):Below w.heap.size w (W.alloc o):=h.alloc h.size o
theorem btr {w W W1:World}(h:Below w.heap.size w W)(k:Below W.heap.size W W1):Below w.heap.size w W1:=h.trans (k.mono h.size)
theorem z4z {w W:World}(h:Below w.heap.size w W)(a:Addr)(ha:w.heap.size<=a.block)(v:Value):Below w.heap.size w (W.setCell a v):=h.setCell (p:=a) ha v
theorem z2b {w w1:World}{A:Option Addr}{n c base g:Nat}{l:List Nat}(ho:w1.ownsRow base 3 1 (.slice A n c) n (z0c l))(hn:l.length=n)(hg:g<base)(hB:w.heap.size<=base)(hb:Below w.heap.size w w1)(hg2:w.heap.size<=g)(v:Value)(err:Int):
  z3m w l err (.returned (.tuple #[.agg #[.slice A n c],.int .i64 err])) (w1.setCell ⟨g,0,none⟩ v):=
 ⟨A,n,c,rfl,hn,z1f (z2f ho _ _ hg) hB,z4z hb _ hg2 _⟩
def ofL (m:Int):List Nat:=if m<0 then [] else Na.dig m.toNat
def ofE (m:Int):Int:=if m<0 then 2 else 0
theorem z8ak (m:Int)(w:World)(hm:m<=9223372036854775807):Calls Tryz.prog 99 #[.int .i64 m] w (z3m w (ofL m) (ofE m)):=by
 by_cases h:m<0
 ·have HR:Hid (ofL m=[]):=if_pos h
  have HE:Hid (ofE m=2):=if_pos h
  go_enter Tryz.func99,Tryz.ntmps99
  go_wp2_with fail;refine bodyPost_ret (v:=.tuple #[.agg #[.slice none 0 0],.int .i64 2]) (by simp [results,Tryz.results99,go_sem]) rfl ?_
  rw [HR.out,HE.out];exact z0y _ _ _ (z0i _ _)
 ·have h':0<=m:=by omega
  obtain ⟨x,rfl⟩:=Int.eq_ofNat_of_zero_le h'
  have HR:Hid (ofL x=Na.dig x):=if_neg (by omega)
  have HE:Hid (ofE x=0):=if_neg (by omega)
  have HLm:=zh (z5ar x (w.alloc (.cells #[.slice none 0 0] 25)) (by omega))
  clear h;go_enter Tryz.func99,Tryz.ntmps99
  go_wp2_with fail;refine HLm.out.mono ?_;rintro e w1 ⟨A,n,c,rfl,hn,ho,hb⟩;have HO:=zh ho;have HB:=zh hb;have HN:=zh hn;obtain ⟨hc1,hf1⟩:=z1cd hb
  have hc2:w1.cell? ⟨w.heap.size,0,none⟩=some (.slice none 0 0):=by rw [hc1 _ _ (by simp)];simp [go_sem]
  clear ho hn;go_wp2_with fail;refine bodyPost_ret (v:=.tuple #[.agg #[.slice A n c],.int .i64 0]) (by simp [results,Tryz.results99,go_sem,hc2]) rfl ?_
  rw [HR.out,HE.out];exact z2b HO.out HN.out (by simp) (by simp) (btr (z0i w _) HB.out) (zqj _) _ _
attribute [local go_sem] Oper.semAt_some
set_option linter.unusedVariables false
set_option maxRecDepth 100000
theorem z2ah (F:Fence)(n:Nat)(h8:F.fn 151)(hro:F.round=none)(hn:1<=n)(Bs len cap:Nat)(A:Option Addr)(hreach:len<=140737488351232):
  z0bm F n Tryz.prog 151 #[.pointer (some ⟨Bs,0,none⟩)] len (z4f len) (fun k v W=>z4h A len k v W) (fun W=>W.cell? ⟨Bs,0,none⟩=some (.slice A len cap)):=by
 intro l J Jx hBx hRd hY W h0
 show CallsIn F n Tryz.prog 151 #[.func (.yield l) #[] #[],.pointer (some ⟨Bs,0,none⟩)] W _
 have hB0:=hBx 0 W h0
 have HBx:=zh hBx;have HRd:=zh hRd;have HY:=zh hY;clear hBx hRd hY;refine callsIn_of_wp Tryz.func151 rfl h8 ?_ hro
 simp only [Tryz.ntmps151,List.size_toArray,List.length_cons,List.length_nil,Nat.reduceAdd,Nat.reduceSub,Array.replicate_succ,Array.replicate_zero,List.push_toArray,List.append_toArray,zqc,zqb];gi_wp2
 gi_loopw [3] (fun i wr=>∃ k:Nat,k<=len/\i=.int .i64 ((len:Int) - 1 - k)/\J k wr) (fun i _=>(intOf i+1).toNat)
 case atStart=>exact ⟨0,zqr _,by simp,h0⟩
 case round=>
  clear hB0 h0;obtain ⟨k,hk,rfl,hJs⟩:=hrel;have hcb:=HBx.out k wr hJs
  by_cases hlt:k<len
  ·obtain ⟨v,ad,hA,hc⟩:=HRd.out k wr hJs hlt
   subst hA
   obtain ⟨fn,tmps,assign,body,hy,hR⟩:=HY.out k v wr hJs hlt ⟨ad,rfl,hc⟩
   have e1:((len - 1 - k:Nat):Int)=(len:Int) - 1 - k:=by omega
   have e2:((len:Int) - 1 - k).toNat=len - 1 - k:=by omega
   dsimp only [z4f] at hy
   rw [e1] at hy;clear e1;have hlo:0<=(len:Int) - 1 - k:=by omega
   have hhi:(len:Int) - 1 - k<len:=by omega
   gi_wp2
   refine hR.mono ?_;rintro e W3 (⟨rfl,hJ3⟩|⟨rfl,hJx3⟩)
   ·gi_wp2
    go_roundw
    case rel=>exact ⟨k+1,by omega,z0q (by omega),hJ3⟩
    case measure=>simp [intOf];omega
   ·gi_wp2
    refine bodyPost_ret (results_none rfl _ _ _) rfl ?_
    exact ⟨⟨_,rfl⟩,.inr hJx3⟩
  ·obtain rfl:k=len:=by omega
   have e1:(k:Int) - 1 - k=-1:=by omega
   rw [e1];clear e1;gi_wp2
   go_end0
   exact ⟨⟨_,rfl⟩,.inl hJs⟩
theorem z4ag (F:Fence)(n:Nat)(h5:F.fn 145)(hro:F.round=none)(a:Option Addr)(len cap:Nat)(w:World):
  CallsIn F n Tryz.prog 145 #[.slice a len cap] w fun e w'=>e=.returned (.func (.func 151) #[] #[.pointer (some ⟨w.heap.size,0,none⟩)])/\w'=w.alloc (.cells #[.slice a len cap] 22):=by
 refine callsIn_of_wp Tryz.func145 rfl h5 ?_ hro
 simp only [Tryz.ntmps145,List.size_toArray,List.length_cons,List.length_nil,Nat.reduceAdd,Nat.reduceSub,Array.replicate_succ,Array.replicate_zero,List.push_toArray,List.append_toArray,zqc,zqb];gi_wp2
 go_ret;exact ⟨rfl,rfl⟩
theorem z2ag (F:Fence)(n:Nat)(h8:F.fn 156)(hro:F.round=none)(hn:1<=n)(Bs len cap:Nat)(A:Option Addr)(hreach:len<=140737488351232):
  z0bm F n Tryz.prog 156 #[.pointer (some ⟨Bs,0,none⟩)] len (z4f len) (fun k v W=>z4h A len k v W) (fun W=>W.cell? ⟨Bs,0,none⟩=some (.slice A len cap)):=by
 intro l J Jx hBx hRd hY W h0
 show CallsIn F n Tryz.prog 156 #[.func (.yield l) #[] #[],.pointer (some ⟨Bs,0,none⟩)] W _
 have hB0:=hBx 0 W h0
 have HBx:=zh hBx;have HRd:=zh hRd;have HY:=zh hY;clear hBx hRd hY;refine callsIn_of_wp Tryz.func156 rfl h8 ?_ hro
 simp only [Tryz.ntmps156,List.size_toArray,List.length_cons,List.length_nil,Nat.reduceAdd,Nat.reduceSub,Array.replicate_succ,Array.replicate_zero,List.push_toArray,List.append_toArray,zqc,zqb];gi_wp2
 gi_loopw [3] (fun i wr=>∃ k:Nat,k<=len/\i=.int .i64 ((len:Int) - 1 - k)/\J k wr) (fun i _=>(intOf i+1).toNat)
 case atStart=>exact ⟨0,zqr _,by simp,h0⟩
 case round=>
  clear hB0 h0;obtain ⟨k,hk,rfl,hJs⟩:=hrel;have hcb:=HBx.out k wr hJs
  by_cases hlt:k<len
  ·obtain ⟨v,ad,hA,hc⟩:=HRd.out k wr hJs hlt
   subst hA
   obtain ⟨fn,tmps,assign,body,hy,hR⟩:=HY.out k v wr hJs hlt ⟨ad,rfl,hc⟩
   have e1:((len - 1 - k:Nat):Int)=(len:Int) - 1 - k:=by omega
   have e2:((len:Int) - 1 - k).toNat=len - 1 - k:=by omega
   dsimp only [z4f] at hy
   rw [e1] at hy;clear e1;have hlo:0<=(len:Int) - 1 - k:=by omega
   have hhi:(len:Int) - 1 - k<len:=by omega
   gi_wp2
   refine hR.mono ?_;rintro e W3 (⟨rfl,hJ3⟩|⟨rfl,hJx3⟩)
   ·gi_wp2
    go_roundw
    case rel=>exact ⟨k+1,by omega,z0q (by omega),hJ3⟩
    case measure=>simp [intOf];omega
   ·gi_wp2
    refine bodyPost_ret (results_none rfl _ _ _) rfl ?_
    exact ⟨⟨_,rfl⟩,.inr hJx3⟩
  ·obtain rfl:k=len:=by omega
   have e1:(k:Int) - 1 - k=-1:=by omega
   rw [e1];clear e1;gi_wp2
   go_end0
   exact ⟨⟨_,rfl⟩,.inl hJs⟩
theorem z3bc (F:Fence)(n:Nat)(h5:F.fn 150)(hro:F.round=none)(a:Option Addr)(len cap:Nat)(w:World):
  CallsIn F n Tryz.prog 150 #[.slice a len cap] w fun e w'=>e=.returned (.func (.func 156) #[] #[.pointer (some ⟨w.heap.size,0,none⟩)])/\w'=w.alloc (.cells #[.slice a len cap] 144):=by
 refine callsIn_of_wp Tryz.func150 rfl h5 ?_ hro
 simp only [Tryz.ntmps150,List.size_toArray,List.length_cons,List.length_nil,Nat.reduceAdd,Nat.reduceSub,Array.replicate_succ,Array.replicate_zero,List.push_toArray,List.append_toArray,zqc,zqb];gi_wp2
 go_ret;exact ⟨rfl,rfl⟩
theorem z8d {F:Fence}{n:Nat}{g:Operand}{ps:Array Tmp}{assign body:Code}{Q:Exit->Act->World->Prop}{a:Act}{w:World}(h8:F.fn 151)(hro:F.round=none)(hn:2<=n){A:Option Addr}{Bs len cap:Nat}
  (hg:a.eval g=.func (.func 151) #[] #[.pointer (some ⟨Bs,0,none⟩)]) (hps:ps.size=2) (hreach:len<=140737488351232)
  (I:Nat->World->Prop) (X:World->Prop) (hI:OwnFrom w.heap.size I) (hX:OwnFrom w.heap.size (fun (_:Unit) W=>X W)) (hBx:∀ k W,I k W->W.cell? ⟨Bs,0,none⟩=some (.slice A len cap)) (hRd:∀ k W,I k W->k<len->∃ v,z4h A len k v W)
  (h0:I 0 w) (a₁:Nat->Value->Act)
  (hassign:∀ (l k:Nat) (v:Value) (W:World) (K:Act->World->Prop),K (a₁ k v) W->assign.wpIn (F.inRound l) (n - 1 - 1) Tryz.prog (Exit.then K (fun _ _ _=>False)) { tmps:=(ps.zip (z4f len k v)).foldl (fun t (p,v)=>t.setIfInBounds p v) a.tmps,defers:=[] } W)
  (hbody:∀ (l k:Nat) (v:Value) (W:World),I k W->k<len->z4h A len k v W->body.wpIn (F.inRound l) (n - 1 - 1) Tryz.prog (z0bl w.heap.size (I (k+1)) X W) (a₁ k v) W)
  (hdone:∀ (D:Nat) (W:World),w.heap.size<=D->I len W->W.heap[D]?=some (.deferred (some []))->Q .normal { a with defers:={ target:=.collected D,args:=#[] } :: a.defers } W)
  (hstop:∀ (D:Nat) (W:World),w.heap.size<=D->X W->W.heap[D]?=some (.deferred (some []))->Code.ret.wpIn F n Tryz.prog Q { a with defers:={ target:=.collected D,args:=#[] } :: a.defers } W) :
  (Code.rangeFunc g ps assign body).wpIn F n Tryz.prog Q a w:=
 z7ac hro (by omega) hg h8 (enters_of Tryz.func151 (by kernel_rfl) rfl) (z2ah F (n - 1) h8 hro (by omega) Bs len cap A hreach) (fun k v=>by rw [hps];rfl) I X hI hX (fun v=>z6j w.heap.size A len v) hBx hRd h0 a₁ hassign hbody hdone hstop
attribute [local go_sem] Oper.semAt_some
set_option linter.unusedVariables false
set_option maxRecDepth 100000
theorem z0af (x y:Nat)(w:World):Calls Tryz.prog 144 #[.int .i64 x,.int .i64 y] w fun e w'=>e=.returned (.int .i64 (Na.sgn x y))/\w=w':=by
 rcases Na.sgn_cases x y with ⟨h,e⟩|⟨h,e⟩|⟨h,e⟩
 ·have H:=zh e;have h1:decide (x<y)=true:=zt h
  clear e;go_enter Tryz.func144,Tryz.ntmps144
  go_wp2_with fail;go_ret;exact ⟨z6b H.out.symm,rfl⟩
 ·have H:=zh e;subst h
  have h1:decide (x<x)=false:=zn (by omega)
  clear e;go_enter Tryz.func144,Tryz.ntmps144
  go_wp2_with fail;go_ret;exact ⟨z6b H.out.symm,rfl⟩
 ·have H:=zh e;have h1:decide (x<y)=false:=zn (by omega)
  have h2:decide (y<x)=true:=zt h
  clear e;go_enter Tryz.func144,Tryz.ntmps144
  go_wp2_with fail;go_ret;exact ⟨z6b H.out.symm,rfl⟩
namespace Na
set_option maxHeartbeats 2000000
theorem drop_same {X Y:List Nat}{k a:Nat}(hX:X[k]?=some a)(hY:Y[k]?=some a)(h:X.drop (k+1)=Y.drop (k+1)):X.drop k=Y.drop k:=by
 have h1:=z0d hX
 have h2:=z0d hY
 rw [List.drop_eq_getElem_cons h1,List.drop_eq_getElem_cons h2,h];rw [zql h1] at hX;rw [zql h2] at hY;rw [zqk hX,zqk hY]
theorem sgn_at {x y k a b:Nat}(hX:(dig x)[k]?=some a)(hY:(dig y)[k]?=some b)(h:(dig x).drop (k+1)=(dig y).drop (k+1))(hab:a≠b):sgn x y=sgn a b:=by
 rcases Nat.lt_or_gt_of_ne hab with h1|h1
 ·have:=val_cmp (dig_lim x) (dig_lim y) k a b hX hY h h1
  rw [val_dig,val_dig] at this;rw [sgn_lt this,sgn_lt h1]
 ·have:=val_cmp (dig_lim y) (dig_lim x) k b a hY hX h.symm h1
  rw [val_dig,val_dig] at this;rw [sgn_gt this,sgn_gt h1]
theorem sgn_of_len {x y:Nat}(h:(dig x).length≠(dig y).length):sgn x y=sgn (dig x).length (dig y).length:=by
 rcases Nat.lt_or_gt_of_ne h with h1|h1
 ·rw [sgn_lt (sgn_len h1),sgn_lt h1]
 ·rw [sgn_gt (sgn_len h1),sgn_gt h1]
end Na
def CmpX (w:World)(g:Nat)(r:Int)(W:World):Prop:=W.cell? ⟨g,0,none⟩=some (.int .i64 r)/\Below w.heap.size w W
def CmpI (w:World)(x y n:Nat)(A2 A:Option Addr)(c2 c:Nat)(k:Nat)(W:World):Prop:=
 ((Na.dig x).drop (n - k)=(Na.dig y).drop (n - k))/\W.cell? ⟨w.heap.size,0,none⟩=some (.slice A2 n c2)/\W.cell? ⟨w.heap.size+1,0,none⟩=some (.int .i64 0)/\W.frozen? ⟨w.heap.size+1,0,none⟩=false/\W.cell? ⟨w.heap.size+2,0,none⟩=some (.slice A n c)/\Below w.heap.size w W
theorem z4x {w W W':World}{B:Nat}{row:Option Nat}(h:Below w.heap.size w W)(hg:W.grownBy W' row)(hB:w.heap.size<=B)(hr:∀ r,row=some r->B<=r/\∃ o:Obj,W.heap[r]?=some o/\o.isCells=false):Below w.heap.size w W':=
 h.grown hg h.size (fun r e=>zqq hB (hr r e).1)
theorem z1av (F:Fence)(N:Nat)(q1:F.fn 122)(q2:F.fn 145)(q3:F.fn 151)(q4:F.fn 144)(hro:F.round=none)(hN:3<=N)
  (hsg:∀ (m x y:Nat) (w:World),CallsIn F m Tryz.prog 144 #[.int .i64 x,.int .i64 y] w fun e w'=>e=.returned (.int .i64 (Na.sgn x y))/\w=w') (A A2:Option Addr) (n c c2:Nat) (x y:Nat) (w:World) (hn:(Na.dig x).length=n) (hm:(Na.dig y).length=n) (hs:Sl w w.heap.size A (z0c (Na.dig x))) (hs2:Sl w w.heap.size A2 (z0c (Na.dig y))) (hl:n<=140737488351232) :
  CallsIn F N Tryz.prog 122 #[.slice A n c,.slice A2 n c2] w fun e w'=>e=.returned (.int .i64 (Na.sgn x y))/\Below w.heap.size w w':=by
 have hne:((n:Int) != (n:Int))=false:=by simp
 have h1:1<=N:=by omega
 refine callsIn_of_wp_marks Tryz.func122 rfl q1 ?_ hro
 simp only [Tryz.ntmps122,List.size_toArray,List.length_cons,List.length_nil,Nat.reduceAdd,Nat.reduceSub,Array.replicate_succ,Array.replicate_zero,List.push_toArray,List.append_toArray,zqc,zqb];gi_wp2_with (gi_at_call 145;refine (z4ag F (N - 1) q2 hro _ _ _ _).mono ?_;rintro e w' ⟨rfl,rfl⟩)
 have bB:=Boxed.new w 22 (.slice A2 n c2)
 have bR:=Boxed.new (w.alloc (.cells #[.slice A2 n c2] 22)) 3 (.int .i64 0)
 have bS:=Boxed.new ((w.alloc (.cells #[.slice A2 n c2] 22)).alloc (.cells #[.int .i64 0] 3)) 22 (.slice A n c)
 simp only [World.size_alloc] at bR bS;have HI0:Hid (CmpI w x y n A2 A c2 c 0 (((w.alloc (.cells #[.slice A2 n c2] 22)).alloc (.cells #[.int .i64 0] 3)).alloc (.cells #[.slice A n c] 22))):=
  ⟨by rw [List.drop_of_length_le (by omega),List.drop_of_length_le (by omega)],((bB.alloc _).alloc _).cell,(bR.alloc _).cell,(bR.alloc _).frozen,bS.cell,bal (bal (bal (Below.refl _ _) _) _) _⟩
 have HN:=zh hn;have HM:=zh hm;have HS:=zh hs;have HS2:=zh hs2;clear hn hm hs hs2 bB bR bS;refine z8d (F:=F) (n:=N) (A:=A) (Bs:=w.heap.size+1+1) (len:=n) (cap:=c) q3 hro (by omega) ?hg ?hps hl
  (CmpI w x y n A2 A c2 c) (CmpX w (w.heap.size+1) (Na.sgn x y)) ?hI ?hX (fun k W h=>h.2.2.2.2.1) ?hRd HI0.out ?a1 ?assign ?body ?done ?stop
 case hg=>rfl
 case hps=>rfl
 case hI=>exact fun k W W' row h hg hr=>⟨h.1,cell_kept h.2.1 hg (fun r e=>(hr r e).2),cell_kept h.2.2.1 hg (fun r e=>(hr r e).2),(frozen_kept h.2.2.1 hg (fun r e=>(hr r e).2)).trans h.2.2.2.1,cell_kept h.2.2.2.2.1 hg (fun r e=>(hr r e).2),z4x h.2.2.2.2.2 hg (by simp;omega) hr⟩
 case hX=>exact fun k W W' row h hg hr=>⟨cell_kept h.1 hg (fun r e=>(hr r e).2),z4x h.2 hg (by simp;omega) hr⟩
 case hRd=>
  intro k W h hk;obtain ⟨a,ha⟩:=z0m (Na.dig x) (n - 1 - k) (by rw [HN.out];omega)
  obtain ⟨ad,e,_,hc⟩:=(HS.out.below h.2.2.2.2.2).nat ha
  exact ⟨_,ad,e,hc⟩
 case assign=>
  intro l k v W K hK;dsimp only [z4f]
  gi_wp2
  exact hK
 case body=>
  intro l k v W hI hk hR;obtain ⟨h1,h2,h3,h4,h5,h6⟩:=hI;obtain ⟨a,ha⟩:=z0m (Na.dig x) (n - 1 - k) (by rw [HN.out];omega)
  obtain ⟨b,hb⟩:=z0m (Na.dig y) (n - 1 - k) (by rw [HM.out];omega)
  obtain ⟨ad,rfl,_,hca⟩:=(HS.out.below h6).nat ha
  obtain ⟨ad2,rfl,_,hcb⟩:=(HS2.out.below h6).nat hb
  obtain ⟨ad',e1,hv⟩:=hR;obtain rfl:=zqk e1
  rw [hca] at hv;obtain rfl:=zqk hv
  have HHA:=zh ha;have HHB:=zh hb;have HD:=zh h1;have HB:=zh h6;clear ha hb hca e1 h1 h6 HI0;have e2:((n - 1 - k:Nat):Int).toNat=n - 1 - k:=by omega
  have hi1:((n - 1 - k:Nat):Int)<(n:Int):=by omega
  obtain ⟨j,hj⟩:∃ j,n - 1 - k=j:=⟨_,rfl⟩
  rw [hj] at e2 hi1 hcb HHA HHB;rw [hj];by_cases hab:a=b
  ·subst hab
   have hne2:((a:Int) != (a:Int))=false:=by simp
   have HD2:Hid ((Na.dig x).drop (n - (k+1))=(Na.dig y).drop (n - (k+1))):=by
    have h7:=HD.out;rw [show n - k=j+1 by omega] at h7
    have h8:=Na.drop_same HHA.out HHB.out h7
    rw [show n - (k+1)=j by omega]
    exact h8
   clear hj;gi_wp2
   exact ⟨KeepsFrom.refl _ _,HD2.out,h2,h3,h4,h5,HB.out⟩
  ·have hne2:((a:Int) != (b:Int))=true:=by rw [bne_iff_ne];omega
   have HS':Hid (Na.sgn a b=Na.sgn x y):=by
    have h7:=HD.out;rw [show n - k=j+1 by omega] at h7
    exact (Na.sgn_at HHA.out HHB.out h7 hab).symm
   have hn1:1<=N - 1 - 1:=by omega
   have HSG:=zh hsg;clear hj hab hsg;gi_wp2_with (gi_at_call 144;refine (CallsIn.inRound l (HSG.out _ _ _ _)).mono ?_;rintro e w' ⟨rfl,rfl⟩)
   exact ⟨(KeepsOthers.setCell _ _ _).from _,by rw [<- HS'.out];exact z0k _ h3,z4z HB.out _ (by simp) _⟩
 case done=>
  intro D W hD hI hK;obtain ⟨h1,h2,h3,h4,h5,h6⟩:=hI;have HE:Hid (Na.sgn x y=0):=by
   rw [Nat.sub_self,List.drop_zero,List.drop_zero] at h1;exact Na.sgn_eq (Na.dig_inj h1)
  clear h1 HI0;have hD2:w.heap.size+3<=D:=by simpa using hD
  have hK2:(W.setCell ⟨w.heap.size+1,0,none⟩ (.int .i64 0)).heap[D]?=some (.deferred (some [])):=(Below.heap_setCell _ _ _ _ (by simp;omega)).trans hK
  have hc2:((W.setCell ⟨w.heap.size+1,0,none⟩ (.int .i64 0)).putObj D (.deferred none)).cell? ⟨w.heap.size+1,0,none⟩=some (.int .i64 0):=
   (World.cell?_of_block (World.putObj_heap_other (k:=w.heap.size+1) (by omega))).trans (z0k _ h3)
  gi_wp2
  refine ⟨by simp,.inl ⟨_,_,rfl,run_takeDeferred hK2,?_⟩⟩
  refine ⟨.int .i64 0,by simp [results,Tryz.results122,go_sem,hc2],by rw [HE.out],?_⟩
  exact (z4z h6 _ (by simp) _).grown (grownBy_putObj' _ D _) (by simp [World.setCell];have:=h6.size;omega) (fun r e=>by cases e;omega)
 case stop=>
  intro D W hD hX hK;obtain ⟨h3,h6⟩:=hX;have hD2:w.heap.size+3<=D:=by simpa using hD
  have hc2:(W.putObj D (.deferred none)).cell? ⟨w.heap.size+1,0,none⟩=some (.int .i64 (Na.sgn x y)):=(World.cell?_of_block (World.putObj_heap_other (k:=w.heap.size+1) (by omega))).trans h3
  gi_wp2
  refine ⟨by simp,.inl ⟨_,_,rfl,run_takeDeferred hK,?_⟩⟩
  refine ⟨.int .i64 (Na.sgn x y),by simp [results,Tryz.results122,go_sem,hc2],rfl,?_⟩
  exact h6.grown (grownBy_putObj' _ D _) h6.size (fun r e=>by cases e;omega)
theorem z3r (A A2:Option Addr)(n c m c2 B:Nat)(x y:Nat)(w:World)(hn:(Na.dig x).length=n)(hm:(Na.dig y).length=m)(hs:Sl w B A (z0c (Na.dig x)))(hs2:Sl w B A2 (z0c (Na.dig y)))(hB:B<=w.heap.size)(hl:n<=140737488351232)(hl2:m<=140737488351232):
  Calls Tryz.prog 122 #[.slice A n c,.slice A2 m c2] w fun e w'=>e=.returned (.int .i64 (Na.sgn x y))/\Below w.heap.size w w':=by
 by_cases hnm:n=m
 ·subst hnm
  exact (callsIn_wide (n:=3)).1 (z1av Fence.wide 3 trivial trivial trivial trivial rfl (zqj _) (fun m x y w=>callsIn_wide.2 (z0af x y w)) A A2 n c c2 x y w hn hm (hs.more hB) (hs2.more hB) hl)
 ·have hne:((n:Int) != (m:Int))=true:=by rw [bne_iff_ne];omega
  have HS:Hid (Na.sgn n m=Na.sgn x y):=by rw [<- hn,<- hm];exact (Na.sgn_of_len (by omega)).symm
  clear hs hs2 hn hm hnm;go_enter Tryz.func122,Tryz.ntmps122
  go_wp2_with fail;refine (z0af n m _).mono ?_
  rintro e w1 ⟨rfl,rfl⟩;go_wp2_with fail;refine bodyPost_ret (v:=.int .i64 (Na.sgn n m)) (by simp [results,Tryz.results122,go_sem]) rfl ?_
  exact ⟨by rw [HS.out],bal (bal (Below.refl _ _) _) _⟩
theorem z8r (A A2:Option Addr)(n c m c2 B:Nat)(x y:Nat)(w:World)(hn:(Na.dig x).length=n)(hm:(Na.dig y).length=m)(hs:Sl w B A (z0c (Na.dig x)))(hs2:Sl w B A2 (z0c (Na.dig y)))(hB:B<=w.heap.size)(hl:n<=140737488351232)(hl2:m<=140737488351232):
  Calls Tryz.prog 87 #[.agg #[.slice A n c],.agg #[.slice A2 m c2]] w fun e w'=>e=.returned (.int .i64 (Na.sgn x y))/\Below w.heap.size w w':=by
 have HC:=zh (z3r A A2 n c m c2 w.heap.size x y ((w.alloc (.cells #[.slice A n c] 25)).alloc (.cells #[.slice A2 m c2] 25)) hn hm (((hs.more hB).alloc (zqj _) _).alloc (by simp) _) (((hs2.more hB).alloc (zqj _) _).alloc (by simp) _) (by simp;omega) hl hl2)
 clear hs hs2 hn hm;go_enter Tryz.func87,Tryz.ntmps87
 go_wp2_with fail;refine HC.out.mono ?_;rintro e w1 ⟨rfl,hb⟩;have HB:=zh (btr (bal (bal (Below.refl w.heap.size w) _) _) hb)
 clear hb;go_wp2_with fail;go_ret;exact ⟨rfl,HB.out⟩
end Go.Proofs.YtpmofjomadibmaaGreatDoor
