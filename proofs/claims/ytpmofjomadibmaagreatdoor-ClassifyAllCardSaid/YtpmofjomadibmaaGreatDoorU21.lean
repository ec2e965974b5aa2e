/- Zd Ze Zc Zf Zg Za Zb Zi Zk Zl -/
import Derived.Test.YtpmofjomadibmaaGreatDoorU20
import Derived.Lib.SliceRun
namespace Go.Proofs.YtpmofjomadibmaaGreatDoor
set_option maxHeartbeats 8000000
open Go.RowKit Go.Sort
set_option linter.unusedVariables false
section
variable {w0 w w':World}{g:Option Nat}{M:List (Nat×Value)}{L:List Ob}{O:List Rw}{X:List Rx}
theorem Ox.addO (h:Ox w0 w g M L O X){A:Option Addr}{n c:Nat}{e:TypeId}{vs:List Value}(ho:w'.ownsRow w.heap.size e 1 (.slice A n c) n vs)(hb:Below w.heap.size w w'):Ox w0 w' g M L (O++[⟨A,n,c,e,vs⟩]) X:=by
 have h':=h.go hb
 refine ⟨h.ow.add ho hb,h'.own,fun i r hi b hb'=>?_,h.two⟩
 obtain ⟨a1,a2,a3,a4⟩:=h.ap i r hi b hb'
 refine ⟨a1,a2,a3,fun j q hj e2=>?_⟩
 rcases zqi j O.length with h1|h1
 ·rw [zqn h1] at hj;exact a4 j q hj e2
 ·rw [zqo h1] at hj;have h2:j - O.length=0:=by have:=z0d hj;simp at this;omega
  rw [h2] at hj;simp at hj
  subst hj
  have h3:=(ho.lt b e2).1
  have h4:=(h.lt hi hb').1
  omega
theorem Ox.arrO (h:Ox w0 w g M L O X)(xs:Array Value)(k:Nat)(hx:xs.size=k)(hk:k<=1000)(T:TypeId):Ox w0 (w.alloc (.cells xs T)) g M L (O++[⟨some ⟨w.heap.size,0,none⟩,k,k,T,xs.toList⟩]) X:=
 h.addO (World.ownsRow_lit (base:=w.heap.size) (e:=T) (size:=1) w xs k (zqj _) (by unfold maxLen;omega) (by omega)) (z0i _ _)
theorem Ox.fewO {l:List Rw}(h:Ox w0 w g M L (O++l) X):Ox w0 w g M L O X:=
 ⟨h.ow.fewO,h.own,fun i r hi b hb'=>by
  obtain ⟨a1,a2,a3,a4⟩:=h.ap i r hi b hb'
  exact ⟨a1,a2,a3,fun j q hj=>a4 j q (by rw [zqn (z0d hj)];exact hj)⟩,h.two⟩
theorem Ox.putO (h:Ox w0 w g M L O X)(i:Nat){gb n c:Nat}{e:TypeId}{vs:List Value}(hi:O[i]?=some ⟨some ⟨gb,0,none⟩,n,c,e,vs⟩)(k:Nat)(v:Value):Ox w0 (w.setCell ⟨gb,k,none⟩ v) g M L (O.set i ⟨some ⟨gb,0,none⟩,n,c,e,vs.set k v⟩) X:=by
 refine ⟨h.ow.put i hi k v,fun j r hj=>h.keepRow (z0f w ⟨gb,k,none⟩ v) hj fun b hb' e2=>?_,fun j r hj b hb'=>?_,h.two⟩
 ·obtain ⟨_,_,_,a4⟩:=h.ap j r hj b hb'
  exact a4 i _ hi (show some gb=some b from e2)
 ·obtain ⟨a1,a2,a3,a4⟩:=h.ap j r hj b hb'
  refine ⟨a1,a2,a3,fun j2 q hq e2=>?_⟩
  rcases Nat.decEq j2 i with hne|rfl
  ·rw [zqf (Ne.symm hne)] at hq
   exact a4 j2 q hq e2
  ·rw [List.getElem?_set_self (z0d hi)] at hq
   obtain rfl:=zqk hq
   exact a4 j2 _ hi e2
end
set_option maxRecDepth 100000
open Cl
section
variable {w0 w w':World}{g B:Nat}{M:List (Nat×Value)}{L:List Ob}{O:List Rw}{X:List Rx}
theorem Dice.turnedX (hd:Dice w g B)(hB:B<=w0.heap.size)(h:Ox w0 w (some g) M L O X){i:Nat}{r:Rx}(hi:X[i]?=some r)(hg:w.grownBy w' r.blk):Dice w' g B:=by
 have hlt:=hd.lt;obtain ⟨A,n,c,at_,ts,hh,h1,h2,h3,hs,hBg⟩:=hd;refine ⟨A,n,c,at_,ts,(hg.block g hlt (fun e=>(h.ap i r hi g e.symm).1 rfl)).trans hh,h1,h2,h3,hs.keep fun p hp=>World.cell?_of_block (hg.block p.block (by omega) (fun e=>?_)),hBg⟩
 have:=(h.lt hi e.symm).2
 omega
theorem z7f {P:Program}{t e:TypeId}{s bytes:Nat}{ops:Array Oper}{rest:List Oper}{o:Oper}{a:Act}{Q:Exit->Act->World->Prop}(hE:z3bh P t e s bytes)(h:Ox w0 w (some g) M L O X)(hd:Dice w g B)(hB:B<=w0.heap.size)(i:Nat)(so x:Operand){A:Option Addr}{n c:Nat}{xs:List Value}(hi:X[i]?=some ⟨A,n,c,e,s,xs⟩)
  {ad:Addr} {m c2:Nat} {news:List Value} (hm:news.length=m*s) (hr:∀ j u,news[j]?=some u->w.cell? (ad.add j)=some u) (h1:∀ u∈news,u.oneCell'=true) (h63:n+m<=maxLen) (hbytes:(n+m)*bytes<=140737488355328)
  (hgd:o.guard=none) (ho:o.op=.call { callee:=.builtin .append,args:=#[so,x],argTypes:=#[t,t] }) (hs:a.eval so=.slice A n c) (hx:a.eval x=.slice (some ad) m c2)
  (hk:∀ A' c' w',Ox w0 w' (some g) M L O (X.set i ⟨A',n+m,c',e,s,xs++news⟩)->Dice w' g B->wpList P ops Q rest (a.put o.dst (.slice A' (n+m) c')) w'):wpList P ops Q (o :: rest) a w:=by
 obtain ⟨ht,hs0,inf,z,hi0,hz,hsz,hby,hzs⟩:=hE;refine wpList_append_own_at w hgd so x t ho w0.heap.size e inf z s bytes ht hi0 hz hsz hby hzs hs0 _ n xs hs (h.own i _ hi) ad m c2 news hx hm hr h1 h63 hbytes h.size fun v' w' h2 h3 _ h5=>?_
 have hf:∃ A' c',v'=.slice A' (n+m) c':=by
  rcases h2.2 with ⟨h',h0⟩|⟨g,cap,cur,h',_⟩
  ·exact ⟨none,0,by rw [h',h0]⟩
  ·exact ⟨_,_,h'⟩
 obtain ⟨A',c',rfl⟩:=hf;exact hk A' c' w' (h.turnX i hi (r':=⟨A',n+m,c',e,s,xs++news⟩) h3 h2 h5) (hd.turnedX hB h hi h3)
theorem Ox.put8 (h:Ox w0 w (some g) M L O X)(i:Nat){gb n c:Nat}{e:TypeId}{z0 z1 z2 z3 z4 z5 z6 z7:Value}(hi:O[i]?=some ⟨some ⟨gb,0,none⟩,n,c,e,[z0,z1,z2,z3,z4,z5,z6,z7]⟩)(v0 v1 v2 v3 v4 v5 v6 v7:Value):Ox w0 ((((((((w.setCell ⟨gb,0,none⟩ v0).setCell ⟨gb,1,none⟩ v1).setCell ⟨gb,2,none⟩ v2).setCell ⟨gb,3,none⟩ v3).setCell ⟨gb,4,none⟩ v4).setCell ⟨gb,5,none⟩ v5).setCell ⟨gb,6,none⟩ v6).setCell ⟨gb,7,none⟩ v7) (some g) M L (O.set i ⟨some ⟨gb,0,none⟩,n,c,e,[v0,v1,v2,v3,v4,v5,v6,v7]⟩) X:=by
 have h0:=h.putO i hi 0 v0
 have h1:=h0.putO i (z0a hi) 1 v1
 have h2:=h1.putO i (z0a (z0a hi)) 2 v2
 have h3:=h2.putO i (z0a (z0a (z0a hi))) 3 v3
 have h4:=h3.putO i (z0a (z0a (z0a (z0a hi)))) 4 v4
 have h5:=h4.putO i (z0a (z0a (z0a (z0a (z0a hi))))) 5 v5
 have h6:=h5.putO i (z0a (z0a (z0a (z0a (z0a (z0a hi)))))) 6 v6
 have h7:=h6.putO i (z0a (z0a (z0a (z0a (z0a (z0a (z0a hi))))))) 7 v7
 simp only [List.set_set,zqd,zqe] at h7;exact h7
end
theorem z0cw:(Tryz.prog.info? 40).map (fun i=>(i.zero.map (fun z=>z.cells.size),i.size,i.bytes))=some (some 8,8,64):=by kernel_rfl
theorem z2bx:z3bh Tryz.prog 23 40 8 64:=by
 have h:=z0cw;obtain ⟨i,hi⟩:∃ i,Tryz.prog.info? 40=some i:=by
  cases e:Tryz.prog.info? 40 with
  | none=>rw [e] at h;cases h
  | some i=>exact ⟨i,rfl⟩
 rw [hi] at h;simp only [Option.map_some,Option.some.injEq,Prod.mk.injEq] at h;obtain ⟨h1,h2,h3⟩:=h;obtain ⟨z,hz⟩:∃ z,i.zero=some z:=by
  cases e:i.zero with
  | none=>rw [e] at h1;cases h1
  | some z=>exact ⟨z,rfl⟩
 rw [hz] at h1;exact ⟨Tryz.underlying23,by omega,i,z,hi,hz,h2,h3,by simpa using h1⟩
theorem z7p (l:List Sn)(x:Sn):fl (l++[x])=fl l++x.vs.toList:=by
 unfold fl;rw [List.flatMap_append];simp
theorem z9bp (l:List Sn):∀ u∈fl l,u.oneCell'=true:=fun u hu=>by
 unfold fl at hu;obtain ⟨x,_,hx⟩:=List.mem_flatMap.1 hu
 unfold Sn.vs at hx;simp only [List.mem_cons,List.mem_nil_iff,or_false] at hx;rcases hx with rfl|rfl|rfl|rfl|rfl|rfl|rfl|rfl <;> rfl
theorem z2an (x:Sn):∀ u∈x.vs.toList,u.oneCell'=true:=fun u hu=>z9bp [x] u (by unfold fl;simpa using hu)
theorem z0au {s:Pl}{l:List Sn}{x:Sn}(h:z7w s l=true)(hx:snV s x=true):z7w s (l++[x])=true:=by
 unfold z7w at *
 rw [List.all_append,h];simp [hx]
theorem z3bd {s:Pl}{l:List Sn}{i:Nat}{x:Sn}(h:z7w s l=true)(hx:l[i]?=some x):snV s x=true:=by
 unfold z7w at h;exact List.all_eq_true.1 h x (List.mem_of_getElem? hx)
open Go.ChangeMaps (setBlock heap_setBlock_same heap_setBlock_other)
def SsO (w0:World)(g:Nat)(M:List (Nat×Value))(L:List Ob)(OO:List Rw)(so ch ra ba ro co:Nat)(Ld:Nat->Bool)(u6:Value)(W:World):Prop:=
 ∃ l:List Rw,Ow w0 W (some g) M L (OO++l)/\
  (Ld 6=true->∃ (i pb:Nat) (R:List Value),u6=.pointer (some ⟨pb,0,none⟩)/\R.length=8/\l[i]?=some (⟨some ⟨pb,0,none⟩,8,8,40,R⟩:Rw)/\(Ld 7=true->∃ sv:Sn,snV ⟨(so:Int),ch,ra,ba,ro,co⟩ sv=true/\R=sv.vs.toList))
structure SsK (w0:World)(g B:Nat)(M:List (Nat×Value))(L:List Ob)(OO:List Rw)(so ch ra ba ro co:Nat)(Ld:Nat->Bool)(u0 u1 u2 u3 u4 u5 u6:Value)(W:World):Prop where
 ow:SsO w0 g M L OO so ch ra ba ro co Ld u6 W
 hd:Dice W g B
 h0:Ld 0=true->u0=.pointer (some ⟨g,0,none⟩)
 h1:Ld 1=true->u1=.agg #[.int .i64 so,.int .i64 ch,.int .i64 ra,.int .i64 ba,.int .i64 ro,.int .i64 co]
 h2:Ld 2=true->u2=.pointer (some ⟨g,0,none⟩)
 h3:Ld 3=true->∃ z:Nat,z<3/\u3=.int .i64 z
 h4:Ld 4=true->∃ sv:Sn,snV ⟨(so:Int),ch,ra,ba,ro,co⟩ sv=true/\u4=.agg sv.vs
 h5:Ld 5=true->∃ sv:Sn,snV ⟨(so:Int),ch,ra,ba,ro,co⟩ sv=true/\u5=.agg sv.vs
 h6:Ld 6=true->True
def SsI (w0:World)(g B:Nat)(M:List (Nat×Value))(L:List Ob)(OO:List Rw)(so ch ra ba ro co:Nat)(A0:Act)(Ld:Nat->Bool)(a:Act)(W:World):Prop:=
 ∃ (u0 u1 u2 u3 u4 u5 u6:Value),a=(((((((A0.put (some 11) u0).put (some 12) u1).put (some 13) u2).put (some 14) u3).put (some 15) u4).put (some 16) u5).put (some 8) u6)/\SsK w0 g B M L OO so ch ra ba ro co Ld u0 u1 u2 u3 u4 u5 u6 W
theorem z1bs {so ch ra ba ro co:Nat}(hs:so+ch+ra+ba+ro+co<=12):plV ⟨(so:Int),ch,ra,ba,ro,co⟩ ⟨0,0,0,0,0,0⟩=true:=by
 refine z7d (z2r hs) fun j hj=>?_
 have hcase:j=0∨j=1∨j=2∨j=3∨j=4∨j=5:=by omega
 rcases hcase with rfl|rfl|rfl|rfl|rfl|rfl
 ·rw [z2o (b:=(so:Int)) (n:=(0:Int)) rfl rfl,zt (show (0:Int)<=0 by omega),zt (show (0:Int)<2 ^ (so:Int).toNat from z3g _)];rfl
 ·rw [z2o (b:=(ch:Int)) (n:=(0:Int)) rfl rfl,zt (show (0:Int)<=0 by omega),zt (show (0:Int)<2 ^ (ch:Int).toNat from z3g _)];rfl
 ·rw [z2o (b:=(ra:Int)) (n:=(0:Int)) rfl rfl,zt (show (0:Int)<=0 by omega),zt (show (0:Int)<2 ^ (ra:Int).toNat from z3g _)];rfl
 ·rw [z2o (b:=(ba:Int)) (n:=(0:Int)) rfl rfl,zt (show (0:Int)<=0 by omega),zt (show (0:Int)<2 ^ (ba:Int).toNat from z3g _)];rfl
 ·rw [z2o (b:=(ro:Int)) (n:=(0:Int)) rfl rfl,zt (show (0:Int)<=0 by omega),zt (show (0:Int)<2 ^ (ro:Int).toNat from z3g _)];rfl
 ·rw [z2o (b:=(co:Int)) (n:=(0:Int)) rfl rfl,zt (show (0:Int)<=0 by omega),zt (show (0:Int)<2 ^ (co:Int).toNat from z3g _)];rfl
def RSs (w0:World)(g B:Nat)(M:List (Nat×Value))(L:List Ob)(PP:List Rw)(so ch ra ba ro co m:Nat)(x7 x9:Value)(wr:World):Prop:=
 ∃ (q n c:Nat) (A:Option Addr) (l:List Sn),x9=.int .i64 q/\x7=.slice A n c/\n+q<=m/\Hid (l.length=n)/\Hid (z7w ⟨(so:Int),ch,ra,ba,ro,co⟩ l=true)/\Hid (Dice wr g B)/\Hid (Ox w0 wr (some g) M L PP [⟨A,n,c,40,8,fl l⟩])
theorem z1bb {w0 w:World}{g B:Nat}{M:List (Nat×Value)}{L:List Ob}{O:List Rw}(h:Ow w0 w (some g) M L O)(hd:Dice w g B)(hB:B<=w0.heap.size)(so ch ra ba ro co:Nat)(hs:so+ch+ra+ba+ro+co<=12)(m:Nat)(hm:m<=20):
  Calls Tryz.prog 25 #[.pointer (some ⟨g,0,none⟩),.agg #[.int .i64 so,.int .i64 ch,.int .i64 ra,.int .i64 ba,.int .i64 ro,.int .i64 co],.int .i64 m] w fun e w'=>∃ (A:Option Addr) (n c:Nat) (l:List Sn),e=.returned (.slice A n c)/\l.length=n/\n<=m/\z7w ⟨(so:Int),ch,ra,ba,ro,co⟩ l=true/\Dice w' g B/\Ox w0 w' (some g) M L O [⟨A,n,c,40,8,fl l⟩]:=by
 have H0:=h.arr #[.int .i64 so,.int .i64 ch,.int .i64 ra,.int .i64 ba,.int .i64 ro,.int .i64 co] 6 rfl (by omega) 33
 have HD0:Hid (Dice (w.alloc (.cells #[.int .i64 so,.int .i64 ch,.int .i64 ra,.int .i64 ba,.int .i64 ro,.int .i64 co] 33)) g B):=hd.below (z0i _ _)
 have HSm:=zh hs;have HBd:=zh hB;have HM:=zh hm;have HS0:Hid (∀ z:Nat,z<3->snV ⟨(so:Int),ch,ra,ba,ro,co⟩ ⟨⟨0,0,0,0,0,0⟩,(z:Int),0⟩=true):=fun z hz=>z2ao (z1bs HSm.out) (by omega) (by omega)
 obtain ⟨OO,hOO⟩:∃ z,O++[(⟨some ⟨w.heap.size,0,none⟩,6,6,33,[.int .i64 so,.int .i64 ch,.int .i64 ra,.int .i64 ba,.int .i64 ro,.int .i64 co]⟩:Rw)]=z:=⟨_,rfl⟩
 obtain ⟨si,hsi⟩:∃ z,O.length+0=z:=⟨_,rfl⟩
 have HSr:Hid (OO[si]?=some (⟨some ⟨w.heap.size,0,none⟩,6,6,33,[.int .i64 so,.int .i64 ch,.int .i64 ra,.int .i64 ba,.int .i64 ro,.int .i64 co]⟩:Rw)):=by unfold Hid;rw [<- hOO,<- hsi,z0b];rfl
 have HO:Hid (Ow w0 (w.alloc (.cells #[.int .i64 so,.int .i64 ch,.int .i64 ra,.int .i64 ba,.int .i64 ro,.int .i64 co] 33)) (some g) M L (OO++[])):=by unfold Hid;rw [List.append_nil,<- hOO];exact H0
 have HOe:=zh hOO;clear h hd hB hs hm H0 hOO hsi;go_enter Tryz.func25,Tryz.ntmps25
 go_wp2_with fail;refine z1k (SsI w0 g B M L OO so ch ra ba ro co) (by kernel_rfl) (by kernel_rfl) ?_ ?_ ?_
 ·refine ⟨undef,undef,undef,undef,undef,undef,undef,?_,⟨⟨[],HO.out.drew,(fun h=>by cases h)⟩,HD0.out.drew,?_,?_,?_,?_,?_,?_,?_⟩⟩
  ·simp only [Act.put,zT,zZ,zS]
  all_goals (intro h;cases h)
 ·rintro jj Ld b W hj hf hcl hd ⟨u0,u1,u2,u3,u4,u5,u6,rfl,hC⟩;have hj':jj<8:=hj
  have hcase:jj=0∨jj=1∨jj=2∨jj=3∨jj=4∨jj=5∨jj=6∨jj=7:=by omega
  clear hj hj';simp only [Act.put,zT,zZ,zS];rcases hcase with rfl|rfl|rfl|rfl|rfl|rfl|rfl|rfl
  ·clear hd hcl;refine zw rfl fun K hK=>?_
   go_simp;refine hK _ _ ⟨_,u1,u2,u3,u4,u5,u6,?_,{hC with h0:=fun _=>rfl}⟩;simp only [Act.put,zT,zZ,zS]
  ·obtain ⟨l,how,d6⟩:=hC.ow;obtain ⟨y0,y1,y2,y3,y4,y5⟩:=zc6 (how.row si (by rw [z0r _ _ (z0d HSr.out)];exact HSr.out))
   clear hd hcl;refine zw rfl fun K hK=>?_
   go_simp;refine hK _ _ ⟨u0,_,u2,u3,u4,u5,u6,?_,{hC with h1:=fun _=>rfl}⟩;simp only [Act.put,zT,zZ,zS]
  ·clear hd hcl;refine zw rfl fun K hK=>?_
   go_simp;refine hK _ _ ⟨u0,u1,_,u3,u4,u5,u6,?_,{hC with h2:=fun _=>rfl}⟩;simp only [Act.put,zT,zZ,zS]
  ·obtain rfl:=hC.h2 (hd 2 (by kernel_rfl));obtain ⟨l,how,d6⟩:=hC.ow;have hcall:=z1e how hC.hd 3 (by omega) (by omega)
   clear hd hcl;refine zw rfl fun K hK=>?_
   go_simp;refine (hcall).mono ?_
   rintro e W' ⟨r,rfl,hr,hd',how',-⟩;refine hK _ _ ⟨u0,u1,_,_,u4,u5,u6,?_,{hC with ow:=⟨l,how',d6⟩,hd:=hd',h3:=fun _=>⟨r,hr,rfl⟩}⟩;simp only [Act.put,zT,zZ,zS]
  ·obtain ⟨z3,hz3,rfl⟩:=hC.h3 (hd 3 (by kernel_rfl))
   clear hd hcl;refine zw rfl fun K hK=>?_
   go_simp;refine hK _ _ ⟨u0,u1,u2,_,_,u5,u6,?_,{hC with h4:=fun _=>⟨⟨⟨0,0,0,0,0,0⟩,z3,0⟩,HS0.out z3 hz3,rfl⟩}⟩;simp only [Act.put,List.setIfInBounds_toArray,zqd,zqe,Sn.vs]
  ·obtain rfl:=hC.h0 (hd 0 (by kernel_rfl));obtain rfl:=hC.h1 (hd 1 (by kernel_rfl));obtain ⟨z4,hz4,rfl⟩:=hC.h4 (hd 4 (by kernel_rfl))
   obtain ⟨l,how,d6⟩:=hC.ow;have hcall:=z1ae how hC.hd HBd.out so ch ra ba ro co HSm.out z4 hz4
   clear hd hcl;refine zw rfl fun K hK=>?_
   go_simp;refine (hcall).mono ?_
   rintro e W' ⟨y,rfl,hy,hd',how',-⟩;refine hK _ _ ⟨_,_,u2,u3,_,_,u6,?_,{hC with ow:=⟨l,how',d6⟩,hd:=hd',h5:=fun _=>⟨y,hy,rfl⟩}⟩;simp only [Act.put,zT,zZ,zS]
  ·obtain ⟨l,how,d6⟩:=hC.ow;have hn7:Ld 7=false:=by
    cases e:Ld 7 with
    | false=>rfl
    | true=>
     have k0:=hcl 7 6 e (by kernel_rfl)
     rw [hf] at k0;cases k0
   have ho:=how.arr #[.int .i64 0,.int .i64 0,.int .i64 0,.int .i64 0,.int .i64 0,.int .i64 0,.int .i64 0,.int .i64 0] 8 rfl (by omega) 40
   rw [zqa] at ho;clear hd hcl;refine zw rfl fun K hK=>?_
   go_simp;refine hK _ _ ⟨u0,u1,u2,u3,u4,u5,_,?_,{hC with ow:=⟨_,ho,fun _=>⟨l.length,W.heap.size,[.int .i64 0,.int .i64 0,.int .i64 0,.int .i64 0,.int .i64 0,.int .i64 0,.int .i64 0,.int .i64 0],rfl,rfl,z6w,(fun h=>by rw [show z3i Ld 6 7=Ld 7 from rfl,hn7] at h;cases h)⟩⟩,hd:=hC.hd.below (z0i _ _),h6:=fun _=>trivial}⟩
   simp only [Act.put,zT,zZ,zS]
  ·obtain ⟨l,how,d6⟩:=hC.ow;obtain ⟨i,pb,R,rfl,hRl,hi,_⟩:=d6 (hd 6 (by kernel_rfl))
   obtain ⟨r0,r1,r2,r3,r4,r5,r6,r7,rfl⟩:=z9an hRl
   obtain ⟨sv,hsv,rfl⟩:=hC.h5 (hd 5 (by kernel_rfl))
   obtain ⟨⟨s0,s1,s2,s3,s4,s5⟩,s6,s7⟩:=sv
   obtain ⟨y0,y1,y2,y3,y4,y5,y6,y7⟩:=zc8 (how.row (OO.length+i) (z3s hi));obtain ⟨f0,f1,f2,f3,f4,f5,f6,f7⟩:=zf8 (how.row (OO.length+i) (z3s hi));have ho:=z1bn how (OO.length+i) (z3s hi) (.int .i64 s0) (.int .i64 s1) (.int .i64 s2) (.int .i64 s3) (.int .i64 s4) (.int .i64 s5) (.int .i64 s6) (.int .i64 s7)
   rw [z0o] at ho;have hdg:=z4q hC.hd HBd.out how (z3s hi) (.int .i64 s0) (.int .i64 s1) (.int .i64 s2) (.int .i64 s3) (.int .i64 s4) (.int .i64 s5) (.int .i64 s6) (.int .i64 s7)
   clear hd hcl;unfold Sn.vs;refine zw rfl fun K hK=>?_
   go_simp;refine hK _ _ ⟨u0,u1,u2,u3,u4,_,_,?_,{hC with ow:=⟨_,ho,fun _=>⟨i,pb,_,rfl,rfl,z0a hi,fun _=>⟨⟨⟨s0,s1,s2,s3,s4,s5⟩,s6,s7⟩,hsv,rfl⟩⟩⟩,hd:=hdg,h5:=fun _=>⟨⟨⟨s0,s1,s2,s3,s4,s5⟩,s6,s7⟩,hsv,rfl⟩}⟩;simp only [Act.put,List.setIfInBounds_toArray,zqd,zqe,Sn.vs]
 ·rintro Ld b W hL ⟨u0,u1,u2,u3,u4,u5,u6,rfl,hC⟩;obtain ⟨l,how,d6⟩:=hC.ow;obtain ⟨pi,pb,R,rfl,hRl,hpi,hpw⟩:=d6 (hL 6 (by show 6<8;decide))
  obtain ⟨⟨⟨s0,s1,s2,s3,s4,s5⟩,s6,s7⟩,hsv,rfl⟩:=hpw (hL 7 (by show 7<8;decide))
  have HDg:=zh hC.hd;obtain ⟨PP,hPP⟩:∃ z,OO++l=z:=⟨_,rfl⟩
  obtain ⟨fi,hfi⟩:∃ z,OO.length+pi=z:=⟨_,rfl⟩
  have HSp:Hid (PP[si]?=some (⟨some ⟨w.heap.size,0,none⟩,6,6,33,[.int .i64 so,.int .i64 ch,.int .i64 ra,.int .i64 ba,.int .i64 ro,.int .i64 co]⟩:Rw)):=by unfold Hid;rw [<- hPP,z0r _ _ (z0d HSr.out)];exact HSr.out
  have HFp:Hid (PP[fi]?=some (⟨some ⟨pb,0,none⟩,8,8,40,[.int .i64 s0,.int .i64 s1,.int .i64 s2,.int .i64 s3,.int .i64 s4,.int .i64 s5,.int .i64 s6,.int .i64 s7]⟩:Rw)):=by unfold Hid;rw [<- hPP,<- hfi];exact z3s hpi
  have HLe:Hid (∃ l2,PP=O++l2):=⟨_,by rw [<- hPP,<- HOe.out,zqa]⟩
  rw [hPP] at how;have HW:=zh how;have HSv:=zh hsv;clear hpw hC hL d6 hRl how hpi hsv hPP hfi HO HD0 HSr HOe;simp only [Act.put,zT,zZ,zS];have hm1:m<=20:=HM.out
  have hw1:IntKind.i64.wrap ((m:Int)+1)=((m+1:Nat):Int):=by rw [IntWalk.i64_in _ (by omega)];omega
  have HN:=zh (z1e HW.out HDg.out (m+1) (by omega) (by omega))
  go_wp2_with fail;refine HN.out.mono ?_;rintro e w1 ⟨r,rfl,hr,hd,how,-⟩;have HW1:=zh how;have HD1:=zh hd;have HR:=zh hr;clear HN HW HDg how hd hr hw1 hm1;go_wp2_with fail;go_loopw [7,9] (fun x7 x9 wr=>RSs w0 g B M L PP so ch ra ba ro co m x7 x9 wr) (fun _ x9 _=>(intOf x9).toNat)
  case atStart=>exact ⟨r,0,0,none,[],rfl,rfl,by have:=HR.out;omega,rfl,rfl,HD1.out,(Ox.of HW1.out).nilX 40 8⟩
  case round=>
   obtain ⟨q,n,c,A,l,rfl,rfl,hq,HLn,HV,HDr,HXr⟩:=hrel;have hm1:m<=20:=HM.out
   rcases zqh q with hz|hp
   ·have hd0:decide ((0:Int)<q)=false:=zn (by omega)
    have hd00:decide (0<q)=false:=zn (by omega)
    clear hz;go_wp2_with fail;go_ret;refine ⟨A,n,c,l,rfl,HLn.out,by omega,HV.out,HDr.out,?_⟩
    obtain ⟨l2,hl2⟩:=HLe.out;have:=HXr.out
    rw [hl2] at this;exact this.fewO
   ·have hd0:decide ((0:Int)<q)=true:=zt (by omega)
    have hd00:decide (0<q)=true:=zt (by omega)
    have hqi:(q:Int)<=20:=by omega
    have hqj:(1:Int)<=(q:Int):=by omega
    have HQ:Hid (1<=q/\n+q<=m/\m<=20):=⟨hp,hq,hm1⟩
    obtain ⟨y0,y1,y2,y3,y4,y5,y6,y7⟩:=zc8 (HXr.out.ow.row fi HFp.out);have HX1:=zh (HXr.out.arrO #[.int .i64 s0,.int .i64 s1,.int .i64 s2,.int .i64 s3,.int .i64 s4,.int .i64 s5,.int .i64 s6,.int .i64 s7] 8 rfl (by omega) 40)
    have HD1:Hid (Dice (wr.alloc (.cells #[.int .i64 s0,.int .i64 s1,.int .i64 s2,.int .i64 s3,.int .i64 s4,.int .i64 s5,.int .i64 s6,.int .i64 s7] 40)) g B):=HDr.out.below (z0i _ _)
    rcases zqh n with hz|hn
    ·have hd1:decide ((0:Int)<n)=false:=zn (by omega)
     have hd2:decide (0<n)=false:=zn (by omega)
     clear hz;obtain ⟨a0,a1,a2,a3,a4,a5⟩:=zc6 (HX1.out.ow.row si (by rw [z0r _ _ (z0d HSp.out)];exact HSp.out))
     obtain ⟨b0,b1,b2,b3,b4,b5,b6,b7⟩:=zc8 (HX1.out.ow.row (PP.length+0) (zk rfl));have HN9:=zh (z1ae HX1.out.ow HD1.out HBd.out so ch ra ba ro co HSm.out ⟨⟨s0,s1,s2,s3,s4,s5⟩,s6,s7⟩ HSv.out)
     unfold Sn.vs at HN9;go_wp2_with fail;refine HN9.out.mono ?_;rintro e w9 ⟨⟨⟨y0,y1,y2,y3,y4,y5⟩,y6,y7⟩,rfl,hy,hd9,how9,hg9⟩;have HX9:=zh ((HX1.out.roll how9 hg9).arrO #[.int .i64 y0,.int .i64 y1,.int .i64 y2,.int .i64 y3,.int .i64 y4,.int .i64 y5,.int .i64 y6,.int .i64 y7] 8 rfl (by omega) 40)
     have HD9:Hid (Dice (w9.alloc (.cells #[.int .i64 y0,.int .i64 y1,.int .i64 y2,.int .i64 y3,.int .i64 y4,.int .i64 y5,.int .i64 y6,.int .i64 y7] 40)) g B):=hd9.below (z0i _ _)
     have HY9:=zh hy;clear hy hd9 how9 hg9 HN9 a0 a1 a2 a3 a4 a5 b0 b1 b2 b3 b4 b5 b6 b7;go_wp2_with (at_builtin;refine z7f z2bx HX9.out HD9.out HBd.out 0 (.tmp 36) (.tmp 41) (m:=1) (news:=[.int .i64 y0,.int .i64 y1,.int .i64 y2,.int .i64 y3,.int .i64 y4,.int .i64 y5,.int .i64 y6,.int .i64 y7]) rfl rfl (fun j u hu=>by have:=(HX9.out.ow.row (PP.length+1) (by rw [zqa,z0b];rfl)).cells rfl j u hu;exact this) (z2an ⟨⟨y0,y1,y2,y3,y4,y5⟩,y6,y7⟩) (by unfold maxLen;omega) (by omega) rfl rfl rfl rfl ?_;intro A2 c2 w2 how2 hd2;have HX2:=zh how2;have HD2:=zh hd2;clear how2 hd2)
     go_roundw
     case rel=>
      refine ⟨q - 1,n+1,c2,A2,l++[⟨⟨y0,y1,y2,y3,y4,y5⟩,y6,y7⟩],?_,rfl,by have:=HQ.out;omega,?_,z0au HV.out HY9.out,HD2.out,?_⟩
      ·congr 1;have:=HQ.out;omega
      ·unfold Hid;rw [zqm,HLn.out];rfl
      ·unfold Hid;rw [z7p];exact HX2.out.fewO.fewO
     case measure=>
      have:=HQ.out
      simp [intOf]
      omega
    ·have hd1:decide ((0:Int)<n)=true:=zt (by omega)
     have hd2:decide (0<n)=true:=zt (by omega)
     have HN8:=zh (z1e HX1.out.ow HD1.out n (by omega) (by omega))
     go_wp2_with fail;refine HN8.out.mono ?_;rintro e w8 ⟨z,rfl,hz,hd8,how8,hg8⟩;have HX8:=zh (HX1.out.roll how8 hg8)
     have hxr:=HX8.out.ow;obtain ⟨x,hx⟩:∃ x,l[z]?=some x:=⟨l[z]'(by rw [HLn.out];exact hz),zql _⟩
     have HSx:=zh (z3bd HV.out hx)
     obtain ⟨a,rfl,e0,e1,e2,e3,e4,e5,e6,e7⟩:=z2v (z7g (HX8.out.row 0 rfl) (by omega)) hx
     obtain ⟨⟨t0,t1,t2,t3,t4,t5⟩,t6,t7⟩:=x
     simp only at e0 e1 e2 e3 e4 e5 e6 e7
     have hzi:(z:Int)<n:=by omega
     obtain ⟨b0,b1,b2,b3,b4,b5,b6,b7⟩:=zc8 (hxr.row (PP.length+0) (zk rfl));obtain ⟨g0,g1,g2,g3,g4,g5,g6,g7⟩:=zf8 (hxr.row (PP.length+0) (zk rfl));have hp8:=HX8.out.put8 (PP.length+0) (zk rfl) (.int .i64 t0) (.int .i64 t1) (.int .i64 t2) (.int .i64 t3) (.int .i64 t4) (.int .i64 t5) (.int .i64 t6) (.int .i64 t7)
     rw [z0o,zqd] at hp8;have HXp:=zh hp8;have HDp:=zh (z4q hd8 HBd.out hxr (i:=PP.length+0) (zk rfl) (.int .i64 t0) (.int .i64 t1) (.int .i64 t2) (.int .i64 t3) (.int .i64 t4) (.int .i64 t5) (.int .i64 t6) (.int .i64 t7))
     clear hp8 hxr hd8 how8 hg8 HN8 HX1 HD1 hx;obtain ⟨a0,a1,a2,a3,a4,a5⟩:=zc6 (HXp.out.ow.row si (by rw [z0r _ _ (z0d HSp.out)];exact HSp.out))
     obtain ⟨b0,b1,b2,b3,b4,b5,b6,b7⟩:=zc8 (HXp.out.ow.row (PP.length+0) (zk rfl));have HN9:=zh (z1ae HXp.out.ow HDp.out HBd.out so ch ra ba ro co HSm.out ⟨⟨t0,t1,t2,t3,t4,t5⟩,t6,t7⟩ HSx.out)
     unfold Sn.vs at HN9;go_wp2_with fail;refine HN9.out.mono ?_;rintro e w9 ⟨⟨⟨y0,y1,y2,y3,y4,y5⟩,y6,y7⟩,rfl,hy,hd9,how9,hg9⟩;have HX9:=zh ((HXp.out.roll how9 hg9).arrO #[.int .i64 y0,.int .i64 y1,.int .i64 y2,.int .i64 y3,.int .i64 y4,.int .i64 y5,.int .i64 y6,.int .i64 y7] 8 rfl (by omega) 40)
     have HD9:Hid (Dice (w9.alloc (.cells #[.int .i64 y0,.int .i64 y1,.int .i64 y2,.int .i64 y3,.int .i64 y4,.int .i64 y5,.int .i64 y6,.int .i64 y7] 40)) g B):=hd9.below (z0i _ _)
     have HY9:=zh hy;clear hy hd9 how9 hg9 HN9 a0 a1 a2 a3 a4 a5 b0 b1 b2 b3 b4 b5 b6 b7;go_wp2_with (at_builtin;refine z7f z2bx HX9.out HD9.out HBd.out 0 (.tmp 36) (.tmp 41) (m:=1) (news:=[.int .i64 y0,.int .i64 y1,.int .i64 y2,.int .i64 y3,.int .i64 y4,.int .i64 y5,.int .i64 y6,.int .i64 y7]) rfl rfl (fun j u hu=>by have:=(HX9.out.ow.row (PP.length+1) (by rw [zqa,z0b];rfl)).cells rfl j u hu;exact this) (z2an ⟨⟨y0,y1,y2,y3,y4,y5⟩,y6,y7⟩) (by unfold maxLen;omega) (by omega) rfl rfl rfl rfl ?_;intro A2 c2 w2 how2 hd2;have HX2:=zh how2;have HD2:=zh hd2;clear how2 hd2)
     go_roundw
     case rel=>
      refine ⟨q - 1,n+1,c2,A2,l++[⟨⟨y0,y1,y2,y3,y4,y5⟩,y6,y7⟩],?_,rfl,by have:=HQ.out;omega,?_,z0au HV.out HY9.out,HD2.out,?_⟩
      ·congr 1;have:=HQ.out;omega
      ·unfold Hid;rw [zqm,HLn.out];rfl
      ·unfold Hid;rw [z7p];exact HX2.out.fewO.fewO
     case measure=>
      have:=HQ.out
      simp [intOf]
      omega
namespace Cl
set_option maxHeartbeats 8000000
def Sn.one (x:Sn):Sn:=⟨⟨0,0,x.p.ra,x.p.ba,x.p.ro,x.p.co⟩,1,x.ti⟩
end Cl
theorem z9ae:judV ⟨0,0,0,2,4,2⟩ (Na.up (Na.dig 1)) (Na.up (Na.dig 1000)) [(⟨⟨0,0,0,0,0,0⟩,1,0⟩:Sn),(⟨⟨0,0,0,0,0,1⟩,1,0⟩:Sn),(⟨⟨0,0,0,0,0,2⟩,1,0⟩:Sn)]=(⟨2,⟨0,0,0,0,0,0⟩,1,3,1,4096⟩,0):=by kernel_rfl
theorem z6bq:ofF 1 1000=(1,1000,0):=by decide +kernel
theorem z7ao:prt 2 ⟨0,0,0,2,4,2⟩=64:=by decide +kernel
theorem z6ai:str (rprt (Na.up (Na.dig 1)) (Na.up (Na.dig 4096)))=⟨#[49,47,52,48,57,54]⟩:=by kernel_rfl
theorem z5p (w:World)(ht:Tab w):
  Calls Tryz.prog 9 #[] w fun e w'=>e=.returned (.bool true)/\Below w.heap.size w w':=by
 have H0:=(Ow.of (St.refl w)).arr #[.int .i64 0,.int .i64 0,.int .i64 0,.int .i64 2,.int .i64 4,.int .i64 2] 6 rfl (by omega) 33
 have H1:=H0.push (World.ownsRow_lit (base:=(w.alloc (.cells #[.int .i64 0,.int .i64 0,.int .i64 0,.int .i64 2,.int .i64 4,.int .i64 2] 33)).heap.size) (e:=40) (size:=1) (w.alloc (.cells #[.int .i64 0,.int .i64 0,.int .i64 0,.int .i64 2,.int .i64 4,.int .i64 2] 33)) #[.int .i64 0,.int .i64 0,.int .i64 0,.int .i64 0,.int .i64 0,.int .i64 0,.int .i64 1,.int .i64 0,.int .i64 0,.int .i64 0,.int .i64 0,.int .i64 0,.int .i64 0,.int .i64 1,.int .i64 1,.int .i64 0,.int .i64 0,.int .i64 0,.int .i64 0,.int .i64 0,.int .i64 0,.int .i64 2,.int .i64 1,.int .i64 0] 24 (zqj _) (by decide) rfl) (by omega) (z0i _ _)
 simp only [zqc,World.size_alloc] at H1;have HC:=zh (z7ag H1 1 1000 (by omega) (by omega))
 rw [z6bq] at HC;have HT:=zh ht;clear H0 H1 ht;go_enter Tryz.func9,Tryz.ntmps9
 go_wp2_with fail;refine HC.out.mono ?_;rintro e w3 ⟨B1,n1,d1,B2,n2,d2,rfl,G⟩;have H3:=G.pair (.slice B1 n1 d1) (.slice B2 n2 d2) 27
 simp only [zqb,zqc] at H3;have HJ:=zh (z9bc (p:=Na.up (Na.dig 1)) (q:=Na.up (Na.dig 1000)) (l:=[(⟨⟨0,0,0,0,0,0⟩,1,0⟩:Sn),(⟨⟨0,0,0,0,0,1⟩,1,0⟩:Sn),(⟨⟨0,0,0,0,0,2⟩,1,0⟩:Sn)]) (n3:=3) (c3:=3) ⟨0,0,0,2,4,2⟩ H3 1 2 0 (by rw [z0g];rfl) (by rw [z0g];rfl) rfl HT.out)
 rw [z9ae] at HJ;unfold JdR Vd.vs at HJ;have c0:=H3.p0 1 rfl
 have c1:=H3.p1 1 rfl
 obtain ⟨v0,v1,v2,v3,v4,v5⟩:=zc6 (H3.row 0 rfl);clear HC G H3;go_wp2_with fail;refine HJ.out.mono ?_;rintro e w4 ⟨C1,m1,e1,C2,m2,e2,rfl,G⟩;have H5:=G.arr #[.int .i64 2,.int .i64 0,.int .i64 0,.int .i64 0,.int .i64 0,.int .i64 0,.int .i64 0,.int .i64 1,.int .i64 3,.slice C1 m1 e1,.slice C2 m2 e2] 11 rfl (by omega) 42
 simp only [zqb,zqc] at H5;have HP:=zh (z5k (p:=Na.up (Na.dig 1)) (q:=Na.up (Na.dig 4096)) H5 3 4 (by rw [z0g];rfl) (by rw [z0g];rfl))
 rw [z6ai] at HP;have b0:=(H5.row 2 rfl).cellAt 0 (by decide)
 have b8:=(H5.row 2 rfl).cellAt 8 (by decide)
 have b9:=(H5.row 2 rfl).cellAt 9 (by decide)
 have b10:=(H5.row 2 rfl).cellAt 10 (by decide)
 clear HJ G H5 c0 c1 v0 v1 v2 v3 v4 v5;go_wp2_with fail;refine HP.out.mono ?_;rintro e w5 ⟨rfl,H6⟩;have HN:=zh (z8f 2 ⟨0,0,0,2,4,2⟩ (by decide) w5)
 rw [z7ao] at HN;obtain ⟨v0,v1,v2,v3,v4,v5⟩:=zc6 (H6.row 0 rfl);have HB:=zh H6.below;clear HP H6 b0 b8 b9 b10;go_wp2_with fail;refine HN.out.mono ?_;rintro e w6 ⟨rfl,hb⟩;have HB2:=zh (HB.out.trans (hb.mono HB.out.size))
 clear HN hb HB v0 v1 v2 v3 v4 v5;go_wp2_with fail;go_ret;exact ⟨rfl,HB2.out⟩
theorem z3ab {w:World}{base base':Nat}{e:TypeId}{s:Nat}{v:Value}{n:Nat}{xs:List Value}(h:w.ownsRow base e s v n xs)(hb:base'<=base):w.ownsRow base' e s v n xs:=
 ⟨h.1,h.2.imp id fun ⟨g,cap,cur,a,b,c⟩=>⟨g,cap,cur,a,zqq hb b,c⟩⟩
theorem z7au {w w':World}{A:Option Addr}{n c b:Nat}{e:TypeId}{xs:List Value}(h:w'.ownsRow w.heap.size e 1 (.slice A n c) n xs)(hb:b<w.heap.size)(v1 v2:Value):((w'.setCell ⟨b,0,none⟩ v1).setCell ⟨b,1,none⟩ v2).ownsRow w.heap.size e 1 (.slice A n c) n xs:=by
 have key:∀ {W:World},W.ownsRow w.heap.size e 1 (.slice A n c) n xs->∀ (k:Nat) (v:Value),(W.setCell ⟨b,k,none⟩ v).ownsRow w.heap.size e 1 (.slice A n c) n xs:=fun h k v=>by
  refine z2d h (z0f _ ⟨b,k,none⟩ v) ?_
  by_cases he:(Value.slice A n c).ownBlock=none
  ·exact .inl he
  ·exact .inr fun e2=>by
    have h3:=(h.lt _ e2).1
    exact absurd h3 (by show ¬ w.heap.size<=b;omega)
 exact key (key h 0 v1) 1 v2
theorem z3bs (a b:Nat)(w:World)(ha:a<=9223372036854775807)(hb:b<=9223372036854775807):
  Calls Tryz.prog 31 #[.int .i64 a,.int .i64 b] w (ResF w (frM a b)):=by
 have H0:=(Ow.of (St.refl w)).pair (.slice none 0 0) (.slice none 0 0) 27
 simp only [zqc] at H0;have HC:=zh (z2av H0 (a:Int) (by omega))
 rw [(z2h (Int.natCast_nonneg a)).1,(z2h (Int.natCast_nonneg a)).2] at HC
 have HA:Hid (a<Na.top/\b<Na.top):=⟨by have:=z3h (a:=(a:Int)) (by omega);rwa [Int.toNat_natCast] at this,by have:=z3h (a:=(b:Int)) (by omega);rwa [Int.toNat_natCast] at this⟩
 have HB:Hid ((b:Int)<=9223372036854775807):=by unfold Hid;omega
 clear H0 ha hb;go_enter Tryz.func31,Tryz.ntmps31
 go_wp2_with fail;refine HC.out.mono ?_;rintro e w1 ⟨B1,m1,d1,rfl,H1⟩;have H2:=H1.boxed (.slice B1 m1 d1) 25
 have HD:=zh (z2av H2 (b:Int) HB.out)
 rw [(z2h (Int.natCast_nonneg b)).1,(z2h (Int.natCast_nonneg b)).2] at HD
 clear HC H1 H2;obtain ⟨t,hmk⟩:∃ t,frM a b=t:=⟨_,rfl⟩
 have HMk:=zh hmk;clear hmk;go_wp2_with fail;refine HD.out.mono ?_;rintro e w2 ⟨B2,m2,d2,rfl,H3⟩;have H4:=H3.boxed (.slice B2 m2 d2) 25
 simp only [zqb,zqc,Int.toNat_natCast] at H4;have y0:=H4.cell 0 rfl
 have y1:=H4.cell 1 rfl
 have HE:=zh (z2ax H4 0 1 rfl rfl HA.out.1 HA.out.2)
 rw [HMk.out] at HE;have HG:=zh H4;clear HD H3 H4;go_wp2_with fail;refine HE.out.mono ?_;intro e w3 hr;obtain ⟨C1,p1,q1,C2,p2,q2,rfl,k1,k2,o1,o2,hbl⟩:=hr;have how3:=HG.out.go hbl
 have hlt:=(HG.out.lt (i:=0) rfl rfl).1
 have x0:=how3.p0 0 rfl
 have x1:=how3.p1 0 rfl
 have f0:=how3.pf 0 rfl 0
 have f1:=how3.pf 0 rfl 1
 have H5:=how3.set0 0 rfl (.slice C1 p1 q1)
 rw [zqd] at H5;have H6:=H5.set1 0 rfl (.slice C2 p2 q2)
 rw [zqd] at H6;have s0:=H6.p0 0 rfl
 have s1:=H6.p1 0 rfl
 have HF:=zh H6.below;have HR1:=zh (z3ab (z7au o1 hlt (.slice C1 p1 q1) (.slice C2 p2 q2)) HG.out.size)
 have HR2:=zh (z3ab (z7au o2 hlt (.slice C1 p1 q1) (.slice C2 p2 q2)) HG.out.size)
 have HK:=zh (And.intro k1 k2)
 clear HE HG hbl how3 H5 H6 y0 y1 o1 o2 k1 k2 hlt;go_wp2_with fail;refine bodyPost_ret (v:=.tuple #[.agg #[.slice C1 p1 q1,.slice C2 p2 q2],.int .i64 t.2.2]) (by simp [results,Tryz.results31,go_sem,s0,s1]) rfl ?_
 rw [HMk.out];exact ⟨C1,p1,q1,C2,p2,q2,rfl,HK.out.1,HK.out.2,HR1.out,HR2.out,HF.out⟩
namespace Cl
set_option maxHeartbeats 8000000
def frC (x y:Nat):Prop:=∃ z den:Nat,z<=den/\0<den/\den<=1000/\frM z den=(x,y,0)
end Cl
theorem z4be {z den:Nat}(h:z<=den)(h0:0<den)(h1:den<=1000):frC (frM z den).1 (frM z den).2.1:=by
 refine ⟨z,den,h,h0,h1,?_⟩
 unfold frM;rw [if_neg (by omega)]
theorem z9al {z den:Nat}(h:z<=den)(h1:den<=1000):(frM z den).1<Na.top/\(frM z den).2.1<Na.top:=z5o (zqu (zqq h h1) (by decide +kernel)) (zqu h1 (by decide +kernel))
theorem z5be {z:Nat}(h:z<6):∃ den:Nat,([.int .i64 1000,.int .i64 100,.int .i64 20,.int .i64 4,.int .i64 2,.int .i64 1]:List Value)[z]?=some (.int .i64 den)/\0<den/\den<=1000:=by
 have hcase:z=0∨z=1∨z=2∨z=3∨z=4∨z=5:=by omega
 rcases hcase with rfl|rfl|rfl|rfl|rfl|rfl
 ·exact ⟨1000,rfl,by omega,by omega⟩
 ·exact ⟨100,rfl,by omega,by omega⟩
 ·exact ⟨20,rfl,by omega,by omega⟩
 ·exact ⟨4,rfl,by omega,by omega⟩
 ·exact ⟨2,rfl,by omega,by omega⟩
 ·exact ⟨1,rfl,by omega,by omega⟩
theorem z9aw {w0 w:World}{g B:Nat}{M:List (Nat×Value)}{L:List Ob}{O:List Rw}(h:Ow w0 w (some g) M L O)(hd:Dice w g B)(hB:B<=w0.heap.size):
  Calls Tryz.prog 12 #[.pointer (some ⟨g,0,none⟩)] w fun e w'=>∃ (A1:Option Addr) (n1 c1:Nat) (A2:Option Addr) (n2 c2 x y:Nat),e=.returned (.agg #[.slice A1 n1 c1,.slice A2 n2 c2])/\frC x y/\Dice w' g B/\Ow w0 w' (some g) M (L++[⟨A1,n1,c1,z0c (Na.dig x)⟩]++[⟨A2,n2,c2,z0c (Na.dig y)⟩]) O:=by
 have H0:=(h.pair (.slice none 0 0) (.slice none 0 0) 27).arr #[.int .i64 1000,.int .i64 100,.int .i64 20,.int .i64 4,.int .i64 2,.int .i64 1] 6 rfl (by omega) 3
 simp only [World.size_alloc,zqa,zqb,zqc] at H0;have D0:Dice ((w.alloc (.cells #[.slice none 0 0,.slice none 0 0] 27)).alloc (.cells #[.int .i64 1000,.int .i64 100,.int .i64 20,.int .i64 4,.int .i64 2,.int .i64 1] 3)) g B:=(hd.below (z0i _ _)).below (z0i _ _)
 have HBd:=zh hB;have HN:=zh (z1e H0 D0 6 (by omega) (by omega))
 clear h hd hB H0 D0;go_enter Tryz.func12,Tryz.ntmps12
 go_wp2_with fail;refine HN.out.mono ?_;rintro e w1 ⟨z,rfl,hz,D1,H1,-⟩;obtain ⟨den,hden,hd0,hd1⟩:=z5be hz
 have c0:=(H1.row (O.length+1) (zk rfl)).cellAt z (by omega)
 rw [hden] at c0;have hzI:(z:Int)<6:=by omega
 have hw1:IntKind.i64.wrap ((den:Int)+1)=((den+1:Nat):Int):=by rw [IntWalk.i64_in _ (by omega)];omega
 have HN2:=zh (z1e H1 D1 (den+1) (by omega) (by omega))
 have HDn:Hid (0<den/\den<=1000):=⟨hd0,hd1⟩
 clear HN H1 D1 hden hd0 hd1;go_wp2_with fail;refine HN2.out.mono ?_;rintro e w2 ⟨y,rfl,hy,D2,H2,-⟩;have HOf:=zh (z3bs y den w2 (by have:=HDn.out;omega) (by have:=HDn.out;omega))
 have HY:=zh hy;have HD2:=zh D2;have HH2:=zh H2;clear HN2 H2 D2 hy c0;go_wp2_with fail;refine HOf.out.mono ?_;rintro e w3 ⟨B1,bn1,bd1,B2,bn2,bd2,rfl,k1,k2,o1,o2,hb⟩;have ht:=z9al (Nat.lt_succ_iff.1 HY.out) HDn.out.2
 have H3:=(HH2.out.push2 o1 o2 (by rw [<- k1];exact z3a ht.1) (by rw [<- k2];exact z3a ht.2) hb).pair (.slice B1 bn1 bd1) (.slice B2 bn2 bd2) 27
 have D3:Dice (w3.alloc (.cells #[.slice B1 bn1 bd1,.slice B2 bn2 bd2] 27)) g B:=(HD2.out.below hb).below (z0i _ _)
 simp only [zqa,zqb,zqc] at H3;have HN3:=zh (z1e H3 D3 3 (by omega) (by omega))
 clear HOf k1 k2 o1 o2 hb ht H3 D3 HH2 HD2;go_wp2_with fail;refine HN3.out.mono ?_;rintro e w4 ⟨v,rfl,hv,D4,H4,-⟩;have HH4:=zh H4;have HD4:=zh D4;clear HN3 H4 D4;rcases zqh v with rfl|hv0
 ·clear hv;have H4:=HH4.out;have D4:=HD4.out;clear HH4 HD4;have c0:=H4.p0 (O.length+2) (zk rfl)
  have c1:=H4.p1 (O.length+2) (zk rfl)
  have x50:=H4.p0 (O.length+0) (zk rfl)
  have x51:=H4.p1 (O.length+0) (zk rfl)
  have f50:=H4.pf (O.length+0) (zk rfl) 0
  have f51:=H4.pf (O.length+0) (zk rfl) 1
  have J5a:=H4.set0 (O.length+0) (zk rfl) (.slice B1 bn1 bd1)
  have E5a:=D4.turned HBd.out H4 (i:=O.length+0) (zk rfl) (z0f _ ⟨_,0,none⟩ (.slice B1 bn1 bd1))
  rw [z0o] at J5a;rw [zqd] at J5a;have J5:=J5a.set1 (O.length+0) (zk rfl) (.slice B2 bn2 bd2)
  have E5:=E5a.turned HBd.out J5a (i:=O.length+0) (zk rfl) (z0f _ ⟨_,1,none⟩ (.slice B2 bn2 bd2))
  rw [z0o] at J5;rw [zqd] at J5;have s0:=J5.p0 (O.length+0) (zk rfl)
  have s1:=J5.p1 (O.length+0) (zk rfl)
  have HE:=zh J5.fewO;have HDf:=zh E5;clear J5a E5a J5 E5 H4 D4;go_wp2_with fail;refine bodyPost_ret (v:=.agg #[.slice B1 bn1 bd1,.slice B2 bn2 bd2]) (by simp [results,Tryz.results12,go_sem,s0,s1]) rfl ?_
  exact ⟨B1,bn1,bd1,B2,bn2,bd2,_,_,rfl,z4be (Nat.lt_succ_iff.1 HY.out) HDn.out.1 HDn.out.2,HDf.out,by rw [zqa];exact HE.out⟩
 ·have t1:decide ((0:Int)<v)=true:=zt (by omega)
  have t2:decide (0<v)=true:=zt hv0
  have HOf:=zh (z3bs 1 den w4 (by omega) (by have:=HDn.out;omega))
  clear hv hv0;go_wp2_with fail;refine HOf.out.mono ?_;rintro e w5 ⟨C1,cn1,cd1,C2,cn2,cd2,rfl,k1,k2,o1,o2,hb⟩;have ht:=z9al HDn.out.1 HDn.out.2
  have H5:=(HH4.out.push2 o1 o2 (by rw [<- k1];exact z3a ht.1) (by rw [<- k2];exact z3a ht.2) hb).less (L':=L++[⟨C1,cn1,cd1,z0c (Na.dig (frM 1 den).1)⟩,⟨C2,cn2,cd2,z0c (Na.dig (frM 1 den).2.1)⟩]) (fun o ho=>by
   rcases List.mem_append.1 ho with h1|h1
   ·exact List.mem_append_left _ (List.mem_append_left _ (List.mem_append_left _ h1))
   ·rw [List.mem_cons,List.mem_singleton] at h1;rcases h1 with rfl|rfl
    ·exact List.mem_append_left _ (List.mem_append_right _ List.mem_cons_self)
    ·exact List.mem_append_right _ List.mem_cons_self)
  have D5:=HD4.out.below hb
  clear HOf k1 k2 o1 o2 hb ht HH4 HD4;have x60:=H5.p0 (O.length+2) (zk rfl)
  have x61:=H5.p1 (O.length+2) (zk rfl)
  have f60:=H5.pf (O.length+2) (zk rfl) 0
  have f61:=H5.pf (O.length+2) (zk rfl) 1
  have J6a:=H5.set0 (O.length+2) (zk rfl) (.slice C1 cn1 cd1)
  have E6a:=D5.turned HBd.out H5 (i:=O.length+2) (zk rfl) (z0f _ ⟨_,0,none⟩ (.slice C1 cn1 cd1))
  rw [z0o] at J6a;simp only [zqe,zqd] at J6a;have J6:=J6a.set1 (O.length+2) (zk rfl) (.slice C2 cn2 cd2)
  have E6:=E6a.turned HBd.out J6a (i:=O.length+2) (zk rfl) (z0f _ ⟨_,1,none⟩ (.slice C2 cn2 cd2))
  rw [z0o] at J6;simp only [zqe,zqd] at J6;have H6:=J6;have D6:=E6;clear J6a E6a J6 E6 H5 D5;have c0:=H6.p0 (O.length+2) (zk rfl)
  have c1:=H6.p1 (O.length+2) (zk rfl)
  have x50:=H6.p0 (O.length+0) (zk rfl)
  have x51:=H6.p1 (O.length+0) (zk rfl)
  have f50:=H6.pf (O.length+0) (zk rfl) 0
  have f51:=H6.pf (O.length+0) (zk rfl) 1
  have J5a:=H6.set0 (O.length+0) (zk rfl) (.slice C1 cn1 cd1)
  have E5a:=D6.turned HBd.out H6 (i:=O.length+0) (zk rfl) (z0f _ ⟨_,0,none⟩ (.slice C1 cn1 cd1))
  rw [z0o] at J5a;rw [zqd] at J5a;have J5:=J5a.set1 (O.length+0) (zk rfl) (.slice C2 cn2 cd2)
  have E5:=E5a.turned HBd.out J5a (i:=O.length+0) (zk rfl) (z0f _ ⟨_,1,none⟩ (.slice C2 cn2 cd2))
  rw [z0o] at J5;rw [zqd] at J5;have s0:=J5.p0 (O.length+0) (zk rfl)
  have s1:=J5.p1 (O.length+0) (zk rfl)
  have HE:=zh J5.fewO;have HDf:=zh E5;clear J5a E5a J5 E5 H6 D6;go_wp2_with fail;refine bodyPost_ret (v:=.agg #[.slice C1 cn1 cd1,.slice C2 cn2 cd2]) (by simp [results,Tryz.results12,go_sem,s0,s1]) rfl ?_
  exact ⟨C1,cn1,cd1,C2,cn2,cd2,_,_,rfl,z4be HDn.out.1 HDn.out.1 HDn.out.2,HDf.out,by rw [zqa];exact HE.out⟩
namespace Cl
set_option maxHeartbeats 8000000
theorem z0cl (k:Int)(p:Pl):wh k (wh k p)=wh k p:=by
 unfold wh;congr 1 <;> split <;> rfl
theorem z5bb (k:Int)(p:Pl)(c t t':Int):z3u k ⟨wh k p,c,t⟩=z3u k ⟨p,c,t'⟩:=by
 unfold z3u;rw [z0cl]
theorem z0bi:∀ (ks:List (Sp×List Nat))(q:Sp)(i:Nat)(p:Sp×List Nat),(ks.map (·.1)).Nodup->p∈ad ks q i->(p∈ks/\p.1≠q)∨(p.1=q/\∃ g,(q,g)∈ks/\p.2=g++[i])∨(p.1=q/\p.2=[i]/\∀ p'∈ks,p'.1≠q)
 | [],q,i,p,_,h=>by
  have:p=(q,[i]):=by simpa [ad] using h
  subst this
  exact .inr (.inr ⟨rfl,rfl,fun p' hp=>by cases hp⟩)
 | r :: ks,q,i,p,hn,h=>by
  rw [List.map_cons,List.nodup_cons] at hn;have h':p∈(if r.1=q then (q,r.2++[i]) :: ks else r :: ad ks q i):=h
  by_cases e:r.1=q
  ·rw [if_pos e] at h';rcases List.mem_cons.1 h' with rfl|h2
   ·exact .inr (.inl ⟨rfl,r.2,by rw [<- e];exact List.mem_cons_self,rfl⟩)
   ·exact .inl ⟨List.mem_cons_of_mem _ h2,fun e2=>hn.1 (by rw [e,<- e2];exact List.mem_map_of_mem h2)⟩
  ·rw [if_neg e] at h';rcases List.mem_cons.1 h' with rfl|h2
   ·exact .inl ⟨List.mem_cons_self,e⟩
   ·rcases z0bi ks q i p hn.2 h2 with ⟨h3,h4⟩|⟨h3,g,h4,h5⟩|⟨h3,h4,h5⟩
    ·exact .inl ⟨List.mem_cons_of_mem _ h3,h4⟩
    ·exact .inr (.inl ⟨h3,g,List.mem_cons_of_mem _ h4,h5⟩)
    ·exact .inr (.inr ⟨h3,h4,fun p' hp=>by
      rcases List.mem_cons.1 hp with rfl|hp
      ·exact e
      ·exact h5 p' hp⟩)
theorem z8y (k:Int)(l:List Sn):∀ (i j:Nat) (x:Sn),j<i->l[j]?=some x->z3u k x∈(z2j k l i).map (·.1)
 | 0,j,x,h,_=>by omega
 | i+1,j,x,h,hx=>by
  show z3u k x∈(((match l[i]? with|some x=>ad (z2j k l i) (z3u k x) i|none=>z2j k l i):List (Sp×List Nat)).map (·.1))
  rcases zqi j i with hlt|hge
  ·have ih:=z8y k l i j x hlt hx
   split
   ·exact ((z9e _ _ _).1 _).2 (.inl ih)
   ·exact ih
  ·obtain rfl:j=i:=by omega
   rw [hx];exact ((z9e _ _ _).1 _).2 (.inr rfl)
end Cl
namespace Cl
set_option maxHeartbeats 8000000
structure Oy (X:List Rx)(w0 w:World)(g:Option Nat)(M:List (Nat×Value))(L:List Ob)(O:List Rw):Prop where
 ox:Ox w0 w g M L O X
section
variable {X:List Rx}{w0 w w':World}{g:Option Nat}{M:List (Nat×Value)}{L:List Ob}{O:List Rw}
theorem Oy.row (h:Oy X w0 w g M L O)(i:Nat){A:Option Addr}{n c:Nat}{e:TypeId}{vs:List Value}(hi:O[i]?=some ⟨A,n,c,e,vs⟩):w.ownsRow w0.heap.size e 1 (.slice A n c) n vs:=h.ox.ow.row i hi
theorem Oy.sl (h:Oy X w0 w g M L O){i:Nat}{A:Option Addr}{n c:Nat}{vs:List Value}(hi:L[i]?=some ⟨A,n,c,vs⟩):vs.length=n/\n<=c/\n<=1000/\Sl w w.heap.size A vs:=h.ox.ow.sl hi
theorem Oy.go (h:Oy X w0 w g M L O)(hb:Below w.heap.size w w'):Oy X w0 w' g M L O:=⟨h.ox.go hb⟩
theorem Oy.drew (h:Oy X w0 w g M L O):Oy X w0 w.drew g M L O:=⟨h.ox.go (z0w (Below.refl _ _) 1)⟩
theorem _root_.Go.Proofs.YtpmofjomadibmaaGreatDoor.Ox.turnO (h:Ox w0 w g M L O X)(i:Nat){r r':Rw}(hi:O[i]?=some r)(hg:w.grownBy w' r.blk)(ho:w'.ownsRow w0.heap.size r'.e 1 (.slice r'.A r'.n r'.c) r'.n r'.vs)(hb:r'.blk=r.blk∨r'.blk=some w.heap.size):Ox w0 w' g M L (O.set i r') X:=by
 refine ⟨h.ow.turn i hi hg ho hb,fun j x hj=>h.keepRow hg hj fun b hb' e2=>(h.ap j x hj b hb').2.2.2 i r hi e2,fun j x hj b hb'=>?_,h.two⟩
 obtain ⟨a1,a2,a3,a4⟩:=h.ap j x hj b hb'
 refine ⟨a1,a2,a3,fun j2 q hq e2=>?_⟩
 rcases Nat.decEq j2 i with hne|rfl
 ·rw [zqf (Ne.symm hne)] at hq
  exact a4 j2 q hq e2
 ·rw [List.getElem?_set_self (z0d hi)] at hq
  obtain rfl:=zqk hq
  rcases hb with hb|hb
  ·exact a4 j2 r hi (hb.symm.trans e2)
  ·have:=(h.lt hj hb').1
   have:=zqk (hb.symm.trans e2)
   omega
theorem Oy.cut (h:Oy X w0 w g M L O)(i:Nat){A:Option Addr}{n c:Nat}{e:TypeId}{vs:List Value}(hi:O[i]?=some ⟨A,n,c,e,vs⟩){k:Nat}(hk:k<=n):Oy X w0 w g M L (O.set i ⟨A,k,c,e,vs.take k⟩):=
 ⟨h.ox.turnO i hi (r':=⟨A,k,c,e,vs.take k⟩) (World.grownBy.refl w _) (z3j (h.ox.ow.own i _ hi) hk) (.inl (by show (Value.slice A k c).ownBlock=(Value.slice A n c).ownBlock;rw [z6y,z6y]))⟩
theorem Oy.put (h:Oy X w0 w g M L O)(i:Nat){gb n c:Nat}{e:TypeId}{vs:List Value}(hi:O[i]?=some ⟨some ⟨gb,0,none⟩,n,c,e,vs⟩)(k:Nat)(v:Value):Oy X w0 (w.setCell ⟨gb,k,none⟩ v) g M L (O.set i ⟨some ⟨gb,0,none⟩,n,c,e,vs.set k v⟩):=⟨h.ox.putO i hi k v⟩
end
def dlP (k:Int)(y:Sn)(l:List Sn)(i:Nat):Bool:=match l[i]? with
 | some x=>decide (z3u k y=z3u k x)
 | none=>false
end Cl
structure AlK (X:List Rx)(w0:World)(g:Option Nat)(M:List (Nat×Value))(L:List Ob)(O:List Rw)(vb nb lb:Nat)(vk:Int)(ad:Addr)(n c i:Nat)(x0 x1 x2 x3 x4 x5 x6 x7 y0 y1 y2 y3 y4 y5 y6 y7:Int)(bb:Bool)(Ld:Nat->Bool)(u0 u1 u2 u3 u4 u5 u6 u7 u8:Value)(W:World):Prop where
 ow:Oy X w0 W g M L O
 h0:Ld 0=true->u0=.pointer (some ⟨vb,0,none⟩)
 h1:Ld 1=true->u1=.int .i64 vk
 h2:Ld 2=true->u2=.agg #[.int .i64 y0,.int .i64 y1,.int .i64 y2,.int .i64 y3,.int .i64 y4,.int .i64 y5,.int .i64 y6,.int .i64 y7]
 h3:Ld 3=true->u3=.slice (some ad) n c
 h4:Ld 4=true->u4=.int .i64 i
 h5:Ld 5=true->u5=.pointer (some (ad.add (i*8)))
 h6:Ld 6=true->u6=.agg #[.int .i64 x0,.int .i64 x1,.int .i64 x2,.int .i64 x3,.int .i64 x4,.int .i64 x5,.int .i64 x6,.int .i64 x7]
 h7:Ld 7=true->u7=.bool bb
 h8:Ld 8=true->u8=.bool bb
inductive AlI (X:List Rx)(w0:World)(g:Option Nat)(M:List (Nat×Value))(L:List Ob)(O:List Rw)(vb nb lb:Nat)(vk:Int)(ad:Addr)(n c i:Nat)(x0 x1 x2 x3 x4 x5 x6 x7 y0 y1 y2 y3 y4 y5 y6 y7:Int)(bb:Bool)(A0:Act)(Ld:Nat->Bool)(a:Act)(W:World):Prop
 | m {u0 u1 u2 u3 u4 u5 u6 u7 u8:Value}(k:AlK X w0 g M L O vb nb lb vk ad n c i x0 x1 x2 x3 x4 x5 x6 x7 y0 y1 y2 y3 y4 y5 y6 y7 bb Ld u0 u1 u2 u3 u4 u5 u6 u7 u8 W)(h:a=(((((((((A0.put (some 6) u0).put (some 7) u1).put (some 8) u2).put (some 9) u3).put (some 10) u4).put (some 11) u5).put (some 12) u6).put (some 13) u7).put (some 5) u8):=by simp only [Act.put,zT,zZ,zS])
theorem z3be {X:List Rx}{w0 w:World}{g:Option Nat}{M:List (Nat×Value)}{L:List Ob}{O:List Rw}(h:Oy X w0 w g M L O){vi ni bi k vb nb lb n c e3:Nat}{A:Option Addr}{vk:Int}{vr:List Value}{l:List Sn}(y:Sn)(hv:O[vi]?=some (⟨some ⟨vb,0,none⟩,11,11,42,.int .i64 vk :: vr⟩:Rw))(hn:O[ni]?=some ⟨some ⟨nb,0,none⟩,8,8,40,y.vs.toList⟩)(hb:O[bi]?=some (⟨some ⟨lb,0,none⟩,1,1,23,[.slice A n c]⟩:Rw))(hk:L[k]?=some ⟨A,n*8,e3,fl l⟩)(hvr:vr.length=10)(hkd:kd vk)(i:Nat)(hi:i<n):
  Calls Tryz.prog 52 #[.int .i64 i,.pointer (some ⟨vb,0,none⟩),.pointer (some ⟨nb,0,none⟩),.pointer (some ⟨lb,0,none⟩)] w fun e w'=>e=.returned (.bool (dlP vk y l i))/\Oy X w0 w' g M L O:=by
 have hl:l.length=n:=by
  have:=(h.sl hk).1
  rw [z2q] at this;omega
 obtain ⟨x,hx⟩:∃ z,l[i]?=some z:=⟨l[i]'(by omega),zql _⟩
 obtain ⟨ad,rfl,_⟩:=z2v (h.sl hk).2.2.2 hx
 have hP:dlP vk y l i=decide (z3u vk y=z3u vk x):=by unfold dlP;rw [hx]
 obtain ⟨bb,hbb⟩:∃ z,decide (z3u vk y=z3u vk x)=z:=⟨_,rfl⟩
 rw [hP,hbb];have HSm:=zh (fun W=>z7an vk hkd y x W)
 rw [hbb] at HSm;obtain ⟨⟨y0,y1,y2,y3,y4,y5⟩,y6,y7⟩:=y
 obtain ⟨⟨x0,x1,x2,x3,x4,x5⟩,x6,x7⟩:=x
 unfold Sn.vs at HSm hn;have HO:=zh h;have HVr:=zh hv;have HNr:Hid (O[ni]?=some (⟨some ⟨nb,0,none⟩,8,8,40,[.int .i64 y0,.int .i64 y1,.int .i64 y2,.int .i64 y3,.int .i64 y4,.int .i64 y5,.int .i64 y6,.int .i64 y7]⟩:Rw)):=hn
 have HBr:=zh hb;have HK:=zh hk;have HX:=zh hx;have HIn:Hid (i<n/\(i:Int)<n):=⟨hi,by omega⟩
 clear h hv hn hb hk hvr hkd hx hP hbb hl hi;go_enter Tryz.func52,Tryz.ntmps52
 go_wp2_with fail;refine z1k (AlI X w0 g M L O vb nb lb vk ad n c i x0 x1 x2 x3 x4 x5 x6 x7 y0 y1 y2 y3 y4 y5 y6 y7 bb) (by kernel_rfl) (by kernel_rfl) ?_ ?_ ?_
 ·refine @AlI.m _ _ _ _ _ _ _ _ _ _ _ _ _ _ _ _ _ _ _ _ _ _ _ _ _ _ _ _ _ _ _ _ _ _ _ undef undef undef undef undef undef undef undef (.bool false) ⟨HO.out.drew,?_,?_,?_,?_,?_,?_,?_,?_,?_⟩ ?_
  all_goals first|(intro h;cases h)|simp only [Act.put,zT,zZ,zS]
 ·rintro jj Ld b W hj hf hcl hd ⟨hC,rfl⟩;have hj':jj<9:=hj
  have hcase:jj=0∨jj=1∨jj=2∨jj=3∨jj=4∨jj=5∨jj=6∨jj=7∨jj=8:=by omega
  clear hj hj';simp only [Act.put,zT,zZ,zS];rcases hcase with rfl|rfl|rfl|rfl|rfl|rfl|rfl|rfl|rfl
  ·clear hd hcl;refine zw rfl fun K hK=>?_
   go_simp;exact hK _ _ (.m {hC with h0:=fun _=>rfl})
  ·obtain rfl:=hC.h0 (hd 0 (by kernel_rfl));have y0:W.cell? ⟨vb,0,none⟩=some (.int .i64 vk):=(hC.ow.row vi HVr.out).cellAt 0 (by decide)
   clear hd hcl;refine zw rfl fun K hK=>?_
   go_simp;exact hK _ _ (.m {hC with h1:=fun _=>rfl})
  ·obtain ⟨z0,z1,z2,z3,z4,z5,z6,z7⟩:=zc8 (hC.ow.row ni HNr.out);clear hd hcl;refine zw rfl fun K hK=>?_
   go_simp;exact hK _ _ (.m {hC with h2:=fun _=>rfl})
  ·have y0:W.cell? ⟨lb,0,none⟩=some (.slice (some ad) n c):=(hC.ow.row bi HBr.out).cellAt 0 (by decide)
   clear hd hcl;refine zw rfl fun K hK=>?_
   go_simp;exact hK _ _ (.m {hC with h3:=fun _=>rfl})
  ·clear hd hcl;refine zw rfl fun K hK=>?_
   go_simp;exact hK _ _ (.m {hC with h4:=fun _=>rfl})
  ·obtain rfl:=hC.h3 (hd 3 (by kernel_rfl));obtain rfl:=hC.h4 (hd 4 (by kernel_rfl));have hin:=HIn.out.1;have hii:=HIn.out.2;clear hd hcl;refine zw rfl fun K hK=>?_
   go_simp;exact hK _ _ (.m {hC with h5:=fun _=>rfl})
  ·obtain rfl:=hC.h5 (hd 5 (by kernel_rfl));obtain ⟨ad2,hae,e0,e1,e2,e3,e4,e5,e6,e7⟩:=z2v (hC.ow.sl HK.out).2.2.2 HX.out
   obtain rfl:ad=ad2:=zqk hae
   clear hae;clear hd hcl;refine zw rfl fun K hK=>?_
   go_simp;exact hK _ _ (.m {hC with h6:=fun _=>rfl})
  ·obtain rfl:=hC.h1 (hd 1 (by kernel_rfl));obtain rfl:=hC.h2 (hd 2 (by kernel_rfl));obtain rfl:=hC.h6 (hd 6 (by kernel_rfl));have hcall:=HSm.out W
   clear hd hcl;refine zw rfl fun K hK=>?_
   go_simp;refine (hcall).mono ?_
   rintro e W' ⟨rfl,hb⟩;exact hK _ _ (.m {hC with ow:=hC.ow.go hb,h7:=fun _=>rfl})
  ·obtain rfl:=hC.h7 (hd 7 (by kernel_rfl));clear hd hcl;refine zw rfl fun K hK=>?_
   go_simp;exact hK _ _ (.m {hC with h8:=fun _=>rfl})
 ·rintro Ld b W hL ⟨hC,rfl⟩;obtain rfl:=hC.h8 (hL 8 (by show 8<9;decide))
  have HE:=zh hC.ow;clear hC hL;simp only [Act.put,zT,zZ,zS];go_wp2_with fail;go_ret;exact ⟨rfl,HE.out⟩
theorem Oy.puts {X:List Rx}{w0:World}{g:Option Nat}{M:List (Nat×Value)}{L:List Ob}{i gb n c:Nat}{e:TypeId}:∀ (us:List Value) {w:World} {O:List Rw} {vs:List Value} (k:Nat),Oy X w0 w g M L O->O[i]?=some ⟨some ⟨gb,0,none⟩,n,c,e,vs⟩->k+us.length<=vs.length->
  Oy X w0 (w.setCells gb k us) g M L (O.set i ⟨some ⟨gb,0,none⟩,n,c,e,vs.take k++us++vs.drop (k+us.length)⟩)
 | [],w,O,vs,k,h,hi,hk=>by
  simp only [List.append_nil,List.length_nil,Nat.add_zero,List.take_append_drop];rw [z1p hi];exact h
 | u :: us,w,O,vs,k,h,hi,hk=>by
  rw [List.length_cons] at hk;have h1:=h.put i hi k u
  have h2:=Oy.puts us (k+1) h1 (z0a hi) (by rw [List.length_set];omega)
  rw [List.set_set] at h2;have e1:(vs.set k u).take (k+1)++us++(vs.set k u).drop (k+1+us.length)=vs.take k++(u :: us)++vs.drop (k+(u :: us).length):=by
   rw [List.drop_set_of_lt (by omega),List.take_succ_eq_append_getElem (by rw [List.length_set];omega),List.take_set_of_le (zqj k),List.getElem_set_self,List.length_cons,show k+1+us.length=k+(us.length+1) by omega]
   simp
  rw [e1] at h2;exact h2
def Clo (P:Program)(fn:FuncId)(caps:List Value)(X:List Rx)(w0:World)(g:Option Nat)(M:List (Nat×Value))(L:List Ob)(O:List Rw)(li:Nat)(A:Option Addr)(n c N:Nat)(p:Nat->Bool):Prop:=
 ∀ (W:World) (vs:List Value),Oy X w0 W g M L (O.set li ⟨A,n,c,3,vs⟩)->∀ i,i<N->Calls P fn (#[.int .i64 i]++caps.toArray) W fun e w'=>e=.returned (.bool (p i))/\Oy X w0 w' g M L (O.set li ⟨A,n,c,3,vs⟩)
def RIi (X:List Rx)(w0:World)(g:Option Nat)(M:List (Nat×Value))(L:List Ob)(O:List Rw)(gl:List Nat)(p:Nat->Bool)(n:Nat)(x:Value)(wr:World):Prop:=
 ∃ i:Nat,i<=n/\x=.int .i64 i/\Hid (Oy X w0 wr g M L O)/\Hid (∀ (j:Nat) (z:Nat),j<i->gl[j]?=some z->p z=false)
theorem z7bh {X:List Rx}{w0 w:World}{g:Option Nat}{M:List (Nat×Value)}{L:List Ob}{O:List Rw}(h:Oy X w0 w g M L O)(li:Nat){A:Option Addr}{n c N:Nat}{gl:List Nat}(hl:O[li]?=some ⟨A,n,c,3,z0c gl⟩)(hg:gl.length=n)(hn:n<=1000)(hN:∀ z∈gl,z<N)(p:Nat->Bool)(F:FuncId)(c1 c2 c3:Value)
  (eg:∀ args w,(callFunc F args).run Tryz.prog w=.ok (.enter F args) w) (hF:Clo Tryz.prog F [c1,c2,c3] X w0 g M L O li A n c N p) :
  Calls Tryz.prog 80 #[.slice A n c,.func (.func F) #[] #[c1,c2,c3]] w fun e w'=>∃ r:Int,e=.returned (.int .i64 r)/\Oy X w0 w' g M L O/\((r=-1/\∀ z∈gl,p z=false)∨∃ k z:Nat,r=(k:Int)/\gl[k]?=some z/\p z=true/\∀ j y,j<k->gl[j]?=some y->p y=false):=by
 have HO:=zh h;have HL:=zh hl;have HG:=zh hg;have HNn:=zh hN;have HF:=zh hF;clear h hl hg hN hF;go_enter Tryz.func80,Tryz.ntmps80
 go_wp2_with fail;go_loopw [8] (fun x wr=>RIi X w0 g M L O gl p n x wr) (fun x _=>n+1 - (intOf x).toNat)
 case atStart=>exact ⟨0,zqr _,rfl,HO.out,fun j z hj=>absurd hj (Nat.not_lt_zero _)⟩
 case round=>
  clear HO;obtain ⟨i,hi,rfl,HO,HI⟩:=hrel;rcases Nat.eq_or_lt_of_le hi with heq|hlt
  ·have hd:decide ((i:Int)<n)=false:=zn (by omega)
   have hd2:decide (i<n)=false:=zn (by omega)
   have HAll:Hid (∀ z∈gl,p z=false):=fun z hz=>by
    obtain ⟨j,hj⟩:=List.getElem?_of_mem hz
    exact HI.out j z (by have:=z0d hj;have:=HG.out;omega) hj
   clear heq hi;go_wp2_with fail;go_ret;exact ⟨-1,rfl,HO.out,.inl ⟨rfl,HAll.out⟩⟩
  ·have hd:decide ((i:Int)<n)=true:=zt (by omega)
   have hd2:decide (i<n)=true:=zt (by omega)
   obtain ⟨z,hz⟩:∃ z,gl[i]?=some z:=⟨gl[i]'(by rw [HG.out];exact hlt),zql _⟩
   have HZ:=zh hz;have hR:=HO.out.row li HL.out
   obtain ⟨gb,hgb,_,_⟩:=z0n hR (by omega)
   obtain rfl:=hgb
   have e0:=hR.cells (g:=gb) rfl i (.int .i64 z) (by unfold z0c;rw [List.getElem?_map,hz];rfl)
   rw [z6n] at e0;have hOs:Oy X w0 wr g M L (O.set li ⟨some ⟨gb,0,none⟩,n,c,3,z0c gl⟩):=by rw [z1p HL.out];exact HO.out
   have HC:=zh (HF.out wr (z0c gl) hOs z (HNn.out z (List.mem_of_getElem? hz)))
   rw [z1p HL.out] at HC;have HIn:=zh hlt;have hli:(i:Int)<n:=by omega
   have hw1:IntKind.i64.wrap ((i:Int)+1)=((i+1:Nat):Int):=by rw [IntWalk.i64_in _ (by omega)];omega
   cases hp:p z with
   | true=>
    rw [hp] at HC;have HP:=zh hp;clear hz hR hOs hp hi hlt;go_wp2_with (go_at_fn F;refine HC.out.mono ?_;rintro e w' ⟨rfl,ho⟩)
    go_ret;exact ⟨_,rfl,ho,.inr ⟨i,z,rfl,HZ.out,HP.out,HI.out⟩⟩
   | false=>
    rw [hp] at HC;have HP:=zh hp;clear hz hR hOs hp hi hlt;go_wp2_with (go_at_fn F;refine HC.out.mono ?_;rintro e w' ⟨rfl,ho⟩)
    go_roundw
    case rel=>exact ⟨i+1,HIn.out,rfl,ho,fun j y hj hy=>by
     rcases zqi j i with h|h
     ·exact HI.out j y h hy
     ·obtain rfl:j=i:=by omega
      have:=HZ.out
      rw [hy] at this;obtain rfl:=zqk this
      exact HP.out⟩
    case measure=>
     have:=HIn.out
     simp [intOf]
     omega
end Go.Proofs.YtpmofjomadibmaaGreatDoor
