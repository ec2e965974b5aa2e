/- Zs Zj Zt -/
import Derived.Test.YtpmofjomadibmaaGreatDoorS21
namespace Go.Proofs.YtpmofjomadibmaaGreatDoor
set_option maxHeartbeats 8000000
open Go.RowKit Go.Sort
open Go.ChangeMaps (setBlock heap_setBlock_same heap_setBlock_other)
set_option linter.unusedVariables false
set_option maxRecDepth 100000
open Cl
namespace Cl
set_option maxHeartbeats 8000000
theorem z2bm:∀ (ks:List (Sp×List Nat))(q:Sp)(i:Nat),((ad ks q i).map (·.2)).flatten.length=(ks.map (·.2)).flatten.length+1
 | [],q,i=>rfl
 | p :: r,q,i=>by
  by_cases e:p.1=q
  ·have h:ad (p :: r) q i=(q,p.2++[i]) :: r:=by show (if p.1=q then _ else _)=_;rw [if_pos e]
   rw [h];simp only [List.map_cons,List.flatten_cons,zqm,List.length_singleton];omega
  ·have h:ad (p :: r) q i=p :: ad r q i:=by show (if p.1=q then _ else _)=_;rw [if_neg e]
   have ih:=z2bm r q i
   rw [h];simp only [List.map_cons,List.flatten_cons,zqm];omega
theorem z8i (k:Int)(l:List Sn):∀ i,((z2c k l i).map (·.2)).flatten.length≤i
 | 0=>zqj _
 | i+1=>by
  have ih:=z8i k l i
  show (((match l[i]? with | some x=>ad (z2c k l i) (z3b k x) i | none=>z2c k l i):List (Sp×List Nat)).map (·.2)).flatten.length≤i+1
  split
  ·rw [z2bm];omega
  ·omega
theorem z7aj {gs:List (List Nat)}(i:Nat):(gs.take i).flatten.length≤gs.flatten.length:=by
 conv=>rhs;rw [← List.take_append_drop i gs]
 rw [List.flatten_append,zqm];omega
theorem z2ay {gs:List (List Nat)}{i:Nat}{x:List Nat}(h:gs[i]?=some x):x.length≤gs.flatten.length:=by
 have:=List.sublist_flatten_of_mem (List.mem_of_getElem? h)
 exact this.length_le
structure Lns (gs:List (List Nat))(inn:List Rw)(n3:Nat):Prop where
 len:gs.length=inn.length
 row:∀ (i:Nat) (r:Rw),inn[i]?=some r→r.e=3∧∃ ga,gs[i]?=some ga∧r.vs=z0c ga
 sum:gs.flatten.length≤n3
 lt:∀ ga∈gs,∀ z∈ga,z<n3
def slN:Value→Nat
 | .slice _ n _=>n
 | _=>0
theorem z4bz {n:Nat}(s:Pl)(p q:List Int)(l:List Sn){gs:List (List Nat)}(i:Nat)(h:gs.flatten.length≤n):(lsV s p q l (gs.take i)).length+(lsR s p q l (gs.take i)).length≤n:=by
 have h1:=z1by s p q l (gs.take i)
 have h2:=z7aj (gs:=gs) i
 omega
end Cl
section
variable {P:Program}{w0 w:World}{g:Option Nat}{M:List (Nat×Value)}{L:List Ob}{O:List Rw}{X l:List Rx}{t e:TypeId}{z:Value}{bytes:Nat}
theorem Ox.fewX (h:Ox w0 w g M L O (X++l)):Ox w0 w g M L O X:=by
 have key:∀ (i:Nat) (r:Rx),X[i]?=some r→(X++l)[i]?=some r:=fun i r hi=>by rw [zqn (z0e hi)];exact hi
 exact ⟨h.ow,fun i r hi=>h.own i r (key i r hi),fun i r hi=>h.ap i r (key i r hi),fun i j r s hi hj=>h.two i j r s (key i r hi) (key j s hj)⟩
theorem z3az {ops:Array Oper}{rest:List Oper}{o:Oper}{a:Act}{Q:Exit→Act→World→Prop}(hE:Elem P t e z bytes)(h:Ox w0 w g M L O X)(i:Nat)(s x:Operand){A:Option Addr}{n c:Nat}{xs:List Value}(hi:O[i]?=some ⟨A,n,c,e,xs⟩)
  {B:Nat} {A2:Option Addr} {m c2:Nat} {news:List Value} (hm:news.length=m) (hr:Sl w B A2 news) (h1:∀ u∈news,u.oneCell'=true) (h63:n+m≤maxLen) (hbytes:(n+m)*bytes≤140737488355328)
  (hgd:o.guard=none) (ho:o.op=.call { callee:=.builtin .append,args:=#[s,x],argTypes:=#[t,t] }) (hs:a.eval s=.slice A n c) (hx:a.eval x=.slice A2 m c2)
  (hk:∀ A' c' w',Ox w0 w' g M L (O.set i ⟨A',n+m,c',e,xs++news⟩) X→wpList P ops Q rest (a.put o.dst (.slice A' (n+m) c')) w'):wpList P ops Q (o :: rest) a w:=by
 obtain ⟨ht,hzc,inf,hi0,hz,hsz,hby⟩:=hE;exact z0i w hgd s x t ho w0.heap.size e inf z bytes ht hi0 hz hsz hby (by rw [hzc];rfl) A n c xs hs (h.ow.own i _ hi) B A2 m c2 news hx hm hr h1 h63 hbytes h.size fun A' c' w' h2 h3 h4=>
  hk A' c' w' (h.turnO i hi (r':=⟨A',n+m,c',e,xs++news⟩) h3 h2 h4)
end
def R1al (s:Pl)(p q:List Int)(l:List Sn)(gs:List (List Nat))(w0:World)(g:Option Nat)(M:List (Nat×Value))(L:List Ob)(O:List Rw)(S P B out:Rw)(inn0:List Rw)(x10 x11 x29:Value)(wr:World):Prop:=
 ∃ (i:Nat) (V:List VR) (Aov:Option Addr) (cov:Nat) (Ar:Option Addr) (nr cr:Nat) (inn:List Rw),i≤gs.length∧x29=.int .i64 (i:Int)∧x10=.slice Aov V.length cov∧x11=.slice Ar nr cr∧Hid (inn.length=gs.length∧∀ j,i≤j→inn[j]?=inn0[j]?)∧Hid (V.map VR.v=lsV s p q l (gs.take i))∧Hid ((lsR s p q l (gs.take i)).length=nr)∧Hid (Ox w0 wr g M (L++lvr V) (O++(S :: P :: B :: ⟨Ar,nr,cr,3,z0c (lsR s p q l (gs.take i))⟩ :: out :: inn)) [⟨Aov,V.length,cov,42,11,fvr V⟩])
def R2al (s:Pl)(p q:List Int)(l:List Sn)(gs:List (List Nat))(w0:World)(g:Option Nat)(M:List (Nat×Value))(L:List Ob)(O:List Rw)(S P B out:Rw)(inn0:List Rw)(rr:Rw)(i:Nat)(gi:List Nat)(x10 x13:Value)(wr:World):Prop:=
 ∃ (la:List Nat) (A:Option Addr) (n c:Nat) (V:List VR) (Aov:Option Addr) (cov:Nat) (inn:List Rw),x10=.slice Aov V.length cov∧x13=.slice A n c∧Hid (la.length=n∧n≤40∧(∀ z∈la,z<l.length)∧V.length≤40)∧Hid (inn.length=gs.length∧inn[i]?=some ⟨A,n,c,3,z0c la⟩∧∀ j,i+1≤j→inn[j]?=inn0[j]?)∧Hid (V.map VR.v++(lnF s p q l la).1=lsV s p q l (gs.take (i+1)))∧Hid ((lnF s p q l la).2=(lnF s p q l gi).2)∧Hid (Ox w0 wr g M (L++lvr V) (O++(S :: P :: B :: rr :: out :: inn)) [⟨Aov,V.length,cov,42,11,fvr V⟩])
def R3al (l:List Sn)(w0:World)(g:Option Nat)(M:List (Nat×Value))(L:List Ob)(O:List Rw)(X0:Rx)(la:List Nat)(x14 x35:Value)(wr:World):Prop:=
 ∃ (j:Nat) (As:Option Addr) (cs:Nat),j≤la.length∧x35=.int .i64 (j:Int)∧x14=.slice As j cs∧Hid (Ox w0 wr g M L O [X0,⟨As,j,cs,40,8,fl (pk l (la.take j))⟩])
theorem pAll {w0 w:World}{g:Option Nat}{M:List (Nat×Value)}{L:List Ob}{O:List Rw}{A A2 A3:Option Addr}{n c m c2 n3 c3 e3:Nat}{p q:List Int}{l:List Sn}(s:Pl)(h:Ow w0 w g M L O)(i j k:Nat)(hi:L[i]?=some ⟨A,n,c,z0q p⟩)(hj:L[j]?=some ⟨A2,m,c2,z0q q⟩)(hk:L[k]?=some ⟨A3,n3*8,e3,fl l⟩)(ht:Tab w0):
  Calls Tryz.prog 26 #[.agg s.vs,.agg #[.slice A n c,.slice A2 m c2],.slice A3 n3 c3] w (AllR w0 g M L O (allS s p q l).1 (allS s p q l).2.1 (allS s p q l).2.2):=by
 have H0:=((h.arr s.vs 6 rfl (by omega) 33).pair (.slice A n c) (.slice A2 m c2) 27).arr #[.slice A3 n3 c3] 1 rfl (by omega) 23
 simp only [World.size_alloc,zqa,zqb,zqc] at H0;have HLn:l.length=n3:=by
  have a:=(h.sl hk).1
  rw [z4b] at a;omega
 have HNl:=zh HLn;have HC:=zh (z1bv s H0 i j k hi hj hk ht (c3:=c3))
 have HH:Hid (L[i]?=some ⟨A,n,c,z0q p⟩∧L[j]?=some ⟨A2,m,c2,z0q q⟩∧L[k]?=some ⟨A3,n3*8,e3,fl l⟩):=⟨hi,hj,hk⟩
 have HT:=zh ht;obtain ⟨so,ch,ra,ba,ro,co⟩:=s;unfold Pl.vs at *
 obtain ⟨a0,a1,a2,a3,a4,a5⟩:=zc6 (H0.row (O.length+0) (zk rfl));have b0:=H0.p0 (O.length+1) (zk rfl)
 have b1:=H0.p1 (O.length+1) (zk rfl)
 have d0:=(H0.row (O.length+2) (zk rfl)).cellAt 0 (by decide)
 clear hi hj hk HLn h ht;go_enter Tryz.func26,Tryz.ntmps26
 go_wp2_with fail;refine HC.out.mono ?_;rintro e w1 ⟨rfl,H1⟩;clear HC H0 a0 a1 a2 a3 a4 a5 b0 b1 d0;obtain ⟨er,her⟩:∃ z,chk ⟨so,ch,ra,ba,ro,co⟩ p q l=z:=⟨_,rfl⟩
 rw [her];by_cases he:er=0
 ·subst he
  have HZ:=zh (z3ag her)
  have HJ:Hid (allS ⟨so,ch,ra,ba,ro,co⟩ p q l=(lsV ⟨so,ch,ra,ba,ro,co⟩ p q l ((z2c 6 l n3).map (·.2)),srt (Na.up (lsR ⟨so,ch,ra,ba,ro,co⟩ p q l ((z2c 6 l n3).map (·.2)))),0)):=by unfold Hid allS;rw [if_pos her,HNl.out]
  have hn40:n3≤40:=by have:=HZ.out.2.2.2.1;have:=HNl.out;omega
  have HG:=zh (z0ay 6 (by decide) A3 n3 c3 l w1 HNl.out (by omega) (H1.sl HH.out.2.2).2.2.2)
  have HSm:Hid (((z2c 6 l n3).map (·.2)).flatten.length≤n3∧∀ ga∈(z2c 6 l n3).map (·.2),∀ z∈ga,z<n3):=⟨z8i 6 l n3,fun ga hga z hz=>by
   obtain ⟨pp,hp,rfl⟩:=List.mem_map.1 hga
   have e:=HNl.out;rw [← e] at hp;have:=z1ak hp z hz
   omega⟩
  have d0:=(H1.row (O.length+2) (zk rfl)).cellAt 0 (by decide)
  have hlg:(z2c 6 l n3).length≤n3:=(z2z 6 l n3).2
  clear her;obtain ⟨gg,hgg⟩:∃ z,z2c 6 l n3=z:=⟨_,rfl⟩
  rw [hgg] at HJ HG HSm hlg;clear hgg;go_wp2_with fail;refine HG.out.mono ?_;rintro e w2 ⟨Ao,ao,inn0,rfl,hV,hE,hO⟩;have H2:=(H1.add (A:=none) (n:=0) (c:=0) (e:=3) (vs:=[]) (World.ownsRow_nil _ _ _ _) (Below.refl _ _)).merge hO
  simp only [zqa,zqb,zqc] at H2;obtain ⟨gs,hgs⟩:∃ z,gg.map (·.2)=z:=⟨_,rfl⟩
  rw [hgs] at HJ HSm;have HLs:Hid (Lns gs inn0 n3):=by
   have hl:=congrArg List.length hV
   rw [List.length_map,List.length_map] at hl;refine ⟨by rw [← hgs,List.length_map,hl],fun i r hi=>⟨hE r (List.mem_of_getElem? hi),?_⟩,HSm.out.1,HSm.out.2⟩
   have h1:=congrArg (fun t=>t[i]?) hV
   simp only [List.getElem?_map,hi,Option.map_some] at h1;cases hg:gg[i]? with
   | none=>rw [hg] at h1;cases h1
   | some pp=>
    rw [hg] at h1;simp only [Option.map_some,Option.some.injEq] at h1;exact ⟨pp.2,by rw [← hgs,List.getElem?_map,hg];rfl,h1⟩
  obtain ⟨gn,hgn⟩:∃ z,inn0.length=z:=⟨_,rfl⟩
  have HGn:Hid (inn0.length=gn∧gs.length=gn∧gn≤1000):=by
   have h1:=HLs.out.len;exact ⟨hgn,by omega,by have h3:=hlg;have h4:=congrArg List.length hgs;rw [List.length_map] at h4;omega⟩
  have HX:Hid (Ox w0 w2 g M (L++lvr []) (O++((⟨some ⟨w.heap.size,0,none⟩,6,6,33,[.int .i64 so,.int .i64 ch,.int .i64 ra,.int .i64 ba,.int .i64 ro,.int .i64 co]⟩:Rw) :: Rw.pair (w.heap.size+1) 27 (.slice A n c) (.slice A2 m c2) :: (⟨some ⟨w.heap.size+1+1,0,none⟩,1,1,23,[.slice A3 n3 c3]⟩:Rw) :: (⟨none,0,0,3,z0c (lsR ⟨so,ch,ra,ba,ro,co⟩ p q l (gs.take 0))⟩:Rw) :: z2i Ao ao inn0 :: inn0)) [⟨none,0,0,42,11,fvr []⟩]):=by
   have:=(Ox.of H2).nilX 42 11
   show Ox w0 w2 g M (L++[]) _ _
   rw [List.append_nil];exact this
  rw [hgn];clear HG hV hE hO H1 H2 hgs hgn HSm d0 hlg;go_wp2_with fail;go_loopw [10,11,29] (fun x10 x11 x29 wr=>R1al ⟨so,ch,ra,ba,ro,co⟩ p q l gs w0 g M L O (⟨some ⟨w.heap.size,0,none⟩,6,6,33,[.int .i64 so,.int .i64 ch,.int .i64 ra,.int .i64 ba,.int .i64 ro,.int .i64 co]⟩:Rw) (Rw.pair (w.heap.size+1) 27 (.slice A n c) (.slice A2 m c2)) (⟨some ⟨w.heap.size+1+1,0,none⟩,1,1,23,[.slice A3 n3 c3]⟩:Rw) (z2i Ao ao inn0) inn0 x10 x11 x29 wr) (fun _ _ x29 _=>gn+1 - (intOf x29).toNat)
  case atStart=>exact ⟨0,[],none,0,none,0,0,inn0,zqr _,rfl,rfl,rfl,⟨by rw [HGn.out.1,HGn.out.2.1],fun j _=>rfl⟩,rfl,rfl,HX.out⟩
  case round=>
   clear HX;obtain ⟨i1,V,Aov,cov,Ar,nr,cr,inn,hi1,rfl,rfl,rfl,HIn,HVm,HRl,HX⟩:=hrel;rw [HGn.out.2.1] at hi1;have hbd:=z4bz ⟨so,ch,ra,ba,ro,co⟩ p q l i1 HLs.out.sum
   have HBd:Hid (V.length≤40∧nr≤40):=by
    have h1:=congrArg List.length HVm.out
    rw [List.length_map] at h1;have h2:=HRl.out;exact ⟨by omega,by omega⟩
   clear hbd;rcases Nat.eq_or_lt_of_le hi1 with heq | hlt
   ·have hd:decide ((i1:Int)<(gn:Int))=false:=zn (by omega)
    have hd2:decide (i1<gn)=false:=zn (by omega)
    have htk:gs.take i1=gs:=zqp (by have:=HGn.out.2.1;omega)
    rw [htk] at HVm HRl HX;have hb1:=HBd.out.1;have hb2:=HBd.out.2;have hk1:=(HX.out.keepX 0 rfl (m:=V.length*11) rfl (by omega) (by omega)).ow
    rw [← z0g] at hk1;have HS:=zh (z3ba hk1 (O.length+3) (zk rfl) (by omega))
    clear heq hi1 hk1 htk hb1 hb2 HX;go_wp2_with fail;refine HS.out.mono ?_;rintro e w9 ⟨rfl,ho9⟩;rw [z0s] at ho9;simp only [zqe,zqd] at ho9;have ho10:=ho9.keep (O.length+3) (zk rfl) (by have:=HBd.out.2;omega)
    rw [z0s] at ho10;have HE:=zh ho10.fewO;clear ho10;clear ho9 HS;go_wp2_with fail;refine bodyPost_ret (v:=.tuple #[.slice Aov V.length cov,.slice Ar nr cr,.int .i64 0]) (by simp [results,Tryz.results26,go_sem]) rfl ?_
    rw [HJ.out];refine ⟨Aov,V.length,cov,Ar,nr,cr,V,HVm.out,rfl,?_,rfl,HE.out.few2 (by rw [List.take_length]) fun o ho=>?_⟩
    ·show (srt (Na.up _)).length=nr
     rw [z0ai];unfold Na.up;rw [List.length_map];exact HRl.out
    ·simp only [List.mem_append,List.mem_cons,List.mem_nil_iff,or_false] at ho ⊢
     rcases ho with h | h | h | h
     ·exact .inl (.inl (.inl h))
     ·exact .inl (.inr h)
     ·exact .inr h
     ·exact .inl (.inl (.inr h))
   ·have hd:decide ((i1:Int)<(gn:Int))=true:=zt (by omega)
    have hd2:decide (i1<gn)=true:=zt (by omega)
    have hlI:(i1:Int)<(gn:Int):=by omega
    have hg1k:=HGn.out.2.2;have hw29:IntKind.i64.wrap ((i1:Int)+1)=((i1+1:Nat):Int):=by rw [IntWalk.i64_in _ (by omega)];omega
    obtain ⟨r0,hr0⟩:∃ z,inn0[i1]?=some z:=⟨inn0[i1]'(by rw [HGn.out.1];exact hlt),zql _⟩
    obtain ⟨hre,ga,hga,hrv⟩:=HLs.out.row i1 r0 hr0
    have hri:inn[i1]?=some r0:=(HIn.out.2 i1 (zqj _)).trans hr0
    have hR:=HX.out.ow.row (O.length+4) (zk rfl)
    obtain ⟨gb,hgb,_,_⟩:=z0n hR (by have:=HGn.out.1;omega)
    obtain rfl:=hgb
    obtain ⟨Al,nl,cl,el,vl⟩:=r0;simp only at hre hrv
    subst hre hrv
    have e0:=hR.cells (g:=gb) rfl i1 (.slice Al nl cl) (by rw [List.getElem?_map,hr0];rfl)
    rw [z8o] at e0;have hgl:ga.length=nl:=by
     have h1:=HX.out.ow.own (O.length+(i1+5)) _ (by rw [z0b];exact hri)
     have h2:=h1.1;rw [z0f] at h2;simpa using h2
    have HGa:Hid (gs[i1]?=some ga∧ga.length=nl∧nl≤40):=⟨hga,hgl,by have h1:=z2ay hga;have h2:=HLs.out.sum;omega⟩
    have H2r:Hid (R2al ⟨so,ch,ra,ba,ro,co⟩ p q l gs w0 g M L O (⟨some ⟨w.heap.size,0,none⟩,6,6,33,[.int .i64 so,.int .i64 ch,.int .i64 ra,.int .i64 ba,.int .i64 ro,.int .i64 co]⟩:Rw) (Rw.pair (w.heap.size+1) 27 (.slice A n c) (.slice A2 m c2)) (⟨some ⟨w.heap.size+1+1,0,none⟩,1,1,23,[.slice A3 n3 c3]⟩:Rw) (z2i (some ⟨gb,0,none⟩) ao inn0) inn0 (⟨Ar,nr,cr,3,z0c (lsR ⟨so,ch,ra,ba,ro,co⟩ p q l (gs.take i1))⟩:Rw) i1 ga (.slice Aov V.length cov) (.slice Al nl cl) wr):=by
     refine ⟨ga,Al,nl,cl,V,Aov,cov,inn,rfl,rfl,⟨hgl,HGa.out.2.2,fun z hz=>?_,HBd.out.1⟩,⟨HIn.out.1,hri,fun j hj=>HIn.out.2 j (by omega)⟩,?_,rfl,HX.out⟩
     ·have h1:=HLs.out.lt ga (List.mem_of_getElem? hga) z hz
      have h2:=HNl.out;omega
     ·unfold Hid;rw [HVm.out,z1n hga,z0bk]
    have HIg:=zh hlt;clear hR hri hga hgl hr0 hlt hi1 HX HVm HIn HBd hg1k;go_wp2_with fail;go_loopw [10,13] (fun x10 x13 wr=>R2al ⟨so,ch,ra,ba,ro,co⟩ p q l gs w0 g M L O (⟨some ⟨w.heap.size,0,none⟩,6,6,33,[.int .i64 so,.int .i64 ch,.int .i64 ra,.int .i64 ba,.int .i64 ro,.int .i64 co]⟩:Rw) (Rw.pair (w.heap.size+1) 27 (.slice A n c) (.slice A2 m c2)) (⟨some ⟨w.heap.size+1+1,0,none⟩,1,1,23,[.slice A3 n3 c3]⟩:Rw) (z2i (some ⟨gb,0,none⟩) ao inn0) inn0 (⟨Ar,nr,cr,3,z0c (lsR ⟨so,ch,ra,ba,ro,co⟩ p q l (gs.take i1))⟩:Rw) i1 ga x10 x13 wr) (fun _ x13 _=>slN x13)
    case atStart=>exact H2r.out
    case round=>
     clear H2r e0;obtain ⟨la,Al,nl,cl,V,Aov,cov,inn,rfl,rfl,HLa,HIn,HVm,HRm,HX⟩:=hrel;obtain ⟨OO,hOO⟩:∃ z,O++((⟨some ⟨w.heap.size,0,none⟩,6,6,33,[.int .i64 so,.int .i64 ch,.int .i64 ra,.int .i64 ba,.int .i64 ro,.int .i64 co]⟩:Rw) :: (Rw.pair (w.heap.size+1) 27 (.slice A n c) (.slice A2 m c2)) :: (⟨some ⟨w.heap.size+1+1,0,none⟩,1,1,23,[.slice A3 n3 c3]⟩:Rw) :: (⟨Ar,nr,cr,3,z0c (lsR ⟨so,ch,ra,ba,ro,co⟩ p q l (gs.take i1))⟩:Rw) :: z2i (some ⟨gb,0,none⟩) ao inn0 :: inn)=z:=⟨_,rfl⟩
     have HOS:Hid (OO[O.length+0]?=some (⟨some ⟨w.heap.size,0,none⟩,6,6,33,[.int .i64 so,.int .i64 ch,.int .i64 ra,.int .i64 ba,.int .i64 ro,.int .i64 co]⟩:Rw)):=by unfold Hid;rw [← hOO,z0b];rfl
     have HOP:Hid (OO[O.length+1]?=some (Rw.pair (w.heap.size+1) 27 (.slice A n c) (.slice A2 m c2))):=by unfold Hid;rw [← hOO,z0b];rfl
     have HOB:Hid (OO[O.length+2]?=some (⟨some ⟨w.heap.size+1+1,0,none⟩,1,1,23,[.slice A3 n3 c3]⟩:Rw)):=by unfold Hid;rw [← hOO,z0b];rfl
     have HOL:Hid (OO[O.length+(i1+5)]?=some (⟨Al,nl,cl,3,z0c la⟩:Rw)):=by unfold Hid;rw [← hOO,z0b];exact HIn.out.2.1
     have HKl:Hid ((L++lvr V)[k]?=some ⟨A3,n3*8,e3,fl l⟩):=by unfold Hid;rw [z0x _ _ (z0e HH.out.2.2)];exact HH.out.2.2
     rw [hOO] at HX;have HOO:=zh hOO;have H3:Hid (Ox w0 wr g M (L++lvr V) OO [(⟨Aov,V.length,cov,42,11,fvr V⟩:Rx),⟨none,0,0,40,8,fl (pk l (la.take 0))⟩]):=HX.out.nilX _ _
     clear hOO HX;go_wp2_with fail;go_loopw [14,35] (fun x14 x35 wr=>R3al l w0 g M (L++lvr V) OO (⟨Aov,V.length,cov,42,11,fvr V⟩:Rx) la x14 x35 wr) (fun _ x35 _=>nl+1 - (intOf x35).toNat)
     case atStart=>exact ⟨0,none,0,zqr _,rfl,rfl,H3.out⟩
     case round=>
      clear H3;obtain ⟨j1,As,cs,hj1,rfl,rfl,HX⟩:=hrel;rw [HLa.out.1] at hj1;rcases Nat.eq_or_lt_of_le hj1 with heq | hlt
      ·have hd:decide ((j1:Int)<(nl:Int))=false:=zn (by omega)
       have hd2:decide (j1<nl)=false:=zn (by omega)
       obtain rfl:nl=j1:=heq.symm
       have htl:la.take nl=la:=zqp (Nat.le_of_eq HLa.out.1)
       rw [htl] at HX;have HPl:Hid ((pk l la).length=nl):=by unfold Hid;rw [z2al HLa.out.2.2.1];exact HLa.out.1
       obtain ⟨a0,a1,a2,a3,a4,a5⟩:=zc6 (HX.out.ow.row (O.length+0) HOS.out);have b0:=HX.out.ow.p0 (O.length+1) HOP.out
       have b1:=HX.out.ow.p1 (O.length+1) HOP.out
       have hnl:=HLa.out.2.1;have HCb:Hid (Ow wr wr none [] [⟨A,n,c,z0q p⟩,⟨A2,m,c2,z0q q⟩,⟨As,nl*8,nl*8,fl (pk l la)⟩] []):=by
        have g1:=HX.out.ow.sl (i:=i) (by rw [z0x _ _ (z0e HH.out.1)];exact HH.out.1)
        have g2:=HX.out.ow.sl (i:=j) (by rw [z0x _ _ (z0e HH.out.2.1)];exact HH.out.2.1)
        have g3:=HX.out.row 1 rfl
        have g4:=(((Ow.of (St.refl wr)).old g1.2.2.2 g1.1 g1.2.1 g1.2.2.1).old g2.2.2.2 g2.1 g2.2.1 g2.2.2.1).old (A:=As) (n:=nl*8) (c:=nl*8) (z6p g3 (by omega)) (by rw [z4b];have:=HPl.out;omega) (zqj _) (by omega)
        exact g4
       have HTw:Hid (Tab wr):=HT.out.below HX.out.ow.below
       have HCj:=zh (z4bh ⟨so,ch,ra,ba,ro,co⟩ HZ.out.1 HCb.out 0 1 2 rfl rfl rfl hnl HTw.out (c3:=cs))
       clear heq hj1 htl HCb;unfold Pl.vs at HCj;obtain ⟨vd,hvd⟩:∃ z,jud ⟨so,ch,ra,ba,ro,co⟩ p q (pk l la)=z:=⟨_,rfl⟩
       rw [hvd] at HCj;have HVd:=zh hvd;clear hvd;go_wp2_with fail;refine HCj.out.mono ?_;rintro e w5 ⟨B1,n1,d1,B2,n2,d2,rfl,ho5,hf5⟩;obtain ⟨kk,⟨v0,v1,v2,v3,v4,v5⟩,vc,vh,vx,vy⟩:=vd
       simp only [Vd.vs];simp only at hf5 ho5
       clear HCj a0 a1 a2 a3 a4 a5 b0 b1 HTw;by_cases hk0:kk=0
       ·subst hk0
        have HX9:=zh ((HX.out.go ho5.below).arrO #[.int .i64 0,.int .i64 v0,.int .i64 v1,.int .i64 v2,.int .i64 v3,.int .i64 v4,.int .i64 v5,.int .i64 vc,.int .i64 vh,.slice B1 n1 d1,.slice B2 n2 d2] 11 rfl (by omega) 42)
        have q0:(w5.alloc (.cells #[.int .i64 0,.int .i64 v0,.int .i64 v1,.int .i64 v2,.int .i64 v3,.int .i64 v4,.int .i64 v5,.int .i64 vc,.int .i64 vh,.slice B1 n1 d1,.slice B2 n2 d2] 42)).cell? ⟨w5.heap.size,0,none⟩=some (.int .i64 0):=(HX9.out.ow.row (OO.length+0) (zk rfl)).cellAt 0 (by decide)
        have HOR:Hid (OO[O.length+3]?=some (⟨Ar,nr,cr,3,z0c (lsR ⟨so,ch,ra,ba,ro,co⟩ p q l (gs.take i1))⟩:Rw)):=by unfold Hid;rw [← HOO.out,z0b];rfl
        have HSt:Hid (lnF ⟨so,ch,ra,ba,ro,co⟩ p q l la=([],la)):=z0bl (by rw [HVd.out])
        have HRl2:Hid (nr≤40∧nl≤40):=⟨by have h1:=z4bz ⟨so,ch,ra,ba,ro,co⟩ p q l i1 HLs.out.sum;have h2:=HRl.out;omega,HLa.out.2.1⟩
        have hr1:=HRl2.out.1;have hr2:=HRl2.out.2;clear ho5 hf5 HX;go_wp2_with (at_builtin;refine z3az z5k HX9.out (O.length+3) (.tmp 66) (.tmp 67) (by rw [z0x _ _ (z0e HOR.out)];exact HOR.out) (m:=nl) (news:=z0c la) (by rw [z0f];exact HLa.out.1) (Sl.of_own (HX9.out.ow.row (O.length+(i1+5)) (by rw [z0x _ _ (z0e HOL.out)];exact HOL.out))) (z2y la) (by unfold maxLen;omega) (by omega) rfl rfl rfl rfl ?_;intro A2' c2' w2' how2;have HX2:=zh how2;clear how2)
        go_roundw
        case rel=>
         refine ⟨i1+1,V,Aov,cov,A2',nr+nl,c2',inn,by have h1:=HIg.out;have h2:=HGn.out.2.1;omega,rfl,rfl,rfl,⟨HIn.out.1,HIn.out.2.2⟩,?_,?_,?_⟩
         ·have h1:=HVm.out;rw [HSt.out,List.append_nil] at h1;exact h1
         ·unfold Hid;rw [z1n HGa.out.1,z2at,zqm,HRl.out,← HRm.out,HSt.out]
          show nr+la.length=_
          rw [HLa.out.1]
         ·unfold Hid;have h1:=HX2.out;rw [z3bg _ _ (z0e HOR.out)] at h1
          have h2:=h1.fewO.fewX (X:=[(⟨Aov,V.length,cov,42,11,fvr V⟩:Rx)])
          rw [← HOO.out,z0s] at h2;rw [z1n HGa.out.1,z2at,← HRm.out,HSt.out,z1ah];exact h2
        case measure=>
         have:=HIg.out
         simp [intOf]
         omega
       ·have HFr:Hid (NewS wr w5 (VR.obs ⟨⟨kk,⟨v0,v1,v2,v3,v4,v5⟩,vc,vh,vx,vy⟩,B1,n1,d1,B2,n2,d2⟩)):=by
         intro o ho;obtain ⟨hf1,hf2⟩:=hf5 hk0
         have g1:=ho5.sl (i:=3) rfl
         have g2:=ho5.sl (i:=4) rfl
         unfold VR.obs at ho;simp only [List.mem_cons,List.mem_nil_iff,or_false] at ho;rcases ho with rfl | rfl
         ·exact ⟨g1.1,g1.2.1,g1.2.2.1,g1.2.2.2,hf1⟩
         ·exact ⟨g2.1,g2.2.1,g2.2.2.1,g2.2.2.2,hf2⟩
        have HX7':=((HX.out.pushW ho5.below HFr.out).arrO #[.int .i64 kk,.int .i64 v0,.int .i64 v1,.int .i64 v2,.int .i64 v3,.int .i64 v4,.int .i64 v5,.int .i64 vc,.int .i64 vh,.slice B1 n1 d1,.slice B2 n2 d2] 11 rfl (by omega) 42).arrO #[.int .i64 kk,.int .i64 v0,.int .i64 v1,.int .i64 v2,.int .i64 v3,.int .i64 v4,.int .i64 v5,.int .i64 vc,.int .i64 vh,.slice B1 n1 d1,.slice B2 n2 d2] 11 rfl (by omega) 42
        simp only [World.size_alloc] at HX7';have HX7:=zh HX7';clear HX7';have HJn:Hid ((jud ⟨so,ch,ra,ba,ro,co⟩ p q (pk l la)).k≠0):=by unfold Hid;rw [HVd.out];exact hk0
        have HKd:Hid (kd kk):=by
         have h1:=(z8g HJn.out).1
         rw [HVd.out] at h1;exact h1
        have HGo:=zh (z6bx HJn.out)
        have HNx:=zh (z6ab HJn.out)
        rw [HVd.out] at HGo HNx;have HVl:Hid (V.length+1≤40):=by
         have h1:=congrArg List.length HVm.out
         rw [HGo.out,zqm,List.length_map,List.length_cons] at h1;have h2:=z4bz ⟨so,ch,ra,ba,ro,co⟩ p q l (i1+1) HLs.out.sum
         unfold Hid;omega
        have hvl:=HVl.out;have kz:(kk == 0)=false:=z1m hk0
        obtain ⟨q0,q1,q2,q3,q4,q5,q6,q7,q8,q9,q10⟩:=zc11 (((HX.out.pushW ho5.below HFr.out).arrO #[.int .i64 kk,.int .i64 v0,.int .i64 v1,.int .i64 v2,.int .i64 v3,.int .i64 v4,.int .i64 v5,.int .i64 vc,.int .i64 vh,.slice B1 n1 d1,.slice B2 n2 d2] 11 rfl (by omega) 42).ow.row (OO.length+0) (zk rfl));clear ho5 hf5 HX hk0;go_wp2_with (at_builtin;refine z5e z7bh HX7.out 0 (.tmp 54) (.tmp 56) (m:=1) (news:=[.int .i64 kk,.int .i64 v0,.int .i64 v1,.int .i64 v2,.int .i64 v3,.int .i64 v4,.int .i64 v5,.int .i64 vc,.int .i64 vh,.slice B1 n1 d1,.slice B2 n2 d2]) rfl rfl (fun j u hu=>by have:=(HX7.out.ow.row (OO.length+1) (by rw [zqa,z0b];rfl)).cells rfl j u hu;exact this) (z6bf ⟨⟨kk,⟨v0,v1,v2,v3,v4,v5⟩,vc,vh,vx,vy⟩,B1,n1,d1,B2,n2,d2⟩) (by unfold maxLen;omega) (by omega) rfl rfl rfl rfl ?_;intro Ao2 co2 w8 how8;have HX8:=zh how8;clear how8;have r1:w8.cell? ⟨w5.heap.size,1,none⟩=some (.int .i64 v0):=(HX8.out.ow.row (OO.length+0) (by rw [zqa,z0b];rfl)).cellAt 1 (by decide);have r2:w8.cell? ⟨w5.heap.size,2,none⟩=some (.int .i64 v1):=(HX8.out.ow.row (OO.length+0) (by rw [zqa,z0b];rfl)).cellAt 2 (by decide);have r3:w8.cell? ⟨w5.heap.size,3,none⟩=some (.int .i64 v2):=(HX8.out.ow.row (OO.length+0) (by rw [zqa,z0b];rfl)).cellAt 3 (by decide);have r4:w8.cell? ⟨w5.heap.size,4,none⟩=some (.int .i64 v3):=(HX8.out.ow.row (OO.length+0) (by rw [zqa,z0b];rfl)).cellAt 4 (by decide);have r5:w8.cell? ⟨w5.heap.size,5,none⟩=some (.int .i64 v4):=(HX8.out.ow.row (OO.length+0) (by rw [zqa,z0b];rfl)).cellAt 5 (by decide);have r6:w8.cell? ⟨w5.heap.size,6,none⟩=some (.int .i64 v5):=(HX8.out.ow.row (OO.length+0) (by rw [zqa,z0b];rfl)).cellAt 6 (by decide);have r7:w8.cell? ⟨w5.heap.size,7,none⟩=some (.int .i64 vc):=(HX8.out.ow.row (OO.length+0) (by rw [zqa,z0b];rfl)).cellAt 7 (by decide))
        have HX9:=zh (HX8.out.arrO #[.int .i64 v0,.int .i64 v1,.int .i64 v2,.int .i64 v3,.int .i64 v4,.int .i64 v5,.int .i64 vc,.int .i64 0] 8 rfl (by omega) 40)
        have HLi:=zh (z0e HOL.out)
        have hli:=HLi.out;have HDel:=zh (z5bk (⟨HX9.out⟩:Oy _ _ _ _ _ _ _) (O.length+(i1+5)) (N:=n3) (gl:=la) (by rw [zqa,zqa,z0x _ _ hli];exact HOL.out) HLa.out.1 (by have:=HLa.out.2.1;omega) (fun z hz=>by have h1:=HLa.out.2.2.1 z hz;have h2:=HNl.out;omega) (dlP kk ⟨⟨v0,v1,v2,v3,v4,v5⟩,vc,0⟩ l) 52 (.pointer (some ⟨w5.heap.size,0,none⟩)) (.pointer (some ⟨w8.heap.size,0,none⟩)) (.pointer (some ⟨w.heap.size+1+1,0,none⟩)) (enters_of Tryz.func52 (by kernel_rfl) rfl) (fun W vs hO i hi=>z1bf hO ⟨⟨v0,v1,v2,v3,v4,v5⟩,vc,0⟩ (vi:=OO.length+0) (ni:=OO.length+2) (bi:=O.length+2) (k:=k) (by rw [zqf (by omega),zqa,zqa,z0b];rfl) (by rw [zqf (by omega),zqa,zqa,z0b];rfl) (by rw [zqf (by omega),zqa,zqa,z0x _ _ (z0e HOB.out)];exact HOB.out) (by rw [z0x _ _ (z0e HKl.out)];exact HKl.out) rfl HKd.out i hi))
        clear hli;clear HX7 HX8 HX9;go_wp2_with fail;refine HDel.out.mono ?_;rintro e w9 ⟨n',rfl,hn',hle,ho9⟩;have HX9:=zh ho9.ox;have HN9:Hid (n'≤nl∧(nx ⟨kk,⟨v0,v1,v2,v3,v4,v5⟩,vc,vh,vx,vy⟩ l la).length=n'):=⟨hle,hn'⟩
        clear ho9 hle hn' HDel;go_wp2_with fail;go_roundw
        case rel=>
         refine ⟨nx ⟨kk,⟨v0,v1,v2,v3,v4,v5⟩,vc,vh,vx,vy⟩ l la,Al,n',cl,V++[⟨⟨kk,⟨v0,v1,v2,v3,v4,v5⟩,vc,vh,vx,vy⟩,B1,n1,d1,B2,n2,d2⟩],Ao2,co2,inn.set i1 ⟨Al,n',cl,3,z0c (nx ⟨kk,⟨v0,v1,v2,v3,v4,v5⟩,vc,vh,vx,vy⟩ l la)⟩,?_,rfl,?_,?_,?_,?_,?_⟩
         ·rw [zqm];rfl
         ·refine ⟨HN9.out.2,?_,fun z hz=>HLa.out.2.2.1 z (z1bx hz),?_⟩
          ·have h1:=HN9.out.1;have h2:=HLa.out.2.1;omega
          ·rw [zqm];exact HVl.out
         ·refine ⟨by rw [List.length_set];exact HIn.out.1,List.getElem?_set_self (z0e HIn.out.2.1),fun j hj=>?_⟩
          rw [zqf (by omega)]
          exact HIn.out.2.2 j hj
         ·have h1:=HVm.out;rw [HGo.out] at h1;unfold Hid;rw [List.map_append,zqa];exact h1
         ·have h1:=HRm.out;rw [HGo.out] at h1;exact h1
         ·unfold Hid;have h1:=HX9.out;rw [zqa,zqa (OO++_),zqa OO,z3bg _ _ HLi.out] at h1
          have h2:=h1.fewO.fewX (X:=[_])
          rw [← HOO.out,z0s] at h2;rw [z0bj,z0br,zqm];exact h2
        case measure=>
         have h1:=HNx.out;have h2:=HN9.out.2;have h3:=HLa.out.1;simp [slN]
         omega
      ·have hd:decide ((j1:Int)<(nl:Int))=true:=zt (by omega)
       have hd2:decide (j1<nl)=true:=zt (by omega)
       have hjI:(j1:Int)<(nl:Int):=by omega
       have hn40j:=HLa.out.2.1;have hw35:IntKind.i64.wrap ((j1:Int)+1)=((j1+1:Nat):Int):=by rw [IntWalk.i64_in _ (by omega)];omega
       obtain ⟨z,hz⟩:∃ z,la[j1]?=some z:=⟨la[j1]'(by rw [HLa.out.1];exact hlt),zql _⟩
       have hzl:z<l.length:=HLa.out.2.2.1 z (List.mem_of_getElem? hz)
       have hzi:(z:Int)<(n3:Int):=by have:=HNl.out;omega
       obtain ⟨x,hx⟩:∃ x,l[z]?=some x:=⟨l[z]'hzl,zql _⟩
       have HZx:Hid (la[j1]?=some z∧l[z]?=some x∧j1<nl):=⟨hz,hx,hlt⟩
       have hR:=HX.out.ow.row (O.length+(i1+5)) HOL.out
       obtain ⟨gl,hgl,_,_⟩:=z0n hR (by omega)
       obtain rfl:=hgl
       have e0:=hR.cells (g:=gl) rfl j1 (.int .i64 (z:Int)) (by unfold z0c;rw [List.getElem?_map,hz];rfl)
       rw [z8o] at e0;have d0:wr.cell? ⟨w.heap.size+1+1,0,none⟩=some (.slice A3 n3 c3):=(HX.out.ow.row (O.length+2) HOB.out).cellAt 0 (by decide)
       obtain ⟨a3,rfl,x0,x1,x2,x3,x4,x5,x6,x7⟩:=z2v (HX.out.ow.sl HKl.out).2.2.2 hx
       obtain ⟨⟨y0,y1,y2,y3,y4,y5⟩,y6,y7⟩:=x
       simp only at x0 x1 x2 x3 x4 x5 x6 x7
       have HX9:=zh (HX.out.arrO #[.int .i64 y0,.int .i64 y1,.int .i64 y2,.int .i64 y3,.int .i64 y4,.int .i64 y5,.int .i64 y6,.int .i64 y7] 8 rfl (by omega) 40)
       have HJl:j1≤40:=by omega
       clear hR hz hx hzl hlt hj1 HX hn40j;go_wp2_with (at_builtin;refine z5e z7am HX9.out 1 (.tmp 39) (.tmp 44) (m:=1) (news:=[.int .i64 y0,.int .i64 y1,.int .i64 y2,.int .i64 y3,.int .i64 y4,.int .i64 y5,.int .i64 y6,.int .i64 y7]) rfl rfl (fun j u hu=>by have:=(HX9.out.ow.row (OO.length+0) (zk rfl)).cells rfl j u hu;exact this) (z8v ⟨⟨y0,y1,y2,y3,y4,y5⟩,y6,y7⟩) (by unfold maxLen;omega) (by omega) rfl rfl rfl rfl ?_;intro A2' c2' w2' how2;have HX2:=zh how2;clear how2)
       go_roundw
       case rel=>
        refine ⟨j1+1,A2',c2',by rw [HLa.out.1];exact HZx.out.2.2,rfl,rfl,?_⟩
        unfold Hid;rw [z1n HZx.out.1,z5d,z2aj HZx.out.2.1,z6y];exact HX2.out.fewO
       case measure=>
        have:=HZx.out.2.2
        simp [intOf]
        omega
 ·have g1:(er == 0)=false:=z1m he
  have g2:(er != 0)=true:=by rw [bne,g1];rfl
  have HJ:Hid (allS ⟨so,ch,ra,ba,ro,co⟩ p q l=([],[],er)):=by unfold Hid allS;rw [if_neg (by rw [her];exact he),her]
  have HE:=zh H1.fewO;clear H1 her he;go_wp2_with fail;refine bodyPost_ret (v:=.tuple #[.slice none 0 0,.slice none 0 0,.int .i64 er]) (by simp [results,Tryz.results26,go_sem]) rfl ?_
  rw [HJ.out];refine ⟨none,0,0,none,0,0,[],rfl,rfl,rfl,rfl,?_⟩
  have:=(HE.out.old (A:=none) (n:=0) (c:=0) (vs:=[]) (fun hh=>absurd hh (Nat.lt_irrefl _)) rfl (by omega) (by omega)).old (A:=none) (n:=0) (c:=0) (vs:=[]) (fun hh=>absurd hh (Nat.lt_irrefl _)) rfl (by omega) (by omega)
  rw [zqa] at this;exact this
theorem z3bj {w0 w:World}{M:List (Nat×Value)}{L:List Ob}{O:List Rw}(h:Ow w0 w none M L O)(A:Option Addr)(n c B:Nat)(ts:List Int)(hn:ts.length=n)(hl:n≤140737488355328)(hB:B≤w0.heap.size)(hs:Sl w B A (z0q ts)):
  Calls Tryz.prog 10 #[.slice A n c] w fun e w'=>∃ g,e=.returned (.pointer (some ⟨g,0,none⟩))∧Dice w' g B∧Ow w0 w' (some g) M L O:=by
 refine (z8z A n c B ts w hn hl hs (zqq hB h.size)).mono ?_
 rintro e w' ⟨he,hd,hz,hb⟩;have h':=h.go hb
 refine ⟨_,he,hd,⟨⟨h'.st.below,fun x e=>by cases e;exact ⟨by omega,h.size⟩,fun i b v hi=>?_,h'.st.one,fun o ho=>?_⟩,h'.own,fun i r hi b hb'=>?_,h'.two⟩⟩
 ·obtain ⟨h1,h2,h3,h4,_⟩:=h'.st.box i b v hi
  exact ⟨h1,h2,h3,h4,fun e=>by cases e;have:=(h.st.box i _ v hi).1;omega⟩
 ·obtain ⟨h1,h2,h3,B,hB,hs2,hne⟩:=h.st.held o ho
  refine ⟨h1,h2,h3,B,zqq hB hb.size,hs2.below (hb.mono hB),fun ad e h0=>⟨fun e2=>?_,(hne ad e h0).2⟩⟩
  obtain ⟨ad',e',hbk,_⟩:=hs2 (by omega)
  rw [e] at e';obtain rfl:=zqk e'
  have:=zqk e2
  omega
 ·obtain ⟨_,a2,a3⟩:=h'.ap i r hi b hb'
  exact ⟨fun e=>by have:=(h.lt hi hb').1;have:=zqk e;omega,a2,a3⟩
theorem z1aq {x y u v:Nat}(F:FrK x y)(G:FrK u v)(h1:x*v<Na.top)(h2:u*y<Na.top):cmpV (Na.up (Na.dig x)) (Na.up (Na.dig y)) (Na.up (Na.dig u)) (Na.up (Na.dig v))=Na.sgn (x*v) (u*y)∧cmpE (Na.up (Na.dig x)) (Na.up (Na.dig y)) (Na.up (Na.dig u)) (Na.up (Na.dig v))=0:=by
 unfold cmpV cmpE;rw [F.rv,G.rv,z0m,z0m,z0m,z0m];exact ⟨by rw [if_pos (by rfl),if_pos ⟨h1,h2⟩],by rw [if_pos (by rfl),if_pos ⟨h1,h2⟩]⟩
namespace Cl
set_option maxHeartbeats 8000000
theorem z6an:∀ {a b:List Nat},a.Pairwise (·<·)→b.Pairwise (·<·)→(∀ x,x∈a↔x∈b)→a=b
 | [],[],_,_,_=>rfl
 | [],y :: b,_,_,h=>absurd ((h y).2 List.mem_cons_self) (by simp)
 | x :: a,[],_,_,h=>absurd ((h x).1 List.mem_cons_self) (by simp)
 | x :: a,y :: b,ha,hb,h=>by
  rw [List.pairwise_cons] at ha hb;have hxy:x=y:=by
   rcases List.mem_cons.1 ((h x).1 List.mem_cons_self) with e | e
   ·exact e
   ·rcases List.mem_cons.1 ((h y).2 List.mem_cons_self) with e2 | e2
    ·exact e2.symm
    ·have:=hb.1 x e;have:=ha.1 y e2;omega
  subst hxy
  refine congrArg (x :: ·) (z6an ha.2 hb.2 fun z=>⟨fun hz=>?_,fun hz=>?_⟩)
  ·rcases List.mem_cons.1 ((h z).1 (List.mem_cons_of_mem _ hz)) with e | e
   ·subst e;have:=ha.1 z hz;omega
   ·exact e
  ·rcases List.mem_cons.1 ((h z).2 (List.mem_cons_of_mem _ hz)) with e | e
   ·subst e;have:=hb.1 z hz;omega
   ·exact e
theorem z8c (s:Pl)(p q:List Int)(l:List Sn):∀ (f:Nat) (la:List Nat),(lnV s p q l f la).2.Sublist la∧(la.length≤f→(jud s p q (pk l (lnV s p q l f la).2)).k=0)
 | 0,la=>⟨List.Sublist.refl _,fun h=>by
   obtain rfl:la=[]:=List.length_eq_zero_iff.1 (Nat.le_zero.1 h)
   exact z6ax s p q⟩
 | f+1,la=>by
  by_cases e:(jud s p q (pk l la)).k=0
  ·have:lnV s p q l (f+1) la=([],la):=by
    show (if (jud s p q (pk l la)).k=0 then _ else _)=_
    rw [if_pos e]
   rw [this];exact ⟨List.Sublist.refl _,fun _=>e⟩
  ·obtain ⟨h1,h2⟩:=z8c s p q l f (nx (jud s p q (pk l la)) l la)
   have h3:=z6ab e
   have:lnV s p q l (f+1) la=(jud s p q (pk l la) :: (lnV s p q l f (nx (jud s p q (pk l la)) l la)).1,(lnV s p q l f (nx (jud s p q (pk l la)) l la)).2):=by
    show (if (jud s p q (pk l la)).k=0 then _ else _)=_
    rw [if_neg e]
   rw [this];exact ⟨h1.trans List.filter_sublist,fun h=>h2 (by omega)⟩
theorem z3m (s:Pl)(p q:List Int)(l:List Sn)(la:List Nat):(lnF s p q l la).2.Sublist la:=(z8c s p q l _ la).1
theorem z5bb (s:Pl)(p q:List Int)(l:List Sn)(la:List Nat):(jud s p q (pk l (lnF s p q l la).2)).k=0:=(z8c s p q l _ la).2 (zqj _)
theorem z2ac (n:Nat):(List.range n).Pairwise (·<·):=List.pairwise_lt_range
theorem z7ag {k:Int}{l:List Sn}{p:Sp×List Nat}(h:p∈z2c k l l.length):p.2.Pairwise (·<·):=by
 rw [z3j k l _ p (zqj _) h]
 exact (z2ac _).sublist List.filter_sublist
theorem z5i {k:Int}{l:List Sn}{p:Sp×List Nat}{i:Nat}(h:p∈z2c k l l.length):i∈p.2↔∃ x,l[i]?=some x∧z3b k x=p.1:=by
 rw [z3j k l _ p (zqj _) h,List.mem_filter,List.mem_range]
 constructor
 ·rintro ⟨_,h2⟩;have h3:=of_decide_eq_true h2
  cases hx:l[i]? with
  | none=>rw [hx] at h3;cases h3
  | some x=>
   rw [hx] at h3;exact ⟨x,rfl,zqk h3⟩
 ·rintro ⟨x,hx,e⟩;refine ⟨z0e hx,zt ?_⟩
  rw [hx];exact congrArg some e
def lns (l:List Sn):List (List Nat):=(z2c 6 l l.length).map (·.2)
theorem z0bp {k:Int}{l:List Sn}{p p':Sp×List Nat}(h:p∈z2c k l l.length)(h':p'∈z2c k l l.length)(e:p.1=p'.1):p=p':=by
 have e2:p.2=p'.2:=by rw [z3j k l _ p (zqj _) h,z3j k l _ p' (zqj _) h',e]
 exact Prod.ext e e2
theorem z8b {s:Pl}{p q:List Int}{l:List Sn}{i:Nat}:i∈lsR s p q l (lns l)↔∃ g∈z2c 6 l l.length,i∈(lnF s p q l g.2).2:=by
 unfold lsR lns;rw [List.mem_flatMap];constructor
 ·rintro ⟨a,ha,h⟩;obtain ⟨g,hg,rfl⟩:=List.mem_map.1 ha
  exact ⟨g,hg,h⟩
 ·rintro ⟨g,hg,h⟩;exact ⟨g.2,List.mem_map.2 ⟨g,hg,rfl⟩,h⟩
theorem z6as (s:Pl)(p q:List Int)(l:List Sn):(lsR s p q l (lns l)).Nodup:=by
 unfold lsR lns;refine List.pairwise_flatMap.2 ⟨fun a ha=>?_,?_⟩
 ·obtain ⟨g,hg,rfl⟩:=List.mem_map.1 ha
  exact ((z7ag hg).sublist (z3m s p q l g.2)).imp fun h=>Nat.ne_of_lt h
 ·rw [List.pairwise_map];have hn:=z2g 6 l l.length
  unfold List.Nodup at hn;rw [List.pairwise_map] at hn;refine List.Pairwise.imp_of_mem (fun {a b} ha hb hne=>?_) hn
  intro x hx y hy e;subst e
  obtain ⟨u,hu,e1⟩:=(z5i ha).1 ((z3m s p q l a.2).subset hx)
  obtain ⟨v,hv,e2⟩:=(z5i hb).1 ((z3m s p q l b.2).subset hy)
  rw [hu] at hv;obtain rfl:=zqk hv
  exact hne (e1.symm.trans e2)
def rstN (s:Pl)(p q:List Int)(l:List Sn):List Nat:=(List.range l.length).filter fun i=>decide (i∈lsR s p q l (lns l))
theorem z1bq (s:Pl)(p q:List Int)(l:List Sn):(rstN s p q l).Pairwise (·<·):=(z2ac _).sublist List.filter_sublist
theorem z7r {s:Pl}{p q:List Int}{l:List Sn}{i:Nat}:i∈rstN s p q l↔i∈lsR s p q l (lns l):=by
 unfold rstN;rw [List.mem_filter,List.mem_range];constructor
 ·exact fun h=>of_decide_eq_true h.2
 ·intro h;obtain ⟨g,hg,hi⟩:=z8b.1 h
  exact ⟨z1ak hg i ((z3m s p q l g.2).subset hi),zt h⟩
theorem z7ab:∀ {a b:List Int},a.Pairwise (·<·)→b.Pairwise (·<·)→(∀ x,x∈a↔x∈b)→a=b
 | [],[],_,_,_=>rfl
 | [],y :: b,_,_,h=>absurd ((h y).2 List.mem_cons_self) (by simp)
 | x :: a,[],_,_,h=>absurd ((h x).1 List.mem_cons_self) (by simp)
 | x :: a,y :: b,ha,hb,h=>by
  rw [List.pairwise_cons] at ha hb;have hxy:x=y:=by
   rcases List.mem_cons.1 ((h x).1 List.mem_cons_self) with e | e
   ·exact e
   ·rcases List.mem_cons.1 ((h y).2 List.mem_cons_self) with e2 | e2
    ·exact e2.symm
    ·have:=hb.1 x e;have:=ha.1 y e2;omega
  subst hxy
  refine congrArg (x :: ·) (z7ab ha.2 hb.2 fun z=>⟨fun hz=>?_,fun hz=>?_⟩)
  ·rcases List.mem_cons.1 ((h z).1 (List.mem_cons_of_mem _ hz)) with e | e
   ·subst e;have:=ha.1 z hz;omega
   ·exact e
  ·rcases List.mem_cons.1 ((h z).2 (List.mem_cons_of_mem _ hz)) with e | e
   ·subst e;have:=hb.1 z hz;omega
   ·exact e
theorem z1bm {a:List Nat}{z:Int}:z∈Na.up a↔∃ i∈a,z=(i:Int):=by
 unfold Na.up;rw [List.mem_map];exact ⟨fun ⟨i,h,e⟩=>⟨i,h,e.symm⟩,fun ⟨i,h,e⟩=>⟨i,h,e.symm⟩⟩
theorem z2by (s:Pl)(p q:List Int)(l:List Sn):srt (Na.up (lsR s p q l (lns l)))=Na.up (rstN s p q l):=by
 have hp:(srt (Na.up (lsR s p q l (lns l)))).Perm (Na.up (lsR s p q l (lns l))):=List.mergeSort_perm _ _
 refine z7ab ?_ ?_ fun z=>?_
 ·have h1:(srt (Na.up (lsR s p q l (lns l)))).Pairwise (fun x y=>decide (x≤y)=true):=List.pairwise_mergeSort (le:=fun x y:Int=>decide (x≤y)) (fun a b c h1 h2=>zt (Int.le_trans (of_decide_eq_true h1) (of_decide_eq_true h2))) (fun a b=>(Int.le_total a b).elim (fun h=>by rw [zt h];rfl) (fun h=>by rw [zt h,Bool.or_true])) _
  have h2:(srt (Na.up (lsR s p q l (lns l)))).Nodup:=by
   refine hp.nodup_iff.2 ?_
   unfold Na.up List.Nodup;rw [List.pairwise_map];exact (z6as s p q l).imp fun h e=>h (Int.ofNat.inj e)
  exact List.Pairwise.imp₂ (fun a b h3 h4=>by have:=of_decide_eq_true h3;omega) h1 h2
 ·unfold Na.up;rw [List.pairwise_map];exact (z1bq s p q l).imp fun h=>Int.ofNat_lt.2 h
 ·rw [hp.mem_iff,z1bm,z1bm];exact ⟨fun ⟨i,h,e⟩=>⟨i,z7r.2 h,e⟩,fun ⟨i,h,e⟩=>⟨i,z7r.1 h,e⟩⟩
theorem z6l (l:List Sn)(P:Sn→Bool):∀ la:List Nat,(pk l la).filter P=pk l (la.filter fun i=>(l[i]?).any P)
 | []=>rfl
 | i :: la=>by
  have ih:=z6l l P la
  unfold pk at *
  rw [List.filterMap_cons,List.filter_cons];cases hx:l[i]? with
  | none=>
   simp only [Option.any_none];exact ih
  | some x=>
   simp only [Option.any_some];by_cases hP:P x=true
   ·rw [List.filter_cons,if_pos hP,if_pos hP,List.filterMap_cons,hx,ih]
   ·rw [List.filter_cons,if_neg hP,if_neg hP,ih]
theorem z9f (l:List Sn):∀ n,n≤l.length→pk l (List.range n)=l.take n
 | 0,_=>rfl
 | n+1,h=>by
  have hx:l[n]?=some (l[n]'(by omega)):=zql _
  rw [List.range_succ,z5d,z2aj hx,z9f l n (by omega),z1n hx]
theorem z6bs {k:Int}{l:List Sn}{p:Sp×List Nat}(h:p∈z2c k l l.length):pk l p.2=l.filter fun x=>decide (z3b k x=p.1):=by
 have h1:=z9f l l.length (zqj _)
 rw [List.take_length] at h1;conv=>rhs;rw [← h1]
 rw [z6l,z3j k l _ p (zqj _) h]
 congr 2
 funext j
 cases l[j]? with
 | none=>rfl
 | some x=>
  show decide (some (z3b k x)=some p.1)=decide (z3b k x=p.1)
  by_cases e:z3b k x=p.1
  ·rw [zt e,zt (congrArg some e)]
  ·rw [zn e,zn fun e2=>e (zqk e2)]
theorem z7bu (s:Pl)(p q:List Int)(l:List Sn){g:Sp×List Nat}(hg:g∈z2c 6 (pk l (rstN s p q l)) (pk l (rstN s p q l)).length):
  (jud s p q (pk (pk l (rstN s p q l)) g.2)).k=0∧∀ x∈pk (pk l (rstN s p q l)) g.2,z3b 6 x=g.1:=by
 have hx:=z6bs hg
 obtain ⟨h,t,y,e1,hlt,hy,e2⟩:=z3i 6 _ _ g hg
 obtain ⟨i,hi,hiy⟩:=z2ak.1 (List.mem_of_getElem? hy)
 obtain ⟨c,hc,hic⟩:=z8b.1 (z7r.1 hi)
 obtain ⟨y',hy',e3⟩:=(z5i hc).1 ((z3m s p q l c.2).subset hic)
 rw [hiy] at hy';obtain rfl:=zqk hy'
 have hk:c.1=g.1:=e3.symm.trans e2
 have hf:((rstN s p q l).filter fun i=>(l[i]?).any fun x=>decide (z3b 6 x=g.1))=(lnF s p q l c.2).2:=by
  refine z6an ((z1bq s p q l).sublist List.filter_sublist) ((z7ag hc).sublist (z3m s p q l c.2)) fun z=>?_
  rw [List.mem_filter,z7r];constructor
  ·rintro ⟨h1,h2⟩;obtain ⟨c',hc',hz⟩:=z8b.1 h1
   obtain ⟨u,hu,e4⟩:=(z5i hc').1 ((z3m s p q l c'.2).subset hz)
   rw [hu,Option.any_some] at h2;have e5:c'=c:=z0bp hc' hc (by rw [← e4,hk];exact of_decide_eq_true h2)
   rw [← e5];exact hz
  ·intro hz;obtain ⟨u,hu,e4⟩:=(z5i hc).1 ((z3m s p q l c.2).subset hz)
   exact ⟨z8b.2 ⟨c,hc,hz⟩,by rw [hu,Option.any_some];exact zt (e4.trans hk)⟩
 rw [hx];refine ⟨?_,fun x h=>of_decide_eq_true (List.mem_filter.1 h).2⟩
 rw [z6l,hf];exact z5bb s p q l c.2
theorem z0bo {s:Pl}{x y u v:Nat}{l:List Sn}{k:Int}(F:FrK x y)(G:FrK u v)(hx:x≤1000∧y≤1000)(hu:u≤1000∧v≤1000)(hle:x*v≤u*y)(hs:shV s)(hk:kd k)(hl:l.length≤12){V:Vd}(h:jst s (Na.up (Na.dig x)) (Na.up (Na.dig y)) l k=some V):
  ∃ V',jst s (Na.up (Na.dig u)) (Na.up (Na.dig v)) l k=some V'∧V'.k=k∧V.k=k:=by
 obtain ⟨cx,cy,hc,FC,b1,b2⟩:=z0by (a:=(l.length:Int)) (b:=prt k s) (k:=((z5t k l).length:Int)) (by omega) (z1bt hk hs)
 have hC:chc s l k=(cx,cy,0):=hc
 have top:∀ a b:Nat,a≤4096 ^ 12→b≤1000→a*b<Na.top:=fun a b h1 h2=>by
  have h3:a*b≤4096 ^ 12*1000:=Nat.mul_le_mul h1 h2
  have h4:4096 ^ 12*1000<Na.top:=by decide +kernel
  omega
 have hA:=z1aq FC F (top _ _ b1 hx.2) (by rw [Nat.mul_comm];exact top _ _ b2 hx.1)
 have hB:=z1aq FC G (top _ _ b1 hu.2) (by rw [Nat.mul_comm];exact top _ _ b2 hu.1)
 unfold jst at h ⊢
 by_cases hg:(z5t k l).length<2
 ·rw [if_pos hg] at h;cases h
 ·rw [if_neg hg] at h ⊢
  rw [hC] at h ⊢
  by_cases hc2:cE (cx,cy,0) (Na.up (Na.dig x)) (Na.up (Na.dig y))=0∧cV (cx,cy,0) (Na.up (Na.dig x)) (Na.up (Na.dig y))≤0
  ·rw [if_pos hc2] at h;obtain rfl:=zqk h
   have h1:Na.sgn (cx*y) (x*cy)≤0:=by have:=hc2.2;unfold cV at this;rw [hA.1] at this;exact this
   have h2:cx*y≤x*cy:=by
    rcases zqi (x*cy) (cx*y) with h3 | h3
    ·unfold Na.sgn at h1;rw [if_neg (by omega)] at h1
     first | omega | (split at h1 <;> omega)
    ·exact h3
   have h3:cx*v≤u*cy:=by
    refine Nat.le_of_mul_le_mul_right (c:=y) ?_ F.pos
    calc cx*v*y=(cx*y)*v:=by rw [zqs,Nat.mul_comm v y,← zqs]
     _≤(x*cy)*v:=Nat.mul_le_mul_right _ h2
     _=(x*v)*cy:=by rw [zqs,Nat.mul_comm cy v,← zqs]
     _≤(u*y)*cy:=Nat.mul_le_mul_right _ hle
     _=u*cy*y:=by rw [zqs,Nat.mul_comm y cy,← zqs]
   have h4:Na.sgn (cx*v) (u*cy)≤0:=by
    unfold Na.sgn;split
    ·omega
    ·split
     ·omega
     ·omega
   have hc3:cE (cx,cy,0) (Na.up (Na.dig u)) (Na.up (Na.dig v))=0∧cV (cx,cy,0) (Na.up (Na.dig u)) (Na.up (Na.dig v))≤0:=⟨by unfold cE;exact hB.2,by unfold cV;rw [hB.1];exact h4⟩
   rw [if_pos hc3];exact ⟨_,rfl,rfl,rfl⟩
  ·rw [if_neg hc2] at h;cases h
theorem z9u {s:Pl}{x y u v:Nat}{l:List Sn}(F:FrK x y)(G:FrK u v)(hx:x≤1000∧y≤1000)(hu:u≤1000∧v≤1000)(hle:x*v≤u*y)(hs:shV s)(hl:l.length≤12):∀ f i:Nat,1≤i→i+f≤7→(z4c s (Na.up (Na.dig x)) (Na.up (Na.dig y)) l i f).k≠0→
  (z4c s (Na.up (Na.dig u)) (Na.up (Na.dig v)) l i f).k≠0∧(z4c s (Na.up (Na.dig u)) (Na.up (Na.dig v)) l i f).k≤(z4c s (Na.up (Na.dig x)) (Na.up (Na.dig y)) l i f).k
 | 0,i,_,_,h=>absurd rfl h
 | f+1,i,h1,h2,h=>by
  have ea:z4c s (Na.up (Na.dig x)) (Na.up (Na.dig y)) l i (f+1)=(match jst s (Na.up (Na.dig x)) (Na.up (Na.dig y)) l (i:Int) with | some v=>v | none=>z4c s (Na.up (Na.dig x)) (Na.up (Na.dig y)) l (i+1) f):=rfl
  have eb:z4c s (Na.up (Na.dig u)) (Na.up (Na.dig v)) l i (f+1)=(match jst s (Na.up (Na.dig u)) (Na.up (Na.dig v)) l (i:Int) with | some v=>v | none=>z4c s (Na.up (Na.dig u)) (Na.up (Na.dig v)) l (i+1) f):=rfl
  have hk:kd (i:Int):=⟨by omega,by omega⟩
  rw [ea] at h ⊢
  rw [eb];cases ha:jst s (Na.up (Na.dig x)) (Na.up (Na.dig y)) l (i:Int) with
  | some V=>
   obtain ⟨V',hb,e1,e2⟩:=z0bo F G hx hu hle hs hk hl ha
   rw [hb];simp only [e1,e2];exact ⟨by omega,Int.le_refl _⟩
  | none=>
   rw [ha] at h;have h:(z4c s (Na.up (Na.dig x)) (Na.up (Na.dig y)) l (i+1) f).k≠0:=h
   have ih:=z9u F G hx hu hle hs hl f (i+1) (by omega) (by omega) h
   cases hb:jst s (Na.up (Na.dig u)) (Na.up (Na.dig v)) l (i:Int) with
   | none=>exact ih
   | some V'=>
    have hk':V'.k=(i:Int):=by
     unfold jst at hb;by_cases hg:(z5t (i:Int) l).length<2
     ·rw [if_pos hg] at hb;cases hb
     ·rw [if_neg hg] at hb;split at hb
      ·obtain rfl:=zqk hb
       rfl
      ·cases hb
    rcases z9v s (Na.up (Na.dig x)) (Na.up (Na.dig y)) l f (i+1) with e | e
    ·exact absurd e h
    ·show V'.k≠0∧V'.k≤(z4c s (Na.up (Na.dig x)) (Na.up (Na.dig y)) l (i+1) f).k
     rw [hk'];exact ⟨by omega,by omega⟩
end Cl
end Go.Proofs.YtpmofjomadibmaaGreatDoor
