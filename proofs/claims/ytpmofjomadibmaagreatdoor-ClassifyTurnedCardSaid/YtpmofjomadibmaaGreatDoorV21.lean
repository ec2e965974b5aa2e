/- Zs Zj Zt Zy Zu -/
import Derived.Test.YtpmofjomadibmaaGreatDoorV20
namespace Go.Proofs.YtpmofjomadibmaaGreatDoor
set_option maxHeartbeats 8000000
open Go.RowKit Go.Sort
open Go.ChangeMaps (setBlock heap_setBlock_same heap_setBlock_other)
set_option linter.unusedVariables false
set_option maxRecDepth 100000
open Cl
namespace Cl
set_option maxHeartbeats 8000000
theorem z2bi:∀ (ks:List (Sp×List Nat))(q:Sp)(i:Nat),((ad ks q i).map (·.2)).flatten.length=(ks.map (·.2)).flatten.length+1
 | [],q,i=>rfl
 | p :: r,q,i=>by
  by_cases e:p.1=q
  ·have h:ad (p :: r) q i=(q,p.2++[i]) :: r:=by show (if p.1=q then _ else _)=_;rw [if_pos e]
   rw [h];simp only [List.map_cons,List.flatten_cons,zqm,List.length_singleton];omega
  ·have h:ad (p :: r) q i=p :: ad r q i:=by show (if p.1=q then _ else _)=_;rw [if_neg e]
   have ih:=z2bi r q i
   rw [h];simp only [List.map_cons,List.flatten_cons,zqm];omega
theorem z2al (k:Int)(l:List Sn):∀ i,((z1t k l i).map (·.2)).flatten.length≤i
 | 0=>zqj _
 | i+1=>by
  have ih:=z2al k l i
  show (((match l[i]? with | some x=>ad (z1t k l i) (z2g k x) i | none=>z1t k l i):List (Sp×List Nat)).map (·.2)).flatten.length≤i+1
  split
  ·rw [z2bi];omega
  ·omega
theorem z6az {gs:List (List Nat)}(i:Nat):(gs.take i).flatten.length≤gs.flatten.length:=by
 conv=>rhs;rw [← List.take_append_drop i gs]
 rw [List.flatten_append,zqm];omega
theorem z0bp {gs:List (List Nat)}{i:Nat}{x:List Nat}(h:gs[i]?=some x):x.length≤gs.flatten.length:=by
 have:=List.sublist_flatten_of_mem (List.mem_of_getElem? h)
 exact this.length_le
structure Lns (gs:List (List Nat))(inn:List Rw)(n3:Nat):Prop where
 len:gs.length=inn.length
 row:∀ (i:Nat) (r:Rw),inn[i]?=some r→r.e=3∧∃ ga,gs[i]?=some ga∧r.vs=z0c ga
 sum:gs.flatten.length≤n3
 lt:∀ ga∈gs,∀ z∈ga,z<n3
def slN:Value→Nat
 | .slice _ n _=>n
 | _=>0
theorem z4bw {n:Nat}(s:Pl)(p q:List Int)(l:List Sn){gs:List (List Nat)}(i:Nat)(h:gs.flatten.length≤n):(lsV s p q l (gs.take i)).length+(lsR s p q l (gs.take i)).length≤n:=by
 have h1:=z1bt s p q l (gs.take i)
 have h2:=z6az (gs:=gs) i
 omega
end Cl
section
variable {P:Program}{w0 w:World}{g:Option Nat}{M:List (Nat×Value)}{L:List Ob}{O:List Rw}{X l:List Rx}{t e:TypeId}{z:Value}{bytes:Nat}
theorem Ox.fewX (h:Ox w0 w g M L O (X++l)):Ox w0 w g M L O X:=by
 have key:∀ (i:Nat) (r:Rx),X[i]?=some r→(X++l)[i]?=some r:=fun i r hi=>by rw [zqn (z0e hi)];exact hi
 exact ⟨h.ow,fun i r hi=>h.own i r (key i r hi),fun i r hi=>h.ap i r (key i r hi),fun i j r s hi hj=>h.two i j r s (key i r hi) (key j s hj)⟩
theorem z3aq {ops:Array Oper}{rest:List Oper}{o:Oper}{a:Act}{Q:Exit→Act→World→Prop}(hE:Elem P t e z bytes)(h:Ox w0 w g M L O X)(i:Nat)(s x:Operand){A:Option Addr}{n c:Nat}{xs:List Value}(hi:O[i]?=some ⟨A,n,c,e,xs⟩)
  {B:Nat} {A2:Option Addr} {m c2:Nat} {news:List Value} (hm:news.length=m) (hr:Sl w B A2 news) (h1:∀ u∈news,u.oneCell'=true) (h63:n+m≤maxLen) (hbytes:(n+m)*bytes≤140737488355328)
  (hgd:o.guard=none) (ho:o.op=.call { callee:=.builtin .append,args:=#[s,x],argTypes:=#[t,t] }) (hs:a.eval s=.slice A n c) (hx:a.eval x=.slice A2 m c2)
  (hk:∀ A' c' w',Ox w0 w' g M L (O.set i ⟨A',n+m,c',e,xs++news⟩) X→wpList P ops Q rest (a.put o.dst (.slice A' (n+m) c')) w'):wpList P ops Q (o :: rest) a w:=by
 obtain ⟨ht,hzc,inf,hi0,hz,hsz,hby⟩:=hE;exact z0h w hgd s x t ho w0.heap.size e inf z bytes ht hi0 hz hsz hby (by rw [hzc];rfl) A n c xs hs (h.ow.own i _ hi) B A2 m c2 news hx hm hr h1 h63 hbytes h.size fun A' c' w' h2 h3 h4=>
  hk A' c' w' (h.turnO i hi (r':=⟨A',n+m,c',e,xs++news⟩) h3 h2 h4)
end
def R1al (s:Pl)(p q:List Int)(l:List Sn)(gs:List (List Nat))(w0:World)(g:Option Nat)(M:List (Nat×Value))(L:List Ob)(O:List Rw)(S P B out:Rw)(inn0:List Rw)(x10 x11 x29:Value)(wr:World):Prop:=
 ∃ (i:Nat) (V:List VR) (Aov:Option Addr) (cov:Nat) (Ar:Option Addr) (nr cr:Nat) (inn:List Rw),i≤gs.length∧x29=.int .i64 (i:Int)∧x10=.slice Aov V.length cov∧x11=.slice Ar nr cr∧Hid (inn.length=gs.length∧∀ j,i≤j→inn[j]?=inn0[j]?)∧Hid (V.map VR.v=lsV s p q l (gs.take i))∧Hid ((lsR s p q l (gs.take i)).length=nr)∧Hid (Ox w0 wr g M (L++lvr V) (O++(S :: P :: B :: ⟨Ar,nr,cr,3,z0c (lsR s p q l (gs.take i))⟩ :: out :: inn)) [⟨Aov,V.length,cov,42,11,fvr V⟩])
def R2al (s:Pl)(p q:List Int)(l:List Sn)(gs:List (List Nat))(w0:World)(g:Option Nat)(M:List (Nat×Value))(L:List Ob)(O:List Rw)(S P B out:Rw)(inn0:List Rw)(rr:Rw)(i:Nat)(gi:List Nat)(x10 x13:Value)(wr:World):Prop:=
 ∃ (la:List Nat) (A:Option Addr) (n c:Nat) (V:List VR) (Aov:Option Addr) (cov:Nat) (inn:List Rw),x10=.slice Aov V.length cov∧x13=.slice A n c∧Hid (la.length=n∧n≤40∧(∀ z∈la,z<l.length)∧V.length≤40)∧Hid (inn.length=gs.length∧inn[i]?=some ⟨A,n,c,3,z0c la⟩∧∀ j,i+1≤j→inn[j]?=inn0[j]?)∧Hid (V.map VR.v++(lnF s p q l la).1=lsV s p q l (gs.take (i+1)))∧Hid ((lnF s p q l la).2=(lnF s p q l gi).2)∧Hid (Ox w0 wr g M (L++lvr V) (O++(S :: P :: B :: rr :: out :: inn)) [⟨Aov,V.length,cov,42,11,fvr V⟩])
def R3al (l:List Sn)(w0:World)(g:Option Nat)(M:List (Nat×Value))(L:List Ob)(O:List Rw)(X0:Rx)(la:List Nat)(x14 x35:Value)(wr:World):Prop:=
 ∃ (j:Nat) (As:Option Addr) (cs:Nat),j≤la.length∧x35=.int .i64 (j:Int)∧x14=.slice As j cs∧Hid (Ox w0 wr g M L O [X0,⟨As,j,cs,40,8,fl (pk l (la.take j))⟩])
theorem pAll {w0 w:World}{g:Option Nat}{M:List (Nat×Value)}{L:List Ob}{O:List Rw}{A A2 A3:Option Addr}{n c m c2 n3 c3 e3:Nat}{p q:List Int}{l:List Sn}(s:Pl)(h:Ow w0 w g M L O)(i j k:Nat)(hi:L[i]?=some ⟨A,n,c,z0t p⟩)(hj:L[j]?=some ⟨A2,m,c2,z0t q⟩)(hk:L[k]?=some ⟨A3,n3*8,e3,fl l⟩)(ht:Tab w0):
  Calls Tryz.prog 26 #[.agg s.vs,.agg #[.slice A n c,.slice A2 m c2],.slice A3 n3 c3] w (AllR w0 g M L O (z9u s p q l).1 (z9u s p q l).2.1 (z9u s p q l).2.2):=by
 have H0:=((h.arr s.vs 6 rfl (by omega) 33).pair (.slice A n c) (.slice A2 m c2) 27).arr #[.slice A3 n3 c3] 1 rfl (by omega) 23
 simp only [World.size_alloc,zqa,zqb,zqc] at H0;have HLn:l.length=n3:=by
  have a:=(h.sl hk).1
  rw [z3f] at a;omega
 have HNl:=zh HLn;have HC:=zh (z1bp s H0 i j k hi hj hk ht (c3:=c3))
 have HH:Hid (L[i]?=some ⟨A,n,c,z0t p⟩∧L[j]?=some ⟨A2,m,c2,z0t q⟩∧L[k]?=some ⟨A3,n3*8,e3,fl l⟩):=⟨hi,hj,hk⟩
 have HT:=zh ht;obtain ⟨so,ch,ra,ba,ro,co⟩:=s;unfold Pl.vs at *
 obtain ⟨a0,a1,a2,a3,a4,a5⟩:=zc6 (H0.row (O.length+0) (zk rfl));have b0:=H0.p0 (O.length+1) (zk rfl)
 have b1:=H0.p1 (O.length+1) (zk rfl)
 have d0:=(H0.row (O.length+2) (zk rfl)).cellAt 0 (by decide)
 clear hi hj hk HLn h ht;go_enter Tryz.func26,Tryz.ntmps26
 go_wp2_with fail;refine HC.out.mono ?_;rintro e w1 ⟨rfl,H1⟩;clear HC H0 a0 a1 a2 a3 a4 a5 b0 b1 d0;obtain ⟨er,her⟩:∃ z,chk ⟨so,ch,ra,ba,ro,co⟩ p q l=z:=⟨_,rfl⟩
 rw [her];by_cases he:er=0
 ·subst he
  have HZ:=zh (z2au her)
  have HJ:Hid (z9u ⟨so,ch,ra,ba,ro,co⟩ p q l=(lsV ⟨so,ch,ra,ba,ro,co⟩ p q l ((z1t 6 l n3).map (·.2)),srt (Na.up (lsR ⟨so,ch,ra,ba,ro,co⟩ p q l ((z1t 6 l n3).map (·.2)))),0)):=by unfold Hid z9u;rw [if_pos her,HNl.out]
  have hn40:n3≤40:=by have:=HZ.out.2.2.2.1;have:=HNl.out;omega
  have HG:=zh (z0am 6 (by decide) A3 n3 c3 l w1 HNl.out (by omega) (H1.sl HH.out.2.2).2.2.2)
  have HSm:Hid (((z1t 6 l n3).map (·.2)).flatten.length≤n3∧∀ ga∈(z1t 6 l n3).map (·.2),∀ z∈ga,z<n3):=⟨z2al 6 l n3,fun ga hga z hz=>by
   obtain ⟨pp,hp,rfl⟩:=List.mem_map.1 hga
   have e:=HNl.out;rw [← e] at hp;have:=z5bf hp z hz
   omega⟩
  have d0:=(H1.row (O.length+2) (zk rfl)).cellAt 0 (by decide)
  have hlg:(z1t 6 l n3).length≤n3:=(z4i 6 l n3).2
  clear her;obtain ⟨gg,hgg⟩:∃ z,z1t 6 l n3=z:=⟨_,rfl⟩
  rw [hgg] at HJ HG HSm hlg;clear hgg;go_wp2_with fail;refine HG.out.mono ?_;rintro e w2 ⟨Ao,ao,inn0,rfl,hV,hE,hO⟩;have H2:=(H1.add (A:=none) (n:=0) (c:=0) (e:=3) (vs:=[]) (World.ownsRow_nil _ _ _ _) (Below.refl _ _)).merge hO
  simp only [zqa,zqb,zqc] at H2;obtain ⟨gs,hgs⟩:∃ z,gg.map (·.2)=z:=⟨_,rfl⟩
  rw [hgs] at HJ HSm;have HLs:Hid (Lns gs inn0 n3):=by
   have hl:=congrArg List.length hV
   rw [List.length_map,List.length_map] at hl;refine ⟨by rw [← hgs,List.length_map,hl],fun i r hi=>⟨hE r (List.mem_of_getElem? hi),?_⟩,HSm.out.1,HSm.out.2⟩
   have h1:=congrArg (fun t=>t[i]?) hV
   simp only [List.getElem?_map,hi,Option.map_some] at h1;cases hg:gg[i]? with
   | none=>rw [hg] at h1;cases h1
   | some pp=>
    rw [hg] at h1;simp only [Option.map_some,Option.some.injEq] at h1;exact ⟨pp.2,by rw [← hgs,List.getElem?_map,hg];rfl,h1⟩
  obtain ⟨gn,hgn⟩:∃ z,inn0.length=z:=⟨_,rfl⟩
  have HGn:Hid (inn0.length=gn∧gs.length=gn∧gn≤1000):=by
   have h1:=HLs.out.len;exact ⟨hgn,by omega,by have h3:=hlg;have h4:=congrArg List.length hgs;rw [List.length_map] at h4;omega⟩
  have HX:Hid (Ox w0 w2 g M (L++lvr []) (O++((⟨some ⟨w.heap.size,0,none⟩,6,6,33,[.int .i64 so,.int .i64 ch,.int .i64 ra,.int .i64 ba,.int .i64 ro,.int .i64 co]⟩:Rw) :: Rw.pair (w.heap.size+1) 27 (.slice A n c) (.slice A2 m c2) :: (⟨some ⟨w.heap.size+1+1,0,none⟩,1,1,23,[.slice A3 n3 c3]⟩:Rw) :: (⟨none,0,0,3,z0c (lsR ⟨so,ch,ra,ba,ro,co⟩ p q l (gs.take 0))⟩:Rw) :: z3w Ao ao inn0 :: inn0)) [⟨none,0,0,42,11,fvr []⟩]):=by
   have:=(Ox.of H2).nilX 42 11
   show Ox w0 w2 g M (L++[]) _ _
   rw [List.append_nil];exact this
  rw [hgn];clear HG hV hE hO H1 H2 hgs hgn HSm d0 hlg;go_wp2_with fail;go_loopw [10,11,29] (fun x10 x11 x29 wr=>R1al ⟨so,ch,ra,ba,ro,co⟩ p q l gs w0 g M L O (⟨some ⟨w.heap.size,0,none⟩,6,6,33,[.int .i64 so,.int .i64 ch,.int .i64 ra,.int .i64 ba,.int .i64 ro,.int .i64 co]⟩:Rw) (Rw.pair (w.heap.size+1) 27 (.slice A n c) (.slice A2 m c2)) (⟨some ⟨w.heap.size+1+1,0,none⟩,1,1,23,[.slice A3 n3 c3]⟩:Rw) (z3w Ao ao inn0) inn0 x10 x11 x29 wr) (fun _ _ x29 _=>gn+1 - (intOf x29).toNat)
  case atStart=>exact ⟨0,[],none,0,none,0,0,inn0,zqr _,rfl,rfl,rfl,⟨by rw [HGn.out.1,HGn.out.2.1],fun j _=>rfl⟩,rfl,rfl,HX.out⟩
  case round=>
   clear HX;obtain ⟨i1,V,Aov,cov,Ar,nr,cr,inn,hi1,rfl,rfl,rfl,HIn,HVm,HRl,HX⟩:=hrel;rw [HGn.out.2.1] at hi1;have hbd:=z4bw ⟨so,ch,ra,ba,ro,co⟩ p q l i1 HLs.out.sum
   have HBd:Hid (V.length≤40∧nr≤40):=by
    have h1:=congrArg List.length HVm.out
    rw [List.length_map] at h1;have h2:=HRl.out;exact ⟨by omega,by omega⟩
   clear hbd;rcases Nat.eq_or_lt_of_le hi1 with heq | hlt
   ·have hd:decide ((i1:Int)<(gn:Int))=false:=zn (by omega)
    have hd2:decide (i1<gn)=false:=zn (by omega)
    have htk:gs.take i1=gs:=zqp (by have:=HGn.out.2.1;omega)
    rw [htk] at HVm HRl HX;have hb1:=HBd.out.1;have hb2:=HBd.out.2;have hk1:=(HX.out.keepX 0 rfl (m:=V.length*11) rfl (by omega) (by omega)).ow
    rw [← z0g] at hk1;have HS:=zh (z2bx hk1 (O.length+3) (zk rfl) (by omega))
    clear heq hi1 hk1 htk hb1 hb2 HX;go_wp2_with fail;refine HS.out.mono ?_;rintro e w9 ⟨rfl,ho9⟩;rw [z0q] at ho9;simp only [zqe,zqd] at ho9;have ho10:=ho9.keep (O.length+3) (zk rfl) (by have:=HBd.out.2;omega)
    rw [z0q] at ho10;have HE:=zh ho10.fewO;clear ho10;clear ho9 HS;go_wp2_with fail;refine bodyPost_ret (v:=.tuple #[.slice Aov V.length cov,.slice Ar nr cr,.int .i64 0]) (by simp [results,Tryz.results26,go_sem]) rfl ?_
    rw [HJ.out];refine ⟨Aov,V.length,cov,Ar,nr,cr,V,HVm.out,rfl,?_,rfl,HE.out.few2 (by rw [List.take_length]) fun o ho=>?_⟩
    ·show (srt (Na.up _)).length=nr
     rw [z6g];unfold Na.up;rw [List.length_map];exact HRl.out
    ·simp only [List.mem_append,List.mem_cons,List.mem_nil_iff,or_false] at ho ⊢
     rcases ho with h | h | h | h
     ·exact .inl (.inl (.inl h))
     ·exact .inl (.inr h)
     ·exact .inr h
     ·exact .inl (.inl (.inr h))
   ·have hd:decide ((i1:Int)<(gn:Int))=true:=zt (by omega)
    have hd2:decide (i1<gn)=true:=zt (by omega)
    have hlI:(i1:Int)<(gn:Int):=by omega
    have hg1k:=HGn.out.2.2;have hw29:IntKind.i64.wrap ((i1:Int)+1)=((i1+1:Nat):Int):=by rw [IntWalk.i64_in _ (by omega)];omega
    obtain ⟨r0,hr0⟩:∃ z,inn0[i1]?=some z:=⟨inn0[i1]'(by rw [HGn.out.1];exact hlt),zql _⟩
    obtain ⟨hre,ga,hga,hrv⟩:=HLs.out.row i1 r0 hr0
    have hri:inn[i1]?=some r0:=(HIn.out.2 i1 (zqj _)).trans hr0
    have hR:=HX.out.ow.row (O.length+4) (zk rfl)
    obtain ⟨gb,hgb,_,_⟩:=z0r hR (by have:=HGn.out.1;omega)
    obtain rfl:=hgb
    obtain ⟨Al,nl,cl,el,vl⟩:=r0;simp only at hre hrv
    subst hre hrv
    have e0:=hR.cells (g:=gb) rfl i1 (.slice Al nl cl) (by rw [List.getElem?_map,hr0];rfl)
    rw [addz] at e0;have hgl:ga.length=nl:=by
     have h1:=HX.out.ow.own (O.length+(i1+5)) _ (by rw [z0b];exact hri)
     have h2:=h1.1;rw [z0f] at h2;simpa using h2
    have HGa:Hid (gs[i1]?=some ga∧ga.length=nl∧nl≤40):=⟨hga,hgl,by have h1:=z0bp hga;have h2:=HLs.out.sum;omega⟩
    have H2r:Hid (R2al ⟨so,ch,ra,ba,ro,co⟩ p q l gs w0 g M L O (⟨some ⟨w.heap.size,0,none⟩,6,6,33,[.int .i64 so,.int .i64 ch,.int .i64 ra,.int .i64 ba,.int .i64 ro,.int .i64 co]⟩:Rw) (Rw.pair (w.heap.size+1) 27 (.slice A n c) (.slice A2 m c2)) (⟨some ⟨w.heap.size+1+1,0,none⟩,1,1,23,[.slice A3 n3 c3]⟩:Rw) (z3w (some ⟨gb,0,none⟩) ao inn0) inn0 (⟨Ar,nr,cr,3,z0c (lsR ⟨so,ch,ra,ba,ro,co⟩ p q l (gs.take i1))⟩:Rw) i1 ga (.slice Aov V.length cov) (.slice Al nl cl) wr):=by
     refine ⟨ga,Al,nl,cl,V,Aov,cov,inn,rfl,rfl,⟨hgl,HGa.out.2.2,fun z hz=>?_,HBd.out.1⟩,⟨HIn.out.1,hri,fun j hj=>HIn.out.2 j (by omega)⟩,?_,rfl,HX.out⟩
     ·have h1:=HLs.out.lt ga (List.mem_of_getElem? hga) z hz
      have h2:=HNl.out;omega
     ·unfold Hid;rw [HVm.out,z1s hga,z0bd]
    have HIg:=zh hlt;clear hR hri hga hgl hr0 hlt hi1 HX HVm HIn HBd hg1k;go_wp2_with fail;go_loopw [10,13] (fun x10 x13 wr=>R2al ⟨so,ch,ra,ba,ro,co⟩ p q l gs w0 g M L O (⟨some ⟨w.heap.size,0,none⟩,6,6,33,[.int .i64 so,.int .i64 ch,.int .i64 ra,.int .i64 ba,.int .i64 ro,.int .i64 co]⟩:Rw) (Rw.pair (w.heap.size+1) 27 (.slice A n c) (.slice A2 m c2)) (⟨some ⟨w.heap.size+1+1,0,none⟩,1,1,23,[.slice A3 n3 c3]⟩:Rw) (z3w (some ⟨gb,0,none⟩) ao inn0) inn0 (⟨Ar,nr,cr,3,z0c (lsR ⟨so,ch,ra,ba,ro,co⟩ p q l (gs.take i1))⟩:Rw) i1 ga x10 x13 wr) (fun _ x13 _=>slN x13)
    case atStart=>exact H2r.out
    case round=>
     clear H2r e0;obtain ⟨la,Al,nl,cl,V,Aov,cov,inn,rfl,rfl,HLa,HIn,HVm,HRm,HX⟩:=hrel;obtain ⟨OO,hOO⟩:∃ z,O++((⟨some ⟨w.heap.size,0,none⟩,6,6,33,[.int .i64 so,.int .i64 ch,.int .i64 ra,.int .i64 ba,.int .i64 ro,.int .i64 co]⟩:Rw) :: (Rw.pair (w.heap.size+1) 27 (.slice A n c) (.slice A2 m c2)) :: (⟨some ⟨w.heap.size+1+1,0,none⟩,1,1,23,[.slice A3 n3 c3]⟩:Rw) :: (⟨Ar,nr,cr,3,z0c (lsR ⟨so,ch,ra,ba,ro,co⟩ p q l (gs.take i1))⟩:Rw) :: z3w (some ⟨gb,0,none⟩) ao inn0 :: inn)=z:=⟨_,rfl⟩
     have HOS:Hid (OO[O.length+0]?=some (⟨some ⟨w.heap.size,0,none⟩,6,6,33,[.int .i64 so,.int .i64 ch,.int .i64 ra,.int .i64 ba,.int .i64 ro,.int .i64 co]⟩:Rw)):=by unfold Hid;rw [← hOO,z0b];rfl
     have HOP:Hid (OO[O.length+1]?=some (Rw.pair (w.heap.size+1) 27 (.slice A n c) (.slice A2 m c2))):=by unfold Hid;rw [← hOO,z0b];rfl
     have HOB:Hid (OO[O.length+2]?=some (⟨some ⟨w.heap.size+1+1,0,none⟩,1,1,23,[.slice A3 n3 c3]⟩:Rw)):=by unfold Hid;rw [← hOO,z0b];rfl
     have HOL:Hid (OO[O.length+(i1+5)]?=some (⟨Al,nl,cl,3,z0c la⟩:Rw)):=by unfold Hid;rw [← hOO,z0b];exact HIn.out.2.1
     have HKl:Hid ((L++lvr V)[k]?=some ⟨A3,n3*8,e3,fl l⟩):=by unfold Hid;rw [z1b _ _ (z0e HH.out.2.2)];exact HH.out.2.2
     rw [hOO] at HX;have HOO:=zh hOO;have H3:Hid (Ox w0 wr g M (L++lvr V) OO [(⟨Aov,V.length,cov,42,11,fvr V⟩:Rx),⟨none,0,0,40,8,fl (pk l (la.take 0))⟩]):=HX.out.nilX _ _
     clear hOO HX;go_wp2_with fail;go_loopw [14,35] (fun x14 x35 wr=>R3al l w0 g M (L++lvr V) OO (⟨Aov,V.length,cov,42,11,fvr V⟩:Rx) la x14 x35 wr) (fun _ x35 _=>nl+1 - (intOf x35).toNat)
     case atStart=>exact ⟨0,none,0,zqr _,rfl,rfl,H3.out⟩
     case round=>
      clear H3;obtain ⟨j1,As,cs,hj1,rfl,rfl,HX⟩:=hrel;rw [HLa.out.1] at hj1;rcases Nat.eq_or_lt_of_le hj1 with heq | hlt
      ·have hd:decide ((j1:Int)<(nl:Int))=false:=zn (by omega)
       have hd2:decide (j1<nl)=false:=zn (by omega)
       obtain rfl:nl=j1:=heq.symm
       have htl:la.take nl=la:=zqp (Nat.le_of_eq HLa.out.1)
       rw [htl] at HX;have HPl:Hid ((pk l la).length=nl):=by unfold Hid;rw [z1bo HLa.out.2.2.1];exact HLa.out.1
       obtain ⟨a0,a1,a2,a3,a4,a5⟩:=zc6 (HX.out.ow.row (O.length+0) HOS.out);have b0:=HX.out.ow.p0 (O.length+1) HOP.out
       have b1:=HX.out.ow.p1 (O.length+1) HOP.out
       have hnl:=HLa.out.2.1;have HCb:Hid (Ow wr wr none [] [⟨A,n,c,z0t p⟩,⟨A2,m,c2,z0t q⟩,⟨As,nl*8,nl*8,fl (pk l la)⟩] []):=by
        have g1:=HX.out.ow.sl (i:=i) (by rw [z1b _ _ (z0e HH.out.1)];exact HH.out.1)
        have g2:=HX.out.ow.sl (i:=j) (by rw [z1b _ _ (z0e HH.out.2.1)];exact HH.out.2.1)
        have g3:=HX.out.row 1 rfl
        have g4:=(((Ow.of (St.refl wr)).old g1.2.2.2 g1.1 g1.2.1 g1.2.2.1).old g2.2.2.2 g2.1 g2.2.1 g2.2.2.1).old (A:=As) (n:=nl*8) (c:=nl*8) (z7u g3 (by omega)) (by rw [z3f];have:=HPl.out;omega) (zqj _) (by omega)
        exact g4
       have HTw:Hid (Tab wr):=HT.out.below HX.out.ow.below
       have HCj:=zh (z4bf ⟨so,ch,ra,ba,ro,co⟩ HZ.out.1 HCb.out 0 1 2 rfl rfl rfl hnl HTw.out (c3:=cs))
       clear heq hj1 htl HCb;unfold Pl.vs at HCj;obtain ⟨vd,hvd⟩:∃ z,jud ⟨so,ch,ra,ba,ro,co⟩ p q (pk l la)=z:=⟨_,rfl⟩
       rw [hvd] at HCj;have HVd:=zh hvd;clear hvd;go_wp2_with fail;refine HCj.out.mono ?_;rintro e w5 ⟨B1,n1,d1,B2,n2,d2,rfl,ho5,hf5⟩;obtain ⟨kk,⟨v0,v1,v2,v3,v4,v5⟩,vc,vh,vx,vy⟩:=vd
       simp only [Vd.vs];simp only at hf5 ho5
       clear HCj a0 a1 a2 a3 a4 a5 b0 b1 HTw;by_cases hk0:kk=0
       ·subst hk0
        have HX9:=zh ((HX.out.go ho5.below).arrO #[.int .i64 0,.int .i64 v0,.int .i64 v1,.int .i64 v2,.int .i64 v3,.int .i64 v4,.int .i64 v5,.int .i64 vc,.int .i64 vh,.slice B1 n1 d1,.slice B2 n2 d2] 11 rfl (by omega) 42)
        have q0:(w5.alloc (.cells #[.int .i64 0,.int .i64 v0,.int .i64 v1,.int .i64 v2,.int .i64 v3,.int .i64 v4,.int .i64 v5,.int .i64 vc,.int .i64 vh,.slice B1 n1 d1,.slice B2 n2 d2] 42)).cell? ⟨w5.heap.size,0,none⟩=some (.int .i64 0):=(HX9.out.ow.row (OO.length+0) (zk rfl)).cellAt 0 (by decide)
        have HOR:Hid (OO[O.length+3]?=some (⟨Ar,nr,cr,3,z0c (lsR ⟨so,ch,ra,ba,ro,co⟩ p q l (gs.take i1))⟩:Rw)):=by unfold Hid;rw [← HOO.out,z0b];rfl
        have HSt:Hid (lnF ⟨so,ch,ra,ba,ro,co⟩ p q l la=([],la)):=z0bf (by rw [HVd.out])
        have HRl2:Hid (nr≤40∧nl≤40):=⟨by have h1:=z4bw ⟨so,ch,ra,ba,ro,co⟩ p q l i1 HLs.out.sum;have h2:=HRl.out;omega,HLa.out.2.1⟩
        have hr1:=HRl2.out.1;have hr2:=HRl2.out.2;clear ho5 hf5 HX;go_wp2_with (at_builtin;refine z3aq z5p HX9.out (O.length+3) (.tmp 66) (.tmp 67) (by rw [z1b _ _ (z0e HOR.out)];exact HOR.out) (m:=nl) (news:=z0c la) (by rw [z0f];exact HLa.out.1) (Sl.of_own (HX9.out.ow.row (O.length+(i1+5)) (by rw [z1b _ _ (z0e HOL.out)];exact HOL.out))) (z2u la) (by unfold maxLen;omega) (by omega) rfl rfl rfl rfl ?_;intro A2' c2' w2' how2;have HX2:=zh how2;clear how2)
        go_roundw
        case rel=>
         refine ⟨i1+1,V,Aov,cov,A2',nr+nl,c2',inn,by have h1:=HIg.out;have h2:=HGn.out.2.1;omega,rfl,rfl,rfl,⟨HIn.out.1,HIn.out.2.2⟩,?_,?_,?_⟩
         ·have h1:=HVm.out;rw [HSt.out,List.append_nil] at h1;exact h1
         ·unfold Hid;rw [z1s HGa.out.1,z2ac,zqm,HRl.out,← HRm.out,HSt.out]
          show nr+la.length=_
          rw [HLa.out.1]
         ·unfold Hid;have h1:=HX2.out;rw [z3bf _ _ (z0e HOR.out)] at h1
          have h2:=h1.fewO.fewX (X:=[(⟨Aov,V.length,cov,42,11,fvr V⟩:Rx)])
          rw [← HOO.out,z0q] at h2;rw [z1s HGa.out.1,z2ac,← HRm.out,HSt.out,z0av];exact h2
        case measure=>
         have:=HIg.out
         simp [intOf]
         omega
       ·have HFr:Hid (NewS wr w5 (VR.obs ⟨⟨kk,⟨v0,v1,v2,v3,v4,v5⟩,vc,vh,vx,vy⟩,B1,n1,d1,B2,n2,d2⟩)):=by
         intro o ho;obtain ⟨hf1,hf2⟩:=hf5 hk0
         have g1:=ho5.sl (i:=3) rfl
         have g2:=ho5.sl (i:=4) rfl
         unfold VR.obs at ho;simp only [List.mem_cons,List.mem_nil_iff,or_false] at ho;rcases ho with rfl | rfl
         ·exact ⟨g1.1,g1.2.1,g1.2.2.1,g1.2.2.2,hf1⟩
         ·exact ⟨g2.1,g2.2.1,g2.2.2.1,g2.2.2.2,hf2⟩
        have HX7':=((HX.out.pushW ho5.below HFr.out).arrO #[.int .i64 kk,.int .i64 v0,.int .i64 v1,.int .i64 v2,.int .i64 v3,.int .i64 v4,.int .i64 v5,.int .i64 vc,.int .i64 vh,.slice B1 n1 d1,.slice B2 n2 d2] 11 rfl (by omega) 42).arrO #[.int .i64 kk,.int .i64 v0,.int .i64 v1,.int .i64 v2,.int .i64 v3,.int .i64 v4,.int .i64 v5,.int .i64 vc,.int .i64 vh,.slice B1 n1 d1,.slice B2 n2 d2] 11 rfl (by omega) 42
        simp only [World.size_alloc] at HX7';have HX7:=zh HX7';clear HX7';have HJn:Hid ((jud ⟨so,ch,ra,ba,ro,co⟩ p q (pk l la)).k≠0):=by unfold Hid;rw [HVd.out];exact hk0
        have HKd:Hid (kd kk):=by
         have h1:=(z6q HJn.out).1
         rw [HVd.out] at h1;exact h1
        have HGo:=zh (z6bw HJn.out)
        have HNx:=zh (z5aq HJn.out)
        rw [HVd.out] at HGo HNx;have HVl:Hid (V.length+1≤40):=by
         have h1:=congrArg List.length HVm.out
         rw [HGo.out,zqm,List.length_map,List.length_cons] at h1;have h2:=z4bw ⟨so,ch,ra,ba,ro,co⟩ p q l (i1+1) HLs.out.sum
         unfold Hid;omega
        have hvl:=HVl.out;have kz:(kk == 0)=false:=z1r hk0
        obtain ⟨q0,q1,q2,q3,q4,q5,q6,q7,q8,q9,q10⟩:=zc11 (((HX.out.pushW ho5.below HFr.out).arrO #[.int .i64 kk,.int .i64 v0,.int .i64 v1,.int .i64 v2,.int .i64 v3,.int .i64 v4,.int .i64 v5,.int .i64 vc,.int .i64 vh,.slice B1 n1 d1,.slice B2 n2 d2] 11 rfl (by omega) 42).ow.row (OO.length+0) (zk rfl));clear ho5 hf5 HX hk0;go_wp2_with (at_builtin;refine z6m z7bf HX7.out 0 (.tmp 54) (.tmp 56) (m:=1) (news:=[.int .i64 kk,.int .i64 v0,.int .i64 v1,.int .i64 v2,.int .i64 v3,.int .i64 v4,.int .i64 v5,.int .i64 vc,.int .i64 vh,.slice B1 n1 d1,.slice B2 n2 d2]) rfl rfl (fun j u hu=>by have:=(HX7.out.ow.row (OO.length+1) (by rw [zqa,z0b];rfl)).cells rfl j u hu;exact this) (z6bd ⟨⟨kk,⟨v0,v1,v2,v3,v4,v5⟩,vc,vh,vx,vy⟩,B1,n1,d1,B2,n2,d2⟩) (by unfold maxLen;omega) (by omega) rfl rfl rfl rfl ?_;intro Ao2 co2 w8 how8;have HX8:=zh how8;clear how8;have r1:w8.cell? ⟨w5.heap.size,1,none⟩=some (.int .i64 v0):=(HX8.out.ow.row (OO.length+0) (by rw [zqa,z0b];rfl)).cellAt 1 (by decide);have r2:w8.cell? ⟨w5.heap.size,2,none⟩=some (.int .i64 v1):=(HX8.out.ow.row (OO.length+0) (by rw [zqa,z0b];rfl)).cellAt 2 (by decide);have r3:w8.cell? ⟨w5.heap.size,3,none⟩=some (.int .i64 v2):=(HX8.out.ow.row (OO.length+0) (by rw [zqa,z0b];rfl)).cellAt 3 (by decide);have r4:w8.cell? ⟨w5.heap.size,4,none⟩=some (.int .i64 v3):=(HX8.out.ow.row (OO.length+0) (by rw [zqa,z0b];rfl)).cellAt 4 (by decide);have r5:w8.cell? ⟨w5.heap.size,5,none⟩=some (.int .i64 v4):=(HX8.out.ow.row (OO.length+0) (by rw [zqa,z0b];rfl)).cellAt 5 (by decide);have r6:w8.cell? ⟨w5.heap.size,6,none⟩=some (.int .i64 v5):=(HX8.out.ow.row (OO.length+0) (by rw [zqa,z0b];rfl)).cellAt 6 (by decide);have r7:w8.cell? ⟨w5.heap.size,7,none⟩=some (.int .i64 vc):=(HX8.out.ow.row (OO.length+0) (by rw [zqa,z0b];rfl)).cellAt 7 (by decide))
        have HX9:=zh (HX8.out.arrO #[.int .i64 v0,.int .i64 v1,.int .i64 v2,.int .i64 v3,.int .i64 v4,.int .i64 v5,.int .i64 vc,.int .i64 0] 8 rfl (by omega) 40)
        have HLi:=zh (z0e HOL.out)
        have hli:=HLi.out;have HDel:=zh (z5bk (⟨HX9.out⟩:Oy _ _ _ _ _ _ _) (O.length+(i1+5)) (N:=n3) (gl:=la) (by rw [zqa,zqa,z1b _ _ hli];exact HOL.out) HLa.out.1 (by have:=HLa.out.2.1;omega) (fun z hz=>by have h1:=HLa.out.2.2.1 z hz;have h2:=HNl.out;omega) (dlP kk ⟨⟨v0,v1,v2,v3,v4,v5⟩,vc,0⟩ l) 52 (.pointer (some ⟨w5.heap.size,0,none⟩)) (.pointer (some ⟨w8.heap.size,0,none⟩)) (.pointer (some ⟨w.heap.size+1+1,0,none⟩)) (enters_of Tryz.func52 (by kernel_rfl) rfl) (fun W vs hO i hi=>z1bb hO ⟨⟨v0,v1,v2,v3,v4,v5⟩,vc,0⟩ (vi:=OO.length+0) (ni:=OO.length+2) (bi:=O.length+2) (k:=k) (by rw [zqf (by omega),zqa,zqa,z0b];rfl) (by rw [zqf (by omega),zqa,zqa,z0b];rfl) (by rw [zqf (by omega),zqa,zqa,z1b _ _ (z0e HOB.out)];exact HOB.out) (by rw [z1b _ _ (z0e HKl.out)];exact HKl.out) rfl HKd.out i hi))
        clear hli;clear HX7 HX8 HX9;go_wp2_with fail;refine HDel.out.mono ?_;rintro e w9 ⟨n',rfl,hn',hle,ho9⟩;have HX9:=zh ho9.ox;have HN9:Hid (n'≤nl∧(nx ⟨kk,⟨v0,v1,v2,v3,v4,v5⟩,vc,vh,vx,vy⟩ l la).length=n'):=⟨hle,hn'⟩
        clear ho9 hle hn' HDel;go_wp2_with fail;go_roundw
        case rel=>
         refine ⟨nx ⟨kk,⟨v0,v1,v2,v3,v4,v5⟩,vc,vh,vx,vy⟩ l la,Al,n',cl,V++[⟨⟨kk,⟨v0,v1,v2,v3,v4,v5⟩,vc,vh,vx,vy⟩,B1,n1,d1,B2,n2,d2⟩],Ao2,co2,inn.set i1 ⟨Al,n',cl,3,z0c (nx ⟨kk,⟨v0,v1,v2,v3,v4,v5⟩,vc,vh,vx,vy⟩ l la)⟩,?_,rfl,?_,?_,?_,?_,?_⟩
         ·rw [zqm];rfl
         ·refine ⟨HN9.out.2,?_,fun z hz=>HLa.out.2.2.1 z (z1br hz),?_⟩
          ·have h1:=HN9.out.1;have h2:=HLa.out.2.1;omega
          ·rw [zqm];exact HVl.out
         ·refine ⟨by rw [List.length_set];exact HIn.out.1,List.getElem?_set_self (z0e HIn.out.2.1),fun j hj=>?_⟩
          rw [zqf (by omega)]
          exact HIn.out.2.2 j hj
         ·have h1:=HVm.out;rw [HGo.out] at h1;unfold Hid;rw [List.map_append,zqa];exact h1
         ·have h1:=HRm.out;rw [HGo.out] at h1;exact h1
         ·unfold Hid;have h1:=HX9.out;rw [zqa,zqa (OO++_),zqa OO,z3bf _ _ HLi.out] at h1
          have h2:=h1.fewO.fewX (X:=[_])
          rw [← HOO.out,z0q] at h2;rw [z0bc,z0bn,zqm];exact h2
        case measure=>
         have h1:=HNx.out;have h2:=HN9.out.2;have h3:=HLa.out.1;simp [slN]
         omega
      ·have hd:decide ((j1:Int)<(nl:Int))=true:=zt (by omega)
       have hd2:decide (j1<nl)=true:=zt (by omega)
       have hjI:(j1:Int)<(nl:Int):=by omega
       have hn40j:=HLa.out.2.1;have hw35:IntKind.i64.wrap ((j1:Int)+1)=((j1+1:Nat):Int):=by rw [IntWalk.i64_in _ (by omega)];omega
       obtain ⟨z,hz⟩:∃ z,la[j1]?=some z:=⟨la[j1]'(by rw [HLa.out.1];exact hlt),zql _⟩
       have hzl:z<l.length:=HLa.out.2.2.1 z (List.mem_of_getElem? hz)
       have hzi:(z:Int)<(n3:Int):=by have:=HNl.out;omega
       obtain ⟨x,hx⟩:∃ x,l[z]?=some x:=⟨l[z]'hzl,zql _⟩
       have HZx:Hid (la[j1]?=some z∧l[z]?=some x∧j1<nl):=⟨hz,hx,hlt⟩
       have hR:=HX.out.ow.row (O.length+(i1+5)) HOL.out
       obtain ⟨gl,hgl,_,_⟩:=z0r hR (by omega)
       obtain rfl:=hgl
       have e0:=hR.cells (g:=gl) rfl j1 (.int .i64 (z:Int)) (by unfold z0c;rw [List.getElem?_map,hz];rfl)
       rw [addz] at e0;have d0:wr.cell? ⟨w.heap.size+1+1,0,none⟩=some (.slice A3 n3 c3):=(HX.out.ow.row (O.length+2) HOB.out).cellAt 0 (by decide)
       obtain ⟨a3,rfl,x0,x1,x2,x3,x4,x5,x6,x7⟩:=z3m (HX.out.ow.sl HKl.out).2.2.2 hx
       obtain ⟨⟨y0,y1,y2,y3,y4,y5⟩,y6,y7⟩:=x
       simp only at x0 x1 x2 x3 x4 x5 x6 x7
       have HX9:=zh (HX.out.arrO #[.int .i64 y0,.int .i64 y1,.int .i64 y2,.int .i64 y3,.int .i64 y4,.int .i64 y5,.int .i64 y6,.int .i64 y7] 8 rfl (by omega) 40)
       have HJl:j1≤40:=by omega
       clear hR hz hx hzl hlt hj1 HX hn40j;go_wp2_with (at_builtin;refine z6m z1ab HX9.out 1 (.tmp 39) (.tmp 44) (m:=1) (news:=[.int .i64 y0,.int .i64 y1,.int .i64 y2,.int .i64 y3,.int .i64 y4,.int .i64 y5,.int .i64 y6,.int .i64 y7]) rfl rfl (fun j u hu=>by have:=(HX9.out.ow.row (OO.length+0) (zk rfl)).cells rfl j u hu;exact this) (z1am ⟨⟨y0,y1,y2,y3,y4,y5⟩,y6,y7⟩) (by unfold maxLen;omega) (by omega) rfl rfl rfl rfl ?_;intro A2' c2' w2' how2;have HX2:=zh how2;clear how2)
       go_roundw
       case rel=>
        refine ⟨j1+1,A2',c2',by rw [HLa.out.1];exact HZx.out.2.2,rfl,rfl,?_⟩
        unfold Hid;rw [z1s HZx.out.1,z5aj,z6br HZx.out.2.1,z1aa];exact HX2.out.fewO
       case measure=>
        have:=HZx.out.2.2
        simp [intOf]
        omega
 ·have g1:(er == 0)=false:=z1r he
  have g2:(er != 0)=true:=by rw [bne,g1];rfl
  have HJ:Hid (z9u ⟨so,ch,ra,ba,ro,co⟩ p q l=([],[],er)):=by unfold Hid z9u;rw [if_neg (by rw [her];exact he),her]
  have HE:=zh H1.fewO;clear H1 her he;go_wp2_with fail;refine bodyPost_ret (v:=.tuple #[.slice none 0 0,.slice none 0 0,.int .i64 er]) (by simp [results,Tryz.results26,go_sem]) rfl ?_
  rw [HJ.out];refine ⟨none,0,0,none,0,0,[],rfl,rfl,rfl,rfl,?_⟩
  have:=(HE.out.old (A:=none) (n:=0) (c:=0) (vs:=[]) (fun hh=>absurd hh (Nat.lt_irrefl _)) rfl (by omega) (by omega)).old (A:=none) (n:=0) (c:=0) (vs:=[]) (fun hh=>absurd hh (Nat.lt_irrefl _)) rfl (by omega) (by omega)
  rw [zqa] at this;exact this
theorem z3bh {w0 w:World}{M:List (Nat×Value)}{L:List Ob}{O:List Rw}(h:Ow w0 w none M L O)(A:Option Addr)(n c B:Nat)(ts:List Int)(hn:ts.length=n)(hl:n≤140737488355328)(hB:B≤w0.heap.size)(hs:Sl w B A (z0t ts)):
  Calls Tryz.prog 10 #[.slice A n c] w fun e w'=>∃ g,e=.returned (.pointer (some ⟨g,0,none⟩))∧Dice w' g B∧Ow w0 w' (some g) M L O:=by
 refine (z8u A n c B ts w hn hl hs (zqq hB h.size)).mono ?_
 rintro e w' ⟨he,hd,hz,hb⟩;have h':=h.go hb
 refine ⟨_,he,hd,⟨⟨h'.st.below,fun x e=>by cases e;exact ⟨by omega,h.size⟩,fun i b v hi=>?_,h'.st.one,fun o ho=>?_⟩,h'.own,fun i r hi b hb'=>?_,h'.two⟩⟩
 ·obtain ⟨h1,h2,h3,h4,_⟩:=h'.st.box i b v hi
  exact ⟨h1,h2,h3,h4,fun e=>by cases e;have:=(h.st.box i _ v hi).1;omega⟩
 ·obtain ⟨h1,h2,h3,B,hB,hs2,hne⟩:=h.st.held o ho
  refine ⟨h1,h2,h3,B,zqq hB hb.size,hs2.below (hb.mono hB),fun ad e h0=>⟨fun e2=>?_,(hne ad e h0).2⟩⟩
  obtain ⟨ad',e',hbk,_⟩:=hs2 (by omega)
  rw [e] at e';obtain rfl:=zqk e'
  have:=zqk e2
  omega
 ·obtain ⟨_,a2,a3⟩:=h'.ap i r hi b hb'
  exact ⟨fun e=>by have:=(h.lt hi hb').1;have:=zqk e;omega,a2,a3⟩
namespace Cl
set_option maxHeartbeats 8000000
theorem z2ae (s:Pl)(p q:List Int)(l:List Sn):∀ (f:Nat) (la:List Nat),(lnV s p q l f la).2.Sublist la∧(la.length≤f→(jud s p q (pk l (lnV s p q l f la).2)).k=0)
 | 0,la=>⟨List.Sublist.refl _,fun h=>by
   obtain rfl:la=[]:=List.length_eq_zero_iff.1 (Nat.le_zero.1 h)
   exact z6ar s p q⟩
 | f+1,la=>by
  by_cases e:(jud s p q (pk l la)).k=0
  ·have:lnV s p q l (f+1) la=([],la):=by
    show (if (jud s p q (pk l la)).k=0 then _ else _)=_
    rw [if_pos e]
   rw [this];exact ⟨List.Sublist.refl _,fun _=>e⟩
  ·obtain ⟨h1,h2⟩:=z2ae s p q l f (nx (jud s p q (pk l la)) l la)
   have h3:=z5aq e
   have:lnV s p q l (f+1) la=(jud s p q (pk l la) :: (lnV s p q l f (nx (jud s p q (pk l la)) l la)).1,(lnV s p q l f (nx (jud s p q (pk l la)) l la)).2):=by
    show (if (jud s p q (pk l la)).k=0 then _ else _)=_
    rw [if_neg e]
   rw [this];exact ⟨h1.trans List.filter_sublist,fun h=>h2 (by omega)⟩
theorem z0be (s:Pl)(p q:List Int)(l:List Sn)(la:List Nat):(lnF s p q l la).2.Sublist la:=(z2ae s p q l _ la).1
theorem z6a {k:Int}{l:List Sn}{p:Sp×List Nat}{i:Nat}(h:p∈z1t k l l.length):i∈p.2↔∃ x,l[i]?=some x∧z2g k x=p.1:=by
 rw [z3x k l _ p (zqj _) h,List.mem_filter,List.mem_range]
 constructor
 ·rintro ⟨_,h2⟩;have h3:=of_decide_eq_true h2
  cases hx:l[i]? with
  | none=>rw [hx] at h3;cases h3
  | some x=>
   rw [hx] at h3;exact ⟨x,rfl,zqk h3⟩
 ·rintro ⟨x,hx,e⟩;refine ⟨z0e hx,zt ?_⟩
  rw [hx];exact congrArg some e
def lns (l:List Sn):List (List Nat):=(z1t 6 l l.length).map (·.2)
theorem z0bl {k:Int}{l:List Sn}{p p':Sp×List Nat}(h:p∈z1t k l l.length)(h':p'∈z1t k l l.length)(e:p.1=p'.1):p=p':=by
 have e2:p.2=p'.2:=by rw [z3x k l _ p (zqj _) h,z3x k l _ p' (zqj _) h',e]
 exact Prod.ext e e2
theorem z6aj {s:Pl}{p q:List Int}{l:List Sn}{i:Nat}:i∈lsR s p q l (lns l)↔∃ g∈z1t 6 l l.length,i∈(lnF s p q l g.2).2:=by
 unfold lsR lns;rw [List.mem_flatMap];constructor
 ·rintro ⟨a,ha,h⟩;obtain ⟨g,hg,rfl⟩:=List.mem_map.1 ha
  exact ⟨g,hg,h⟩
 ·rintro ⟨g,hg,h⟩;exact ⟨g.2,List.mem_map.2 ⟨g,hg,rfl⟩,h⟩
def rstN (s:Pl)(p q:List Int)(l:List Sn):List Nat:=(List.range l.length).filter fun i=>decide (i∈lsR s p q l (lns l))
end Cl
namespace Cl
set_option maxHeartbeats 8000000
def mrk (v:Vd)(l:List Sn)(g:List Nat)(b:Nat→Bool)(z:Nat):Bool:=if z∈g then b z || dlP v.k ⟨v.p,v.cp,0⟩ l z else b z
theorem z6ae {v:Vd}{l:List Sn}{g:List Nat}{b:Nat→Bool}{z:Nat}(h:z ∉ g):mrk v l g b z=b z:=by
 unfold mrk;rw [if_neg h]
theorem z2ad {l:List Sn}{j k:Nat}{g g':List Nat}{z:Nat}(hj:(lns l)[j]?=some g)(hk:(lns l)[k]?=some g')(h:z∈g)(h':z∈g'):j=k:=by
 unfold lns at hj hk;rw [List.getElem?_map] at hj hk;cases e1:(z1t 6 l l.length)[j]? with
 | none=>rw [e1] at hj;cases hj
 | some a=>
  cases e2:(z1t 6 l l.length)[k]? with
  | none=>rw [e2] at hk;cases hk
  | some c=>
   rw [e1] at hj;rw [e2] at hk;obtain rfl:=zqk hj
   obtain rfl:=zqk hk
   obtain ⟨x,hx,h1⟩:=(z6a (List.mem_of_getElem? e1)).1 h
   obtain ⟨y,hy,h2⟩:=(z6a (List.mem_of_getElem? e2)).1 h'
   rw [hx] at hy;obtain rfl:=zqk hy
   have hn:=z2d 6 l l.length
   refine (List.getElem?_inj (l:=(z1t 6 l l.length).map (·.1)) (by rw [List.length_map];exact z0e e1) hn).1 ?_
   rw [List.getElem?_map,List.getElem?_map,e1,e2];exact congrArg some (h1.symm.trans h2)
structure Ex (s:Pl)(p q:List Int)(l:List Sn)(i j:Nat)(b:Nat→Bool):Prop where
 old:∀ m,m<i→∀ g,(lns l)[m]?=some g→∀ z∈g,b z=!decide (z∈(lnF s p q l g).2)
 new:∀ m,j≤m→∀ g,(lns l)[m]?=some g→∀ z∈g,b z=false
theorem Ex.start (s:Pl)(p q:List Int)(l:List Sn):Ex s p q l 0 0 fun _=>false:=⟨fun m h=>absurd h (Nat.not_lt_zero _),fun _ _ _ _ _ _=>rfl⟩
theorem Ex.into {s:Pl}{p q:List Int}{l:List Sn}{i:Nat}{b:Nat→Bool}(h:Ex s p q l i i b):Ex s p q l i (i+1) b:=⟨h.old,fun m hm=>h.new m (by omega)⟩
theorem Ex.first {s:Pl}{p q:List Int}{l:List Sn}{i:Nat}{b:Nat→Bool}{g:List Nat}(h:Ex s p q l i i b)(hg:(lns l)[i]?=some g):(g.filter fun z=>!b z)=g:=
 List.filter_eq_self.2 fun z hz=>by rw [h.new i (zqj _) g hg z hz];rfl
theorem Ex.mark {s:Pl}{p q:List Int}{l:List Sn}{i:Nat}{b:Nat→Bool}{g:List Nat}(h:Ex s p q l i (i+1) b)(hg:(lns l)[i]?=some g)(v:Vd):Ex s p q l i (i+1) (mrk v l g b):=
 ⟨fun m hm g' hg' z hz=>by
  rw [z6ae fun hz'=>by have:=z2ad hg' hg hz hz';omega]
  exact h.old m hm g' hg' z hz,fun m hm g' hg' z hz=>by
  rw [z6ae fun hz'=>by have:=z2ad hg' hg hz hz';omega]
  exact h.new m hm g' hg' z hz⟩
theorem Ex.next {s:Pl}{p q:List Int}{l:List Sn}{i:Nat}{b:Nat→Bool}{g:List Nat}(h:Ex s p q l i (i+1) b)(hg:(lns l)[i]?=some g)(he:(g.filter fun z=>!b z)=(lnF s p q l g).2):Ex s p q l (i+1) (i+1) b:=
 ⟨fun m hm g' hg' z hz=>by
  rcases zqi m i with h1 | h1
  ·exact h.old m h1 g' hg' z hz
  ·obtain rfl:m=i:=by omega
   rw [hg] at hg';obtain rfl:=zqk hg'
   rw [← he];cases hb:b z with
   | true=>
    rw [zn fun h2=>?_]
    ·rfl
    ·have:=(List.mem_filter.1 h2).2
     rw [hb] at this;cases this
   | false=>
    rw [zt (List.mem_filter.2 ⟨hz,by rw [hb];rfl⟩)]
    rfl,h.new⟩
theorem Ex.rest {s:Pl}{p q:List Int}{l:List Sn}{b:Nat→Bool}{j:Nat}(h:Ex s p q l (lns l).length j b):((List.range l.length).filter fun z=>!b z)=rstN s p q l:=by
 unfold rstN;refine List.filter_congr fun z hz=>?_
 rw [List.mem_range] at hz;have hx:l[z]?=some (l[z]'hz):=zql _
 obtain ⟨c,hc,e⟩:=List.mem_map.1 (z5a 6 l l.length z _ hz hx)
 have hzc:z∈c.2:=(z6a hc).2 ⟨_,hx,e.symm⟩
 obtain ⟨m,hm⟩:=List.getElem?_of_mem hc
 have hm':(lns l)[m]?=some c.2:=by unfold lns;rw [List.getElem?_map,hm];rfl
 rw [h.old m (z0e hm') c.2 hm' z hzc,Bool.not_not]
 refine decide_eq_decide.2 ⟨fun h1=>z6aj.2 ⟨c,hc,h1⟩,fun h1=>?_⟩
 obtain ⟨c',hc',h2⟩:=z6aj.1 h1
 obtain ⟨y,hy,e2⟩:=(z6a hc').1 ((z0be s p q l c'.2).subset h2)
 rw [hx] at hy;obtain rfl:=zqk hy
 rw [z0bl hc hc' (e.trans e2)]
 exact h2
end Cl
namespace Cl
set_option maxHeartbeats 8000000
theorem z2ag (gs:List (Sp×List Nat)):∀ i,∀ p∈gs.take i,p.2.length≤(z3r gs i).length
 | 0,p,h=>by simp at h
 | i+1,p,h=>by
  have ih:=z2ag gs i
  have e:z3r gs (i+1)=(match gs[i]? with | some p=>if (z3r gs i).length<p.2.length then p.2 else z3r gs i | none=>z3r gs i):=rfl
  rw [e];cases hg:gs[i]? with
  | none=>
   have h2:gs.take (i+1)=gs.take i:=by rw [List.take_add_one,hg];exact List.append_nil _
   rw [h2] at h;exact ih p h
  | some z=>
   rw [z1s hg] at h;simp only
   rcases List.mem_append.1 h with h1 | h1
   ·have:=ih p h1
    split
    ·omega
    ·exact this
   ·rw [List.mem_singleton] at h1;subst h1
    split
    ·exact zqj _
    ·omega
theorem z7bi (k:Int)(l:List Sn)(q:Sp):(l.filter fun x=>decide (z2g k x=q)).length≤(z3c k l).length:=by
 rcases zqh (l.filter fun x=>decide (z2g k x=q)).length with h | h
 ·omega
 ·obtain ⟨x,hx⟩:=List.exists_mem_of_length_pos h
  obtain ⟨hx1,hx2⟩:=List.mem_filter.1 hx
  obtain ⟨j,hj⟩:=List.getElem?_of_mem hx1
  obtain ⟨p,hp,e⟩:=List.mem_map.1 (z5a k l l.length j x (z0e hj) hj)
  have hq:p.1=q:=e.trans (of_decide_eq_true hx2)
  have h1:=z6b k l l.length p (zqj _) hp
  rw [List.take_length,hq] at h1;rw [← h1];exact z2ag (z1t k l l.length) (z1t k l l.length).length p (by rw [List.take_length];exact hp)
theorem z5w {k:Int}{l m:List Sn}(h:l.Perm m):(z3c k l).length≤(z3c k m).length:=by
 rcases zqh (z3c k l).length with h0 | h0
 ·omega
 ·rw [z0bh h0,(h.filter _).length_eq]
  exact z7bi k m _
theorem z6aq {k:Int}{l m:List Sn}(h:l.Perm m):(z3c k l).length=(z3c k m).length:=Nat.le_antisymm (z5w h) (z5w h.symm)
def Vq (a b:Vd):Prop:=a.k=b.k∧a.h=b.h∧a.x=b.x∧a.y=b.y
theorem z6r {s:Pl}{p q:List Int}{l m:List Sn}(h:l.Perm m):∀ f i:Nat,Vq (z4h s p q l i f) (z4h s p q m i f)
 | 0,i=>⟨rfl,rfl,rfl,rfl⟩
 | f+1,i=>by
  have hl:=z6aq (k:=(i:Int)) h
  have hc:chc s l (i:Int)=chc s m (i:Int):=by unfold chc;rw [hl,h.length_eq]
  have e1:z4h s p q l i (f+1)=(match jst s p q l (i:Int) with | some v=>v | none=>z4h s p q l (i+1) f):=rfl
  have e2:z4h s p q m i (f+1)=(match jst s p q m (i:Int) with | some v=>v | none=>z4h s p q m (i+1) f):=rfl
  rw [e1,e2];unfold jst;rw [hl,hc];by_cases h1:(z3c (i:Int) m).length<2
  ·rw [if_pos h1,if_pos h1];exact z6r h f (i+1)
  ·rw [if_neg h1,if_neg h1];by_cases h2:cE (chc s m (i:Int)) p q=0∧cV (chc s m (i:Int)) p q≤0
   ·rw [if_pos h2,if_pos h2];exact ⟨rfl,rfl,rfl,rfl⟩
   ·rw [if_neg h2,if_neg h2];exact z6r h f (i+1)
theorem z0bk {s:Pl}{p q:List Int}{l m:List Sn}(h:l.Perm m):Vq (jud s p q l) (jud s p q m):=z6r h 5 1
def chp (c:Int)(x:Sn):Sn:=⟨x.p,c,x.ti⟩
def z8j (c:Int)(p:Sp×List Nat):Sp×List Nat:=((p.1.1,c),p.2)
theorem z2bm (c b:Int)(r:Pl)(i:Nat):∀ ks:List (Sp×List Nat),(∀ p∈ks,p.1.2=b)→ad (ks.map (z8j c)) (r,c) i=(ad ks (r,b) i).map (z8j c)
 | [],_=>rfl
 | p :: ks,h=>by
  have hp:=h p List.mem_cons_self
  by_cases e:p.1=(r,b)
  ·have h1:ad (p :: ks) (r,b) i=((r,b),p.2++[i]) :: ks:=by show (if p.1=_ then _ else _)=_;rw [if_pos e]
   have h2:ad ((p :: ks).map (z8j c)) (r,c) i=((r,c),p.2++[i]) :: ks.map (z8j c):=by
    show (if (z8j c p).1=(r,c) then _ else _)=_
    rw [if_pos (by unfold z8j;rw [e])]
    rfl
   rw [h1,h2];rfl
  ·have h1:ad (p :: ks) (r,b) i=p :: ad ks (r,b) i:=by show (if p.1=_ then _ else _)=_;rw [if_neg e]
   have h2:ad ((p :: ks).map (z8j c)) (r,c) i=z8j c p :: ad (ks.map (z8j c)) (r,c) i:=by
    show (if (z8j c p).1=(r,c) then _ else _)=_
    rw [if_neg (show ¬ (z8j c p).1=(r,c) from fun e2=>by
     have e4:(z8j c p).1.1=r:=congrArg (fun z:Pl×Int=>z.1) e2
     exact e (Prod.ext e4 hp))]
   rw [h1,h2,z2bm c b r i ks fun p hp=>h p (List.mem_cons_of_mem _ hp)]
   rfl
theorem z6s {k b:Int}{l:List Sn}(h:∀ x∈l,x.cp=b):∀ i,∀ p∈z1t k l i,p.1.2=b
 | 0,p,hp=>by cases hp
 | i+1,p,hp=>by
  cases hx:l[i]? with
  | none=>
   have e:z1t k l (i+1)=z1t k l i:=by show (match l[i]? with | some x=>_ | none=>_)=_;rw [hx]
   rw [e] at hp;exact z6s h i p hp
  | some x=>
   rw [z1i hx] at hp;have hb:=h x (List.mem_of_getElem? hx)
   rcases z8l _ _ _ _ (z2d k l i) hp with ⟨h1,_⟩ | ⟨h1,_⟩ | ⟨h1,_⟩
   ·exact z6s h i p h1
   ·rw [h1];exact hb
   ·rw [h1];exact hb
theorem z2am {k b c:Int}{l:List Sn}(h:∀ x∈l,x.cp=b):∀ i,z1t k (l.map (chp c)) i=(z1t k l i).map (z8j c)
 | 0=>rfl
 | i+1=>by
  have ih:=z2am (c:=c) (k:=k) h i
  cases hx:l[i]? with
  | none=>
   have e:z1t k l (i+1)=z1t k l i:=by show (match l[i]? with | some x=>_ | none=>_)=_;rw [hx]
   have e2:z1t k (l.map (chp c)) (i+1)=z1t k (l.map (chp c)) i:=by show (match (l.map (chp c))[i]? with | some x=>_ | none=>_)=_;rw [List.getElem?_map,hx];rfl
   rw [e,e2,ih]
  | some x=>
   have hx2:(l.map (chp c))[i]?=some (chp c x):=by rw [List.getElem?_map,hx];rfl
   rw [z1i hx,z1i hx2,ih];have hb:=h x (List.mem_of_getElem? hx)
   have e1:z2g k x=(wh k x.p,b):=by unfold z2g;rw [hb]
   rw [e1];exact z2bm c b (wh k x.p) i _ (z6s h i)
theorem z2ah (c:Int)(gs:List (Sp×List Nat)):∀ i,z3r (gs.map (z8j c)) i=z3r gs i
 | 0=>rfl
 | i+1=>by
  have ih:=z2ah c gs i
  have e:z3r gs (i+1)=(match gs[i]? with | some p=>if (z3r gs i).length<p.2.length then p.2 else z3r gs i | none=>z3r gs i):=rfl
  have e2:z3r (gs.map (z8j c)) (i+1)=(match (gs.map (z8j c))[i]? with | some p=>if (z3r (gs.map (z8j c)) i).length<p.2.length then p.2 else z3r (gs.map (z8j c)) i | none=>z3r (gs.map (z8j c)) i):=rfl
  rw [e,e2,ih,List.getElem?_map];cases gs[i]? with
  | none=>rfl
  | some p=>rfl
theorem z0bi {k b c:Int}{l:List Sn}(h:∀ x∈l,x.cp=b):z3c k (l.map (chp c))=z3c k l:=by
 unfold z3c;rw [List.length_map,z2am h,z2ah,List.length_map]
def vch (c:Int)(v:Vd):Vd:=if v.k=0 then v else ⟨v.k,v.p,c,v.h,v.x,v.y⟩
theorem z2ak {s:Pl}{p q:List Int}{l:List Sn}{b c:Int}(h:∀ x∈l,x.cp=b):∀ f i:Nat,1≤i→z4h s p q (l.map (chp c)) i f=vch c (z4h s p q l i f)
 | 0,i,_=>rfl
 | f+1,i,h1=>by
  have hl:=z0bi (k:=(i:Int)) (c:=c) h
  have hc:chc s (l.map (chp c)) (i:Int)=chc s l (i:Int):=by unfold chc;rw [hl,List.length_map]
  have e1:z4h s p q l i (f+1)=(match jst s p q l (i:Int) with | some v=>v | none=>z4h s p q l (i+1) f):=rfl
  have e2:z4h s p q (l.map (chp c)) i (f+1)=(match jst s p q (l.map (chp c)) (i:Int) with | some v=>v | none=>z4h s p q (l.map (chp c)) (i+1) f):=rfl
  have ih:=z2ak (s:=s) (p:=p) (q:=q) (c:=c) h f (i+1) (by omega)
  rw [e1,e2];unfold jst;rw [hl,hc];by_cases h2:(z3c (i:Int) l).length<2
  ·rw [if_pos h2,if_pos h2];exact ih
  ·rw [if_neg h2,if_neg h2];by_cases h3:cE (chc s l (i:Int)) p q=0∧cV (chc s l (i:Int)) p q≤0
   ·rw [if_pos h3,if_pos h3];obtain ⟨hh,tl,hg⟩:∃ hh tl,z3c (i:Int) l=hh :: tl:=by
     cases e:z3c (i:Int) l with
     | nil=>rw [e] at h2;simp at h2
     | cons a b=>exact ⟨a,b,rfl⟩
    obtain ⟨x,hx,hf⟩:=z4z hg
    have hf2:fst (l.map (chp c)) (z3c (i:Int) l)=chp c x:=by
     unfold fst;rw [hg]
     show ((l.map (chp c))[hh]?).getD _=_
     rw [List.getElem?_map,hx];rfl
    rw [hf,hf2];unfold vch;rw [if_neg (show ¬ ((i:Int)=0) by omega)]
    rfl
   ·rw [if_neg h3,if_neg h3];exact ih
theorem z5bc {s:Pl}{p q:List Int}{l:List Sn}{b c:Int}(h:∀ x∈l,x.cp=b):jud s p q (l.map (chp c))=vch c (jud s p q l):=z2ak h 5 1 (by omega)
theorem z6al {s:Pl}{p q:List Int}{l m:List Sn}{b c:Int}{f:Nat→Nat}(h:∀ x∈l,x.cp=b)(hm:∀ i,m[f i]?=(l[i]?).map (chp c)):∀ (d:Nat) (la:List Nat),
  (lnV s p q m d (la.map f)).1.length=(lnV s p q l d la).1.length∧(lnV s p q m d (la.map f)).2=(lnV s p q l d la).2.map f
 | 0,la=>⟨rfl,rfl⟩
 | d+1,la=>by
  have hp:pk m (la.map f)=(pk l la).map (chp c):=by
   unfold pk;rw [List.filterMap_map,List.map_filterMap];congr 1
   funext i
   exact hm i
  have hb:∀ x∈pk l la,x.cp=b:=fun x hx=>by
   obtain ⟨i,_,hi⟩:=z1bn.1 hx
   exact h x (List.mem_of_getElem? hi)
  have hj:jud s p q (pk m (la.map f))=vch c (jud s p q (pk l la)):=by rw [hp];exact z5bc hb
  by_cases e:(jud s p q (pk l la)).k=0
  ·have e2:(jud s p q (pk m (la.map f))).k=0:=by rw [hj];unfold vch;rw [if_pos e];exact e
   have h1:lnV s p q l (d+1) la=([],la):=by
    show (if (jud s p q (pk l la)).k=0 then _ else _)=_
    rw [if_pos e]
   have h2:lnV s p q m (d+1) (la.map f)=([],la.map f):=by
    show (if (jud s p q (pk m (la.map f))).k=0 then _ else _)=_
    rw [if_pos e2]
   rw [h1,h2];exact ⟨rfl,rfl⟩
  ·have hv:vch c (jud s p q (pk l la))=⟨(jud s p q (pk l la)).k,(jud s p q (pk l la)).p,c,(jud s p q (pk l la)).h,(jud s p q (pk l la)).x,(jud s p q (pk l la)).y⟩:=by unfold vch;rw [if_neg e]
   have e2:(jud s p q (pk m (la.map f))).k≠0:=by rw [hj,hv];exact e
   obtain ⟨_,x,hx,hs,_⟩:=z6q e
   have hcp:(jud s p q (pk l la)).cp=b:=(congrArg Prod.snd hs).trans (hb x hx)
   have hn:nx (jud s p q (pk m (la.map f))) m (la.map f)=(nx (jud s p q (pk l la)) l la).map f:=by
    unfold nx;rw [List.filter_map];congr 1
    refine List.filter_congr fun i hi=>?_
    show (!dlP _ _ m (f i))=!dlP _ _ l i
    congr 1
    rw [hj,hv];unfold dlP;rw [hm i];cases hx':l[i]? with
    | none=>rfl
    | some y=>
     have hy:=h y (List.mem_of_getElem? hx')
     show decide (z2g _ _=z2g _ (chp c y))=decide (z2g _ _=z2g _ y)
     unfold z2g chp;rw [hcp,hy];exact decide_eq_decide.2 ⟨fun e3=>by
      have e4:=congrArg (fun z:Pl×Int=>z.1) e3
      exact Prod.ext e4 rfl,fun e3=>by
      have e4:=congrArg (fun z:Pl×Int=>z.1) e3
      exact Prod.ext e4 rfl⟩
   obtain ⟨i1,i2⟩:=z6al (s:=s) (p:=p) (q:=q) h hm d (nx (jud s p q (pk l la)) l la)
   have h1:lnV s p q l (d+1) la=(jud s p q (pk l la) :: (lnV s p q l d (nx (jud s p q (pk l la)) l la)).1,(lnV s p q l d (nx (jud s p q (pk l la)) l la)).2):=by
    show (if (jud s p q (pk l la)).k=0 then _ else _)=_
    rw [if_neg e]
   have h2:lnV s p q m (d+1) (la.map f)=(jud s p q (pk m (la.map f)) :: (lnV s p q m d (nx (jud s p q (pk m (la.map f))) m (la.map f))).1,(lnV s p q m d (nx (jud s p q (pk m (la.map f))) m (la.map f))).2):=by
    show (if (jud s p q (pk m (la.map f))).k=0 then _ else _)=_
    rw [if_neg e2]
   rw [h1,h2,hn];exact ⟨by show (_ :: _).length=(_ :: _).length;rw [List.length_cons,List.length_cons,i1],i2⟩
theorem z6an {s:Pl}{p q:List Int}{l m:List Sn}{b c:Int}{f:Nat→Nat}(h:∀ x∈l,x.cp=b)(hm:∀ i,m[f i]?=(l[i]?).map (chp c))(la:List Nat):
  (lnF s p q m (la.map f)).1.length=(lnF s p q l la).1.length∧(lnF s p q m (la.map f)).2.length=(lnF s p q l la).2.length:=by
 have h1:=z6al (s:=s) (p:=p) (q:=q) h hm la.length la
 unfold lnF;rw [List.length_map];exact ⟨h1.1,by rw [h1.2,List.length_map]⟩
def z4t (c:Int)(l:List Sn):List Sn:=l.flatMap fun x=>[x,chp c x]
theorem z8k (c:Int):∀ l:List Sn,(z4t c l).length=2*l.length
 | []=>rfl
 | x :: l=>by
  have ih:=z8k c l
  unfold z4t at *
  rw [List.flatMap_cons,zqm,ih]
  show 2+2*l.length=2*(l.length+1)
  omega
theorem z5e (c:Int):∀ (l:List Sn) (i:Nat),(z4t c l)[2*i]?=l[i]?∧(z4t c l)[2*i+1]?=(l[i]?).map (chp c)
 | [],i=>⟨by simp [z4t],by simp [z4t]⟩
 | x :: l,0=>⟨rfl,rfl⟩
 | x :: l,i+1=>by
  obtain ⟨h1,h2⟩:=z5e c l i
  have e:z4t c (x :: l)=x :: chp c x :: z4t c l:=rfl
  rw [e];refine ⟨?_,?_⟩
  ·show (x :: chp c x :: z4t c l)[2*i+2]?=_
   rw [List.getElem?_cons_succ,List.getElem?_cons_succ,h1,List.getElem?_cons_succ]
  ·show (x :: chp c x :: z4t c l)[2*i+1+2]?=_
   rw [List.getElem?_cons_succ,List.getElem?_cons_succ,h2,List.getElem?_cons_succ]
theorem z9o {k:Int}{l:List Sn}{r:Sp}(h:∀ x∈l,z2g k x=r):∀ i,i+1≤l.length→z1t k l (i+1)=[(r,List.range (i+1))]
 | 0,hi=>by
  have hx:l[0]?=some (l[0]'(by omega)):=zql _
  rw [z1i hx,h _ (List.mem_of_getElem? hx)]
  rfl
 | i+1,hi=>by
  have hx:l[i+1]?=some (l[i+1]'(by omega)):=zql _
  rw [z1i hx,h _ (List.mem_of_getElem? hx),z9o h i (by omega)]
  show (if r=r then _ else _)=_
  rw [if_pos rfl]
  show [(r,List.range (i+1)++[i+1])]=_
  rw [← List.range_succ]
theorem z9p {k c:Int}{l:List Sn}{r:Sp}(h:∀ x∈l,z2g k x=r)(hne:(r.1,c)≠r):∀ i,i+1≤l.length→
  z1t k (z4t c l) (2*(i+1))=[(r,(List.range (i+1)).map (2*·)),((r.1,c),(List.range (i+1)).map (2*·+1))]
 | 0,hi=>by
  have hx:l[0]?=some (l[0]'(by omega)):=zql _
  have h1:=h _ (List.mem_of_getElem? hx)
  obtain ⟨g1,g2⟩:=z5e c l 0
  rw [hx] at g1 g2;have e3:=congrArg (fun z:Pl×Int=>z.1) h1
  have e2:z2g k (chp c (l[0]'(by omega)))=(r.1,c):=Prod.ext e3 rfl
  show z1t k (z4t c l) (1+1)=_
  rw [z1i g2,z1i g1,h1,e2]
  show (if r=(r.1,c) then _ else _)=_
  rw [if_neg fun e=>hne e.symm]
  rfl
 | i+1,hi=>by
  have hx:l[i+1]?=some (l[i+1]'(by omega)):=zql _
  have h1:=h _ (List.mem_of_getElem? hx)
  obtain ⟨g1,g2⟩:=z5e c l (i+1)
  rw [hx] at g1 g2;have e3:=congrArg (fun z:Pl×Int=>z.1) h1
  have e2:z2g k (chp c (l[i+1]'(by omega)))=(r.1,c):=Prod.ext e3 rfl
  show z1t k (z4t c l) (2*(i+1)+1+1)=_
  rw [z1i g2,z1i g1,h1,e2,z9p h hne i (by omega)]
  have a1:ad [(r,(List.range (i+1)).map (2*·)),((r.1,c),(List.range (i+1)).map (2*·+1))] r (2*(i+1))=[(r,(List.range (i+1)).map (2*·)++[2*(i+1)]),((r.1,c),(List.range (i+1)).map (2*·+1))]:=by
   show (if r=r then _ else _)=_
   rw [if_pos rfl]
  rw [a1];have a2:ad [(r,(List.range (i+1)).map (2*·)++[2*(i+1)]),((r.1,c),(List.range (i+1)).map (2*·+1))] (r.1,c) (2*(i+1)+1)=[(r,(List.range (i+1)).map (2*·)++[2*(i+1)]),((r.1,c),(List.range (i+1)).map (2*·+1)++[2*(i+1)+1])]:=by
   show (if r=(r.1,c) then _ else _ :: (if (r.1,c)=(r.1,c) then _ else _))=_
   rw [if_neg fun e=>hne e.symm,if_pos rfl]
  rw [a2,List.range_succ (n:=i+1),List.map_append,List.map_append]
  rfl
theorem z7bl {c:Int}{x:Sn}(h:x.cp=c):chp c x=x:=by unfold chp;rw [← h]
theorem z0bv {s:Pl}{p q:List Int}{l:List Sn}{b c:Int}(h:∀ x∈l,x.cp=b)(hbc:c≠b){r:Sp}(hr:∀ x∈l,z2g 6 x=r):
  (lsV s p q (z4t c l) (lns (z4t c l))).length=2*(lsV s p q l (lns l)).length∧(lsR s p q (z4t c l) (lns (z4t c l))).length=2*(lsR s p q l (lns l)).length:=by
 rcases zqh l.length with h0 | h0
 ·obtain rfl:=List.length_eq_zero_iff.1 h0
  exact ⟨rfl,rfl⟩
 ·obtain ⟨n,hn⟩:∃ n,l.length=n+1:=⟨l.length - 1,by omega⟩
  have hx:l[0]?=some (l[0]'h0):=zql _
  have hr2:r.2=b:=by rw [← hr _ (List.mem_of_getElem? hx)];exact h _ (List.mem_of_getElem? hx)
  have e1:lns l=[List.range (n+1)]:=by unfold lns;rw [hn,z9o hr n (by omega)];rfl
  have e2:lns (z4t c l)=[(List.range (n+1)).map (2*·),(List.range (n+1)).map (2*·+1)]:=by
   unfold lns;rw [z8k,hn,z9p hr (fun e=>hbc (by rw [← hr2,← e])) n (by omega)]
   rfl
  have f1:=z6an (s:=s) (p:=p) (q:=q) (m:=z4t c l) (c:=b) (f:=(2*·)) h (fun i=>by
   rw [(z5e c l i).1]
   cases hi:l[i]? with
   | none=>rfl
   | some x=>rw [Option.map_some,z7bl (h x (List.mem_of_getElem? hi))]) (List.range (n+1))
  have f2:=z6an (s:=s) (p:=p) (q:=q) (m:=z4t c l) (c:=c) (f:=(2*·+1)) h (fun i=>(z5e c l i).2) (List.range (n+1))
  rw [e1,e2];unfold lsV lsR;simp only [List.flatMap_cons,List.flatMap_nil,List.append_nil,zqm];omega
end Cl
end Go.Proofs.YtpmofjomadibmaaGreatDoor
