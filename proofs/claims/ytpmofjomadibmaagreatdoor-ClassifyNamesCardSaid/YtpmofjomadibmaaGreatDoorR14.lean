/- Xp Xg Xh Xi NPar -/
import Derived.Test.YtpmofjomadibmaaGreatDoorR06
import Derived.Test.YtpmofjomadibmaaGreatDoorR13
namespace Go.Proofs.YtpmofjomadibmaaGreatDoor
set_option maxHeartbeats 4000000
open Go.RowKit Go.Sort
open Go.ChangeMaps (setBlock heap_setBlock_same heap_setBlock_other)
set_option linter.unusedVariables false
set_option maxRecDepth 100000
open Cl
namespace Cl
set_option maxHeartbeats 4000000
def chk (s:Pl)(p q:List Int)(l:List Sn):Int:=
 if decide (shV s) && rv p q && z6g s l then (if decide (40<l.length) || decide (20<p.length) || decide (20<q.length) then 3 else 0) else 1
theorem z7bq {s:Pl}{p q:List Int}{l:List Sn}(h:decide (shV s)=false):chk s p q l=1:=by unfold chk;rw [h];rfl
theorem z7br {s:Pl}{p q:List Int}{l:List Sn}(h:rv p q=false):chk s p q l=1:=by unfold chk;rw [h,Bool.and_false];rfl
theorem z7bs {s:Pl}{p q:List Int}{l:List Sn}(h:z6g s l=false):chk s p q l=1:=by unfold chk;rw [h,Bool.and_false];rfl
theorem z7ao {s:Pl}{p q:List Int}{l:List Sn}(h:decide (shV s)=true)(h2:rv p q=true)(h3:z6g s l=true):chk s p q l=if decide (40<l.length) || decide (20<p.length) || decide (20<q.length) then 3 else 0:=by unfold chk;rw [h,h2,h3];rfl
theorem CellsPl.of {w:World}{b:Nat}{s:Pl}{w0:World}{g:Option Nat}{M:List (Nat×Value)}{L:List Ob}{O:List Rw}(h:Ow w0 w g M L O)(i:Nat){T:TypeId}(hi:O[i]?=some ⟨some ⟨b,0,none⟩,6,6,T,s.vs.toList⟩):CellsPl w b s:=
 ⟨(h.row i hi).cellAt 0 (by decide),(h.row i hi).cellAt 1 (by decide),(h.row i hi).cellAt 2 (by decide),(h.row i hi).cellAt 3 (by decide),(h.row i hi).cellAt 4 (by decide),(h.row i hi).cellAt 5 (by decide)⟩
end Cl
theorem z1ah {n:Nat}{k:Nat}:decide ((k:Int)<(n:Int))=decide (k<n):=by rw [decide_eq_decide];omega
theorem z6bb {w0 w:World}{g:Option Nat}{M:List (Nat×Value)}{L:List Ob}{O:List Rw}{A A2 A3:Option Addr}{n c m c2 n3 c3 e3:Nat}{p q:List Int}{l:List Sn}(s:Pl)(h:Ow w0 w g M L O)(i j k:Nat)(hi:L[i]?=some ⟨A,n,c,z0r p⟩)(hj:L[j]?=some ⟨A2,m,c2,z0r q⟩)(hk:L[k]?=some ⟨A3,n3*8,e3,fl l⟩)(ht:Tab w0):
  Calls Tryz.prog 33 #[.agg s.vs,.agg #[.slice A n c,.slice A2 m c2],.slice A3 n3 c3] w fun e w'=>e=.returned (.int .i64 (chk s p q l))∧Ow w0 w' g M L O:=by
 have H0:=(h.arr s.vs 6 rfl (by omega) 33).pair (.slice A n c) (.slice A2 m c2) 27
 simp only [World.size_alloc,zqa,zqb,zqc] at H0;have HV:=zh (fun W=>z4t s W)
 have HLn:l.length=n3∧n3≤125:=by
  have:=h.sl hk
  have a:=this.1;have b:=this.2.1;rw [z6f] at a;omega
 have HPn:p.length=n:=(h.raw hi).1
 have HQn:q.length=m:=(h.raw hj).1
 obtain ⟨res,hres⟩:∃ r,chk s p q l=r:=⟨_,rfl⟩
 have HR:=zh hres;rw [hres];have HX:=CellsPl.of H0 (O.length+0) (zk rfl)
 obtain ⟨so,ch,ra,ba,ro,co⟩:=s;unfold Pl.vs at *
 obtain ⟨a0,a1,a2,a3,a4,a5⟩:=HX;simp only at a0 a1 a2 a3 a4 a5
 clear hres;go_enter Tryz.func33,Tryz.ntmps33
 go_wp2_with fail;refine (HV.out _).mono ?_
 rintro e w1 ⟨rfl,hb⟩;have H1:=H0.go hb
 clear a0 a1 a2 a3 a4 a5 hb H0 HV;cases hv:decide (shV ⟨so,ch,ra,ba,ro,co⟩) with
 | false=>
  have HF:Hid (res=1):=by unfold Hid;rw [← HR.out];exact z7bq hv
  have HE:=zh H1.fewO;clear hv H1;go_wp2_with fail;go_ret;exact ⟨by rw [HF.out];rfl,HE.out⟩
 | true=>
 have HSv:=zh hv;clear hv;have a0:=H1.p0 (O.length+1) (zk rfl)
 have a1:=H1.p1 (O.length+1) (zk rfl)
 have HC:=zh (z1au H1 i j hi hj ht)
 go_wp2_with fail;refine HC.out.mono ?_;rintro e w2 ⟨rfl,hb⟩;have H2:=H1.go hb
 clear a0 a1 hb H1 HC;cases hv:rv p q with
 | false=>
  have HF:Hid (res=1):=by unfold Hid;rw [← HR.out];exact z7br hv
  have HE:=zh H2.fewO;clear hv H2;go_wp2_with fail;go_ret;exact ⟨by rw [HF.out];rfl,HE.out⟩
 | true=>
 have HQv:=zh hv;clear hv;have HC:=zh (z9t ⟨so,ch,ra,ba,ro,co⟩ _ A3 n3 c3 l w2 HLn.1 HLn.2 (H2.sl hk).2.2.2 (CellsPl.of (s:=⟨so,ch,ra,ba,ro,co⟩) H2 (O.length+0) (zk rfl)) (H2.lt (i:=O.length+0) (zk rfl) rfl).1)
 go_wp2_with fail;refine HC.out.mono ?_;rintro e w3 ⟨rfl,hb⟩;have H3:=H2.go hb
 clear hb H2 HC;cases hv:z6g ⟨so,ch,ra,ba,ro,co⟩ l with
 | false=>
  have HF:Hid (res=1):=by unfold Hid;rw [← HR.out];exact z7bs hv
  have HE:=zh H3.fewO;clear hv H3;go_wp2_with fail;go_ret;exact ⟨by rw [HF.out];rfl,HE.out⟩
 | true=>
 have HAv:=zh hv;clear hv;have a0:=H3.p0 (O.length+1) (zk rfl)
 have a1:=H3.p1 (O.length+1) (zk rfl)
 have HF:=zh (z7ao HSv.out HQv.out HAv.out)
 rw [HR.out] at HF;have HE:=zh H3.fewO;clear H3;obtain ⟨b1,h1⟩:∃ b,decide (40<n3)=b:=⟨_,rfl⟩
 obtain ⟨b2,h2⟩:∃ b,decide (20<n)=b:=⟨_,rfl⟩
 obtain ⟨b3,h3⟩:∃ b,decide (20<m)=b:=⟨_,rfl⟩
 have i1:decide ((40:Int)<(n3:Int))=b1:=z1ah.trans h1
 have i2:decide ((20:Int)<(n:Int))=b2:=z1ah.trans h2
 have i3:decide ((20:Int)<(m:Int))=b3:=z1ah.trans h3
 rw [HLn.1,HPn,HQn,h1,h2,h3] at HF;cases b1 with
 | true=>
  go_wp2_with fail;go_ret;exact ⟨by rw [HF.out];rfl,HE.out⟩
 | false=>
 cases b2 with
 | true=>
  go_wp2_with fail;go_ret;exact ⟨by rw [HF.out];rfl,HE.out⟩
 | false=>
 cases b3 with
 | true=>
  go_wp2_with fail;go_ret;exact ⟨by rw [HF.out];rfl,HE.out⟩
 | false=>
  go_wp2_with fail;go_ret;exact ⟨by rw [HF.out];rfl,HE.out⟩
def RGp (w:World)(A:Option Addr)(n:Nat)(l:List Sn)(mb:Nat)(k:Int)(y x:Value)(wr:World):Prop:=
 ∃ (i:Nat) (Ao:Option Addr) (co:Nat) (inn:List Rw) (es:Array MapEntry) (ck:Nat),i≤n∧x=.int .i64 (i:Int)∧y=.slice Ao inn.length co∧
  Hid (Gm w wr [⟨A,n*8,n*8,fl l⟩] mb es ck (z3d Ao co inn :: inn))∧Hid (EsOk es ((z3i k l i).map (·.1)))∧Hid (inn.map (·.vs)=(z3i k l i).map (fun p=>z0c p.2))∧Hid (∀ r∈inn,r.e=3)
theorem z2aj {inn:List Rw}{ks:List (Sp×List Nat)}(h:inn.map (·.vs)=ks.map (fun p=>z0c p.2)){j:Nat}{q:Sp}{g:List Nat}(hj:ks[j]?=some (q,g)):∃ r,inn[j]?=some r∧r.vs=z0c g:=by
 have h1:=congrArg (fun l=>l[j]?) h
 simp only [List.getElem?_map,hj,Option.map_some] at h1;cases hi:inn[j]? with
 | none=>rw [hi] at h1;simp at h1
 | some r=>rw [hi] at h1;exact ⟨r,rfl,by simpa using h1⟩
theorem z4i {inn:List Rw}{ks:List (Sp×List Nat)}(h:inn.map (·.vs)=ks.map (fun p=>z0c p.2)):inn.length=ks.length:=by
 have:=congrArg List.length h
 simpa using this
theorem z6ay {inn:List Rw}{ks:List (Sp×List Nat)}(h:inn.map (·.vs)=ks.map (fun p=>z0c p.2))(j:Nat)(q:Sp)(g:List Nat)(r:Rw)(hr:r.vs=z0c g):(inn.set j r).map (·.vs)=(ks.set j (q,g)).map (fun p=>z0c p.2):=by
 rw [List.map_set,List.map_set,h,hr]
theorem z7a (g:List Nat)(i:Nat):z0c g++[.int .i64 (i:Int)]=z0c (g++[i]):=by unfold z0c;rw [List.map_append];rfl
theorem z4bk {ks:List (Sp×List Nat)}{j:Nat}{q:Sp}(h:(ks.map (·.1))[j]?=some q):∃ g,ks[j]?=some (q,g):=by
 rw [List.getElem?_map] at h;cases hk:ks[j]? with
 | none=>rw [hk] at h;simp at h
 | some p=>
  rw [hk] at h;have e:p.1=q:=by simpa using h
  exact ⟨p.2,by rw [← e]⟩
theorem z0bj {ks:List (Sp×List Nat)}{q:Sp}(h:∀ p∈ks.map (·.1),p≠q):∀ p∈ks,p.1≠q:=fun p hp=>h _ (List.mem_map.2 ⟨p,hp,rfl⟩)
theorem z1as {α:Type}:∀ (l:List α) (x y:α),(l++[x]).set l.length y=l++[y]
 | [],_,_=>rfl
 | _ :: l,x,y=>by
  show _ :: (l++[x]).set l.length y=_ :: (l++[y])
  rw [z1as l x y]
theorem addz (gb j:Nat):(⟨gb,0,none⟩:Addr).add j=⟨gb,j,none⟩:=by
 unfold Addr.add;split
 ·next h=>rw [h]
 ·simp
theorem z2k {α:Type}{l:List α}{j:Nat}{x:α}(h:l[j]?=some x):l.set j x=l:=by
 apply List.ext_getElem?
 intro k;by_cases e:k=j
 ·subst e
  rw [List.getElem?_set_self (z0f h),h]
 ·rw [zqf (fun e'=>e e'.symm)]
theorem z0ae {inn:List Rw}{j:Nat}{r':Rw}{T:TypeId}(h:∀ r∈inn,r.e=T)(h':r'.e=T):∀ r∈inn.set j r',r.e=T:=fun r hr=>by
 rcases List.mem_or_eq_of_mem_set hr with h1 | h1
 ·exact h r h1
 ·rw [h1];exact h'
theorem z5as (k:Int)(hk:kd k)(A:Option Addr)(n c:Nat)(l:List Sn)(w:World)(hn:l.length=n)(hn2:n≤100)(hs:Sl w w.heap.size A (fl l)):
  Calls Tryz.prog 34 #[.int .i64 k,.slice A n c] w (GrR w (z3i k l n)):=by
 have HW:=zh (z6r k ⟨0,0,0,0,0,0⟩)
 rw [zt hk] at HW;obtain ⟨⟨p0,p1,p2,p3,p4,p5⟩,hp⟩:∃ p,whV k ⟨0,0,0,0,0,0⟩=p:=⟨_,rfl⟩
 rw [hp] at HW;unfold Pl.vs at HW;have HKd:=zh hk;have HN:=zh hn;have hmm:=@run_makeMap Tryz.prog
 have H0:=(Ow.of (St.refl w)).old (A:=A) (n:=n*8) (c:=n*8) (vs:=fl l) hs (by rw [z6f,hn]) (zqj _) (by omega)
 simp only [zqc] at H0;have HS:=zh hs;clear hp hs hk hn;go_enter Tryz.func34,Tryz.ntmps34
 go_wp2_with fail;refine (HW.out _).mono ?_
 rintro e w1 ⟨rfl,hb⟩;have H1:Ow w (w1.alloc (.cells #[.int .i64 p0,.int .i64 p1,.int .i64 p2,.int .i64 p3,.int .i64 p4,.int .i64 p5] 38)) none [] [⟨A,n*8,n*8,fl l⟩] []:=(H0.go hb).go (z0i _ _)
 have hsz:w.heap.size≤w1.heap.size:=hb.size
 have G0:Gm w ((w1.alloc (.cells #[.int .i64 p0,.int .i64 p1,.int .i64 p2,.int .i64 p3,.int .i64 p4,.int .i64 p5] 38)).alloc (.map #[] 0)) [⟨A,n*8,n*8,fl l⟩] (w1.heap.size+1) #[] 0 []:=by
  refine ⟨H1.go (z0i _ _),?_,by omega,fun o ho a ea h0 e=>?_,fun j q hj=>by simp at hj⟩
  ·have:=(MapKept.heap_alloc (w1.alloc (.cells #[.int .i64 p0,.int .i64 p1,.int .i64 p2,.int .i64 p3,.int .i64 p4,.int .i64 p5] 38)) (.map #[] 0)).1
   rw [World.size_alloc] at this;exact this
  ·rw [List.mem_singleton] at ho;subst ho
   obtain ⟨a',e',hlt,_⟩:=HS.out (by rw [z6f,HN.out];exact h0)
   rw [show A=some a from ea] at e'
   obtain rfl:=zqk e'
   omega
 have G1:=G0.nil 22
 simp only [zqc] at G1;have HG:=zh G1;clear HW hb H0 H1 G0 G1;go_wp2_with fail;go_loopw [7,25] (fun y x wr=>RGp w A n l (w1.heap.size+1) k y x wr) (fun _ x _=>n+1 - (intOf x).toNat)
 case atStart=>exact ⟨0,none,0,[],#[],0,zqr _,rfl,rfl,HG,EsOk.nil,rfl,fun r hr=>by cases hr⟩
 case round=>
  clear HG;obtain ⟨i,Ao,co,inn,es,ck,hi,rfl,rfl,HG,HE,HV,HT⟩:=hrel;have hil:inn.length≤n:=by
   have:=(z3m k l i).2
   have:=z4i HV.out
   omega
  rcases Nat.eq_or_lt_of_le hi with heq | hlt
  ·have hd:decide ((i:Int)<(n:Int))=false:=zn (by omega)
   have hd2:decide (i<n)=false:=zn (by omega)
   have HB:=zh HG.out.ow;have HQ:Hid (i=n):=heq
   clear heq hi;go_wp2_with fail;go_ret;refine ⟨Ao,co,inn,rfl,by rw [HV.out,HQ.out],HT.out,HB.out.less (fun o ho=>by cases ho)⟩
  ·have hd:decide ((i:Int)<(n:Int))=true:=zt (by omega)
   have hd2:decide (i<n)=true:=zt (by omega)
   obtain ⟨x,hx⟩:∃ x,l[i]?=some x:=⟨l[i]'(by rw [HN.out];exact hlt),zql _⟩
   obtain ⟨a,rfl,e0,e1,e2,e3,e4,e5,e6,e7⟩:=z5g (HG.out.ow.sl (i:=0) rfl).2.2.2 hx
   have HX:=zh hx;have HA:=zh (z6br k x)
   obtain ⟨q,hq⟩:∃ q,z3p k x=q:=⟨_,rfl⟩
   have HQ:=zh hq;have HA2:Hid (∀ W,Calls Tryz.prog 61 #[.int .i64 k,.agg x.vs] W fun e w'=>e=.returned (.agg (spA q))∧Below W.heap.size W w'):=fun W=>by
    have:=HA.out W
    rwa [z5bp HKd.out,hq] at this
   obtain ⟨⟨x0,x1,x2,x3,x4,x5⟩,x6,x7⟩:=x
   obtain ⟨⟨q0,q1,q2,q3,q4,q5⟩,q6⟩:=q
   unfold spA at HA2;unfold Sn.vs at HA2;have hi2:i<n:=hlt
   clear HA hx hq hi hlt;go_wp2_with fail;refine (HA2.out _).mono ?_
   rintro e w2 ⟨rfl,hb⟩;have G2:Gm w (w2.alloc (.cells #[.int .i64 q0,.int .i64 q1,.int .i64 q2,.int .i64 q3,.int .i64 q4,.int .i64 q5,.int .i64 q6] 99)) [⟨some a,n*8,n*8,fl l⟩] (w1.heap.size+1) es ck (z3d Ao co inn :: inn):=((HG.out.go (z0i _ _)).go hb).go (z0i _ _)
   clear HG hb e0 e1 e2 e3 e4 e5 e6 e7 HA2;rcases z6ar G2.mp HE.out ⟨⟨q0,q1,q2,q3,q4,q5⟩,q6⟩ with ⟨hnew,hlk⟩ | ⟨j,hj,hlk⟩
   ·have hil3:inn.length≤100:=by omega
    have hkl:((z3i k l i).map (·.1)).length=inn.length:=by rw [List.length_map];exact (z4i HV.out).symm
    have hst:=z3ad G2.mp HE.out ⟨⟨q0,q1,q2,q3,q4,q5⟩,q6⟩ hnew (.int .i64 (inn.length:Int))
    have HE3:=zh (HE.out.push ⟨⟨q0,q1,q2,q3,q4,q5⟩,q6⟩ ck)
    rw [hkl] at HE3;have HNw:=zh (z8ab (z3i k l i) ⟨⟨q0,q1,q2,q3,q4,q5⟩,q6⟩ i (z0bj hnew))
    have G3:=G2.store (es.push ⟨.agg (spA ⟨⟨q0,q1,q2,q3,q4,q5⟩,q6⟩),.int .i64 (inn.length:Int),ck⟩) (ck+1)
    obtain ⟨es3,hes3⟩:∃ z,es.push ⟨.agg (spA ⟨⟨q0,q1,q2,q3,q4,q5⟩,q6⟩),.int .i64 (inn.length:Int),ck⟩=z:=⟨_,rfl⟩
    rw [hes3] at hst HE3 G3;obtain ⟨w3,hw3⟩:∃ z,setBlock (w2.alloc (.cells #[.int .i64 q0,.int .i64 q1,.int .i64 q2,.int .i64 q3,.int .i64 q4,.int .i64 q5,.int .i64 q6] 99)) (w1.heap.size+1) (.map es3 (ck+1))=z:=⟨_,rfl⟩
    rw [hw3] at hst G3;unfold spA at hst hlk;have HG3:=zh G3;clear hes3 hw3 G2 G3 hnew hkl HE;go_upto_region 15 with (at_builtin;refine z5x z6bn HG3.out 0 (.tmp 46) (.tmp 47) _ _ (A:=Ao) (n:=inn.length) (c:=co) (xs:=inn.map Rw.sl) rfl rfl (by unfold maxLen;omega) (by omega) rfl rfl rfl rfl ?_;intro A5 c5 w5 how5)
    simp only [zqd] at how5;obtain ⟨inn2,hinn2⟩:∃ z,inn++[(⟨none,0,0,3,[]⟩:Rw)]=z:=⟨_,rfl⟩
    have hl2:inn2.length=inn.length+1:=by rw [← hinn2];simp
    have G:Gm w w5 [⟨some a,n*8,n*8,fl l⟩] (w1.heap.size+1) es3 (ck+1) (z3d A5 c5 inn2 :: inn2):=by
     have G5:=how5.nil 3
     rw [← hinn2];unfold z3d;rw [zqm,List.map_append];exact G5
    have HT2:Hid (∀ r∈inn2,r.e=3):=by
     intro r hr;rw [← hinn2] at hr;rcases List.mem_append.1 hr with h | h
     ·exact HT.out r h
     ·rw [List.mem_singleton] at h;rw [h]
    have HI2:=zh hinn2;obtain ⟨r,hr,hr0⟩:∃ r,inn2[inn.length]?=some r∧r=⟨none,0,0,3,[]⟩:=⟨_,by rw [← hinn2,zqo (zqj _),Nat.sub_self];rfl,rfl⟩
    have hrv:r.vs=z0c []:=by rw [hr0];rfl
    have HYl:Hid ((inn2.map Rw.sl)[inn.length]?=some r.sl):=by unfold Hid;rw [List.getElem?_map,hr];rfl
    obtain ⟨g,hg0⟩:∃ g:List Nat,g=[]:=⟨_,rfl⟩
    have HGl:Hid (g.length≤i):=by rw [hg0];exact zqr _
    rw [← hg0] at hrv;have HG0:=zh hg0;clear how5 hinn2 hr0 hg0 HG3 hst hlk;obtain ⟨Ar,nr,cr,er,vr⟩:=r;obtain rfl:er=3:=HT2.out _ (List.mem_of_getElem? hr)
    obtain rfl:vr=z0c g:=hrv
    have hrow:(z3d A5 c5 inn2 :: inn2)[inn.length+1]?=some ⟨Ar,nr,cr,3,z0c g⟩:=hr
    have hjl:=z0f hr
    have hil2:inn2.length≤101:=by omega
    obtain ⟨gb,hgb,_,_⟩:=z0u (G.ow.row 0 (A:=A5) (n:=inn2.length) (c:=c5) (e:=22) (vs:=inn2.map Rw.sl) rfl) (by omega)
    obtain rfl:=hgb
    have hnr:(z0c g).length=nr:=z1j (G.ow.row (inn.length+1) hrow)
    rw [z0e] at hnr;have hgl:nr≤100:=by have:=HGl.out;omega
    have yl:(inn2.map Rw.sl)[inn.length]?=some (.slice Ar nr cr):=by rw [List.getElem?_map,hr];rfl
    have y0:=(G.ow.row 0 (A:=some ⟨gb,0,none⟩) (n:=inn2.length) (c:=c5) (e:=22) (vs:=inn2.map Rw.sl) rfl).cells (g:=gb) rfl inn.length _ yl
    rw [addz] at y0;have HGx:=zh G;have hjI:(inn.length:Int)<(inn2.length:Int):=by omega
    clear G hnr hr yl;go_wp2_with (at_builtin;refine z5x z5f HGx.out (inn.length+1) (.tmp 54) (.tmp 56) _ _ hrow rfl (by unfold maxLen;omega) (by omega) rfl rfl rfl rfl ?_;intro A4 c4 w4 how;simp only [zqe] at how;have z0:=(how.ow.row 0 (A:=some ⟨gb,0,none⟩) (n:=inn2.length) (c:=c5) (e:=22) (vs:=inn2.map Rw.sl) rfl).cells (g:=gb) rfl inn.length (.slice Ar nr cr) HYl.out;rw [addz] at z0;have zf:=(how.ow.row 0 (A:=some ⟨gb,0,none⟩) (n:=inn2.length) (c:=c5) (e:=22) (vs:=inn2.map Rw.sl) rfl).frozenAt inn.length)
    have HF:Hid (Gm w (w4.setCell ⟨gb,inn.length,none⟩ (.slice A4 (nr+1) c4)) [⟨some a,n*8,n*8,fl l⟩] (w1.heap.size+1) es3 (ck+1) (z3d (some ⟨gb,0,none⟩) c5 (inn2.set inn.length ⟨A4,nr+1,c4,3,z0c (g++[i])⟩) :: inn2.set inn.length ⟨A4,nr+1,c4,3,z0c (g++[i])⟩)):=by
     have:=how.put 0 (gb:=gb) (n:=inn2.length) (c:=c5) (e:=22) (vs:=inn2.map Rw.sl) rfl inn.length (.slice A4 (nr+1) c4)
     simp only [zqd] at this;rw [z7a] at this;unfold Hid z3d;rw [List.length_set,List.map_set];exact this
    clear how z0 zf y0 HGx hrow;go_roundw
    case rel=>exact ⟨i+1,some ⟨gb,0,none⟩,c5,inn2.set inn.length ⟨A4,nr+1,c4,3,z0c (g++[i])⟩,es3,ck+1,hi2,by go_num,by rw [List.length_set,hl2],HF,by unfold Hid;rw [z3g HX.out,HQ.out,HNw.out,List.map_append];exact HE3.out,by unfold Hid;rw [z3g HX.out,HQ.out,HNw.out,← HI2.out,z1as,List.map_append,List.map_append,HV.out,HG0.out];rfl,fun r hr=>z0ae HT2.out rfl r hr⟩
    case measure=>simp [intOf];omega
   ·obtain ⟨g,hg⟩:=z4bk hj
    obtain ⟨r,hr,hrv⟩:=z2aj HV.out hg
    have HGl:Hid (g.length≤i):=(z3m k l i).1 _ (List.mem_of_getElem? hg)
    have HYl:Hid ((inn.map Rw.sl)[j]?=some r.sl):=by unfold Hid;rw [List.getElem?_map,hr];rfl
    have HGj:=zh hg;unfold spA at hlk;go_upto_region 15 with (fail)
    obtain ⟨w3,hw3⟩:∃ z,w2.alloc (.cells #[.int .i64 q0,.int .i64 q1,.int .i64 q2,.int .i64 q3,.int .i64 q4,.int .i64 q5,.int .i64 q6] 99)=z:=⟨_,rfl⟩
    rw [hw3] at G2 ⊢
    have G:=G2;clear G2 hj hg hw3 hlk;obtain ⟨Ar,nr,cr,er,vr⟩:=r;obtain rfl:er=3:=HT.out _ (List.mem_of_getElem? hr)
    obtain rfl:vr=z0c g:=hrv
    have hrow:(z3d Ao co inn :: inn)[j+1]?=some ⟨Ar,nr,cr,3,z0c g⟩:=hr
    have hjl:=z0f hr
    have hil2:inn.length≤101:=by omega
    obtain ⟨gb,hgb,_,_⟩:=z0u (G.ow.row 0 (A:=Ao) (n:=inn.length) (c:=co) (e:=22) (vs:=inn.map Rw.sl) rfl) (by omega)
    obtain rfl:=hgb
    have hnr:(z0c g).length=nr:=z1j (G.ow.row (j+1) hrow)
    rw [z0e] at hnr;have hgl:nr≤100:=by have:=HGl.out;omega
    have yl:(inn.map Rw.sl)[j]?=some (.slice Ar nr cr):=by rw [List.getElem?_map,hr];rfl
    have y0:=(G.ow.row 0 (A:=some ⟨gb,0,none⟩) (n:=inn.length) (c:=co) (e:=22) (vs:=inn.map Rw.sl) rfl).cells (g:=gb) rfl j _ yl
    rw [addz] at y0;have HGx:=zh G;have hjI:(j:Int)<(inn.length:Int):=by omega
    clear G hnr hr yl;go_wp2_with (at_builtin;refine z5x z5f HGx.out (j+1) (.tmp 54) (.tmp 56) _ _ hrow rfl (by unfold maxLen;omega) (by omega) rfl rfl rfl rfl ?_;intro A4 c4 w4 how;simp only [zqe] at how;have z0:=(how.ow.row 0 (A:=some ⟨gb,0,none⟩) (n:=inn.length) (c:=co) (e:=22) (vs:=inn.map Rw.sl) rfl).cells (g:=gb) rfl j (.slice Ar nr cr) HYl.out;rw [addz] at z0;have zf:=(how.ow.row 0 (A:=some ⟨gb,0,none⟩) (n:=inn.length) (c:=co) (e:=22) (vs:=inn.map Rw.sl) rfl).frozenAt j)
    have HF:Hid (Gm w (w4.setCell ⟨gb,j,none⟩ (.slice A4 (nr+1) c4)) [⟨some a,n*8,n*8,fl l⟩] (w1.heap.size+1) es ck (z3d (some ⟨gb,0,none⟩) co (inn.set j ⟨A4,nr+1,c4,3,z0c (g++[i])⟩) :: inn.set j ⟨A4,nr+1,c4,3,z0c (g++[i])⟩)):=by
     have:=how.put 0 (gb:=gb) (n:=inn.length) (c:=co) (e:=22) (vs:=inn.map Rw.sl) rfl j (.slice A4 (nr+1) c4)
     simp only [zqd] at this;rw [z7a] at this;unfold Hid z3d;rw [List.length_set,List.map_set];exact this
    clear how z0 zf y0 HGx hrow;go_roundw
    case rel=>exact ⟨i+1,some ⟨gb,0,none⟩,co,inn.set j ⟨A4,nr+1,c4,3,z0c (g++[i])⟩,es,ck,hi2,by go_num,by rw [List.length_set],HF,by unfold Hid;rw [z3g HX.out,HQ.out,z2ax _ _ _ _ _ (z2o k l i) HGj.out,List.map_set,z2k (by rw [List.getElem?_map,HGj.out];rfl)];exact HE.out,by unfold Hid;rw [z3g HX.out,HQ.out,z2ax _ _ _ _ _ (z2o k l i) HGj.out];exact z6ay HV.out j _ _ _ rfl,fun r hr=>z0ae HT.out rfl r hr⟩
    case measure=>simp [intOf];omega
theorem z2bd:∀ (ks:List (Sp×List Nat))(q:Sp)(i:Nat)(p:Sp×List Nat),p∈ad ks q i→p∈ks∨p=(q,[i])∨∃ g,(q,g)∈ks∧p=(q,g++[i])
 | [],q,i,p,h=>.inr (.inl (by simpa [ad] using h))
 | p0 :: r,q,i,p,h=>by
  have h':p∈(if p0.1=q then (q,p0.2++[i]) :: r else p0 :: ad r q i):=h
  by_cases e:p0.1=q
  ·rw [if_pos e] at h';rcases List.mem_cons.1 h' with h1 | h1
   ·exact .inr (.inr ⟨p0.2,by rw [← e];exact List.mem_cons_self,h1⟩)
   ·exact .inl (List.mem_cons_of_mem _ h1)
  ·rw [if_neg e] at h';rcases List.mem_cons.1 h' with h1 | h1
   ·exact .inl (by rw [h1];exact List.mem_cons_self)
   ·rcases z2bd r q i p h1 with h2 | h2 | ⟨g,h2,h3⟩
    ·exact .inl (List.mem_cons_of_mem _ h2)
    ·exact .inr (.inl h2)
    ·exact .inr (.inr ⟨g,List.mem_cons_of_mem _ h2,h3⟩)
theorem z3h (k:Int)(l:List Sn):∀ (i:Nat) (p:Sp×List Nat),p∈z3i k l i→∃ h t y,p.2=h :: t∧h<i∧l[h]?=some y∧z3p k y=p.1
 | 0,p,h=>by cases h
 | i+1,p,h=>by
  have h':p∈((match l[i]? with | some x=>ad (z3i k l i) (z3p k x) i | none=>z3i k l i):List (Sp×List Nat)):=h
  cases hx:l[i]? with
  | none=>
   rw [hx] at h';obtain ⟨h1,t,y,a1,a2,a3,a4⟩:=z3h k l i p h'
   exact ⟨h1,t,y,a1,by omega,a3,a4⟩
  | some x=>
   rw [hx] at h';rcases z2bd _ _ _ _ h' with h2 | h2 | ⟨g,h2,h3⟩
   ·obtain ⟨h1,t,y,a1,a2,a3,a4⟩:=z3h k l i p h2
    exact ⟨h1,t,y,a1,by omega,a3,a4⟩
   ·exact ⟨i,[],x,by rw [h2],by omega,hx,by rw [h2]⟩
   ·obtain ⟨h1,t,y,a1,a2,a3,a4⟩:=z3h k l i _ h2
    have a1':g=h1 :: t:=a1
    exact ⟨h1,t++[i],y,by rw [h3];show g++[i]=_;rw [a1'];rfl,by omega,a3,by rw [h3];exact a4⟩
def RGr (w:World)(aL:Addr)(n:Nat)(l:List Sn)(k:Int)(y x:Value)(wr:World):Prop:=
 ∃ (i:Nat) (Ao:Option Addr) (co:Nat) (inn:List Rw),i≤n∧x=.int .i64 (i:Int)∧y=.slice Ao inn.length co∧
  Hid (Ow w wr none [] [⟨some aL,n*8,n*8,fl l⟩] (z3d Ao co inn :: inn))∧Hid (inn.map (·.vs)=(z3i k l i).map (fun p=>z0c p.2))∧Hid (∀ r∈inn,r.e=3)
def RGs (w:World)(aL:Addr)(n:Nat)(l:List Sn)(k:Int)(i xb:Nat)(q:Sp)(x0:Sn)(ks:List (Sp×List Nat))(Ao:Option Addr)(co:Nat)(inn:List Rw)(y x:Value)(wr:World):Prop:=
 ∃ (j:Nat) (inn':List Rw),j≤inn.length∧x=.int .i64 (j:Int)∧inn'.length=inn.length∧Hid (Ow w wr none [] [⟨some aL,n*8,n*8,fl l⟩] (z3d Ao co inn' :: inn'))∧Hid (∀ r∈inn',r.e=3)∧
  ((y=.bool false∧inn'=inn∧Hid (∀ p r,p<j→ks[p]?=some r→r.1≠q)∧Hid (CellsSn wr ⟨xb,0,none⟩ x0))∨(y=.bool true∧Hid (inn'.map (·.vs)=(ad ks q i).map (fun p=>z0c p.2))))
theorem CellsSn.go {w w':World}{b:Nat}{x:Sn}(h:CellsSn w ⟨b,0,none⟩ x)(hb:Below w.heap.size w w')(hlt:b<w.heap.size):CellsSn w' ⟨b,0,none⟩ x:=by
 obtain ⟨h0,h1,h2,h3,h4,h5,h6,h7⟩:=h;exact ⟨(hb.cell (p:=⟨b,0,none⟩) hlt).trans h0,(hb.cell (p:=⟨b,0+1,none⟩) hlt).trans h1,(hb.cell (p:=⟨b,0+2,none⟩) hlt).trans h2,(hb.cell (p:=⟨b,0+3,none⟩) hlt).trans h3,(hb.cell (p:=⟨b,0+4,none⟩) hlt).trans h4,(hb.cell (p:=⟨b,0+5,none⟩) hlt).trans h5,(hb.cell (p:=⟨b,0+6,none⟩) hlt).trans h6,(hb.cell (p:=⟨b,0+7,none⟩) hlt).trans h7⟩
theorem CellsSn.lt {w:World}{b:Nat}{x:Sn}(h:CellsSn w ⟨b,0,none⟩ x):b<w.heap.size:=by
 have h0:=h.1;rcases zqi b w.heap.size with h1 | h1
 ·exact h1
 ·unfold World.cell? at h0
  rw [Array.getElem?_eq_none (by simpa using h1)] at h0
  cases h0
theorem CellsSn.new (w:World)(x:Sn):CellsSn (w.alloc (.cells x.vs 40)) ⟨w.heap.size,0,none⟩ x:=by
 have H:=(Ow.of (St.refl w)).arr x.vs 8 rfl (by omega) 40
 simp only [zqc] at H;exact ⟨(H.row 0 rfl).cellAt 0 (by decide),(H.row 0 rfl).cellAt 1 (by decide),(H.row 0 rfl).cellAt 2 (by decide),(H.row 0 rfl).cellAt 3 (by decide),(H.row 0 rfl).cellAt 4 (by decide),(H.row 0 rfl).cellAt 5 (by decide),(H.row 0 rfl).cellAt 6 (by decide),(H.row 0 rfl).cellAt 7 (by decide)⟩
theorem z0av {P:Program}{w0 w:World}{g:Option Nat}{M:List (Nat×Value)}{L:List Ob}{O:List Rw}{t e:TypeId}{z:Value}{bytes:Nat}{ops:Array Oper}{rest:List Oper}{o:Oper}{a:Act}{Q:Exit→Act→World→Prop}(b:Nat)(hb:w.heap.size=b)(hE:Elem P t e z bytes)(h:Ow w0 w g M L O)(i:Nat)(s x:Operand)(v:Value)(tt:TypeId){A:Option Addr}{n c:Nat}{xs:List Value}(hi:O[i]?=some ⟨A,n,c,e,xs⟩)
  (h1:v.oneCell'=true) (h63:n+1≤maxLen) (hbytes:(n+1)*bytes≤140737488355328)
  (hgd:o.guard=none) (ho:o.op=.call { callee:=.builtin .append,args:=#[s,x],argTypes:=#[t,t] }) (hs:a.eval s=.slice A n c) (hx:a.eval x=.slice (some ⟨b,0,none⟩) 1 1)
  (hk:∀ A' c' w',Ow w0 w' g M L (O.set i ⟨A',n+1,c',e,xs++[v]⟩)→wpList P ops Q rest (a.put o.dst (.slice A' (n+1) c')) w'):wpList P ops Q (o :: rest) a (w.alloc (.cells #[v] tt)):=by
 subst hb
 exact z2m hE h i s x v tt hi h1 h63 hbytes hgd ho hs hx hk
structure GsK (w:World)(aL:Addr)(n c:Nat)(l:List Sn)(k:Int)(xb gj nj cj h:Nat)(x0 x1 x2 x3 x4 x5 x6 x7 y0 y1 y2 y3 y4 y5 y6 y7:Int)(O:List Rw)(bo:Bool)(Ld:Nat→Bool)(u0 u1 u2 u3 u4 u5 u6 u7 u8 u9 u10 u11 u12:Value)(W:World):Prop where
 ow:Ow w W none [] [⟨some aL,n*8,n*8,fl l⟩] O
 cx:CellsSn W ⟨xb,0,none⟩ (⟨⟨x0,x1,x2,x3,x4,x5⟩,x6,x7⟩:Sn)
 h0:Ld 0=true→u0=.bool false
 h1:Ld 1=true→u1=.bool true
 h2:Ld 2=true→u2=.bool true
 h3:Ld 3=true→u3=.int .i64 k
 h4:Ld 4=true→u4=.slice (some aL) n c
 h5:Ld 5=true→u5=.slice (some ⟨gj,0,none⟩) nj cj
 h6:Ld 6=true→u6=.pointer (some ⟨gj,0,none⟩)
 h7:Ld 7=true→u7=.int .i64 (h:Int)
 h8:Ld 8=true→u8=.pointer (some (aL.add (h*8)))
 h9:Ld 9=true→u9=.agg #[.int .i64 y0,.int .i64 y1,.int .i64 y2,.int .i64 y3,.int .i64 y4,.int .i64 y5,.int .i64 y6,.int .i64 y7]
 h10:Ld 10=true→u10=.agg #[.int .i64 x0,.int .i64 x1,.int .i64 x2,.int .i64 x3,.int .i64 x4,.int .i64 x5,.int .i64 x6,.int .i64 x7]
 h11:Ld 11=true→u11=.bool bo
 h12:Ld 12=true→u12=.bool bo
def GsI (w:World)(aL:Addr)(n c:Nat)(l:List Sn)(k:Int)(xb gj nj cj h:Nat)(x0 x1 x2 x3 x4 x5 x6 x7 y0 y1 y2 y3 y4 y5 y6 y7:Int)(O:List Rw)(bo:Bool)(A0:Act)(Ld:Nat→Bool)(a:Act)(W:World):Prop:=
 ∃ (u0 u1 u2 u3 u4 u5 u6 u7 u8 u9 u10 u11 u12:Value),a=(((((((((((((A0.put (some 31) u0).put (some 32) u1).put (some 33) u2).put (some 34) u3).put (some 35) u4).put (some 36) u5).put (some 37) u6).put (some 38) u7).put (some 39) u8).put (some 40) u9).put (some 41) u10).put (some 42) u11).put (some 43) u12)∧GsK w aL n c l k xb gj nj cj h x0 x1 x2 x3 x4 x5 x6 x7 y0 y1 y2 y3 y4 y5 y6 y7 O bo Ld u0 u1 u2 u3 u4 u5 u6 u7 u8 u9 u10 u11 u12 W
structure GtK (w:World)(aL:Addr)(n c:Nat)(l:List Sn)(k:Int)(xb gj nj cj h:Nat)(x0 x1 x2 x3 x4 x5 x6 x7 y0 y1 y2 y3 y4 y5 y6 y7:Int)(O:List Rw)(bo:Bool)(Ld:Nat→Bool)(u0 u1 u2 u3 u4 u5 u6 u7 u8 u9 u10 u11 u12:Value)(W:World):Prop where
 ow:Ow w W none [] [⟨some aL,n*8,n*8,fl l⟩] O
 h0:Ld 0=true→u0=.bool true
 h1:Ld 1=true→u1=.bool false
 h2:Ld 2=true→u2=.bool false
 h3:Ld 3=true→True
 h4:Ld 4=true→True
 h5:Ld 5=true→True
 h6:Ld 6=true→True
 h7:Ld 7=true→True
 h8:Ld 8=true→True
 h9:Ld 9=true→True
 h10:Ld 10=true→True
 h11:Ld 11=true→True
 h12:Ld 12=true→u12=.bool false
def GtI (w:World)(aL:Addr)(n c:Nat)(l:List Sn)(k:Int)(xb gj nj cj h:Nat)(x0 x1 x2 x3 x4 x5 x6 x7 y0 y1 y2 y3 y4 y5 y6 y7:Int)(O:List Rw)(bo:Bool)(A0:Act)(Ld:Nat→Bool)(a:Act)(W:World):Prop:=
 ∃ (u0 u1 u2 u3 u4 u5 u6 u7 u8 u9 u10 u11 u12:Value),a=(((((((((((((A0.put (some 31) u0).put (some 32) u1).put (some 33) u2).put (some 34) u3).put (some 35) u4).put (some 36) u5).put (some 37) u6).put (some 38) u7).put (some 39) u8).put (some 40) u9).put (some 41) u10).put (some 42) u11).put (some 43) u12)∧GtK w aL n c l k xb gj nj cj h x0 x1 x2 x3 x4 x5 x6 x7 y0 y1 y2 y3 y4 y5 y6 y7 O bo Ld u0 u1 u2 u3 u4 u5 u6 u7 u8 u9 u10 u11 u12 W
theorem z4at (k:Int)(hk:kd k)(aL:Addr)(n c:Nat)(l:List Sn)(w:World)(hn:l.length=n)(hn2:n≤100)(hs:Sl w w.heap.size (some aL) (fl l)):
  Calls Tryz.prog 30 #[.int .i64 k,.slice (some aL) n c] w (GrR w (z3i k l n)):=by
 have HKd:=zh hk;have HK:Hid (decide (k<(1:Int))=false∧decide ((6:Int)<k)=false):=⟨zn (by have:=hk.1;omega),zn (by have:=hk.2;omega)⟩
 have HN:=zh hn;have H0:=(Ow.of (St.refl w)).old (A:=some aL) (n:=n*8) (c:=n*8) (vs:=fl l) hs (by rw [z6f,hn]) (zqj _) (by omega)
 have H1:=H0.nil 22
 simp only [zqc] at H1;have HO:=zh H1;obtain ⟨hk1,hk2⟩:=HK.out;clear hs hk hn H0 H1;go_enter Tryz.func30,Tryz.ntmps30
 go_wp2_with fail;clear hk1 hk2;go_loopw [5,19] (fun y x wr=>RGr w aL n l k y x wr) (fun _ x _=>n+1 - (intOf x).toNat)
 case atStart=>exact ⟨0,none,0,[],zqr _,rfl,rfl,HO,rfl,fun r hr=>by cases hr⟩
 case round=>
  clear HO;obtain ⟨i,Ao,co,inn,hi,rfl,rfl,HO,HV,HT⟩:=hrel;have hil:inn.length≤i:=by
   have:=(z3m k l i).2
   have:=z4i HV.out
   omega
  rcases Nat.eq_or_lt_of_le hi with heq | hlt
  ·have hd:decide ((i:Int)<(n:Int))=false:=zn (by omega)
   have hd2:decide (i<n)=false:=zn (by omega)
   have HQ:Hid (i=n):=heq
   clear heq hi;go_wp2_with fail;go_ret;refine ⟨Ao,co,inn,rfl,by rw [HV.out,HQ.out],HT.out,HO.out.less (fun o ho=>by cases ho)⟩
  ·have hd:decide ((i:Int)<(n:Int))=true:=zt (by omega)
   have hd2:decide (i<n)=true:=zt (by omega)
   obtain ⟨x,hx⟩:∃ x,l[i]?=some x:=⟨l[i]'(by rw [HN.out];exact hlt),zql _⟩
   obtain ⟨a',ea,e0,e1,e2,e3,e4,e5,e6,e7⟩:=z5g (HO.out.sl (i:=0) rfl).2.2.2 hx
   obtain rfl:=zqk ea
   have HX:=zh hx;obtain ⟨q,hq⟩:∃ q,z3p k x=q:=⟨_,rfl⟩
   have HQ:=zh hq;have HSm:Hid (∀ (y:Sn) (W:World),Calls Tryz.prog 23 #[.int .i64 k,.agg y.vs,.agg x.vs] W fun e w'=>e=.returned (.bool (decide (z3p k y=q)))∧Below W.heap.size W w'):=fun y W=>by rw [← hq];exact z8t k HKd.out y x W
   have hi2:i<n:=hlt
   have hCx:=CellsSn.new wr x
   have hOx:=HO.out.go (z0i wr (.cells x.vs 40))
   obtain ⟨⟨x0,x1,x2,x3,x4,x5⟩,x6,x7⟩:=x
   unfold Sn.vs at hCx hOx HSm;have HCx:=zh hCx;have HOx:=zh hOx;obtain ⟨ks,hks⟩:∃ z,z3i k l i=z:=⟨_,rfl⟩
   have HKs:=zh hks;rw [hks] at HV;clear hx hq hi hlt hCx hOx HO ea hks;go_wp2_with fail;clear e0 e1 e2 e3 e4 e5 e6 e7;obtain ⟨xb,hxb⟩:∃ z,wr.heap.size=z:=⟨_,rfl⟩
   rw [hxb] at HCx ⊢
   clear hxb;go_loopw [8,26] (fun y x wr2=>RGs w aL n l k i xb q (⟨⟨x0,x1,x2,x3,x4,x5⟩,x6,x7⟩:Sn) ks Ao co inn y x wr2) (fun _ x _=>inn.length+1 - (intOf x).toNat)
   case atStart=>exact ⟨0,inn,zqr _,rfl,rfl,HOx,HT,.inl ⟨rfl,rfl,fun p r hp=>absurd hp (Nat.not_lt_zero _),HCx⟩⟩
   case round=>
    clear HOx HCx;obtain ⟨j,inn',hj,rfl,hlen,HO,HT',hcase⟩:=hrel;rcases Nat.eq_or_lt_of_le hj with heq | hlt
    ·have hd3:decide ((j:Int)<(inn.length:Int))=false:=zn (by omega)
     have hd4:decide (j<inn.length)=false:=zn (by omega)
     have hE:Hid (j=inn.length):=heq
     clear heq hj hd hd2;rcases hcase with ⟨rfl,he,hno,hcx⟩ | ⟨rfl,hyes⟩
     ·have HNw:Hid (ad ks q i=ks++[(q,[i])]):=z8ab ks q i fun p hp=>by
       obtain ⟨z,hz⟩:=List.getElem?_of_mem hp
       exact hno.out z p (by rw [hE.out,z4i HV.out];exact z0f hz) hz
      rw [he] at HO HT';clear he hlen hno hcx;go_upto_region 15 with (fail)
      have H2:=HO.out.add (World.ownsRow_lit (base:=wr.heap.size) (e:=3) (size:=1) wr #[.int .i64 (i:Int)] 1 (zqj _) (by decide) rfl) (z0i _ _)
      have HH2:=zh H2;clear H2;go_wp2_with (at_builtin;refine z0av (wr.heap.size+1) (by simp) z6bn HH2.out 0 (.tmp 54) (.tmp 57) (.slice (some ⟨wr.heap.size,0,none⟩) 1 1) _ (A:=Ao) (n:=inn.length) (c:=co) (xs:=inn.map Rw.sl) rfl rfl (by unfold maxLen;omega) (by omega) rfl rfl rfl rfl ?_;intro A5 c5 w5 how5)
      have HF:Hid (Ow w w5 none [] [⟨some aL,n*8,n*8,fl l⟩] (z3d A5 c5 (inn++[⟨some ⟨wr.heap.size,0,none⟩,1,1,3,[.int .i64 (i:Int)]⟩]) :: (inn++[⟨some ⟨wr.heap.size,0,none⟩,1,1,3,[.int .i64 (i:Int)]⟩]))):=by
       simp only [zqb,zqd] at how5;unfold Hid z3d;rw [zqm,List.map_append];exact how5
      clear how5 HH2;go_roundw
      case rel=>exact ⟨i+1,A5,c5,inn++[⟨some ⟨wr.heap.size,0,none⟩,1,1,3,[.int .i64 (i:Int)]⟩],hi2,by go_num,by rw [zqm];rfl,HF,by unfold Hid;rw [z3g HX.out,HQ.out,HKs.out,HNw.out,List.map_append,List.map_append,HV.out];rfl,fun r hr=>(List.mem_append.1 hr).elim (HT.out r) fun h=>by rw [List.mem_singleton] at h;rw [h]⟩
      case measure=>simp [intOf];omega
     ·have HYe:=hyes;clear hyes;go_wp2_with fail;go_roundw
      case rel=>exact ⟨i+1,Ao,co,inn',hi2,by go_num,by rw [hlen],HO,by unfold Hid;rw [z3g HX.out,HQ.out,HKs.out];exact HYe.out,HT'⟩
      case measure=>simp [intOf];omega
    ·have hd3:decide ((j:Int)<(inn.length:Int))=true:=zt (by omega)
     have hd4:decide (j<inn.length)=true:=zt hlt
     have hjI:(j:Int)<(inn.length:Int):=by omega
     have hlt2:j+1≤inn.length:=hlt
     rcases hcase with ⟨rfl,he,hno,hcx⟩ | ⟨rfl,hyes⟩
     ·rw [he] at HO HT';obtain ⟨p,hp⟩:∃ p,ks[j]?=some p:=⟨ks[j]'(by rw [← z4i HV.out];exact hlt),zql _⟩
      obtain ⟨qj,gj0⟩:=p;obtain ⟨r,hr,hrv⟩:=z2aj HV.out hp
      obtain ⟨h,t,y,hg,hhi,hy,hyq⟩:=z3h k l i (qj,gj0) (by rw [HKs.out];exact List.mem_of_getElem? hp)
      have hg':gj0=h :: t:=hg
      have hyq':z3p k y=qj:=hyq
      obtain ⟨Ar,nr,cr,er,vr⟩:=r;obtain rfl:er=3:=HT.out _ (List.mem_of_getElem? hr)
      obtain rfl:vr=z0c gj0:=hrv
      have hrow:(z3d Ao co inn :: inn)[j+1]?=some ⟨Ar,nr,cr,3,z0c gj0⟩:=hr
      have hnr:(z0c gj0).length=nr:=z1j (HO.out.row (j+1) hrow)
      rw [z0e] at hnr;have hnr0:0<nr:=by rw [← hnr,hg'];exact Nat.succ_pos _
      have hgl:nr≤100:=by
       have:=(z3m k l i).1 (qj,gj0) (by rw [HKs.out];exact List.mem_of_getElem? hp)
       have h2:gj0.length≤i:=this
       omega
      obtain ⟨gb,hgb,_,_⟩:=z0u (HO.out.row 0 (A:=Ao) (n:=inn.length) (c:=co) (e:=22) (vs:=inn.map Rw.sl) rfl) (by omega)
      obtain rfl:=hgb
      obtain ⟨gj,hgj,_,_⟩:=z0u (HO.out.row (j+1) hrow) hnr0
      obtain rfl:=hgj
      have yl:(inn.map Rw.sl)[j]?=some (.slice (some ⟨gj,0,none⟩) nr cr):=by rw [List.getElem?_map,hr];rfl
      have HYl:=zh yl;have y0:=(HO.out.row 0 (A:=some ⟨gb,0,none⟩) (n:=inn.length) (c:=co) (e:=22) (vs:=inn.map Rw.sl) rfl).cells (g:=gb) rfl j _ yl
      rw [addz] at y0;have HP:Hid ((0:Int)<(nr:Int)∧0<nr∧(h:Int)<(n:Int)∧h<n):=⟨by omega,hnr0,by omega,by omega⟩
      obtain ⟨O,hO⟩:∃ O,z3d (some ⟨gb,0,none⟩) co inn :: inn=O:=⟨_,rfl⟩
      have HOe:=zh hO;have HH:Hid (∀ W,Ow w W none [] [⟨some aL,n*8,n*8,fl l⟩] O→W.cell? ⟨gj,0,none⟩=some (.int .i64 (h:Int))):=fun W ho=>by
       rw [← hO] at ho;have:=(ho.row (j+1) hrow).cells (g:=gj) rfl 0 (.int .i64 (h:Int)) (by rw [hg'];rfl)
       exact this
      have HY:Hid (∀ W,Ow w W none [] [⟨some aL,n*8,n*8,fl l⟩] O→CellsSn W (aL.add (h*8)) y):=fun W ho=>by
       obtain ⟨a',ea,hc⟩:=z5g (ho.sl (i:=0) rfl).2.2.2 hy
       obtain rfl:=zqk ea
       exact hc
      obtain ⟨bo,hbo⟩:∃ b,decide (z3p k y=q)=b:=⟨_,rfl⟩
      have HBo:Hid (decide (qj=q)=bo):=by unfold Hid;rw [← hbo,hyq']
      have HS:=zh (HSm.out y)
      rw [hbo] at HS;obtain ⟨⟨y0',y1',y2',y3',y4',y5'⟩,y6',y7'⟩:=y
      have HPj:=zh hp;have HNo:=hno;have hrowL:=zh hrow;rw [hO] at HO;have HO2:=HO;clear he hlen hno hy hyq hg hhi hr hbo hp hrow HO hO hnr hg' hyq' yl hd hd2 HSm hj;go_upto_region 11 with (fail)
      clear y0 hd3 hd4;refine z1e (GsI w aL n c l k xb gj nr cr h x0 x1 x2 x3 x4 x5 x6 x7 y0' y1' y2' y3' y4' y5' y6' y7' O bo) (by kernel_rfl) (by kernel_rfl) ?_ ?_ ?_
      ·refine ⟨u31,u32,u33,u34,u35,u36,u37,u38,u39,u40,u41,u42,u43,?_,⟨HO2.out.drew,hcx.out,?_,?_,?_,?_,?_,?_,?_,?_,?_,?_,?_,?_,?_⟩⟩
       ·simp only [Act.put,zT,zZ,zS]
       all_goals (intro h;cases h)
      ·rintro jj Ld b W hj hf hcl hd ⟨u0,u1,u2,u3,u4,u5,u6,u7,u8,u9,u10,u11,u12,rfl,hC⟩;have hj':jj<13:=hj
       have hcase:jj=0∨jj=1∨jj=2∨jj=3∨jj=4∨jj=5∨jj=6∨jj=7∨jj=8∨jj=9∨jj=10∨jj=11∨jj=12:=by omega
       clear hj hj';simp only [Act.put,zT,zZ,zS];rcases hcase with rfl | rfl | rfl | rfl | rfl | rfl | rfl | rfl | rfl | rfl | rfl | rfl | rfl
       ·clear hd hcl;refine zw rfl fun K hK=>?_
        go_simp;refine hK _ _ ⟨_,_,_,_,_,_,_,_,_,_,_,_,_,?_,{hC with h0:=fun _=>rfl}⟩;simp only [Act.put,zT,zZ,zS]
       ·obtain rfl:=hC.h0 (hd 0 (by kernel_rfl));clear hd hcl;refine zw rfl fun K hK=>?_
        go_simp;refine hK _ _ ⟨_,_,_,_,_,_,_,_,_,_,_,_,_,?_,{hC with h1:=fun _=>rfl}⟩;simp only [Act.put,zT,zZ,zS]
       ·obtain rfl:=hC.h1 (hd 1 (by kernel_rfl));clear hd hcl;refine zw rfl fun K hK=>?_
        go_simp;refine hK _ _ ⟨_,_,_,_,_,_,_,_,_,_,_,_,_,?_,{hC with h2:=fun _=>rfl}⟩;simp only [Act.put,zT,zZ,zS]
       ·obtain rfl:=hC.h2 (hd 2 (by kernel_rfl));clear hd hcl;refine zw rfl fun K hK=>?_
        go_simp;refine hK _ _ ⟨_,_,_,_,_,_,_,_,_,_,_,_,_,?_,{hC with h3:=fun _=>rfl}⟩;simp only [Act.put,zT,zZ,zS]
       ·obtain rfl:=hC.h2 (hd 2 (by kernel_rfl));clear hd hcl;refine zw rfl fun K hK=>?_
        go_simp;refine hK _ _ ⟨_,_,_,_,_,_,_,_,_,_,_,_,_,?_,{hC with h4:=fun _=>rfl}⟩;simp only [Act.put,zT,zZ,zS]
       ·obtain rfl:=hC.h2 (hd 2 (by kernel_rfl));clear hd hcl;refine zw rfl fun K hK=>?_
        go_simp;refine hK _ _ ⟨_,_,_,_,_,_,_,_,_,_,_,_,_,?_,{hC with h5:=fun _=>rfl}⟩;simp only [Act.put,zT,zZ,zS]
       ·obtain rfl:=hC.h2 (hd 2 (by kernel_rfl));obtain rfl:=hC.h5 (hd 5 (by kernel_rfl));obtain ⟨g1,g2,g3,g4⟩:=HP.out;clear hd hcl;refine zw rfl fun K hK=>?_
        go_simp;refine hK _ _ ⟨_,_,_,_,_,_,_,_,_,_,_,_,_,?_,{hC with h6:=fun _=>rfl}⟩;simp only [Act.put,zT,zZ,zS]
       ·obtain rfl:=hC.h2 (hd 2 (by kernel_rfl));obtain rfl:=hC.h6 (hd 6 (by kernel_rfl));have hh:=HH.out W hC.ow
        clear hd hcl;refine zw rfl fun K hK=>?_
        go_simp;refine hK _ _ ⟨_,_,_,_,_,_,_,_,_,_,_,_,_,?_,{hC with h7:=fun _=>rfl}⟩;simp only [Act.put,zT,zZ,zS]
       ·obtain rfl:=hC.h2 (hd 2 (by kernel_rfl));obtain rfl:=hC.h4 (hd 4 (by kernel_rfl));obtain rfl:=hC.h7 (hd 7 (by kernel_rfl));obtain ⟨g1,g2,g3,g4⟩:=HP.out;clear hd hcl;refine zw rfl fun K hK=>?_
        go_simp;refine hK _ _ ⟨_,_,_,_,_,_,_,_,_,_,_,_,_,?_,{hC with h8:=fun _=>rfl}⟩;simp only [Act.put,zT,zZ,zS]
       ·obtain rfl:=hC.h2 (hd 2 (by kernel_rfl));obtain rfl:=hC.h8 (hd 8 (by kernel_rfl));obtain ⟨e0,e1,e2,e3,e4,e5,e6,e7⟩:=HY.out W hC.ow
        clear hd hcl;refine zw rfl fun K hK=>?_
        go_simp;refine hK _ _ ⟨_,_,_,_,_,_,_,_,_,_,_,_,_,?_,{hC with h9:=fun _=>rfl}⟩;simp only [Act.put,zT,zZ,zS]
       ·obtain rfl:=hC.h2 (hd 2 (by kernel_rfl));obtain ⟨e0,e1,e2,e3,e4,e5,e6,e7⟩:=hC.cx;clear hd hcl;refine zw rfl fun K hK=>?_
        go_simp;refine hK _ _ ⟨_,_,_,_,_,_,_,_,_,_,_,_,_,?_,{hC with h10:=fun _=>rfl}⟩;simp only [Act.put,zT,zZ,zS]
       ·obtain rfl:=hC.h2 (hd 2 (by kernel_rfl));obtain rfl:=hC.h3 (hd 3 (by kernel_rfl));obtain rfl:=hC.h9 (hd 9 (by kernel_rfl));obtain rfl:=hC.h10 (hd 10 (by kernel_rfl));have HAt:=HS.out W
        clear hd hcl;refine zw rfl fun K hK=>?_
        go_simp;refine (HAt).mono ?_
        rintro e W' ⟨rfl,hb⟩;refine hK _ _ ⟨_,_,_,_,_,_,_,_,_,_,_,_,_,?_,{hC with ow:=hC.ow.go hb,cx:=hC.cx.go hb hC.cx.lt,h11:=fun _=>rfl}⟩;simp only [Act.put,zT,zZ,zS]
       ·obtain rfl:=hC.h2 (hd 2 (by kernel_rfl));obtain rfl:=hC.h11 (hd 11 (by kernel_rfl));clear hd hcl;refine zw rfl fun K hK=>?_
        go_simp;refine hK _ _ ⟨_,_,_,_,_,_,_,_,_,_,_,_,_,?_,{hC with h12:=fun _=>rfl}⟩;simp only [Act.put,zT,zZ,zS]
      ·rintro Ld b W hL ⟨u0,u1,u2,u3,u4,u5,u6,u7,u8,u9,u10,u11,u12,rfl,hC⟩;obtain rfl:=hC.h12 (hL 12 (by show 12<13;decide))
       have HW:=zh hC.ow;have HCw:=zh hC.cx;clear hC HO2 hcx HS;simp only [Act.put,zT,zZ,zS];cases bo with
       | false=>
        go_wp2_with fail;go_roundw
        case rel=>exact ⟨j+1,inn,hlt2,by go_num,rfl,by rw [HOe.out];exact HW,HT,.inl ⟨rfl,rfl,fun p r hp hr=>by
         rcases zqi p j with h1 | h1
         ·exact HNo.out p r h1 hr
         ·obtain rfl:p=j:=by omega
          rw [HPj.out] at hr;rw [← zqk hr];exact of_decide_eq_false HBo.out,HCw⟩⟩
        case measure=>simp [intOf];omega
       | true=>
        have HW2:Hid (Ow w W none [] [⟨some aL,n*8,n*8,fl l⟩] (z3d (some ⟨gb,0,none⟩) co inn :: inn)):=by rw [HOe.out];exact HW
        clear HW HCw;go_wp2_with (at_builtin;refine z2m z5f HW2.out (j+1) (.tmp 46) (.tmp 48) _ _ hrowL.out rfl (by unfold maxLen;omega) (by omega) rfl rfl rfl rfl ?_;intro A4 c4 w4 how;simp only [zqe] at how;have z0:=(how.row 0 (A:=some ⟨gb,0,none⟩) (n:=inn.length) (c:=co) (e:=22) (vs:=inn.map Rw.sl) rfl).cells (g:=gb) rfl j _ HYl.out;rw [addz] at z0;have zf:=(how.row 0 (A:=some ⟨gb,0,none⟩) (n:=inn.length) (c:=co) (e:=22) (vs:=inn.map Rw.sl) rfl).frozenAt j)
        have HF:Hid (Ow w (w4.setCell ⟨gb,j,none⟩ (.slice A4 (nr+1) c4)) none [] [⟨some aL,n*8,n*8,fl l⟩] (z3d (some ⟨gb,0,none⟩) co (inn.set j ⟨A4,nr+1,c4,3,z0c (gj0++[i])⟩) :: inn.set j ⟨A4,nr+1,c4,3,z0c (gj0++[i])⟩)):=by
         have:=how.put 0 (gb:=gb) (n:=inn.length) (c:=co) (e:=22) (vs:=inn.map Rw.sl) rfl j (.slice A4 (nr+1) c4)
         simp only [zqd] at this;rw [z7a] at this;unfold Hid z3d;rw [List.length_set,List.map_set];exact this
        have HVn:Hid ((inn.set j ⟨A4,nr+1,c4,3,z0c (gj0++[i])⟩).map (·.vs)=(ad ks q i).map (fun p=>z0c p.2)):=by
         have e:=of_decide_eq_true HBo.out
         have hp:=HPj.out;rw [e] at hp;unfold Hid;rw [z2ax ks q i j gj0 (by rw [← HKs.out];exact z2o k l i) hp]
         exact z6ay HV.out j _ _ _ rfl
        clear how z0 zf HW2;go_roundw
        case rel=>exact ⟨j+1,inn.set j ⟨A4,nr+1,c4,3,z0c (gj0++[i])⟩,hlt2,by go_num,by rw [List.length_set],HF,fun r hr=>z0ae HT.out rfl r hr,.inr ⟨rfl,HVn⟩⟩
        case measure=>simp [intOf];omega
     ·have hlt':j<inn'.length:=by rw [hlen];exact hlt
      obtain ⟨r,hr⟩:∃ r,inn'[j]?=some r:=⟨inn'[j]'hlt',zql _⟩
      obtain ⟨gb,hgb,_,_⟩:=z0u (HO.out.row 0 (A:=Ao) (n:=inn'.length) (c:=co) (e:=22) (vs:=inn'.map Rw.sl) rfl) (by omega)
      obtain rfl:=hgb
      obtain ⟨Ar,nr,cr,er,vr⟩:=r;have yl:(inn'.map Rw.sl)[j]?=some (.slice Ar nr cr):=by rw [List.getElem?_map,hr];rfl
      have y0:=(HO.out.row 0 (A:=some ⟨gb,0,none⟩) (n:=inn'.length) (c:=co) (e:=22) (vs:=inn'.map Rw.sl) rfl).cells (g:=gb) rfl j _ yl
      rw [addz] at y0;obtain ⟨O,hO⟩:∃ O,z3d (some ⟨gb,0,none⟩) co inn' :: inn'=O:=⟨_,rfl⟩
      have HOe:=zh hO;rw [hO] at HO;have HO2:=HO;have HYe:=hyes;have HLn:=zh hlen;clear HO hO hr yl hyes hlt' hd hd2 HSm hj hlen;go_upto_region 11 with (fail)
      clear y0 hd3 hd4;refine z1e (GtI w aL n c l k xb 0 0 0 0 x0 x1 x2 x3 x4 x5 x6 x7 0 0 0 0 0 0 0 0 O false) (by kernel_rfl) (by kernel_rfl) ?_ ?_ ?_
      ·refine ⟨u31,u32,u33,u34,u35,u36,u37,u38,u39,u40,u41,u42,u43,?_,⟨HO2.out.drew,?_,?_,?_,?_,?_,?_,?_,?_,?_,?_,?_,?_,?_⟩⟩
       ·simp only [Act.put,zT,zZ,zS]
       all_goals (intro h;cases h)
      ·rintro jj Ld b W hj hf hcl hd ⟨u0,u1,u2,u3,u4,u5,u6,u7,u8,u9,u10,u11,u12,rfl,hC⟩;have hj':jj<13:=hj
       have hcase:jj=0∨jj=1∨jj=2∨jj=3∨jj=4∨jj=5∨jj=6∨jj=7∨jj=8∨jj=9∨jj=10∨jj=11∨jj=12:=by omega
       clear hj hj';simp only [Act.put,zT,zZ,zS];rcases hcase with rfl | rfl | rfl | rfl | rfl | rfl | rfl | rfl | rfl | rfl | rfl | rfl | rfl
       ·clear hd hcl;refine zw rfl fun K hK=>?_
        go_simp;refine hK _ _ ⟨_,u1,u2,u3,u4,u5,u6,u7,u8,u9,u10,u11,u12,?_,{hC with h0:=fun _=>rfl}⟩;simp only [Act.put,zT,zZ,zS]
       ·obtain rfl:=hC.h0 (hd 0 (by kernel_rfl));clear hd hcl;refine zw rfl fun K hK=>?_
        go_simp;refine hK _ _ ⟨_,_,u2,u3,u4,u5,u6,u7,u8,u9,u10,u11,u12,?_,{hC with h1:=fun _=>rfl}⟩;simp only [Act.put,zT,zZ,zS]
       ·obtain rfl:=hC.h1 (hd 1 (by kernel_rfl));clear hd hcl;refine zw rfl fun K hK=>?_
        go_simp;refine hK _ _ ⟨u0,_,_,u3,u4,u5,u6,u7,u8,u9,u10,u11,u12,?_,{hC with h2:=fun _=>rfl}⟩;simp only [Act.put,zT,zZ,zS]
       ·obtain rfl:=hC.h2 (hd 2 (by kernel_rfl));clear hd hcl;refine zw rfl fun K hK=>?_
        go_simp;refine hK _ _ ⟨u0,u1,_,undef,u4,u5,u6,u7,u8,u9,u10,u11,u12,?_,⟨hC.ow,hC.h0,hC.h1,hC.h2,fun _=>trivial,hC.h4,hC.h5,hC.h6,hC.h7,hC.h8,hC.h9,hC.h10,hC.h11,hC.h12⟩⟩;simp only [Act.put,zT,zZ,zS]
       ·obtain rfl:=hC.h2 (hd 2 (by kernel_rfl));clear hd hcl;refine zw rfl fun K hK=>?_
        go_simp;refine hK _ _ ⟨u0,u1,_,u3,undef,u5,u6,u7,u8,u9,u10,u11,u12,?_,⟨hC.ow,hC.h0,hC.h1,hC.h2,hC.h3,fun _=>trivial,hC.h5,hC.h6,hC.h7,hC.h8,hC.h9,hC.h10,hC.h11,hC.h12⟩⟩;simp only [Act.put,zT,zZ,zS]
       ·obtain rfl:=hC.h2 (hd 2 (by kernel_rfl));clear hd hcl;refine zw rfl fun K hK=>?_
        go_simp;refine hK _ _ ⟨u0,u1,_,u3,u4,undef,u6,u7,u8,u9,u10,u11,u12,?_,⟨hC.ow,hC.h0,hC.h1,hC.h2,hC.h3,hC.h4,fun _=>trivial,hC.h6,hC.h7,hC.h8,hC.h9,hC.h10,hC.h11,hC.h12⟩⟩;simp only [Act.put,zT,zZ,zS]
       ·obtain rfl:=hC.h2 (hd 2 (by kernel_rfl));clear hd hcl;refine zw rfl fun K hK=>?_
        go_simp;refine hK _ _ ⟨u0,u1,_,u3,u4,u5,undef,u7,u8,u9,u10,u11,u12,?_,⟨hC.ow,hC.h0,hC.h1,hC.h2,hC.h3,hC.h4,hC.h5,fun _=>trivial,hC.h7,hC.h8,hC.h9,hC.h10,hC.h11,hC.h12⟩⟩;simp only [Act.put,zT,zZ,zS]
       ·obtain rfl:=hC.h2 (hd 2 (by kernel_rfl));clear hd hcl;refine zw rfl fun K hK=>?_
        go_simp;refine hK _ _ ⟨u0,u1,_,u3,u4,u5,u6,undef,u8,u9,u10,u11,u12,?_,⟨hC.ow,hC.h0,hC.h1,hC.h2,hC.h3,hC.h4,hC.h5,hC.h6,fun _=>trivial,hC.h8,hC.h9,hC.h10,hC.h11,hC.h12⟩⟩;simp only [Act.put,zT,zZ,zS]
       ·obtain rfl:=hC.h2 (hd 2 (by kernel_rfl));clear hd hcl;refine zw rfl fun K hK=>?_
        go_simp;refine hK _ _ ⟨u0,u1,_,u3,u4,u5,u6,u7,undef,u9,u10,u11,u12,?_,⟨hC.ow,hC.h0,hC.h1,hC.h2,hC.h3,hC.h4,hC.h5,hC.h6,hC.h7,fun _=>trivial,hC.h9,hC.h10,hC.h11,hC.h12⟩⟩;simp only [Act.put,zT,zZ,zS]
       ·obtain rfl:=hC.h2 (hd 2 (by kernel_rfl));clear hd hcl;refine zw rfl fun K hK=>?_
        go_simp;refine hK _ _ ⟨u0,u1,_,u3,u4,u5,u6,u7,u8,undef,u10,u11,u12,?_,⟨hC.ow,hC.h0,hC.h1,hC.h2,hC.h3,hC.h4,hC.h5,hC.h6,hC.h7,hC.h8,fun _=>trivial,hC.h10,hC.h11,hC.h12⟩⟩;simp only [Act.put,zT,zZ,zS]
       ·obtain rfl:=hC.h2 (hd 2 (by kernel_rfl));clear hd hcl;refine zw rfl fun K hK=>?_
        go_simp;refine hK _ _ ⟨u0,u1,_,u3,u4,u5,u6,u7,u8,u9,undef,u11,u12,?_,⟨hC.ow,hC.h0,hC.h1,hC.h2,hC.h3,hC.h4,hC.h5,hC.h6,hC.h7,hC.h8,hC.h9,fun _=>trivial,hC.h11,hC.h12⟩⟩;simp only [Act.put,zT,zZ,zS]
       ·obtain rfl:=hC.h2 (hd 2 (by kernel_rfl));clear hd hcl;refine zw rfl fun K hK=>?_
        go_simp;refine hK _ _ ⟨u0,u1,_,u3,u4,u5,u6,u7,u8,u9,u10,undef,u12,?_,⟨hC.ow,hC.h0,hC.h1,hC.h2,hC.h3,hC.h4,hC.h5,hC.h6,hC.h7,hC.h8,hC.h9,hC.h10,fun _=>trivial,hC.h12⟩⟩;simp only [Act.put,zT,zZ,zS]
       ·obtain rfl:=hC.h2 (hd 2 (by kernel_rfl));clear hd hcl;refine zw rfl fun K hK=>?_
        go_simp;refine hK _ _ ⟨u0,u1,_,u3,u4,u5,u6,u7,u8,u9,u10,u11,_,?_,{hC with h12:=fun _=>rfl}⟩;simp only [Act.put,zT,zZ,zS]
      ·rintro Ld b W hL ⟨u0,u1,u2,u3,u4,u5,u6,u7,u8,u9,u10,u11,u12,rfl,hC⟩;obtain rfl:=hC.h12 (hL 12 (by show 12<13;decide))
       have HW:=zh hC.ow;clear hC HO2;simp only [Act.put,zT,zZ,zS];go_wp2_with fail;go_roundw
       case rel=>exact ⟨j+1,inn',hlt2,by go_num,HLn.out,by rw [HOe.out];exact HW,HT',.inr ⟨rfl,HYe⟩⟩
       case measure=>simp [intOf];omega
theorem z4au (k:Int)(hk:kd k)(A:Option Addr)(c:Nat)(w:World):
  Calls Tryz.prog 30 #[.int .i64 k,.slice A 0 c] w (GrR w []):=by
 have HK:Hid (decide (k<(1:Int))=false∧decide ((6:Int)<k)=false):=⟨zn (by have:=hk.1;omega),zn (by have:=hk.2;omega)⟩
 have H1:=(Ow.of (St.refl w)).nil 22
 simp only [zqc] at H1;have HO:=zh H1;obtain ⟨hk1,hk2⟩:=HK.out;clear hk H1;go_enter Tryz.func30,Tryz.ntmps30
 go_wp2_with fail;clear hk1 hk2;go_loopw [5,19] (fun y x wr=>y=.slice none 0 0∧x=.int .i64 0∧w=wr) (fun _ x _=>0)
 case atStart=>exact ⟨rfl,rfl,rfl⟩
 case round=>
  obtain ⟨rfl,rfl,rfl⟩:=hrel;go_wp2_with fail;go_ret;exact ⟨none,0,[],rfl,rfl,fun r hr=>(by cases hr),HO.out⟩
theorem z2by (k:Int)(hk:kd k)(A:Option Addr)(n c:Nat)(l:List Sn)(w:World)(hn:l.length=n)(hn2:n≤100)(hs:Sl w w.heap.size A (fl l)):
  Calls Tryz.prog 30 #[.int .i64 k,.slice A n c] w (GrR w (z3i k l n)):=by
 cases n with
 | zero=>exact z4au k hk A c w
 | succ n=>
  obtain ⟨ad,e,_,_⟩:=hs (by rw [z6f];omega)
  subst e
  exact z4at k hk ad (n+1) c l w hn hn2 hs
def z5q (gs:List (Sp×List Nat)):Nat→List Nat
 | 0=>[]
 | i+1=>match gs[i]? with
  | some p=>if (z5q gs i).length<p.2.length then p.2 else z5q gs i
  | none=>z5q gs i
theorem z6o {gs:List (Sp×List Nat)}{m:Nat}(h:∀ p∈gs,p.2.length≤m):∀ i,(z5q gs i).length≤m
 | 0=>zqr _
 | i+1=>by
  have ih:=z6o h i
  show ((match gs[i]? with | some p=>if (z5q gs i).length<p.2.length then p.2 else z5q gs i | none=>z5q gs i):List Nat).length≤m
  split
  ·next p hp=>
   split
   ·exact h p (List.mem_of_getElem? hp)
   ·exact ih
  ·exact ih
def z6e (k:Int)(l:List Sn):List Nat:=z5q (z3i k l l.length) (z3i k l l.length).length
def LgR (w:World)(g:List Nat)(en:Ending)(w':World):Prop:=
 ∃ (A:Option Addr) (n c:Nat),en=.returned (.slice A n c)∧g.length=n∧w'.ownsRow w.heap.size 3 1 (.slice A n c) n (z0c g)∧Below w.heap.size w w'
def RLg (gs:List (Sp×List Nat))(w1:World)(inn:List Rw)(y x:Value)(wr:World):Prop:=
 ∃ (i:Nat) (A:Option Addr) (n c:Nat),i≤inn.length∧x=.int .i64 (i:Int)∧y=.slice A n c∧w1=wr∧Hid ((z5q gs i).length=n)∧Hid ((A=none∧n=0∧c=0)∨∃ r∈inn,r.A=A∧r.n=n∧r.c=c∧r.vs=z0c (z5q gs i))
theorem z9ag (k:Int)(hk:kd k)(A:Option Addr)(n c:Nat)(l:List Sn)(w:World)(hn:l.length=n)(hn2:n≤100)(hs:Sl w w.heap.size A (fl l)):
  Calls Tryz.prog 62 #[.int .i64 k,.slice A n c] w (LgR w (z6e k l)):=by
 have HC:=zh (z5as k hk A n c l w hn hn2 hs)
 have HL:=zh (z3m k l n)
 unfold z6e;rw [hn];obtain ⟨gs,hgs⟩:∃ z,z3i k l n=z:=⟨_,rfl⟩
 rw [hgs] at HC HL ⊢
 clear hs hn hgs hk;go_enter Tryz.func62,Tryz.ntmps62
 go_wp2_with fail;refine HC.out.mono ?_;rintro e w1 ⟨Ao,co,inn,rfl,hV,hT,hO⟩;have HV:=zh hV;have HT:=zh hT;have HO:=zh hO;have HIL:Hid (inn.length=gs.length):=z4i hV
 have hgl:inn.length≤100:=by have:=HL.out.2;have:=HIL.out;omega
 clear HC hV hT hO;go_wp2_with fail;go_loopw [5,12] (fun y x wr=>RLg gs w1 inn y x wr) (fun _ x _=>inn.length+1 - (intOf x).toNat)
 case atStart=>exact ⟨0,none,0,0,zqr _,rfl,rfl,rfl,rfl,.inl ⟨rfl,rfl,rfl⟩⟩
 case round=>
  obtain ⟨i,A,nb,cb,hi,rfl,rfl,rfl,HN,HB⟩:=hrel;rcases Nat.eq_or_lt_of_le hi with heq | hlt
  ·have hd:decide ((i:Int)<(inn.length:Int))=false:=zn (by omega)
   have hd2:decide (i<inn.length)=false:=zn (by omega)
   have HQ:Hid (i=gs.length):=by unfold Hid;rw [heq];exact HIL.out
   clear heq hi;go_wp2_with fail;go_ret;refine ⟨A,nb,cb,rfl,by rw [← HQ.out];exact HN.out,?_,HO.out.below⟩
   rw [← HQ.out];rcases HB.out with ⟨rfl,rfl,rfl⟩ | ⟨r,hr,rfl,rfl,rfl,hv⟩
   ·rw [List.length_eq_zero_iff.1 HN.out];exact World.ownsRow_nil _ _ _ _
   ·obtain ⟨j,hj⟩:=List.getElem?_of_mem hr
    have:=HO.out.own (j+1) r hj
    rw [HT.out r hr,hv] at this;exact this
  ·have hd:decide ((i:Int)<(inn.length:Int))=true:=zt (by omega)
   have hd2:decide (i<inn.length)=true:=zt (by omega)
   have hiI:(i:Int)<(inn.length:Int):=by omega
   have hi2:i+1≤inn.length:=hlt
   obtain ⟨p,hp⟩:∃ p,gs[i]?=some p:=⟨gs[i]'(by rw [← HIL.out];exact hlt),zql _⟩
   obtain ⟨q,g⟩:=p;obtain ⟨r,hr,hrv⟩:=z2aj HV.out hp
   obtain ⟨Ar,nr,cr,er,vr⟩:=r;obtain rfl:er=3:=HT.out _ (List.mem_of_getElem? hr)
   obtain rfl:vr=z0c g:=hrv
   have hrow:(z3d Ao co inn :: inn)[i+1]?=some ⟨Ar,nr,cr,3,z0c g⟩:=hr
   have hnr:(z0c g).length=nr:=z1j (HO.out.row (i+1) hrow)
   rw [z0e] at hnr;have hgl2:nr≤100:=by
    have h1:=HL.out.1 (q,g) (List.mem_of_getElem? hp)
    have h2:g.length≤n:=h1
    omega
   have hnb:nb≤100:=by
    have h1:=z6o HL.out.1 i
    rw [HN.out] at h1;omega
   obtain ⟨gb,hgb,_,_⟩:=z0u (HO.out.row 0 (A:=Ao) (n:=inn.length) (c:=co) (e:=22) (vs:=inn.map Rw.sl) rfl) (by omega)
   have HGb:=zh hgb;have y0:w1.cell? ⟨gb,i,none⟩=some (.slice Ar nr cr):=by
    have hO:=HO.out;rw [hgb] at hO;have:=(hO.row 0 (A:=some ⟨gb,0,none⟩) (n:=inn.length) (c:=co) (e:=22) (vs:=inn.map Rw.sl) rfl).cells (g:=gb) rfl i (.slice Ar nr cr) (by rw [List.getElem?_map,hr];rfl)
    rwa [addz] at this
   have HE:Hid (z5q gs (i+1)=if (z5q gs i).length<g.length then g else z5q gs i):=by
    show (match gs[i]? with | some p=>_ | none=>_)=_
    rw [hp]
   have HR:=zh (List.mem_of_getElem? hr)
   have HNr:=zh hnr;rw [hgb];rcases zqi nb nr with hgt | hle
   ·have hc:decide ((nb:Int)<(nr:Int))=true:=zt (by omega)
    have hc2:decide (nb<nr)=true:=zt hgt
    have HE2:Hid (z5q gs (i+1)=g):=by unfold Hid;rw [HE.out,if_pos (by rw [HN.out,HNr.out];exact hgt)]
    clear hgt hp hr hrow hnr hlt hi hgb;go_wp2_with fail;go_roundw
    case rel=>exact ⟨i+1,Ar,nr,cr,hi2,by go_num,rfl,rfl,by rw [HE2.out];exact HNr.out,by unfold Hid;rw [HE2.out];exact .inr ⟨_,HR.out,rfl,rfl,rfl,rfl⟩⟩
    case measure=>simp [intOf];omega
   ·have hc:decide ((nb:Int)<(nr:Int))=false:=zn (by omega)
    have hc2:decide (nb<nr)=false:=zn (by omega)
    have HE2:Hid (z5q gs (i+1)=z5q gs i):=by unfold Hid;rw [HE.out,if_neg (by rw [HN.out,HNr.out];omega)]
    clear hle hp hr hrow hnr hlt hi hgb;go_wp2_with fail;go_roundw
    case rel=>exact ⟨i+1,A,nb,cb,hi2,by go_num,rfl,rfl,by rw [HE2.out];exact HN,by unfold Hid;rw [HE2.out];exact HB.out⟩
    case measure=>simp [intOf];omega
theorem z8at (k:Int)(hk:kd k)(A:Option Addr)(n c:Nat)(l:List Sn)(w:World)(hn:l.length=n)(hn2:n≤100)(hs:Sl w w.heap.size A (fl l)):
  Calls Tryz.prog 20 #[.int .i64 k,.slice A n c] w (LgR w (z6e k l)):=by
 have HC:=zh (z2by k hk A n c l w hn hn2 hs)
 have HL:=zh (z3m k l n)
 unfold z6e;rw [hn];obtain ⟨gs,hgs⟩:∃ z,z3i k l n=z:=⟨_,rfl⟩
 rw [hgs] at HC HL ⊢
 clear hs hn hgs hk;go_enter Tryz.func20,Tryz.ntmps20
 go_wp2_with fail;refine HC.out.mono ?_;rintro e w1 ⟨Ao,co,inn,rfl,hV,hT,hO⟩;have HV:=zh hV;have HT:=zh hT;have HO:=zh hO;have HIL:Hid (inn.length=gs.length):=z4i hV
 have hgl:inn.length≤100:=by have:=HL.out.2;have:=HIL.out;omega
 clear HC hV hT hO;go_wp2_with fail;go_loopw [5,12] (fun y x wr=>RLg gs w1 inn y x wr) (fun _ x _=>inn.length+1 - (intOf x).toNat)
 case atStart=>exact ⟨0,none,0,0,zqr _,rfl,rfl,rfl,rfl,.inl ⟨rfl,rfl,rfl⟩⟩
 case round=>
  obtain ⟨i,A,nb,cb,hi,rfl,rfl,rfl,HN,HB⟩:=hrel;rcases Nat.eq_or_lt_of_le hi with heq | hlt
  ·have hd:decide ((i:Int)<(inn.length:Int))=false:=zn (by omega)
   have hd2:decide (i<inn.length)=false:=zn (by omega)
   have HQ:Hid (i=gs.length):=by unfold Hid;rw [heq];exact HIL.out
   clear heq hi;go_wp2_with fail;go_ret;refine ⟨A,nb,cb,rfl,by rw [← HQ.out];exact HN.out,?_,HO.out.below⟩
   rw [← HQ.out];rcases HB.out with ⟨rfl,rfl,rfl⟩ | ⟨r,hr,rfl,rfl,rfl,hv⟩
   ·rw [List.length_eq_zero_iff.1 HN.out];exact World.ownsRow_nil _ _ _ _
   ·obtain ⟨j,hj⟩:=List.getElem?_of_mem hr
    have:=HO.out.own (j+1) r hj
    rw [HT.out r hr,hv] at this;exact this
  ·have hd:decide ((i:Int)<(inn.length:Int))=true:=zt (by omega)
   have hd2:decide (i<inn.length)=true:=zt (by omega)
   have hiI:(i:Int)<(inn.length:Int):=by omega
   have hi2:i+1≤inn.length:=hlt
   obtain ⟨p,hp⟩:∃ p,gs[i]?=some p:=⟨gs[i]'(by rw [← HIL.out];exact hlt),zql _⟩
   obtain ⟨q,g⟩:=p;obtain ⟨r,hr,hrv⟩:=z2aj HV.out hp
   obtain ⟨Ar,nr,cr,er,vr⟩:=r;obtain rfl:er=3:=HT.out _ (List.mem_of_getElem? hr)
   obtain rfl:vr=z0c g:=hrv
   have hrow:(z3d Ao co inn :: inn)[i+1]?=some ⟨Ar,nr,cr,3,z0c g⟩:=hr
   have hnr:(z0c g).length=nr:=z1j (HO.out.row (i+1) hrow)
   rw [z0e] at hnr;have hgl2:nr≤100:=by
    have h1:=HL.out.1 (q,g) (List.mem_of_getElem? hp)
    have h2:g.length≤n:=h1
    omega
   have hnb:nb≤100:=by
    have h1:=z6o HL.out.1 i
    rw [HN.out] at h1;omega
   obtain ⟨gb,hgb,_,_⟩:=z0u (HO.out.row 0 (A:=Ao) (n:=inn.length) (c:=co) (e:=22) (vs:=inn.map Rw.sl) rfl) (by omega)
   have HGb:=zh hgb;have y0:w1.cell? ⟨gb,i,none⟩=some (.slice Ar nr cr):=by
    have hO:=HO.out;rw [hgb] at hO;have:=(hO.row 0 (A:=some ⟨gb,0,none⟩) (n:=inn.length) (c:=co) (e:=22) (vs:=inn.map Rw.sl) rfl).cells (g:=gb) rfl i (.slice Ar nr cr) (by rw [List.getElem?_map,hr];rfl)
    rwa [addz] at this
   have HE:Hid (z5q gs (i+1)=if (z5q gs i).length<g.length then g else z5q gs i):=by
    show (match gs[i]? with | some p=>_ | none=>_)=_
    rw [hp]
   have HR:=zh (List.mem_of_getElem? hr)
   have HNr:=zh hnr;rw [hgb];rcases zqi nb nr with hgt | hle
   ·have hc:decide ((nb:Int)<(nr:Int))=true:=zt (by omega)
    have hc2:decide (nb<nr)=true:=zt hgt
    have HE2:Hid (z5q gs (i+1)=g):=by unfold Hid;rw [HE.out,if_pos (by rw [HN.out,HNr.out];exact hgt)]
    clear hgt hp hr hrow hnr hlt hi hgb;go_wp2_with fail;go_roundw
    case rel=>exact ⟨i+1,Ar,nr,cr,hi2,by go_num,rfl,rfl,by rw [HE2.out];exact HNr.out,by unfold Hid;rw [HE2.out];exact .inr ⟨_,HR.out,rfl,rfl,rfl,rfl⟩⟩
    case measure=>simp [intOf];omega
   ·have hc:decide ((nb:Int)<(nr:Int))=false:=zn (by omega)
    have hc2:decide (nb<nr)=false:=zn (by omega)
    have HE2:Hid (z5q gs (i+1)=z5q gs i):=by unfold Hid;rw [HE.out,if_neg (by rw [HN.out,HNr.out];omega)]
    clear hle hp hr hrow hnr hlt hi hgb;go_wp2_with fail;go_roundw
    case rel=>exact ⟨i+1,A,nb,cb,hi2,by go_num,rfl,rfl,by rw [HE2.out];exact HN,by unfold Hid;rw [HE2.out];exact HB.out⟩
    case measure=>simp [intOf];omega
open Go.RowKit
namespace De
set_option maxHeartbeats 4000000
def pv (l:List UInt8):Nat:=l.foldl (fun a c=>10*a+(c.toNat - 48)) 0
end De
end Go.Proofs.YtpmofjomadibmaaGreatDoor
