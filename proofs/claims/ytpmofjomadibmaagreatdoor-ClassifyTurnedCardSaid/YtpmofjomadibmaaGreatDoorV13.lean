/- Xp Xg Xh Xi NPar NPow Num Qmd NatV -/
import Derived.Test.YtpmofjomadibmaaGreatDoorV12
namespace Go.Proofs.YtpmofjomadibmaaGreatDoor
set_option maxHeartbeats 4000000
open Go.RowKit Go.Sort
open Go.ChangeMaps (setBlock heap_setBlock_same heap_setBlock_other)
set_option linter.unusedVariables false
set_option maxRecDepth 100000
open Cl
namespace Cl
set_option maxHeartbeats 4000000
def chk (s:Pl)(p q:List Int)(l:List Sn):Int:=
 if decide (shV s) && rv p q && z4n s l then (if decide (40<l.length) || decide (20<p.length) || decide (20<q.length) then 3 else 0) else 1
theorem z8bg {s:Pl}{p q:List Int}{l:List Sn}(h:decide (shV s)=false):chk s p q l=1:=by unfold chk;rw [h];rfl
theorem z8bh {s:Pl}{p q:List Int}{l:List Sn}(h:rv p q=false):chk s p q l=1:=by unfold chk;rw [h,Bool.and_false];rfl
theorem z8bi {s:Pl}{p q:List Int}{l:List Sn}(h:z4n s l=false):chk s p q l=1:=by unfold chk;rw [h,Bool.and_false];rfl
theorem z1ae {s:Pl}{p q:List Int}{l:List Sn}(h:decide (shV s)=true)(h2:rv p q=true)(h3:z4n s l=true):chk s p q l=if decide (40<l.length) || decide (20<p.length) || decide (20<q.length) then 3 else 0:=by unfold chk;rw [h,h2,h3];rfl
theorem CellsPl.of {w:World}{b:Nat}{s:Pl}{w0:World}{g:Option Nat}{M:List (Nat×Value)}{L:List Ob}{O:List Rw}(h:Ow w0 w g M L O)(i:Nat){T:TypeId}(hi:O[i]?=some ⟨some ⟨b,0,none⟩,6,6,T,s.vs.toList⟩):CellsPl w b s:=
 ⟨(h.row i hi).cellAt 0 (by decide),(h.row i hi).cellAt 1 (by decide),(h.row i hi).cellAt 2 (by decide),(h.row i hi).cellAt 3 (by decide),(h.row i hi).cellAt 4 (by decide),(h.row i hi).cellAt 5 (by decide)⟩
end Cl
theorem z1ad {n:Nat}{k:Nat}:decide ((k:Int)<(n:Int))=decide (k<n):=by rw [decide_eq_decide];omega
theorem z1bp {w0 w:World}{g:Option Nat}{M:List (Nat×Value)}{L:List Ob}{O:List Rw}{A A2 A3:Option Addr}{n c m c2 n3 c3 e3:Nat}{p q:List Int}{l:List Sn}(s:Pl)(h:Ow w0 w g M L O)(i j k:Nat)(hi:L[i]?=some ⟨A,n,c,z0t p⟩)(hj:L[j]?=some ⟨A2,m,c2,z0t q⟩)(hk:L[k]?=some ⟨A3,n3*8,e3,fl l⟩)(ht:Tab w0):
  Calls Tryz.prog 33 #[.agg s.vs,.agg #[.slice A n c,.slice A2 m c2],.slice A3 n3 c3] w fun e w'=>e=.returned (.int .i64 (chk s p q l))∧Ow w0 w' g M L O:=by
 have H0:=(h.arr s.vs 6 rfl (by omega) 33).pair (.slice A n c) (.slice A2 m c2) 27
 simp only [World.size_alloc,zqa,zqb,zqc] at H0;have HV:=zh (fun W=>z4l s W)
 have HLn:l.length=n3∧n3≤125:=by
  have:=h.sl hk
  have a:=this.1;have b:=this.2.1;rw [z3f] at a;omega
 have HPn:p.length=n:=(h.raw hi).1
 have HQn:q.length=m:=(h.raw hj).1
 obtain ⟨res,hres⟩:∃ r,chk s p q l=r:=⟨_,rfl⟩
 have HR:=zh hres;rw [hres];have HX:=CellsPl.of H0 (O.length+0) (zk rfl)
 obtain ⟨so,ch,ra,ba,ro,co⟩:=s;unfold Pl.vs at *
 obtain ⟨a0,a1,a2,a3,a4,a5⟩:=HX;simp only at a0 a1 a2 a3 a4 a5
 clear hres;go_enter Tryz.func33,Tryz.ntmps33
 go_wp2_with fail;refine (HV.out _).mono ?_
 rintro e w1 ⟨rfl,hb⟩;have H1:=H0.go hb
 clear a0 a1 a2 a3 a4 a5 hb H0 HV;cases hv:decide (shV ⟨so,ch,ra,ba,ro,co⟩) with
 | false=>
  have HF:Hid (res=1):=by unfold Hid;rw [← HR.out];exact z8bg hv
  have HE:=zh H1.fewO;clear hv H1;go_wp2_with fail;go_ret;exact ⟨by rw [HF.out];rfl,HE.out⟩
 | true=>
 have HSv:=zh hv;clear hv;have a0:=H1.p0 (O.length+1) (zk rfl)
 have a1:=H1.p1 (O.length+1) (zk rfl)
 have HC:=zh (z1aq H1 i j hi hj ht)
 go_wp2_with fail;refine HC.out.mono ?_;rintro e w2 ⟨rfl,hb⟩;have H2:=H1.go hb
 clear a0 a1 hb H1 HC;cases hv:rv p q with
 | false=>
  have HF:Hid (res=1):=by unfold Hid;rw [← HR.out];exact z8bh hv
  have HE:=zh H2.fewO;clear hv H2;go_wp2_with fail;go_ret;exact ⟨by rw [HF.out];rfl,HE.out⟩
 | true=>
 have HQv:=zh hv;clear hv;have HC:=zh (z9r ⟨so,ch,ra,ba,ro,co⟩ _ A3 n3 c3 l w2 HLn.1 HLn.2 (H2.sl hk).2.2.2 (CellsPl.of (s:=⟨so,ch,ra,ba,ro,co⟩) H2 (O.length+0) (zk rfl)) (H2.lt (i:=O.length+0) (zk rfl) rfl).1)
 go_wp2_with fail;refine HC.out.mono ?_;rintro e w3 ⟨rfl,hb⟩;have H3:=H2.go hb
 clear hb H2 HC;cases hv:z4n ⟨so,ch,ra,ba,ro,co⟩ l with
 | false=>
  have HF:Hid (res=1):=by unfold Hid;rw [← HR.out];exact z8bi hv
  have HE:=zh H3.fewO;clear hv H3;go_wp2_with fail;go_ret;exact ⟨by rw [HF.out];rfl,HE.out⟩
 | true=>
 have HAv:=zh hv;clear hv;have a0:=H3.p0 (O.length+1) (zk rfl)
 have a1:=H3.p1 (O.length+1) (zk rfl)
 have HF:=zh (z1ae HSv.out HQv.out HAv.out)
 rw [HR.out] at HF;have HE:=zh H3.fewO;clear H3;obtain ⟨b1,h1⟩:∃ b,decide (40<n3)=b:=⟨_,rfl⟩
 obtain ⟨b2,h2⟩:∃ b,decide (20<n)=b:=⟨_,rfl⟩
 obtain ⟨b3,h3⟩:∃ b,decide (20<m)=b:=⟨_,rfl⟩
 have i1:decide ((40:Int)<(n3:Int))=b1:=z1ad.trans h1
 have i2:decide ((20:Int)<(n:Int))=b2:=z1ad.trans h2
 have i3:decide ((20:Int)<(m:Int))=b3:=z1ad.trans h3
 rw [HLn.1,HPn,HQn,h1,h2,h3] at HF;cases b1 with
 | true=>
  go_wp2_with fail;go_ret;exact ⟨by rw [HF.out];rfl,HE.out⟩
 | false=>
 cases b2 with
 | true=>
  go_wp2_with fail;go_ret;exact ⟨by rw [HF.out];rfl,HE.out⟩
 | false=>
 cases b3 with
 | true=>
  go_wp2_with fail;go_ret;exact ⟨by rw [HF.out];rfl,HE.out⟩
 | false=>
  go_wp2_with fail;go_ret;exact ⟨by rw [HF.out];rfl,HE.out⟩
def RGp (w:World)(A:Option Addr)(n:Nat)(l:List Sn)(mb:Nat)(k:Int)(y x:Value)(wr:World):Prop:=
 ∃ (i:Nat) (Ao:Option Addr) (co:Nat) (inn:List Rw) (es:Array MapEntry) (ck:Nat),i≤n∧x=.int .i64 (i:Int)∧y=.slice Ao inn.length co∧
  Hid (Gm w wr [⟨A,n*8,n*8,fl l⟩] mb es ck (z3w Ao co inn :: inn))∧Hid (EsOk es ((z1t k l i).map (·.1)))∧Hid (inn.map (·.vs)=(z1t k l i).map (fun p=>z0c p.2))∧Hid (∀ r∈inn,r.e=3)
theorem z1bu {inn:List Rw}{ks:List (Sp×List Nat)}(h:inn.map (·.vs)=ks.map (fun p=>z0c p.2)){j:Nat}{q:Sp}{g:List Nat}(hj:ks[j]?=some (q,g)):∃ r,inn[j]?=some r∧r.vs=z0c g:=by
 have h1:=congrArg (fun l=>l[j]?) h
 simp only [List.getElem?_map,hj,Option.map_some] at h1;cases hi:inn[j]? with
 | none=>rw [hi] at h1;simp at h1
 | some r=>rw [hi] at h1;exact ⟨r,rfl,by simpa using h1⟩
theorem z8d {inn:List Rw}{ks:List (Sp×List Nat)}(h:inn.map (·.vs)=ks.map (fun p=>z0c p.2)):inn.length=ks.length:=by
 have:=congrArg List.length h
 simpa using this
theorem z5bd {inn:List Rw}{ks:List (Sp×List Nat)}(h:inn.map (·.vs)=ks.map (fun p=>z0c p.2))(j:Nat)(q:Sp)(g:List Nat)(r:Rw)(hr:r.vs=z0c g):(inn.set j r).map (·.vs)=(ks.set j (q,g)).map (fun p=>z0c p.2):=by
 rw [List.map_set,List.map_set,h,hr]
theorem z9j (g:List Nat)(i:Nat):z0c g++[.int .i64 (i:Int)]=z0c (g++[i]):=by unfold z0c;rw [List.map_append];rfl
theorem z5bb {ks:List (Sp×List Nat)}{j:Nat}{q:Sp}(h:(ks.map (·.1))[j]?=some q):∃ g,ks[j]?=some (q,g):=by
 rw [List.getElem?_map] at h;cases hk:ks[j]? with
 | none=>rw [hk] at h;simp at h
 | some p=>
  rw [hk] at h;have e:p.1=q:=by simpa using h
  exact ⟨p.2,by rw [← e]⟩
theorem z0bj {ks:List (Sp×List Nat)}{q:Sp}(h:∀ p∈ks.map (·.1),p≠q):∀ p∈ks,p.1≠q:=fun p hp=>h _ (List.mem_map.2 ⟨p,hp,rfl⟩)
theorem z1ao {α:Type}:∀ (l:List α) (x y:α),(l++[x]).set l.length y=l++[y]
 | [],_,_=>rfl
 | _ :: l,x,y=>by
  show _ :: (l++[x]).set l.length y=_ :: (l++[y])
  rw [z1ao l x y]
theorem addz (gb j:Nat):(⟨gb,0,none⟩:Addr).add j=⟨gb,j,none⟩:=by
 unfold Addr.add;split
 ·next h=>rw [h]
 ·simp
theorem z1h {α:Type}{l:List α}{j:Nat}{x:α}(h:l[j]?=some x):l.set j x=l:=by
 apply List.ext_getElem?
 intro k;by_cases e:k=j
 ·subst e
  rw [List.getElem?_set_self (z0e h),h]
 ·rw [zqf (fun e'=>e e'.symm)]
theorem z4aq {inn:List Rw}{j:Nat}{r':Rw}{T:TypeId}(h:∀ r∈inn,r.e=T)(h':r'.e=T):∀ r∈inn.set j r',r.e=T:=fun r hr=>by
 rcases List.mem_or_eq_of_mem_set hr with h1 | h1
 ·exact h r h1
 ·rw [h1];exact h'
theorem z0am (k:Int)(hk:kd k)(A:Option Addr)(n c:Nat)(l:List Sn)(w:World)(hn:l.length=n)(hn2:n≤100)(hs:Sl w w.heap.size A (fl l)):
  Calls Tryz.prog 34 #[.int .i64 k,.slice A n c] w (GrR w (z1t k l n)):=by
 have HW:=zh (z3s k ⟨0,0,0,0,0,0⟩)
 rw [zt hk] at HW;obtain ⟨⟨p0,p1,p2,p3,p4,p5⟩,hp⟩:∃ p,whV k ⟨0,0,0,0,0,0⟩=p:=⟨_,rfl⟩
 rw [hp] at HW;unfold Pl.vs at HW;have HKd:=zh hk;have HN:=zh hn;have hmm:=@run_makeMap Tryz.prog
 have H0:=(Ow.of (St.refl w)).old (A:=A) (n:=n*8) (c:=n*8) (vs:=fl l) hs (by rw [z3f,hn]) (zqj _) (by omega)
 simp only [zqc] at H0;have HS:=zh hs;clear hp hs hk hn;go_enter Tryz.func34,Tryz.ntmps34
 go_wp2_with fail;refine (HW.out _).mono ?_
 rintro e w1 ⟨rfl,hb⟩;have H1:Ow w (w1.alloc (.cells #[.int .i64 p0,.int .i64 p1,.int .i64 p2,.int .i64 p3,.int .i64 p4,.int .i64 p5] 38)) none [] [⟨A,n*8,n*8,fl l⟩] []:=(H0.go hb).go (z0i _ _)
 have hsz:w.heap.size≤w1.heap.size:=hb.size
 have G0:Gm w ((w1.alloc (.cells #[.int .i64 p0,.int .i64 p1,.int .i64 p2,.int .i64 p3,.int .i64 p4,.int .i64 p5] 38)).alloc (.map #[] 0)) [⟨A,n*8,n*8,fl l⟩] (w1.heap.size+1) #[] 0 []:=by
  refine ⟨H1.go (z0i _ _),?_,by omega,fun o ho a ea h0 e=>?_,fun j q hj=>by simp at hj⟩
  ·have:=(MapKept.heap_alloc (w1.alloc (.cells #[.int .i64 p0,.int .i64 p1,.int .i64 p2,.int .i64 p3,.int .i64 p4,.int .i64 p5] 38)) (.map #[] 0)).1
   rw [World.size_alloc] at this;exact this
  ·rw [List.mem_singleton] at ho;subst ho
   obtain ⟨a',e',hlt,_⟩:=HS.out (by rw [z3f,HN.out];exact h0)
   rw [show A=some a from ea] at e'
   obtain rfl:=zqk e'
   omega
 have G1:=G0.nil 22
 simp only [zqc] at G1;have HG:=zh G1;clear HW hb H0 H1 G0 G1;go_wp2_with fail;go_loopw [7,25] (fun y x wr=>RGp w A n l (w1.heap.size+1) k y x wr) (fun _ x _=>n+1 - (intOf x).toNat)
 case atStart=>exact ⟨0,none,0,[],#[],0,zqr _,rfl,rfl,HG,EsOk.nil,rfl,fun r hr=>by cases hr⟩
 case round=>
  clear HG;obtain ⟨i,Ao,co,inn,es,ck,hi,rfl,rfl,HG,HE,HV,HT⟩:=hrel;have hil:inn.length≤n:=by
   have:=(z4i k l i).2
   have:=z8d HV.out
   omega
  rcases Nat.eq_or_lt_of_le hi with heq | hlt
  ·have hd:decide ((i:Int)<(n:Int))=false:=zn (by omega)
   have hd2:decide (i<n)=false:=zn (by omega)
   have HB:=zh HG.out.ow;have HQ:Hid (i=n):=heq
   clear heq hi;go_wp2_with fail;go_ret;refine ⟨Ao,co,inn,rfl,by rw [HV.out,HQ.out],HT.out,HB.out.less (fun o ho=>by cases ho)⟩
  ·have hd:decide ((i:Int)<(n:Int))=true:=zt (by omega)
   have hd2:decide (i<n)=true:=zt (by omega)
   obtain ⟨x,hx⟩:∃ x,l[i]?=some x:=⟨l[i]'(by rw [HN.out];exact hlt),zql _⟩
   obtain ⟨a,rfl,e0,e1,e2,e3,e4,e5,e6,e7⟩:=z3m (HG.out.ow.sl (i:=0) rfl).2.2.2 hx
   have HX:=zh hx;have HA:=zh (z7ap k x)
   obtain ⟨q,hq⟩:∃ q,z2g k x=q:=⟨_,rfl⟩
   have HQ:=zh hq;have HA2:Hid (∀ W,Calls Tryz.prog 61 #[.int .i64 k,.agg x.vs] W fun e w'=>e=.returned (.agg (spA q))∧Below W.heap.size W w'):=fun W=>by
    have:=HA.out W
    rwa [z6bi HKd.out,hq] at this
   obtain ⟨⟨x0,x1,x2,x3,x4,x5⟩,x6,x7⟩:=x
   obtain ⟨⟨q0,q1,q2,q3,q4,q5⟩,q6⟩:=q
   unfold spA at HA2;unfold Sn.vs at HA2;have hi2:i<n:=hlt
   clear HA hx hq hi hlt;go_wp2_with fail;refine (HA2.out _).mono ?_
   rintro e w2 ⟨rfl,hb⟩;have G2:Gm w (w2.alloc (.cells #[.int .i64 q0,.int .i64 q1,.int .i64 q2,.int .i64 q3,.int .i64 q4,.int .i64 q5,.int .i64 q6] 99)) [⟨some a,n*8,n*8,fl l⟩] (w1.heap.size+1) es ck (z3w Ao co inn :: inn):=((HG.out.go (z0i _ _)).go hb).go (z0i _ _)
   clear HG hb e0 e1 e2 e3 e4 e5 e6 e7 HA2;rcases z6ak G2.mp HE.out ⟨⟨q0,q1,q2,q3,q4,q5⟩,q6⟩ with ⟨hnew,hlk⟩ | ⟨j,hj,hlk⟩
   ·have hil3:inn.length≤100:=by omega
    have hkl:((z1t k l i).map (·.1)).length=inn.length:=by rw [List.length_map];exact (z8d HV.out).symm
    have hst:=z3ah G2.mp HE.out ⟨⟨q0,q1,q2,q3,q4,q5⟩,q6⟩ hnew (.int .i64 (inn.length:Int))
    have HE3:=zh (HE.out.push ⟨⟨q0,q1,q2,q3,q4,q5⟩,q6⟩ ck)
    rw [hkl] at HE3;have HNw:=zh (z2bj (z1t k l i) ⟨⟨q0,q1,q2,q3,q4,q5⟩,q6⟩ i (z0bj hnew))
    have G3:=G2.store (es.push ⟨.agg (spA ⟨⟨q0,q1,q2,q3,q4,q5⟩,q6⟩),.int .i64 (inn.length:Int),ck⟩) (ck+1)
    obtain ⟨es3,hes3⟩:∃ z,es.push ⟨.agg (spA ⟨⟨q0,q1,q2,q3,q4,q5⟩,q6⟩),.int .i64 (inn.length:Int),ck⟩=z:=⟨_,rfl⟩
    rw [hes3] at hst HE3 G3;obtain ⟨w3,hw3⟩:∃ z,setBlock (w2.alloc (.cells #[.int .i64 q0,.int .i64 q1,.int .i64 q2,.int .i64 q3,.int .i64 q4,.int .i64 q5,.int .i64 q6] 99)) (w1.heap.size+1) (.map es3 (ck+1))=z:=⟨_,rfl⟩
    rw [hw3] at hst G3;unfold spA at hst hlk;have HG3:=zh G3;clear hes3 hw3 G2 G3 hnew hkl HE;go_upto_region 15 with (at_builtin;refine z5o z8be HG3.out 0 (.tmp 46) (.tmp 47) _ _ (A:=Ao) (n:=inn.length) (c:=co) (xs:=inn.map Rw.sl) rfl rfl (by unfold maxLen;omega) (by omega) rfl rfl rfl rfl ?_;intro A5 c5 w5 how5)
    simp only [zqd] at how5;obtain ⟨inn2,hinn2⟩:∃ z,inn++[(⟨none,0,0,3,[]⟩:Rw)]=z:=⟨_,rfl⟩
    have hl2:inn2.length=inn.length+1:=by rw [← hinn2];simp
    have G:Gm w w5 [⟨some a,n*8,n*8,fl l⟩] (w1.heap.size+1) es3 (ck+1) (z3w A5 c5 inn2 :: inn2):=by
     have G5:=how5.nil 3
     rw [← hinn2];unfold z3w;rw [zqm,List.map_append];exact G5
    have HT2:Hid (∀ r∈inn2,r.e=3):=by
     intro r hr;rw [← hinn2] at hr;rcases List.mem_append.1 hr with h | h
     ·exact HT.out r h
     ·rw [List.mem_singleton] at h;rw [h]
    have HI2:=zh hinn2;obtain ⟨r,hr,hr0⟩:∃ r,inn2[inn.length]?=some r∧r=⟨none,0,0,3,[]⟩:=⟨_,by rw [← hinn2,zqo (zqj _),Nat.sub_self];rfl,rfl⟩
    have hrv:r.vs=z0c []:=by rw [hr0];rfl
    have HYl:Hid ((inn2.map Rw.sl)[inn.length]?=some r.sl):=by unfold Hid;rw [List.getElem?_map,hr];rfl
    obtain ⟨g,hg0⟩:∃ g:List Nat,g=[]:=⟨_,rfl⟩
    have HGl:Hid (g.length≤i):=by rw [hg0];exact zqr _
    rw [← hg0] at hrv;have HG0:=zh hg0;clear how5 hinn2 hr0 hg0 HG3 hst hlk;obtain ⟨Ar,nr,cr,er,vr⟩:=r;obtain rfl:er=3:=HT2.out _ (List.mem_of_getElem? hr)
    obtain rfl:vr=z0c g:=hrv
    have hrow:(z3w A5 c5 inn2 :: inn2)[inn.length+1]?=some ⟨Ar,nr,cr,3,z0c g⟩:=hr
    have hjl:=z0e hr
    have hil2:inn2.length≤101:=by omega
    obtain ⟨gb,hgb,_,_⟩:=z0r (G.ow.row 0 (A:=A5) (n:=inn2.length) (c:=c5) (e:=22) (vs:=inn2.map Rw.sl) rfl) (by omega)
    obtain rfl:=hgb
    have hnr:(z0c g).length=nr:=z2a (G.ow.row (inn.length+1) hrow)
    rw [z0f] at hnr;have hgl:nr≤100:=by have:=HGl.out;omega
    have yl:(inn2.map Rw.sl)[inn.length]?=some (.slice Ar nr cr):=by rw [List.getElem?_map,hr];rfl
    have y0:=(G.ow.row 0 (A:=some ⟨gb,0,none⟩) (n:=inn2.length) (c:=c5) (e:=22) (vs:=inn2.map Rw.sl) rfl).cells (g:=gb) rfl inn.length _ yl
    rw [addz] at y0;have HGx:=zh G;have hjI:(inn.length:Int)<(inn2.length:Int):=by omega
    clear G hnr hr yl;go_wp2_with (at_builtin;refine z5o z5p HGx.out (inn.length+1) (.tmp 54) (.tmp 56) _ _ hrow rfl (by unfold maxLen;omega) (by omega) rfl rfl rfl rfl ?_;intro A4 c4 w4 how;simp only [zqe] at how;have z0:=(how.ow.row 0 (A:=some ⟨gb,0,none⟩) (n:=inn2.length) (c:=c5) (e:=22) (vs:=inn2.map Rw.sl) rfl).cells (g:=gb) rfl inn.length (.slice Ar nr cr) HYl.out;rw [addz] at z0;have zf:=(how.ow.row 0 (A:=some ⟨gb,0,none⟩) (n:=inn2.length) (c:=c5) (e:=22) (vs:=inn2.map Rw.sl) rfl).frozenAt inn.length)
    have HF:Hid (Gm w (w4.setCell ⟨gb,inn.length,none⟩ (.slice A4 (nr+1) c4)) [⟨some a,n*8,n*8,fl l⟩] (w1.heap.size+1) es3 (ck+1) (z3w (some ⟨gb,0,none⟩) c5 (inn2.set inn.length ⟨A4,nr+1,c4,3,z0c (g++[i])⟩) :: inn2.set inn.length ⟨A4,nr+1,c4,3,z0c (g++[i])⟩)):=by
     have:=how.put 0 (gb:=gb) (n:=inn2.length) (c:=c5) (e:=22) (vs:=inn2.map Rw.sl) rfl inn.length (.slice A4 (nr+1) c4)
     simp only [zqd] at this;rw [z9j] at this;unfold Hid z3w;rw [List.length_set,List.map_set];exact this
    clear how z0 zf y0 HGx hrow;go_roundw
    case rel=>exact ⟨i+1,some ⟨gb,0,none⟩,c5,inn2.set inn.length ⟨A4,nr+1,c4,3,z0c (g++[i])⟩,es3,ck+1,hi2,by go_num,by rw [List.length_set,hl2],HF,by unfold Hid;rw [z1i HX.out,HQ.out,HNw.out,List.map_append];exact HE3.out,by unfold Hid;rw [z1i HX.out,HQ.out,HNw.out,← HI2.out,z1ao,List.map_append,List.map_append,HV.out,HG0.out];rfl,fun r hr=>z4aq HT2.out rfl r hr⟩
    case measure=>simp [intOf];omega
   ·obtain ⟨g,hg⟩:=z5bb hj
    obtain ⟨r,hr,hrv⟩:=z1bu HV.out hg
    have HGl:Hid (g.length≤i):=(z4i k l i).1 _ (List.mem_of_getElem? hg)
    have HYl:Hid ((inn.map Rw.sl)[j]?=some r.sl):=by unfold Hid;rw [List.getElem?_map,hr];rfl
    have HGj:=zh hg;unfold spA at hlk;go_upto_region 15 with (fail)
    obtain ⟨w3,hw3⟩:∃ z,w2.alloc (.cells #[.int .i64 q0,.int .i64 q1,.int .i64 q2,.int .i64 q3,.int .i64 q4,.int .i64 q5,.int .i64 q6] 99)=z:=⟨_,rfl⟩
    rw [hw3] at G2 ⊢
    have G:=G2;clear G2 hj hg hw3 hlk;obtain ⟨Ar,nr,cr,er,vr⟩:=r;obtain rfl:er=3:=HT.out _ (List.mem_of_getElem? hr)
    obtain rfl:vr=z0c g:=hrv
    have hrow:(z3w Ao co inn :: inn)[j+1]?=some ⟨Ar,nr,cr,3,z0c g⟩:=hr
    have hjl:=z0e hr
    have hil2:inn.length≤101:=by omega
    obtain ⟨gb,hgb,_,_⟩:=z0r (G.ow.row 0 (A:=Ao) (n:=inn.length) (c:=co) (e:=22) (vs:=inn.map Rw.sl) rfl) (by omega)
    obtain rfl:=hgb
    have hnr:(z0c g).length=nr:=z2a (G.ow.row (j+1) hrow)
    rw [z0f] at hnr;have hgl:nr≤100:=by have:=HGl.out;omega
    have yl:(inn.map Rw.sl)[j]?=some (.slice Ar nr cr):=by rw [List.getElem?_map,hr];rfl
    have y0:=(G.ow.row 0 (A:=some ⟨gb,0,none⟩) (n:=inn.length) (c:=co) (e:=22) (vs:=inn.map Rw.sl) rfl).cells (g:=gb) rfl j _ yl
    rw [addz] at y0;have HGx:=zh G;have hjI:(j:Int)<(inn.length:Int):=by omega
    clear G hnr hr yl;go_wp2_with (at_builtin;refine z5o z5p HGx.out (j+1) (.tmp 54) (.tmp 56) _ _ hrow rfl (by unfold maxLen;omega) (by omega) rfl rfl rfl rfl ?_;intro A4 c4 w4 how;simp only [zqe] at how;have z0:=(how.ow.row 0 (A:=some ⟨gb,0,none⟩) (n:=inn.length) (c:=co) (e:=22) (vs:=inn.map Rw.sl) rfl).cells (g:=gb) rfl j (.slice Ar nr cr) HYl.out;rw [addz] at z0;have zf:=(how.ow.row 0 (A:=some ⟨gb,0,none⟩) (n:=inn.length) (c:=co) (e:=22) (vs:=inn.map Rw.sl) rfl).frozenAt j)
    have HF:Hid (Gm w (w4.setCell ⟨gb,j,none⟩ (.slice A4 (nr+1) c4)) [⟨some a,n*8,n*8,fl l⟩] (w1.heap.size+1) es ck (z3w (some ⟨gb,0,none⟩) co (inn.set j ⟨A4,nr+1,c4,3,z0c (g++[i])⟩) :: inn.set j ⟨A4,nr+1,c4,3,z0c (g++[i])⟩)):=by
     have:=how.put 0 (gb:=gb) (n:=inn.length) (c:=co) (e:=22) (vs:=inn.map Rw.sl) rfl j (.slice A4 (nr+1) c4)
     simp only [zqd] at this;rw [z9j] at this;unfold Hid z3w;rw [List.length_set,List.map_set];exact this
    clear how z0 zf y0 HGx hrow;go_roundw
    case rel=>exact ⟨i+1,some ⟨gb,0,none⟩,co,inn.set j ⟨A4,nr+1,c4,3,z0c (g++[i])⟩,es,ck,hi2,by go_num,by rw [List.length_set],HF,by unfold Hid;rw [z1i HX.out,HQ.out,z7ay _ _ _ _ _ (z2d k l i) HGj.out,List.map_set,z1h (by rw [List.getElem?_map,HGj.out];rfl)];exact HE.out,by unfold Hid;rw [z1i HX.out,HQ.out,z7ay _ _ _ _ _ (z2d k l i) HGj.out];exact z5bd HV.out j _ _ _ rfl,fun r hr=>z4aq HT.out rfl r hr⟩
    case measure=>simp [intOf];omega
theorem z2bk:∀ (ks:List (Sp×List Nat))(q:Sp)(i:Nat)(p:Sp×List Nat),p∈ad ks q i→p∈ks∨p=(q,[i])∨∃ g,(q,g)∈ks∧p=(q,g++[i])
 | [],q,i,p,h=>.inr (.inl (by simpa [ad] using h))
 | p0 :: r,q,i,p,h=>by
  have h':p∈(if p0.1=q then (q,p0.2++[i]) :: r else p0 :: ad r q i):=h
  by_cases e:p0.1=q
  ·rw [if_pos e] at h';rcases List.mem_cons.1 h' with h1 | h1
   ·exact .inr (.inr ⟨p0.2,by rw [← e];exact List.mem_cons_self,h1⟩)
   ·exact .inl (List.mem_cons_of_mem _ h1)
  ·rw [if_neg e] at h';rcases List.mem_cons.1 h' with h1 | h1
   ·exact .inl (by rw [h1];exact List.mem_cons_self)
   ·rcases z2bk r q i p h1 with h2 | h2 | ⟨g,h2,h3⟩
    ·exact .inl (List.mem_cons_of_mem _ h2)
    ·exact .inr (.inl h2)
    ·exact .inr (.inr ⟨g,List.mem_cons_of_mem _ h2,h3⟩)
theorem z3j (k:Int)(l:List Sn):∀ (i:Nat) (p:Sp×List Nat),p∈z1t k l i→∃ h t y,p.2=h :: t∧h<i∧l[h]?=some y∧z2g k y=p.1
 | 0,p,h=>by cases h
 | i+1,p,h=>by
  have h':p∈((match l[i]? with | some x=>ad (z1t k l i) (z2g k x) i | none=>z1t k l i):List (Sp×List Nat)):=h
  cases hx:l[i]? with
  | none=>
   rw [hx] at h';obtain ⟨h1,t,y,a1,a2,a3,a4⟩:=z3j k l i p h'
   exact ⟨h1,t,y,a1,by omega,a3,a4⟩
  | some x=>
   rw [hx] at h';rcases z2bk _ _ _ _ h' with h2 | h2 | ⟨g,h2,h3⟩
   ·obtain ⟨h1,t,y,a1,a2,a3,a4⟩:=z3j k l i p h2
    exact ⟨h1,t,y,a1,by omega,a3,a4⟩
   ·exact ⟨i,[],x,by rw [h2],by omega,hx,by rw [h2]⟩
   ·obtain ⟨h1,t,y,a1,a2,a3,a4⟩:=z3j k l i _ h2
    have a1':g=h1 :: t:=a1
    exact ⟨h1,t++[i],y,by rw [h3];show g++[i]=_;rw [a1'];rfl,by omega,a3,by rw [h3];exact a4⟩
theorem CellsSn.go {w w':World}{b:Nat}{x:Sn}(h:CellsSn w ⟨b,0,none⟩ x)(hb:Below w.heap.size w w')(hlt:b<w.heap.size):CellsSn w' ⟨b,0,none⟩ x:=by
 obtain ⟨h0,h1,h2,h3,h4,h5,h6,h7⟩:=h;exact ⟨(hb.cell (p:=⟨b,0,none⟩) hlt).trans h0,(hb.cell (p:=⟨b,0+1,none⟩) hlt).trans h1,(hb.cell (p:=⟨b,0+2,none⟩) hlt).trans h2,(hb.cell (p:=⟨b,0+3,none⟩) hlt).trans h3,(hb.cell (p:=⟨b,0+4,none⟩) hlt).trans h4,(hb.cell (p:=⟨b,0+5,none⟩) hlt).trans h5,(hb.cell (p:=⟨b,0+6,none⟩) hlt).trans h6,(hb.cell (p:=⟨b,0+7,none⟩) hlt).trans h7⟩
theorem CellsSn.lt {w:World}{b:Nat}{x:Sn}(h:CellsSn w ⟨b,0,none⟩ x):b<w.heap.size:=by
 have h0:=h.1;rcases zqi b w.heap.size with h1 | h1
 ·exact h1
 ·unfold World.cell? at h0
  rw [Array.getElem?_eq_none (by simpa using h1)] at h0
  cases h0
theorem CellsSn.new (w:World)(x:Sn):CellsSn (w.alloc (.cells x.vs 40)) ⟨w.heap.size,0,none⟩ x:=by
 have H:=(Ow.of (St.refl w)).arr x.vs 8 rfl (by omega) 40
 simp only [zqc] at H;exact ⟨(H.row 0 rfl).cellAt 0 (by decide),(H.row 0 rfl).cellAt 1 (by decide),(H.row 0 rfl).cellAt 2 (by decide),(H.row 0 rfl).cellAt 3 (by decide),(H.row 0 rfl).cellAt 4 (by decide),(H.row 0 rfl).cellAt 5 (by decide),(H.row 0 rfl).cellAt 6 (by decide),(H.row 0 rfl).cellAt 7 (by decide)⟩
def z3r (gs:List (Sp×List Nat)):Nat→List Nat
 | 0=>[]
 | i+1=>match gs[i]? with
  | some p=>if (z3r gs i).length<p.2.length then p.2 else z3r gs i
  | none=>z3r gs i
theorem z8b {gs:List (Sp×List Nat)}{m:Nat}(h:∀ p∈gs,p.2.length≤m):∀ i,(z3r gs i).length≤m
 | 0=>zqr _
 | i+1=>by
  have ih:=z8b h i
  show ((match gs[i]? with | some p=>if (z3r gs i).length<p.2.length then p.2 else z3r gs i | none=>z3r gs i):List Nat).length≤m
  split
  ·next p hp=>
   split
   ·exact h p (List.mem_of_getElem? hp)
   ·exact ih
  ·exact ih
def z3c (k:Int)(l:List Sn):List Nat:=z3r (z1t k l l.length) (z1t k l l.length).length
def LgR (w:World)(g:List Nat)(en:Ending)(w':World):Prop:=
 ∃ (A:Option Addr) (n c:Nat),en=.returned (.slice A n c)∧g.length=n∧w'.ownsRow w.heap.size 3 1 (.slice A n c) n (z0c g)∧Below w.heap.size w w'
def RLg (gs:List (Sp×List Nat))(w1:World)(inn:List Rw)(y x:Value)(wr:World):Prop:=
 ∃ (i:Nat) (A:Option Addr) (n c:Nat),i≤inn.length∧x=.int .i64 (i:Int)∧y=.slice A n c∧w1=wr∧Hid ((z3r gs i).length=n)∧Hid ((A=none∧n=0∧c=0)∨∃ r∈inn,r.A=A∧r.n=n∧r.c=c∧r.vs=z0c (z3r gs i))
theorem z1av (k:Int)(hk:kd k)(A:Option Addr)(n c:Nat)(l:List Sn)(w:World)(hn:l.length=n)(hn2:n≤100)(hs:Sl w w.heap.size A (fl l)):
  Calls Tryz.prog 62 #[.int .i64 k,.slice A n c] w (LgR w (z3c k l)):=by
 have HC:=zh (z0am k hk A n c l w hn hn2 hs)
 have HL:=zh (z4i k l n)
 unfold z3c;rw [hn];obtain ⟨gs,hgs⟩:∃ z,z1t k l n=z:=⟨_,rfl⟩
 rw [hgs] at HC HL ⊢
 clear hs hn hgs hk;go_enter Tryz.func62,Tryz.ntmps62
 go_wp2_with fail;refine HC.out.mono ?_;rintro e w1 ⟨Ao,co,inn,rfl,hV,hT,hO⟩;have HV:=zh hV;have HT:=zh hT;have HO:=zh hO;have HIL:Hid (inn.length=gs.length):=z8d hV
 have hgl:inn.length≤100:=by have:=HL.out.2;have:=HIL.out;omega
 clear HC hV hT hO;go_wp2_with fail;go_loopw [5,12] (fun y x wr=>RLg gs w1 inn y x wr) (fun _ x _=>inn.length+1 - (intOf x).toNat)
 case atStart=>exact ⟨0,none,0,0,zqr _,rfl,rfl,rfl,rfl,.inl ⟨rfl,rfl,rfl⟩⟩
 case round=>
  obtain ⟨i,A,nb,cb,hi,rfl,rfl,rfl,HN,HB⟩:=hrel;rcases Nat.eq_or_lt_of_le hi with heq | hlt
  ·have hd:decide ((i:Int)<(inn.length:Int))=false:=zn (by omega)
   have hd2:decide (i<inn.length)=false:=zn (by omega)
   have HQ:Hid (i=gs.length):=by unfold Hid;rw [heq];exact HIL.out
   clear heq hi;go_wp2_with fail;go_ret;refine ⟨A,nb,cb,rfl,by rw [← HQ.out];exact HN.out,?_,HO.out.below⟩
   rw [← HQ.out];rcases HB.out with ⟨rfl,rfl,rfl⟩ | ⟨r,hr,rfl,rfl,rfl,hv⟩
   ·rw [List.length_eq_zero_iff.1 HN.out];exact World.ownsRow_nil _ _ _ _
   ·obtain ⟨j,hj⟩:=List.getElem?_of_mem hr
    have:=HO.out.own (j+1) r hj
    rw [HT.out r hr,hv] at this;exact this
  ·have hd:decide ((i:Int)<(inn.length:Int))=true:=zt (by omega)
   have hd2:decide (i<inn.length)=true:=zt (by omega)
   have hiI:(i:Int)<(inn.length:Int):=by omega
   have hi2:i+1≤inn.length:=hlt
   obtain ⟨p,hp⟩:∃ p,gs[i]?=some p:=⟨gs[i]'(by rw [← HIL.out];exact hlt),zql _⟩
   obtain ⟨q,g⟩:=p;obtain ⟨r,hr,hrv⟩:=z1bu HV.out hp
   obtain ⟨Ar,nr,cr,er,vr⟩:=r;obtain rfl:er=3:=HT.out _ (List.mem_of_getElem? hr)
   obtain rfl:vr=z0c g:=hrv
   have hrow:(z3w Ao co inn :: inn)[i+1]?=some ⟨Ar,nr,cr,3,z0c g⟩:=hr
   have hnr:(z0c g).length=nr:=z2a (HO.out.row (i+1) hrow)
   rw [z0f] at hnr;have hgl2:nr≤100:=by
    have h1:=HL.out.1 (q,g) (List.mem_of_getElem? hp)
    have h2:g.length≤n:=h1
    omega
   have hnb:nb≤100:=by
    have h1:=z8b HL.out.1 i
    rw [HN.out] at h1;omega
   obtain ⟨gb,hgb,_,_⟩:=z0r (HO.out.row 0 (A:=Ao) (n:=inn.length) (c:=co) (e:=22) (vs:=inn.map Rw.sl) rfl) (by omega)
   have HGb:=zh hgb;have y0:w1.cell? ⟨gb,i,none⟩=some (.slice Ar nr cr):=by
    have hO:=HO.out;rw [hgb] at hO;have:=(hO.row 0 (A:=some ⟨gb,0,none⟩) (n:=inn.length) (c:=co) (e:=22) (vs:=inn.map Rw.sl) rfl).cells (g:=gb) rfl i (.slice Ar nr cr) (by rw [List.getElem?_map,hr];rfl)
    rwa [addz] at this
   have HE:Hid (z3r gs (i+1)=if (z3r gs i).length<g.length then g else z3r gs i):=by
    show (match gs[i]? with | some p=>_ | none=>_)=_
    rw [hp]
   have HR:=zh (List.mem_of_getElem? hr)
   have HNr:=zh hnr;rw [hgb];rcases zqi nb nr with hgt | hle
   ·have hc:decide ((nb:Int)<(nr:Int))=true:=zt (by omega)
    have hc2:decide (nb<nr)=true:=zt hgt
    have HE2:Hid (z3r gs (i+1)=g):=by unfold Hid;rw [HE.out,if_pos (by rw [HN.out,HNr.out];exact hgt)]
    clear hgt hp hr hrow hnr hlt hi hgb;go_wp2_with fail;go_roundw
    case rel=>exact ⟨i+1,Ar,nr,cr,hi2,by go_num,rfl,rfl,by rw [HE2.out];exact HNr.out,by unfold Hid;rw [HE2.out];exact .inr ⟨_,HR.out,rfl,rfl,rfl,rfl⟩⟩
    case measure=>simp [intOf];omega
   ·have hc:decide ((nb:Int)<(nr:Int))=false:=zn (by omega)
    have hc2:decide (nb<nr)=false:=zn (by omega)
    have HE2:Hid (z3r gs (i+1)=z3r gs i):=by unfold Hid;rw [HE.out,if_neg (by rw [HN.out,HNr.out];omega)]
    clear hle hp hr hrow hnr hlt hi hgb;go_wp2_with fail;go_roundw
    case rel=>exact ⟨i+1,A,nb,cb,hi2,by go_num,rfl,rfl,by rw [HE2.out];exact HN,by unfold Hid;rw [HE2.out];exact HB.out⟩
    case measure=>simp [intOf];omega
open Go.RowKit
namespace De
set_option maxHeartbeats 4000000
def pv (l:List UInt8):Nat:=l.foldl (fun a c=>10*a+(c.toNat - 48)) 0
end De
def NPw (w1:World)(x m:Nat)(i o:Value)(wr:World):Prop:=
 ∃ (v:Int) (j:Nat) (A:Option Addr) (n c:Nat),i=.int .i64 v∧v=(j:Int) - 1∧o=.slice A n c∧j≤13∧n≤401∧Hid ((Na.dig (x ^ (m / 2 ^ j))).length=n)∧wr.ownsRow w1.heap.size 3 1 (.slice A n c) n (z0c (Na.dig (x ^ (m / 2 ^ j))))∧Below w1.heap.size w1 wr∧w1.heap.size≤wr.heap.size
theorem z5av (A:Option Addr)(n c x m:Nat)(w:World)(hn:(Na.dig x).length=n)(hs:Sl w w.heap.size A (z0c (Na.dig x)))(hx:x<Na.top)(hm:m≤4800):
  Calls Tryz.prog 125 #[.agg #[.slice A n c],.int .i64 (m:Int)] w (z4k w (z5i (x ^ m)) (z4s (x ^ m))):=by
 have hn200:n≤200:=by rw [← hn];exact (Na.dig_200 x).2 hx
 obtain ⟨w0,hw0⟩:∃ w0,(w.alloc (.cells #[.slice A n c] 25)).alloc (.cells #[.slice none 0 0] 25)=w0:=⟨_,rfl⟩
 have HW:Hid ((w.alloc (.cells #[.slice A n c] 25)).alloc (.cells #[.slice none 0 0] 25)=w0):=hw0
 have hb0:Below w.heap.size w w0:=by rw [← hw0];exact bal (bal (Below.refl _ _) _) _
 have HB0:=zh hb0;have hzw:w0.heap.size=w.heap.size+2:=by rw [← hw0];simp
 have hc0:w0.cell? ⟨w.heap.size,0,none⟩=some (.slice A n c):=by rw [← hw0];simp [go_sem]
 have hc2:w0.cell? ⟨w.heap.size+1,0,none⟩=some (.slice none 0 0):=by rw [← hw0];simp [go_sem]
 have hf2:w0.frozen? ⟨w.heap.size+1,0,none⟩=false:=by rw [← hw0];simp [go_sem]
 have HV:=zh (z4e A n c w0.heap.size (Na.up (Na.dig x)) w0 (by rw [Na.up_length];exact hn) (by rw [z0g];exact (hs.below hb0).more hb0.size) (zqj _) (by omega))
 rw [Na.vld_dig hx] at HV;have HN:=zh hn;have HS:=zh hs;clear hs hn hb0 hw0 hx;have hbm:Nbl m≤13:=z2ab (k:=13) (by omega) (by omega)
 have h1:decide ((m:Int)<0)=false:=zn (by omega)
 have h2:decide (4800<(m:Int))=false:=zn (by omega)
 go_enter Tryz.func125,Tryz.ntmps125
 go_wp2_with fail;rw [HW.out];refine HV.out.mono ?_;rintro e w1 ⟨rfl,hb⟩;have HB1:=zh (btr HB0.out hb)
 have hd0:w1.cell? ⟨w.heap.size,0,none⟩=some (.slice A n c):=(hb.cell (p:=⟨w.heap.size,0,none⟩) (by simp [hzw])).trans hc0
 have hd2:w1.cell? ⟨w.heap.size+1,0,none⟩=some (.slice none 0 0):=(hb.cell (p:=⟨w.heap.size+1,0,none⟩) (by simp [hzw])).trans hc2
 have hg2:w1.frozen? ⟨w.heap.size+1,0,none⟩=false:=(hb.frozen (p:=⟨w.heap.size+1,0,none⟩) (by simp [hzw])).trans hf2
 have hsz1:w.heap.size+2≤w1.heap.size:=by rw [← hzw];exact hb.size
 clear hb hc0 hc2 hf2 HV HW hzw HB0;have HO0:Hid ((w1.alloc (.cells #[.int .i64 1] 3)).ownsRow w1.heap.size 3 1 (.slice (some ⟨w1.heap.size,0,none⟩) 1 1) 1 (z0c (Na.dig (x ^ (m / 2 ^ Nbl m))))):=by
  unfold Hid;rw [Na.pow_start m hm,Nat.pow_zero,Na.dig_small 1 (by omega) (by omega)]
  exact World.ownsRow_lit (base:=w1.heap.size) (e:=3) (size:=1) w1 #[.int .i64 1] 1 (zqj _) (by unfold maxLen;omega) rfl
 have HL0:Hid ((Na.dig (x ^ (m / 2 ^ Nbl m))).length=1):=by unfold Hid;rw [Na.pow_start m hm,Nat.pow_zero,Na.dig_small 1 (by omega) (by omega)];rfl
 have HBL0:Hid (Below w1.heap.size w1 (w1.alloc (.cells #[.int .i64 1] 3))):=bal (Below.refl _ _) _
 have HSZ0:Hid (w1.heap.size≤(w1.alloc (.cells #[.int .i64 1] 3)).heap.size):=by unfold Hid;simp
 rcases zqh x with hx0 | hx0
 ·have hn0:n=0:=by rw [← HN.out];exact Na.dig_len0.2 hx0
  subst hn0
  have HLB:Hid (∀ j,j≤m→(Na.dig (x ^ j)).length≤401):=fun j _=>by rw [hx0];exact Na.pow_400_zero j
  clear hx0;go_wp2_with fail;have HBl:=zh (z3n m (m:Int) rfl w1 (by omega))
  go_wp2_with fail;refine (z3n m (m:Int) rfl _ (by omega)).mono ?_
  rintro e w1' ⟨rfl,rfl⟩;go_wp2_with fail;go_loopw [9,8] (fun i o wr=>NPw w1 x m i o wr) (fun i _ _=>(intOf i+1).toNat)
  case atStart=>exact ⟨_,Nbl m,_,1,1,rfl,by omega,rfl,hbm,by omega,HL0.out,HO0.out,HBL0.out,HSZ0.out⟩
  case round=>
   clear HO0 HL0 HBL0 HSZ0 HBl;obtain ⟨v,j,A1,n1,c1,rfl,hvj,rfl,hj13,hn1,HLn,ho,hb,hbs⟩:=hrel;have HO:=zh ho;have HB:=zh hb;have HBS:=zh hbs;clear ho hb hbs;rcases zqh j with hj0 | hj0
   ·have hv:v=-1:=by omega
    subst hv
    have HEq:Hid (Na.dig (x ^ (m / 2 ^ j))=Na.dig (x ^ m)):=by unfold Hid;rw [hj0,Nat.pow_zero,Nat.div_one]
    clear hvj hj0;rw [HEq.out] at HO HLn;have HR:=zh (z2j A1 n1 c1 w1.heap.size (Na.dig (x ^ m)) wr HLn.out HO.out (Na.dig_lim _) (by omega))
    rw [Na.val_dig] at HR;go_wp2_with fail;refine HR.out.mono ?_;rintro e w9 ⟨A9,n9,c9,rfl,hn9,ho9,hb9⟩;have HN9:=zh hn9;have HO9:=zh ho9;have HB9:=zh (HB.out.trans (hb9.mono HBS.out))
    have hk9:w9.cell? ⟨w.heap.size+1,0,none⟩=some (.slice none 0 0):=(HB9.out.cell (p:=⟨w.heap.size+1,0,none⟩) (by simp;omega)).trans hd2
    have hk9f:w9.frozen? ⟨w.heap.size+1,0,none⟩=false:=(HB9.out.frozen (p:=⟨w.heap.size+1,0,none⟩) (by simp;omega)).trans hg2
    clear hn9 ho9 hb9 hd0 hd2 hg2;go_wp2_with fail;refine bodyPost_ret (v:=.tuple #[.agg #[.slice A9 n9 c9],.int .i64 (z4s (x ^ m))]) (by simp [results,Tryz.results125,go_sem,hk9]) rfl ?_
    exact z2i HO9.out HN9.out (by omega) (by omega) (HB1.out.trans (HB9.out.mono HB1.out.size)) (by omega) _ _
   ·obtain ⟨q,hq⟩:∃ q,j=q+1:=⟨j - 1,by omega⟩
    have hv:v=(q:Int):=by omega
    subst hv
    have hq13:q≤12:=by omega
    obtain ⟨s,hs1⟩:∃ s,m / 2 ^ q=s:=⟨_,rfl⟩
    have hsh:(m:Int) / 2 ^ q=(s:Int):=by rw [← hs1];norm_cast
    have HSQ:Hid (s % 2=0→x ^ (m / 2 ^ j)*x ^ (m / 2 ^ j)=x ^ s):=fun h=>by rw [hq,← hs1];exact Na.pow_sq x m q (by rw [hs1];exact h)
    have HSX:Hid (s % 2=1→x ^ (m / 2 ^ j)*x ^ (m / 2 ^ j)*x=x ^ s):=fun h=>by rw [hq,← hs1];exact Na.pow_sqx x m q (by rw [hs1];exact h)
    have HSM:Hid (m / 2 ^ j+m / 2 ^ j≤m):=by
     unfold Hid;have h1:=Na.pow_half m q
     have h2:m / 2 ^ q≤m:=Nat.div_le_self _ _
     rw [hq];omega
    have HSS:Hid (m / 2 ^ q=s):=hs1
    have HSLE:Hid (s≤m):=by unfold Hid;rw [← hs1];exact Nat.div_le_self _ _
    have HPr:=zh (z2m A1 A1 n1 c1 n1 c1 _ _ wr HLn.out HLn.out (Sl.of_own HO.out) (Sl.of_own HO.out) (Na.dig_lim _) (Na.dig_lim _) (by omega) (by omega))
    rw [Na.val_dig,← Nat.pow_add] at HPr;rw [← Nat.pow_add] at HSQ HSX;have HC1:Hid (n1≤c1):=(z1l HO.out).1
    clear hvj hj0 hs1;go_wp2_with fail;refine HPr.out.mono ?_;rintro e w2 ⟨A2,n2,c2,rfl,hn2,ho2,hb2⟩;have HN2:=zh hn2;have HO2:=zh ho2;have HB2:=zh (HB.out.trans (hb2.mono HBS.out))
    have HS2:=zh (zqq HBS.out hb2.size)
    have hn2l:n2≤401:=by rw [← hn2];exact HLB.out _ HSM.out
    clear hn2 ho2 hb2 HPr;rcases Nat.mod_two_eq_zero_or_one s with hbit | hbit
    ·have hand:bits .and .i64 (s:Int) 1=0:=by rw [and1];omega
     have HE:=zh (HSQ.out hbit)
     clear HSQ HSX hbit;go_wp2_with fail;go_roundw
     case rel=>
      refine ⟨_,q,A2,n2,c2,rfl,by omega,rfl,by omega,hn2l,?_,?_,HB2.out,HS2.out⟩
      ·rw [HSS.out,← HE.out];exact HN2.out
      ·rw [HSS.out,← HE.out];exact z1k HO2.out HBS.out
     case measure=>(simp [intOf]) <;> omega
    ·have hand:bits .and .i64 (s:Int) 1=1:=by rw [and1];omega
     have HE:=zh (HSX.out hbit)
     clear HSQ HSX hbit;have hm0:w2.cell? ⟨w.heap.size,0,none⟩=some (.slice A 0 c):=(HB2.out.cell (p:=⟨w.heap.size,0,none⟩) (by simp;omega)).trans hd0
     have HPx:=zh (z2m A2 A n2 c2 0 c _ (Na.dig x) w2 HN2.out HN.out (Sl.of_own HO2.out) ((HS.out.below ((HB1.out.trans (HB2.out.mono HB1.out.size)))).more (zqq HB1.out.size HS2.out)) (Na.dig_lim _) (Na.dig_lim _) (by omega) (by omega))
     rw [Na.val_dig,Na.val_dig,HE.out] at HPx;go_wp2_with fail;refine HPx.out.mono ?_;rintro e w3 ⟨A3,n3,c3,rfl,hn3,ho3,hb3⟩;have HN3:=zh hn3;have HO3:=zh ho3;have HB3:=zh (HB2.out.trans (hb3.mono HS2.out))
     have HS3:=zh (zqq HS2.out hb3.size)
     have hn3l:n3≤401:=by rw [← hn3];exact HLB.out _ HSLE.out
     clear hn3 ho3 hb3 HPx hm0;go_wp2_with fail;go_roundw
     case rel=>
      refine ⟨_,q,A3,n3,c3,rfl,by omega,rfl,by omega,hn3l,?_,?_,HB3.out,HS3.out⟩
      ·rw [HSS.out];exact HN3.out
      ·rw [HSS.out];exact z1k HO3.out HS2.out
     case measure=>(simp [intOf]) <;> omega
 ·have hn1:0<n:=by
   rcases zqh n with h0 | h0
   ·rw [← HN.out,Na.dig_len0] at h0;omega
   ·exact h0
  obtain ⟨k,hk⟩:∃ k,n=k+1:=⟨n - 1,by omega⟩
  obtain ⟨a,ha⟩:=z0l (Na.dig x) k (by rw [HN.out];omega)
  obtain ⟨ha0,hb1,hb2,hb3⟩:=Na.bitlen x k a (by rw [HN.out];exact hk) ha
  have ha24:=(Na.dig_lim x).at ha
  have hbl24:Nbl a≤24:=z2ab (k:=24) (by omega) (by omega)
  obtain ⟨ad,rfl,hbk,hca⟩:=(HS.out.below HB1.out).nat ha
  obtain ⟨L,hL⟩:∃ L,k*24+Nbl a=L+1:=⟨k*24+Nbl a - 1,by omega⟩
  obtain ⟨p,hp⟩:∃ p,L*m=p:=⟨_,rfl⟩
  have hpb:p≤23040000:=by
   rw [← hp];exact Nat.mul_le_mul (show L≤4800 by omega) hm
  rw [hL,Nat.add_sub_cancel] at hb2;rw [hL] at hb3;have HX1:=zh hb2;have HX2:=zh hb3;have HP:=zh hp;have e1:(n:Int) - 1=(k:Int):=by omega
  have e2:(k:Int)*24+(Nbl a:Int)=(L:Int)+1:=by omega
  have e3:(L:Int)+1 - 1=(L:Int):=by omega
  have e4:(L:Int)*(m:Int)=(p:Int):=by rw [← hp];norm_cast
  have hLb:L≤4800:=by omega
  have hk0:0<n:=by omega
  have hk9:k<n:=by omega
  have hk1:(k:Int)<(n:Int):=by omega
  clear hb2 hb3 hp hL hk ha;rcases zqi p 4800 with hp1 | hp1
  ·have HLB:Hid (∀ j,j≤m→(Na.dig (x ^ j)).length≤401):=fun j hj=>Na.pow_400 (L:=L+1) (by omega) HX2.out (by rw [Nat.add_sub_cancel,HP.out];exact hp1) hx0 hj
   have t1:decide (4800≤(p:Int))=false:=zn (by omega)
   clear HX1 HX2 HP;go_wp2_with fail;refine (z3n a _ rfl _ (by omega)).mono ?_
   rintro e w1' ⟨rfl,rfl⟩;have HBl:=zh (z3n m (m:Int) rfl w1 (by omega))
   go_wp2_with fail;refine (z3n m (m:Int) rfl _ (by omega)).mono ?_
   rintro e w1' ⟨rfl,rfl⟩;go_wp2_with fail;go_loopw [9,8] (fun i o wr=>NPw w1 x m i o wr) (fun i _ _=>(intOf i+1).toNat)
   case atStart=>exact ⟨_,Nbl m,_,1,1,rfl,by omega,rfl,hbm,by omega,HL0.out,HO0.out,HBL0.out,HSZ0.out⟩
   case round=>
    clear HO0 HL0 HBL0 HSZ0 HBl;obtain ⟨v,j,A1,n1,c1,rfl,hvj,rfl,hj13,hn1,HLn,ho,hb,hbs⟩:=hrel;have HO:=zh ho;have HB:=zh hb;have HBS:=zh hbs;clear ho hb hbs;rcases zqh j with hj0 | hj0
    ·have hv:v=-1:=by omega
     subst hv
     have HEq:Hid (Na.dig (x ^ (m / 2 ^ j))=Na.dig (x ^ m)):=by unfold Hid;rw [hj0,Nat.pow_zero,Nat.div_one]
     clear hvj hj0;rw [HEq.out] at HO HLn;have HR:=zh (z2j A1 n1 c1 w1.heap.size (Na.dig (x ^ m)) wr HLn.out HO.out (Na.dig_lim _) (by omega))
     rw [Na.val_dig] at HR;go_wp2_with fail;refine HR.out.mono ?_;rintro e w9 ⟨A9,n9,c9,rfl,hn9,ho9,hb9⟩;have HN9:=zh hn9;have HO9:=zh ho9;have HB9:=zh (HB.out.trans (hb9.mono HBS.out))
     have hk9:w9.cell? ⟨w.heap.size+1,0,none⟩=some (.slice none 0 0):=(HB9.out.cell (p:=⟨w.heap.size+1,0,none⟩) (by simp;omega)).trans hd2
     have hk9f:w9.frozen? ⟨w.heap.size+1,0,none⟩=false:=(HB9.out.frozen (p:=⟨w.heap.size+1,0,none⟩) (by simp;omega)).trans hg2
     clear hn9 ho9 hb9 hd0 hd2 hg2;go_wp2_with fail;refine bodyPost_ret (v:=.tuple #[.agg #[.slice A9 n9 c9],.int .i64 (z4s (x ^ m))]) (by simp [results,Tryz.results125,go_sem,hk9]) rfl ?_
     exact z2i HO9.out HN9.out (by omega) (by omega) (HB1.out.trans (HB9.out.mono HB1.out.size)) (by omega) _ _
    ·obtain ⟨q,hq⟩:∃ q,j=q+1:=⟨j - 1,by omega⟩
     have hv:v=(q:Int):=by omega
     subst hv
     have hq13:q≤12:=by omega
     obtain ⟨s,hs1⟩:∃ s,m / 2 ^ q=s:=⟨_,rfl⟩
     have hsh:(m:Int) / 2 ^ q=(s:Int):=by rw [← hs1];norm_cast
     have HSQ:Hid (s % 2=0→x ^ (m / 2 ^ j)*x ^ (m / 2 ^ j)=x ^ s):=fun h=>by rw [hq,← hs1];exact Na.pow_sq x m q (by rw [hs1];exact h)
     have HSX:Hid (s % 2=1→x ^ (m / 2 ^ j)*x ^ (m / 2 ^ j)*x=x ^ s):=fun h=>by rw [hq,← hs1];exact Na.pow_sqx x m q (by rw [hs1];exact h)
     have HSM:Hid (m / 2 ^ j+m / 2 ^ j≤m):=by
      unfold Hid;have h1:=Na.pow_half m q
      have h2:m / 2 ^ q≤m:=Nat.div_le_self _ _
      rw [hq];omega
     have HSS:Hid (m / 2 ^ q=s):=hs1
     have HSLE:Hid (s≤m):=by unfold Hid;rw [← hs1];exact Nat.div_le_self _ _
     have HPr:=zh (z2m A1 A1 n1 c1 n1 c1 _ _ wr HLn.out HLn.out (Sl.of_own HO.out) (Sl.of_own HO.out) (Na.dig_lim _) (Na.dig_lim _) (by omega) (by omega))
     rw [Na.val_dig,← Nat.pow_add] at HPr;rw [← Nat.pow_add] at HSQ HSX;have HC1:Hid (n1≤c1):=(z1l HO.out).1
     clear hvj hj0 hs1;go_wp2_with fail;refine HPr.out.mono ?_;rintro e w2 ⟨A2,n2,c2,rfl,hn2,ho2,hb2⟩;have HN2:=zh hn2;have HO2:=zh ho2;have HB2:=zh (HB.out.trans (hb2.mono HBS.out))
     have HS2:=zh (zqq HBS.out hb2.size)
     have hn2l:n2≤401:=by rw [← hn2];exact HLB.out _ HSM.out
     clear hn2 ho2 hb2 HPr;rcases Nat.mod_two_eq_zero_or_one s with hbit | hbit
     ·have hand:bits .and .i64 (s:Int) 1=0:=by rw [and1];omega
      have HE:=zh (HSQ.out hbit)
      clear HSQ HSX hbit;go_wp2_with fail;go_roundw
      case rel=>
       refine ⟨_,q,A2,n2,c2,rfl,by omega,rfl,by omega,hn2l,?_,?_,HB2.out,HS2.out⟩
       ·rw [HSS.out,← HE.out];exact HN2.out
       ·rw [HSS.out,← HE.out];exact z1k HO2.out HBS.out
      case measure=>(simp [intOf]) <;> omega
     ·have hand:bits .and .i64 (s:Int) 1=1:=by rw [and1];omega
      have HE:=zh (HSX.out hbit)
      clear HSQ HSX hbit;have hm0:w2.cell? ⟨w.heap.size,0,none⟩=some (.slice (some ad) n c):=(HB2.out.cell (p:=⟨w.heap.size,0,none⟩) (by simp;omega)).trans hd0
      have HPx:=zh (z2m A2 (some ad) n2 c2 n c _ (Na.dig x) w2 HN2.out HN.out (Sl.of_own HO2.out) ((HS.out.below ((HB1.out.trans (HB2.out.mono HB1.out.size)))).more (zqq HB1.out.size HS2.out)) (Na.dig_lim _) (Na.dig_lim _) (by omega) (by omega))
      rw [Na.val_dig,Na.val_dig,HE.out] at HPx;go_wp2_with fail;refine HPx.out.mono ?_;rintro e w3 ⟨A3,n3,c3,rfl,hn3,ho3,hb3⟩;have HN3:=zh hn3;have HO3:=zh ho3;have HB3:=zh (HB2.out.trans (hb3.mono HS2.out))
      have HS3:=zh (zqq HS2.out hb3.size)
      have hn3l:n3≤401:=by rw [← hn3];exact HLB.out _ HSLE.out
      clear hn3 ho3 hb3 HPx hm0;go_wp2_with fail;go_roundw
      case rel=>
       refine ⟨_,q,A3,n3,c3,rfl,by omega,rfl,by omega,hn3l,?_,?_,HB3.out,HS3.out⟩
       ·rw [HSS.out];exact HN3.out
       ·rw [HSS.out];exact z1k HO3.out HS2.out
      case measure=>(simp [intOf]) <;> omega
  ·have HR:Hid (z5i (x ^ m)=[]):=z0ac (Na.pow_big HX1.out (by rw [HP.out];exact hp1))
   have HE:Hid (z4s (x ^ m)=3):=z0ad (Na.pow_big HX1.out (by rw [HP.out];exact hp1))
   have t1:decide (4800≤(p:Int))=true:=zt (by omega)
   clear HX1 HX2 HP HO0 HL0 HBL0 HSZ0;go_wp2_with fail;refine (z3n a _ rfl _ (by omega)).mono ?_
   rintro e w1' ⟨rfl,rfl⟩;go_wp2_with fail;rw [HR.out,HE.out];refine bodyPost_ret (v:=.tuple #[.agg #[.slice none 0 0],.int .i64 3]) (by simp [results,Tryz.results125,go_sem,hd2]) rfl ?_
   exact z2b _ _ _ (z5d HB1.out _ (by show w.heap.size≤w.heap.size+1;omega) _)
section
variable {w0 w w':World}{g:Option Nat}{M:List (Nat×Value)}{L:List Ob}{O:List Rw}{A A2:Option Addr}{n c m c2 x y:Nat}
theorem z8ah (h:Ow w0 w g M L O)(i:Nat)(hi:L[i]?=some ⟨A,n,c,z0c (Na.dig x)⟩)(hx:x<Na.top):
  Calls Tryz.prog 84 #[.agg #[.slice A n c]] w fun e w'=>e=.returned (.bool true)∧Ow w0 w' g M L O:=by
 rw [← z0g] at hi;have:=z4o h i hi
 rwa [Na.vld_dig hx] at this
end
theorem z9f (A:Option Addr)(n c x:Nat)(v:Int)(w:World)(hn:(Na.dig x).length=n)(hnc:n≤c)(hs:Sl w w.heap.size A (z0c (Na.dig x)))(hx:x<Na.top)(hv:v<0∨4800<v):
  Calls Tryz.prog 125 #[.agg #[.slice A n c],.int .i64 v] w (z4k w [] 2):=by
 have hn2:n≤200:=by rw [← hn];exact (Na.dig_200 x).2 hx
 have H0:=(((Ow.of (St.refl w)).old hs (by rw [z0f];exact hn) hnc (by omega)).boxed (.slice A n c) 25).boxed (.slice none 0 0) 25
 simp only [World.size_alloc,zqc,zqb] at H0;have hc0:=H0.cell 0 rfl
 have HH:=zh (z8ah H0 0 rfl hx)
 clear hn hs H0 hx;rcases hv with hv | hv
 ·have hd:decide (v<0)=true:=zt hv
  go_enter Tryz.func125,Tryz.ntmps125
  go_wp2_with fail;refine HH.out.mono ?_;rintro e w1 ⟨rfl,H1⟩;have hs1:=H1.cell 1 rfl
  have hf1:=H1.free 1 rfl
  clear hc0 HH;go_wp2_with fail;have G:=H1.setv 1 rfl (.slice none 0 0)
  have hz:=G.cell 1 rfl
  refine bodyPost_ret (v:=.tuple #[.agg #[.slice none 0 0],.int .i64 2]) (by simp [results,Tryz.results125,go_sem,hz]) rfl ?_
  exact z2b _ _ _ G.below
 ·have hd:decide (v<0)=false:=zn (by omega)
  have hd2:decide (4800<v)=true:=zt hv
  go_enter Tryz.func125,Tryz.ntmps125
  go_wp2_with fail;refine HH.out.mono ?_;rintro e w1 ⟨rfl,H1⟩;have hs1:=H1.cell 1 rfl
  have hf1:=H1.free 1 rfl
  clear hc0 HH;go_wp2_with fail;have G:=H1.setv 1 rfl (.slice none 0 0)
  have hz:=G.cell 1 rfl
  refine bodyPost_ret (v:=.tuple #[.agg #[.slice none 0 0],.int .i64 2]) (by simp [results,Tryz.results125,go_sem,hz]) rfl ?_
  exact z2b _ _ _ G.below
def powL (x:Nat)(v:Int):List Nat:=if v<0∨4800<v then [] else z5i (x ^ v.toNat)
def powE (x:Nat)(v:Int):Int:=if v<0∨4800<v then 2 else z4s (x ^ v.toNat)
theorem z5ah (x:Nat)(v:Int):(powL x v).length≤1000:=by
 unfold powL;split
 ·exact zqr _
 ·exact z6h _
theorem z9al {v:Int}(h:v≤9223372036854775807):(ofL v).length≤1000:=by
 unfold ofL;split
 ·exact zqr _
 ·exact zqq (Na.dig_len_le (n:=3) (zqu (show v.toNat≤9223372036854775807 by omega) (by decide))) (by omega)
section
variable {w0 w w':World}{g:Option Nat}{M:List (Nat×Value)}{L:List Ob}{O:List Rw}{A A2:Option Addr}{n c m c2 x y:Nat}
theorem z7bo (h:Ow w0 w g M L O)(i:Nat)(hi:L[i]?=some ⟨A,n,c,z0c (Na.dig x)⟩)(hx:x<Na.top)(v:Int):
  Calls Tryz.prog 125 #[.agg #[.slice A n c],.int .i64 v] w (GotO w0 g M L O (powL x v) (powE x v)):=by
 obtain ⟨h1,h2,h3,h4⟩:=h.sl hi
 rw [z0f] at h1;have key:Calls Tryz.prog 125 #[.agg #[.slice A n c],.int .i64 v] w (z4k w (powL x v) (powE x v)):=by
  by_cases hv:v<0∨4800<v
  ·have e1:powL x v=[]:=if_pos hv
   have e2:powE x v=2:=if_pos hv
   rw [e1,e2];exact z9f A n c x v w h1 h2 h4 hx hv
  ·have e1:powL x v=z5i (x ^ v.toNat):=if_neg hv
   have e2:powE x v=z4s (x ^ v.toNat):=if_neg hv
   rw [e1,e2];have h0:0≤v:=by omega
   obtain ⟨k,rfl⟩:=Int.eq_ofNat_of_zero_le h0
   exact z5av A n c x k w h1 h4 hx (by omega)
 exact key.mono fun en w' hr=>z8e h (z5ah x v) hr
theorem z8bk (h:Ow w0 w g M L O)(v:Int)(hv:v≤9223372036854775807):Calls Tryz.prog 99 #[.int .i64 v] w (GotO w0 g M L O (ofL v) (ofE v)):=
 (z5aw v w hv).mono fun en w' hr=>z8e h (z9al hv) hr
end
theorem z5ap (L l:List Ob)(x y:Ob):∀ o∈L++[x]++[y],o∈L++l++[x]++[y]:=fun o ho=>by
 simp only [List.mem_append] at ho ⊢
 rcases ho with (h | h) | h
 ·exact .inl (.inl (.inl h))
 ·exact .inl (.inr h)
 ·exact .inr h
def ofF (a b:Int):Nat×Nat×Int:=if a<0∨b<0 then frE 2 else frM a.toNat b.toNat
theorem z2s {a:Int}(h:a≤9223372036854775807):a.toNat<Na.top:=by
 have h1:(9223372036854775807:Nat)<Na.top:=by decide +kernel
 omega
theorem z2e {a:Int}(h:0≤a):ofL a=Na.dig a.toNat∧ofE a=0:=⟨if_neg (by omega),if_neg (by omega)⟩
theorem z5n {a:Int}(h:a<0):ofL a=[]∧ofE a=2:=⟨if_pos h,if_pos h⟩
section
variable {w0 w w':World}{g:Option Nat}{M:List (Nat×Value)}{L:List Ob}{O:List Rw}
theorem z6bn (h:Ow w0 w g M L O)(a:Int)(ha:a≤9223372036854775807):Calls Tryz.prog 99 #[.int .i64 a] w (GotO w0 g M L O (ofL a) (ofE a)):=
 (z5aw a w ha).mono fun e w' hr=>z8e h (by
  rcases Int.lt_or_le a 0 with h0 | h0
  ·rw [(z5n h0).1];decide
  ·rw [(z2e h0).1];exact z2l (z2s ha)) hr
theorem z1at (h:Ow w0 w g M L O)(a b:Int)(ha:a≤9223372036854775807)(hb:b≤9223372036854775807)(ht:Tab w0):
  Calls Tryz.prog 65 #[.int .i64 a,.int .i64 b] w (GotF w0 g M L O (ofF a b)):=by
 have H0:=h.pair (.slice none 0 0) (.slice none 0 0) 27
 have HC:=zh (z6bn H0 a ha)
 have HB:=zh hb;have HA:=zh ha;have HT:=zh ht;obtain ⟨l1,h1⟩:∃ l,ofL a=l:=⟨_,rfl⟩
 obtain ⟨e1,he1⟩:∃ l,ofE a=l:=⟨_,rfl⟩
 obtain ⟨l2,h2⟩:∃ l,ofL b=l:=⟨_,rfl⟩
 obtain ⟨e2,he2⟩:∃ l,ofE b=l:=⟨_,rfl⟩
 rw [h1,he1] at HC;have HL:=zh (And.intro h1 (And.intro h2 he2))
 have key:((e1 != 0)=true∧ofF a b=frE 2)∨((e1 != 0)=false∧(e2 != 0)=true∧ofF a b=frE 2)∨((e1 != 0)=false∧(e2 != 0)=false∧0≤a∧0≤b∧ofF a b=frM a.toNat b.toNat):=by
  unfold ofF;rcases Int.lt_or_le a 0 with h0 | h0
  ·exact .inl ⟨by rw [← he1,(z5n h0).2];rfl,if_pos (.inl h0)⟩
  ·rcases Int.lt_or_le b 0 with h3 | h3
   ·exact .inr (.inl ⟨by rw [← he1,(z2e h0).2];rfl,by rw [← he2,(z5n h3).2];rfl,if_pos (.inr h3)⟩)
   ·exact .inr (.inr ⟨by rw [← he1,(z2e h0).2];rfl,by rw [← he2,(z2e h3).2];rfl,h0,h3,if_neg (by omega)⟩)
 clear h H0 ha hb h1 he1 h2 he2 ht;go_enter Tryz.func65,Tryz.ntmps65
 go_wp2_with fail;refine HC.out.mono ?_;rintro e w1 ⟨B1,m1,d1,rfl,H1⟩;have H2:=H1.boxed (.slice B1 m1 d1) 25
 have HD:=zh (z6bn H2 b HB.out)
 rw [HL.out.2.1,HL.out.2.2] at HD;clear HC H1 H2;rcases key with ⟨k1,k2⟩ | ⟨k1,k2,k3⟩ | ⟨k1,k2,ka,kb,k3⟩
 ·have HK:=zh k2;clear k2;go_wp2_with fail;refine HD.out.mono ?_;rintro e w2 ⟨B2,m2,d2,rfl,H3⟩;have H4:=H3.boxed (.slice B2 m2 d2) 25
  simp only [zqa,zqb,zqc] at H4;have x0:=H4.p0 (O.length+0) (zk rfl)
  have x1:=H4.p1 (O.length+0) (zk rfl)
  have f0:=H4.pf (O.length+0) (zk rfl) 0
  have f1:=H4.pf (O.length+0) (zk rfl) 1
  have H5:=H4.set0 (O.length+0) (zk rfl) (.slice none 0 0)
  rw [z0q,zqd] at H5;have H6:=H5.set1 (O.length+0) (zk rfl) (.slice none 0 0)
  rw [z0q,zqd] at H6;have s0:=H6.p0 (O.length+0) (zk rfl)
  have s1:=H6.p1 (O.length+0) (zk rfl)
  have HF:=zh (H6.fewM.fewO.less (L':=L) (fun o ho=>List.mem_append_left _ ho))
  clear HD H3 H4 H5 H6;go_wp2_with fail;refine bodyPost_ret (v:=.tuple #[.agg #[.slice none 0 0,.slice none 0 0],.int .i64 2]) (by simp [results,Tryz.results65,go_sem,s0,s1]) rfl ?_
  rw [HK.out];exact z3d HF.out 2
 ·have HK:=zh k3;clear k3;go_wp2_with fail;refine HD.out.mono ?_;rintro e w2 ⟨B2,m2,d2,rfl,H3⟩;have H4:=H3.boxed (.slice B2 m2 d2) 25
  simp only [zqa,zqb,zqc] at H4;have x0:=H4.p0 (O.length+0) (zk rfl)
  have x1:=H4.p1 (O.length+0) (zk rfl)
  have f0:=H4.pf (O.length+0) (zk rfl) 0
  have f1:=H4.pf (O.length+0) (zk rfl) 1
  have H5:=H4.set0 (O.length+0) (zk rfl) (.slice none 0 0)
  rw [z0q,zqd] at H5;have H6:=H5.set1 (O.length+0) (zk rfl) (.slice none 0 0)
  rw [z0q,zqd] at H6;have s0:=H6.p0 (O.length+0) (zk rfl)
  have s1:=H6.p1 (O.length+0) (zk rfl)
  have HF:=zh (H6.fewM.fewO.less (L':=L) (fun o ho=>List.mem_append_left _ ho))
  clear HD H3 H4 H5 H6;go_wp2_with fail;refine bodyPost_ret (v:=.tuple #[.agg #[.slice none 0 0,.slice none 0 0],.int .i64 2]) (by simp [results,Tryz.results65,go_sem,s0,s1]) rfl ?_
  rw [HK.out];exact z3d HF.out 2
 ·have HK:=zh k3;have HX:=zh (And.intro ka kb)
  obtain ⟨t,hmk⟩:∃ t,frM a.toNat b.toNat=t:=⟨_,rfl⟩
  have HMk:=zh hmk;clear k3 ka kb hmk;go_wp2_with fail;refine HD.out.mono ?_;rintro e w2 ⟨B2,m2,d2,rfl,H3⟩;have H4:=H3.boxed (.slice B2 m2 d2) 25
  simp only [zqa,zqb,zqc] at H4;rw [← HL.out.1,← HL.out.2.1,(z2e HX.out.1).1,(z2e HX.out.2).1] at H4
  have y0:=H4.cell (M.length+0) (zk rfl)
  have y1:=H4.cell (M.length+1) (zk rfl)
  have HE:=zh (z3br H4 (L.length+0) (L.length+1) (zk rfl) (zk rfl) (z2s HA.out) (z2s HB.out) HT.out)
  rw [HMk.out] at HE;have HG:=zh H4;clear HD H3 H4;go_wp2_with fail;refine HE.out.mono ?_;intro e w3 hr;have ht1:t.1<Na.top∧t.2.1<Na.top:=by rw [← HMk.out];exact z6u (z2s HA.out) (z2s HB.out)
  obtain ⟨C1,p1,q1,C2,p2,q2,rfl,how3⟩:=z5bg HG.out ht1.1 ht1.2 hr
  have x0:=how3.p0 (O.length+0) (zk rfl)
  have x1:=how3.p1 (O.length+0) (zk rfl)
  have f0:=how3.pf (O.length+0) (zk rfl) 0
  have f1:=how3.pf (O.length+0) (zk rfl) 1
  have H5:=how3.set0 (O.length+0) (zk rfl) (.slice C1 p1 q1)
  rw [z0q,zqd] at H5;have H6:=H5.set1 (O.length+0) (zk rfl) (.slice C2 p2 q2)
  rw [z0q,zqd] at H6;have s0:=H6.p0 (O.length+0) (zk rfl)
  have s1:=H6.p1 (O.length+0) (zk rfl)
  have HF:=zh (H6.fewM.fewO.less (L':=L++[⟨C1,p1,q1,_⟩]++[⟨C2,p2,q2,_⟩]) (z5ap L _ _ _))
  clear HE HG hr how3 H5 H6 y0 y1 ht1;go_wp2_with fail;refine bodyPost_ret (v:=.tuple #[.agg #[.slice C1 p1 q1,.slice C2 p2 q2],.int .i64 t.2.2]) (by simp [results,Tryz.results65,go_sem,s0,s1]) rfl ?_
  rw [HK.out,HMk.out];exact ⟨C1,p1,q1,C2,p2,q2,rfl,HF.out⟩
theorem z1ar (h:Ow w0 w g M L O)(a:Int)(ha:a≤9223372036854775807):Calls Tryz.prog 55 #[.int .i64 a] w (GotO w0 g M L O (ofL a) (ofE a)):=
 (z1az a w ha).mono fun e w' hr=>z8e h (by
  rcases Int.lt_or_le a 0 with h0 | h0
  ·rw [(z5n h0).1];decide
  ·rw [(z2e h0).1];exact z2l (z2s ha)) hr
theorem z3bo (h:Ow w0 w g M L O)(a b:Int)(ha:a≤9223372036854775807)(hb:b≤9223372036854775807):
  Calls Tryz.prog 31 #[.int .i64 a,.int .i64 b] w (GotF w0 g M L O (ofF a b)):=by
 have H0:=h.pair (.slice none 0 0) (.slice none 0 0) 27
 have HC:=zh (z1ar H0 a ha)
 have HB:=zh hb;have HA:=zh ha;obtain ⟨l1,h1⟩:∃ l,ofL a=l:=⟨_,rfl⟩
 obtain ⟨e1,he1⟩:∃ l,ofE a=l:=⟨_,rfl⟩
 obtain ⟨l2,h2⟩:∃ l,ofL b=l:=⟨_,rfl⟩
 obtain ⟨e2,he2⟩:∃ l,ofE b=l:=⟨_,rfl⟩
 rw [h1,he1] at HC;have HL:=zh (And.intro h1 (And.intro h2 he2))
 have key:((e1 != 0)=true∧ofF a b=frE 2)∨((e1 != 0)=false∧(e2 != 0)=true∧ofF a b=frE 2)∨((e1 != 0)=false∧(e2 != 0)=false∧0≤a∧0≤b∧ofF a b=frM a.toNat b.toNat):=by
  unfold ofF;rcases Int.lt_or_le a 0 with h0 | h0
  ·exact .inl ⟨by rw [← he1,(z5n h0).2];rfl,if_pos (.inl h0)⟩
  ·rcases Int.lt_or_le b 0 with h3 | h3
   ·exact .inr (.inl ⟨by rw [← he1,(z2e h0).2];rfl,by rw [← he2,(z5n h3).2];rfl,if_pos (.inr h3)⟩)
   ·exact .inr (.inr ⟨by rw [← he1,(z2e h0).2];rfl,by rw [← he2,(z2e h3).2];rfl,h0,h3,if_neg (by omega)⟩)
 clear h H0 ha hb h1 he1 h2 he2;go_enter Tryz.func31,Tryz.ntmps31
 go_wp2_with fail;refine HC.out.mono ?_;rintro e w1 ⟨B1,m1,d1,rfl,H1⟩;have H2:=H1.boxed (.slice B1 m1 d1) 25
 have HD:=zh (z1ar H2 b HB.out)
 rw [HL.out.2.1,HL.out.2.2] at HD;clear HC H1 H2;rcases key with ⟨k1,k2⟩ | ⟨k1,k2,k3⟩ | ⟨k1,k2,ka,kb,k3⟩
 ·have HK:=zh k2;clear k2;go_wp2_with fail;refine HD.out.mono ?_;rintro e w2 ⟨B2,m2,d2,rfl,H3⟩;have H4:=H3.boxed (.slice B2 m2 d2) 25
  simp only [zqa,zqb,zqc] at H4;have x0:=H4.p0 (O.length+0) (zk rfl)
  have x1:=H4.p1 (O.length+0) (zk rfl)
  have f0:=H4.pf (O.length+0) (zk rfl) 0
  have f1:=H4.pf (O.length+0) (zk rfl) 1
  have H5:=H4.set0 (O.length+0) (zk rfl) (.slice none 0 0)
  rw [z0q,zqd] at H5;have H6:=H5.set1 (O.length+0) (zk rfl) (.slice none 0 0)
  rw [z0q,zqd] at H6;have s0:=H6.p0 (O.length+0) (zk rfl)
  have s1:=H6.p1 (O.length+0) (zk rfl)
  have HF:=zh (H6.fewM.fewO.less (L':=L) (fun o ho=>List.mem_append_left _ ho))
  clear HD H3 H4 H5 H6;go_wp2_with fail;refine bodyPost_ret (v:=.tuple #[.agg #[.slice none 0 0,.slice none 0 0],.int .i64 2]) (by simp [results,Tryz.results31,go_sem,s0,s1]) rfl ?_
  rw [HK.out];exact z3d HF.out 2
 ·have HK:=zh k3;clear k3;go_wp2_with fail;refine HD.out.mono ?_;rintro e w2 ⟨B2,m2,d2,rfl,H3⟩;have H4:=H3.boxed (.slice B2 m2 d2) 25
  simp only [zqa,zqb,zqc] at H4;have x0:=H4.p0 (O.length+0) (zk rfl)
  have x1:=H4.p1 (O.length+0) (zk rfl)
  have f0:=H4.pf (O.length+0) (zk rfl) 0
  have f1:=H4.pf (O.length+0) (zk rfl) 1
  have H5:=H4.set0 (O.length+0) (zk rfl) (.slice none 0 0)
  rw [z0q,zqd] at H5;have H6:=H5.set1 (O.length+0) (zk rfl) (.slice none 0 0)
  rw [z0q,zqd] at H6;have s0:=H6.p0 (O.length+0) (zk rfl)
  have s1:=H6.p1 (O.length+0) (zk rfl)
  have HF:=zh (H6.fewM.fewO.less (L':=L) (fun o ho=>List.mem_append_left _ ho))
  clear HD H3 H4 H5 H6;go_wp2_with fail;refine bodyPost_ret (v:=.tuple #[.agg #[.slice none 0 0,.slice none 0 0],.int .i64 2]) (by simp [results,Tryz.results31,go_sem,s0,s1]) rfl ?_
  rw [HK.out];exact z3d HF.out 2
 ·have HK:=zh k3;have HX:=zh (And.intro ka kb)
  obtain ⟨t,hmk⟩:∃ t,frM a.toNat b.toNat=t:=⟨_,rfl⟩
  have HMk:=zh hmk;clear k3 ka kb hmk;go_wp2_with fail;refine HD.out.mono ?_;rintro e w2 ⟨B2,m2,d2,rfl,H3⟩;have H4:=H3.boxed (.slice B2 m2 d2) 25
  simp only [zqa,zqb,zqc] at H4;rw [← HL.out.1,← HL.out.2.1,(z2e HX.out.1).1,(z2e HX.out.2).1] at H4
  have y0:=H4.cell (M.length+0) (zk rfl)
  have y1:=H4.cell (M.length+1) (zk rfl)
  have HE:=zh (z1as H4 (L.length+0) (L.length+1) (zk rfl) (zk rfl) (z2s HA.out) (z2s HB.out))
  rw [HMk.out] at HE;have HG:=zh H4;clear HD H3 H4;go_wp2_with fail;refine HE.out.mono ?_;intro e w3 hr;have ht1:t.1<Na.top∧t.2.1<Na.top:=by rw [← HMk.out];exact z6u (z2s HA.out) (z2s HB.out)
  obtain ⟨C1,p1,q1,C2,p2,q2,rfl,how3⟩:=z5bg HG.out ht1.1 ht1.2 hr
  have x0:=how3.p0 (O.length+0) (zk rfl)
  have x1:=how3.p1 (O.length+0) (zk rfl)
  have f0:=how3.pf (O.length+0) (zk rfl) 0
  have f1:=how3.pf (O.length+0) (zk rfl) 1
  have H5:=how3.set0 (O.length+0) (zk rfl) (.slice C1 p1 q1)
  rw [z0q,zqd] at H5;have H6:=H5.set1 (O.length+0) (zk rfl) (.slice C2 p2 q2)
  rw [z0q,zqd] at H6;have s0:=H6.p0 (O.length+0) (zk rfl)
  have s1:=H6.p1 (O.length+0) (zk rfl)
  have HF:=zh (H6.fewM.fewO.less (L':=L++[⟨C1,p1,q1,_⟩]++[⟨C2,p2,q2,_⟩]) (z5ap L _ _ _))
  clear HE HG hr how3 H5 H6 y0 y1 ht1;go_wp2_with fail;refine bodyPost_ret (v:=.tuple #[.agg #[.slice C1 p1 q1,.slice C2 p2 q2],.int .i64 t.2.2]) (by simp [results,Tryz.results31,go_sem,s0,s1]) rfl ?_
  rw [HK.out,HMk.out];exact ⟨C1,p1,q1,C2,p2,q2,rfl,HF.out⟩
end
theorem z5bm {W:World}{a:Addr}{v:Value}(h:W.cell? a=some v):a.block<W.heap.size:=by
 rcases zqi a.block W.heap.size with h1 | h1
 ·exact h1
 ·have h2:W.heap[a.block]?=none:=Array.getElem?_eq_none h1
  simp [World.cell?,h2] at h
theorem z6ao (A:Option Addr)(n c:Nat)(w:World)(h:n≤400):Calls Tryz.prog 8 #[.slice A n c] w fun e w'=>e=.returned (.bool true)∧w=w':=by
 have:=z9m A n c w (by omega)
 rwa [zt (show (n:Int)≤400 by omega)] at this
theorem z0bg (A:Option Addr)(n c:Nat)(w:World)(h:400<n)(hl:n≤9223372036854775807):Calls Tryz.prog 8 #[.slice A n c] w fun e w'=>e=.returned (.bool false)∧w=w':=by
 have:=z9m A n c w hl
 rwa [zn (show ¬ (n:Int)≤400 by omega)] at this
section
variable {w0 w w':World}{g:Nat}{M:List (Nat×Value)}{L:List Ob}
theorem St.made (h:St w0 w (some g) M L){A:Option Addr}{n c:Nat}{vs:List Value}{e:TypeId}(ho:w'.ownsRow w.heap.size e 1 (.slice A n c) n vs)(hg:w.grownBy w' (some g))(hl:n≤1000):St w0 w' (some g) M (L++[⟨A,n,c,vs⟩]):=by
 refine (h.roll hg).add (Sl.of_own ho) (zqj _) (z2a ho) (z1l ho).1 hl fun ad e h0=>?_
 obtain ⟨g',hg',h1,_⟩:=z0r ho h0
 rw [e] at hg';obtain rfl:=zqk hg'
 exact ⟨fun e2=>by have:=(h.lt _ rfl).1;have e3:=zqk e2;simp only at e3;omega,fun i b v hi e2=>by have:=(h.box i b v hi).1;simp only at e2;omega⟩
end
theorem St.drew {w0 w:World}{g:Option Nat}{M:List (Nat×Value)}{L:List Ob}(h:St w0 w g M L):St w0 w.drew g M L:=h.go (Below.refl _ _).drew
structure Lay (k:Nat)(c a s:Nat→Nat):Prop where
 cc:∀ i j,i<k→j<k→c i=c j→i=j
 aa:∀ i j,i<k→j<k→a i=a j→i=j
 ss:∀ i j,i<k→j<k→s i=s j→i=j
 ca:∀ i j,i<k→j<k→c i≠a j
 cs:∀ i j,i<k→j<k→c i≠s j
 sa:∀ i j,i<k→j<k→a i≠s j
def GotV (P:Nat→Nat→Prop)(i:Nat)(r:Value)(Ls:List Ob):Prop:=∃ (A:Option Addr) (n c x:Nat),r=.agg #[.slice A n c]∧(⟨A,n,c,z0c (Na.dig x)⟩:Ob)∈Ls∧P i x
theorem z6v {L:Nat→Bool}{j:Nat}:z2p L j j=true:=if_pos rfl
theorem z0n {L:Nat→Bool}{i j:Nat}(h:i≠j):z2p L j i=L i:=if_neg h
structure VInv (w0:World)(g B k:Nat)(c a s:Nat→Nat)(P:Nat→Nat→Prop)(L:Nat→Bool)(res ptr:List Value)(W:World)(M:List (Nat×Value))(Ls:List Ob):Prop where
 st:St w0 W (some g) M Ls
 dice:Dice W g B
 low:B≤w0.heap.size
 rk:res.length=k
 pk:ptr.length=k
 got:∀ i r,res[i]?=some r→L (c i)=true→GotV P i r Ls
 var:∀ i p r,ptr[i]?=some p→res[i]?=some r→L (a i)=true→∃ b v,p=.pointer (some ⟨b,0,none⟩)∧(b,v)∈M∧(L (s i)=false→v=.slice none 0 0)∧(L (s i)=true→r=.agg #[v])
 ne:∀ i j p,i≠j→ptr[i]?=some p→ptr[j]?=some p→L (a i)=true→L (a j)=true→False
 ord:∀ i,i<k→L (s i)=true→L (c i)=true∧L (a i)=true
section
variable {w0 W W':World}{g B k:Nat}{c a s:Nat→Nat}{P:Nat→Nat→Prop}{L:Nat→Bool}{res ptr:List Value}{M:List (Nat×Value)}{Ls:List Ob}
theorem VInv.other (h:VInv w0 g B k c a s P L res ptr W M Ls)(j:Nat)(hc:∀ i,i<k→c i≠j)(ha:∀ i,i<k→a i≠j)(hs:∀ i,i<k→s i≠j):VInv w0 g B k c a s P (z2p L j) res ptr W M Ls:=by
 have l1:∀ i r,res[i]?=some r→i<k:=fun i r hr=>by have:=z0e hr;rw [h.rk] at this;exact this
 have l2:∀ i r,ptr[i]?=some r→i<k:=fun i r hr=>by have:=z0e hr;rw [h.pk] at this;exact this
 refine ⟨h.st,h.dice,h.low,h.rk,h.pk,fun i r hr hl=>?_,fun i p r hp hr hl=>?_,fun i i' p hne hp hp' hl hl'=>?_,fun i hi hl=>?_⟩
 ·rw [z0n (hc i (l1 i r hr))] at hl;exact h.got i r hr hl
 ·rw [z0n (ha i (l1 i r hr))] at hl
  rw [z0n (hs i (l1 i r hr))]
  exact h.var i p r hp hr hl
 ·rw [z0n (ha i (l2 i p hp))] at hl
  rw [z0n (ha i' (l2 i' p hp'))] at hl'
  exact h.ne i i' p hne hp hp' hl hl'
 ·rw [z0n (hs i hi)] at hl
  rw [z0n (hc i hi),z0n (ha i hi)]
  exact h.ord i hi hl
theorem VInv.call (h:VInv w0 g B k c a s P L res ptr W M Ls)(hl:Lay k c a s)(i:Nat)(hi:i<k)(hf:L (c i)=false){A:Option Addr}{n cc x:Nat}(hn:(Na.dig x).length=n)(hx:P i x)(h1:n≤1000)
  (ho:W'.ownsRow W.heap.size 3 1 (.slice A n cc) n (z0c (Na.dig x))) (hd:Dice W' g B) (hg:W.grownBy W' (some g)) :
  VInv w0 g B k c a s P (z2p L (c i)) (res.set i (.agg #[.slice A n cc])) ptr W' M (Ls++[⟨A,n,cc,z0c (Na.dig x)⟩]):=by
 have l1:∀ i r,res[i]?=some r→i<k:=fun i r hr=>by have:=z0e hr;rw [h.rk] at this;exact this
 have l2:∀ i r,ptr[i]?=some r→i<k:=fun i r hr=>by have:=z0e hr;rw [h.pk] at this;exact this
 refine ⟨h.st.made ho hg h1,hd,h.low,by rw [List.length_set];exact h.rk,h.pk,fun j r hr hl'=>?_,fun j p r hp hr hl'=>?_,fun j j' p hne hp hp' hl1 hl2=>?_,fun j hj hl'=>?_⟩
 ·by_cases e:j=i
  ·subst e
   rw [List.getElem?_set_self (by rw [h.rk];exact hi)] at hr
   obtain rfl:=zqk hr
   exact ⟨A,n,cc,x,rfl,List.mem_append_right _ List.mem_cons_self,hx⟩
  ·rw [zqf (fun e'=>e e'.symm)] at hr
   rw [z0n (fun e'=>e (hl.cc _ _ (l1 _ _ hr) hi e'))] at hl'
   obtain ⟨A',n',c',x',k1,k2,k3⟩:=h.got j r hr hl'
   exact ⟨A',n',c',x',k1,List.mem_append_left _ k2,k3⟩
 ·have hjk:=l2 j p hp
  rw [z0n (fun e'=>hl.ca _ _ hi hjk e'.symm)] at hl'
  rw [z0n (fun e'=>hl.cs _ _ hi hjk e'.symm)]
  by_cases e:j=i
  ·subst e
   have hres:j<res.length:=by rw [h.rk];exact hi
   obtain ⟨b,v,k1,k2,k3,k4⟩:=h.var j p res[j] hp (zql hres) hl'
   refine ⟨b,v,k1,k2,k3,fun e2=>?_⟩
   have:=(h.ord j hi e2).1
   rw [hf] at this;cases this
  ·rw [zqf (fun e'=>e e'.symm)] at hr
   exact h.var j p r hp hr hl'
 ·rw [z0n (fun e'=>hl.ca _ _ hi (l2 _ _ hp) e'.symm)] at hl1
  rw [z0n (fun e'=>hl.ca _ _ hi (l2 _ _ hp') e'.symm)] at hl2
  exact h.ne j j' p hne hp hp' hl1 hl2
 ·rw [z0n (fun e'=>hl.cs _ _ hi hj e'.symm)] at hl'
  rw [z0n (i:=a j) (fun e'=>hl.ca _ _ hi hj e'.symm)]
  by_cases e:j=i
  ·subst e;exact ⟨z6v,(h.ord j hj hl').2⟩
  ·rw [z0n (fun e'=>e (hl.cc _ _ hj hi e'))];exact h.ord j hj hl'
theorem VInv.alloc (h:VInv w0 g B k c a s P L res ptr W M Ls)(hl:Lay k c a s)(i:Nat)(hi:i<k)(hf:L (a i)=false)(hs0:L (s i)=false)(t:TypeId):
  VInv w0 g B k c a s P (z2p L (a i)) res (ptr.set i (.pointer (some ⟨W.heap.size,0,none⟩))) (W.alloc (.cells #[.slice none 0 0] t)) (M++[(W.heap.size,.slice none 0 0)]) Ls:=by
 have l1:∀ i r,res[i]?=some r→i<k:=fun i r hr=>by have:=z0e hr;rw [h.rk] at this;exact this
 have l2:∀ i r,ptr[i]?=some r→i<k:=fun i r hr=>by have:=z0e hr;rw [h.pk] at this;exact this
 refine ⟨h.st.boxed _ _,h.dice.grown (row:=none) (World.grownBy_alloc W _ none) (fun _ e=>by cases e),h.low,h.rk,by rw [List.length_set];exact h.pk,fun j r hr hl'=>?_,fun j p r hp hr hl'=>?_,fun j j' p hne hp hp' hl1 hl2=>?_,fun j hj hl'=>?_⟩
 ·rw [z0n (hl.ca _ _ (l1 _ _ hr) hi)] at hl'
  exact h.got j r hr hl'
 ·have hjk:=l1 j r hr
  rw [z0n (fun e'=>hl.sa _ _ hi hjk e'.symm)]
  by_cases e:j=i
  ·subst e
   rw [List.getElem?_set_self (by rw [h.pk];exact hi)] at hp
   obtain rfl:=zqk hp
   exact ⟨_,_,rfl,List.mem_append_right _ List.mem_cons_self,fun _=>rfl,fun e2=>by rw [hs0] at e2;cases e2⟩
  ·rw [zqf (fun e'=>e e'.symm)] at hp
   rw [z0n (fun e'=>e (hl.aa _ _ hjk hi e'))] at hl'
   obtain ⟨b,v,k1,k2,k3,k4⟩:=h.var j p r hp hr hl'
   exact ⟨b,v,k1,List.mem_append_left _ k2,k3,k4⟩
 ·have key:∀ (j:Nat) (p:Value),ptr[j]?=some p→L (a j)=true→p≠.pointer (some ⟨W.heap.size,0,none⟩):=fun j p hp hlj e=>by
   have hres:j<res.length:=by rw [h.rk];exact l2 j p hp
   obtain ⟨b,v,k1,k2,_⟩:=h.var j p res[j] hp (zql hres) hlj
   have:=(h.st.var k2).2.1
   rw [k1] at e;injection e with e
   injection e with e
   injection e with e
   omega
  by_cases e:j=i <;> by_cases e':j'=i
  ·omega
  ·subst e
   rw [List.getElem?_set_self (by rw [h.pk];exact hi)] at hp
   obtain rfl:=zqk hp
   rw [zqf (fun e2=>e' e2.symm)] at hp'
   rw [z0n (fun e2=>e' (hl.aa _ _ (l2 _ _ hp') hi e2))] at hl2
   exact key j' _ hp' hl2 rfl
  ·subst e'
   rw [List.getElem?_set_self (by rw [h.pk];exact hi)] at hp'
   obtain rfl:=zqk hp'
   rw [zqf (fun e2=>e e2.symm)] at hp
   rw [z0n (fun e2=>e (hl.aa _ _ (l2 _ _ hp) hi e2))] at hl1
   exact key j _ hp hl1 rfl
  ·rw [zqf (fun e2=>e e2.symm)] at hp
   rw [zqf (fun e2=>e' e2.symm)] at hp'
   rw [z0n (fun e2=>e (hl.aa _ _ (l2 _ _ hp) hi e2))] at hl1
   rw [z0n (fun e2=>e' (hl.aa _ _ (l2 _ _ hp') hi e2))] at hl2
   exact h.ne j j' p hne hp hp' hl1 hl2
 ·rw [z0n (fun e'=>hl.sa _ _ hi hj e'.symm)] at hl'
  rw [z0n (hl.ca _ _ hj hi)]
  by_cases e:j=i
  ·subst e;exact ⟨(h.ord j hj hl').1,z6v⟩
  ·rw [z0n (fun e'=>e (hl.aa _ _ hj hi e'))];exact h.ord j hj hl'
theorem VInv.store (h:VInv w0 g B k c a s P L res ptr W M Ls)(hl:Lay k c a s)(i:Nat)(hi:i<k)(hf:L (s i)=false)(hc:L (c i)=true)(ha:L (a i)=true){r p:Value}(hr:res[i]?=some r)(hp:ptr[i]?=some p):
  ∃ b A n cc x,p=.pointer (some ⟨b,0,none⟩)∧r=.agg #[.slice A n cc]∧P i x∧W.cell? ⟨b,0,none⟩=some (.slice none 0 0)∧W.frozen? ⟨b,0,none⟩=false∧
   VInv w0 g B k c a s P (z2p L (s i)) res ptr (W.setCell ⟨b,0,none⟩ (.slice A n cc)) (putV M b (.slice A n cc)) Ls:=by
 have l1:∀ i r,res[i]?=some r→i<k:=fun i r hr=>by have:=z0e hr;rw [h.rk] at this;exact this
 have l2:∀ i r,ptr[i]?=some r→i<k:=fun i r hr=>by have:=z0e hr;rw [h.pk] at this;exact this
 obtain ⟨b,v,rfl,hm,hv,_⟩:=h.var i p r hp hr ha
 obtain rfl:=hv hf
 obtain ⟨A,n,cc,x,rfl,hob,hx⟩:=h.got i r hr hc
 obtain ⟨v1,v2,v3,v4,v5⟩:=h.st.var hm
 have hgb:g≠b:=fun e=>v5 (by rw [e])
 refine ⟨b,A,n,cc,x,rfl,rfl,hx,v3,v4,h.st.putM hm _,?_,h.low,h.rk,h.pk,fun j r hr' hl'=>?_,fun j p' r' hp' hr' hl'=>?_,fun j j' p hne hp hp' hl1 hl2=>?_,fun j hj hl'=>?_⟩
 ·obtain ⟨A',n',c',at_,ts,hh,q1,q2,q3,q4,q5⟩:=h.dice;have hlow:=h.low;exact ⟨A',n',c',at_,ts,(Below.heap_setCell _ _ _ _ (fun e=>hgb e)).trans hh,q1,q2,q3,q4.keep (fun p hp=>World.cell?_of_block (Below.heap_setCell _ _ _ _ (fun e=>by simp only at e;omega))),q5⟩
 ·rw [z0n (hl.cs _ _ (l1 _ _ hr') hi)] at hl'
  exact h.got j r hr' hl'
 ·have hjk:=l1 j r' hr'
  rw [z0n (hl.sa _ _ hjk hi)] at hl'
  by_cases e:j=i
  ·subst e
   rw [hp] at hp';rw [hr] at hr';obtain rfl:=zqk hp'
   obtain rfl:=zqk hr'
   refine ⟨b,.slice A n cc,rfl,z7y hm,fun e2=>?_,fun _=>rfl⟩
   rw [z6v] at e2;cases e2
  ·obtain ⟨b',v',rfl,k2,k3,k4⟩:=h.var j p' r' hp' hr' hl'
   rw [z0n (fun e'=>e (hl.ss _ _ hjk hi e'))]
   refine ⟨b',v',rfl,z7a k2 (fun e2=>?_),k3,k4⟩
   subst e2
   exact h.ne j i _ e hp' hp hl' ha
 ·rw [z0n (hl.sa _ _ (l2 _ _ hp) hi)] at hl1
  rw [z0n (hl.sa _ _ (l2 _ _ hp') hi)] at hl2
  exact h.ne j j' p hne hp hp' hl1 hl2
 ·by_cases e:j=i
  ·subst e
   rw [z0n (hl.cs _ _ hj hi),z0n (hl.sa _ _ hj hi)]
   exact ⟨hc,ha⟩
  ·rw [z0n (fun e'=>e (hl.ss _ _ hj hi e'))] at hl'
   rw [z0n (hl.cs _ _ hj hi),z0n (hl.sa _ _ hj hi)]
   exact h.ord j hj hl'
theorem VInv.start (hs:St w0 W (some g) [] [])(hd:Dice W g B)(hB:B≤w0.heap.size)(hr:res.length=k)(hp:ptr.length=k):VInv w0 g B k c a s P (fun _=>false) res ptr W [] []:=
 ⟨hs,hd,hB,hr,hp,fun _ _ _ h=>(by cases h),fun _ _ _ _ _ h=>(by cases h),fun _ _ _ _ _ _ h=>(by cases h),fun _ _ h=>(by cases h)⟩
end
theorem z8u (A:Option Addr)(n c B:Nat)(ts:List Int)(w:World)(hn:ts.length=n)(hl:n≤140737488355328)(hs:Sl w B A (z0t ts))(hB:B≤w.heap.size):
  Calls Tryz.prog 10 #[.slice A n c] w fun e w'=>e=.returned (.pointer (some ⟨w.heap.size,0,none⟩))∧Dice w' w.heap.size B∧w'.heap.size=w.heap.size+1∧Below w.heap.size w w':=by
 have HD:Hid (Dice (w.alloc (.cells #[.slice A n c,.int .i64 0] 67)) w.heap.size B):=
  ⟨A,n,c,0,ts,heap_alloc_new w _,hn,zqr _,hl,hs.below ((Below.refl _ _).alloc hB _),hB⟩
 clear hn hs;go_enter Tryz.func10,Tryz.ntmps10
 go_wp2_with fail;go_ret;exact ⟨rfl,HD.out,by simp,(Below.refl _ _).alloc (zqj _) _⟩
theorem z3bi {w0 w:World}{M:List (Nat×Value)}{L:List Ob}(h:St w0 w none M L)(A:Option Addr)(n c B:Nat)(ts:List Int)(hn:ts.length=n)(hl:n≤140737488355328)(hB:B≤w0.heap.size)(hs:Sl w B A (z0t ts)):
  Calls Tryz.prog 10 #[.slice A n c] w fun e w'=>∃ g,e=.returned (.pointer (some ⟨g,0,none⟩))∧Dice w' g B∧St w0 w' (some g) M L:=by
 refine (z8u A n c B ts w hn hl hs (zqq hB h.size)).mono ?_
 rintro e w' ⟨he,hd,hz,hb⟩;have h':=h.go hb
 refine ⟨_,he,hd,⟨h'.below,fun x e=>by cases e;exact ⟨by omega,h.size⟩,fun i b v hi=>?_,h'.one,fun o ho=>?_⟩⟩
 ·obtain ⟨h1,h2,h3,h4,_⟩:=h'.box i b v hi
  exact ⟨h1,h2,h3,h4,fun e=>by cases e;have:=(h.box i _ v hi).1;omega⟩
 ·obtain ⟨h1,h2,h3,B,hB,hs2,hne⟩:=h.held o ho
  refine ⟨h1,h2,h3,B,zqq hB hb.size,hs2.below (hb.mono hB),fun ad e h0=>⟨fun e2=>?_,(hne ad e h0).2⟩⟩
  obtain ⟨ad',e',hbk,_⟩:=hs2 (by omega)
  rw [e] at e';obtain rfl:=zqk e'
  have:=zqk e2
  omega
end Go.Proofs.YtpmofjomadibmaaGreatDoor
