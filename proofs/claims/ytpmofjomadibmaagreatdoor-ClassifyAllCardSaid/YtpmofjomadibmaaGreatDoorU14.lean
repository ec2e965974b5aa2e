/- Xp Xg Xh Xi NPar NPow -/
import Derived.Test.YtpmofjomadibmaaGreatDoorU13
namespace Go.Proofs.YtpmofjomadibmaaGreatDoor
set_option maxHeartbeats 4000000
open Go.RowKit Go.Sort
open Go.ChangeMaps (setBlock heap_setBlock_same heap_setBlock_other)
set_option linter.unusedVariables false
set_option maxRecDepth 100000
open Cl
namespace Cl
set_option maxHeartbeats 4000000
def chk (s:Pl)(p q:List Int)(l:List Sn):Int:=
 if decide (shV s) && rv p q && z7w s l then (if decide (40<l.length) || decide (20<p.length) || decide (20<q.length) then 3 else 0) else 1
theorem z9bu {s:Pl}{p q:List Int}{l:List Sn}(h:decide (shV s)=false):chk s p q l=1:=by unfold chk;rw [h];rfl
theorem z9bv {s:Pl}{p q:List Int}{l:List Sn}(h:rv p q=false):chk s p q l=1:=by unfold chk;rw [h,Bool.and_false];rfl
theorem z9bw {s:Pl}{p q:List Int}{l:List Sn}(h:z7w s l=false):chk s p q l=1:=by unfold chk;rw [h,Bool.and_false];rfl
theorem z9av {s:Pl}{p q:List Int}{l:List Sn}(h:decide (shV s)=true)(h2:rv p q=true)(h3:z7w s l=true):chk s p q l=if decide (40<l.length) || decide (20<p.length) || decide (20<q.length) then 3 else 0:=by unfold chk;rw [h,h2,h3];rfl
theorem CellsPl.of {w:World}{b:Nat}{s:Pl}{w0:World}{g:Option Nat}{M:List (Nat×Value)}{L:List Ob}{O:List Rw}(h:Ow w0 w g M L O)(i:Nat){T:TypeId}(hi:O[i]?=some ⟨some ⟨b,0,none⟩,6,6,T,s.vs.toList⟩):CellsPl w b s:=
 ⟨(h.row i hi).cellAt 0 (by decide),(h.row i hi).cellAt 1 (by decide),(h.row i hi).cellAt 2 (by decide),(h.row i hi).cellAt 3 (by decide),(h.row i hi).cellAt 4 (by decide),(h.row i hi).cellAt 5 (by decide)⟩
end Cl
def RCk (s:Pl)(l:List Sn)(n:Nat)(w0:World)(g:Option Nat)(M:List (Nat×Value))(L:List Ob)(O:List Rw)(x:Value)(wr:World):Prop:=
 ∃ i:Nat,i<=n/\x=.int .i64 i/\Hid (Ow w0 wr g M L O)/\Hid (∀ (j:Nat) (z:Sn),j<i->l[j]?=some z->snV s z=true)
theorem z6g {n:Nat}{k:Nat}:decide ((k:Int)<n)=decide (k<n):=by rw [decide_eq_decide];omega
theorem z3bv {w0 w:World}{g:Option Nat}{M:List (Nat×Value)}{L:List Ob}{O:List Rw}{A A2 A3:Option Addr}{n c m c2 n3 c3 e3:Nat}{p q:List Int}{l:List Sn}(s:Pl)(h:Ow w0 w g M L O)(i j k:Nat)(hi:L[i]?=some ⟨A,n,c,z0p p⟩)(hj:L[j]?=some ⟨A2,m,c2,z0p q⟩)(hk:L[k]?=some ⟨A3,n3*8,e3,fl l⟩)(ht:Tab w0):
  Calls Tryz.prog 33 #[.agg s.vs,.agg #[.slice A n c,.slice A2 m c2],.slice A3 n3 c3] w fun e w'=>e=.returned (.int .i64 (chk s p q l))/\Ow w0 w' g M L O:=by
 have H0:=(h.arr s.vs 6 rfl (by omega) 33).pair (.slice A n c) (.slice A2 m c2) 27
 simp only [World.size_alloc,zqa,zqb,zqc] at H0;have HV:=zh (fun W=>z5a s W)
 have HLn:l.length=n3/\n3<=125:=by
  have:=h.sl hk
  have a:=this.1;have b:=this.2.1;rw [z2q] at a;omega
 have HPn:p.length=n:=(h.raw hi).1
 have HQn:q.length=m:=(h.raw hj).1
 obtain ⟨res,hres⟩:∃ r,chk s p q l=r:=⟨_,rfl⟩
 have HR:=zh hres;rw [hres];have HX:=CellsPl.of H0 (O.length+0) (zk rfl)
 obtain ⟨so,ch,ra,ba,ro,co⟩:=s;unfold Pl.vs at *
 obtain ⟨a0,a1,a2,a3,a4,a5⟩:=HX;simp only at a0 a1 a2 a3 a4 a5
 clear hres;go_enter Tryz.func33,Tryz.ntmps33
 go_wp2_with fail;refine (HV.out _).mono ?_
 rintro e w1 ⟨rfl,hb⟩;have H1:=H0.go hb
 clear a0 a1 a2 a3 a4 a5 hb H0 HV;cases hv:decide (shV ⟨so,ch,ra,ba,ro,co⟩) with
 | false=>
  have HF:Hid (res=1):=by unfold Hid;rw [<- HR.out];exact z9bu hv
  have HE:=zh H1.fewO;clear hv H1;go_wp2_with fail;go_ret;exact ⟨by rw [HF.out];rfl,HE.out⟩
 | true=>
 have HSv:=zh hv;clear hv;have a0:=H1.p0 (O.length+1) (zk rfl)
 have a1:=H1.p1 (O.length+1) (zk rfl)
 have HC:=zh (z2au H1 i j hi hj ht)
 go_wp2_with fail;refine HC.out.mono ?_;rintro e w2 ⟨rfl,hb⟩;have H2:=H1.go hb
 clear a0 a1 hb H1 HC;cases hv:rv p q with
 | false=>
  have HF:Hid (res=1):=by unfold Hid;rw [<- HR.out];exact z9bv hv
  have HE:=zh H2.fewO;clear hv H2;go_wp2_with fail;go_ret;exact ⟨by rw [HF.out];rfl,HE.out⟩
 | true=>
 have HQv:=zh hv;clear hv;have HC:=zh (z0as ⟨so,ch,ra,ba,ro,co⟩ _ A3 n3 c3 l w2 HLn.1 HLn.2 (H2.sl hk).2.2.2 (CellsPl.of (s:=⟨so,ch,ra,ba,ro,co⟩) H2 (O.length+0) (zk rfl)) (H2.lt (i:=O.length+0) (zk rfl) rfl).1)
 go_wp2_with fail;refine HC.out.mono ?_;rintro e w3 ⟨rfl,hb⟩;have H3:=H2.go hb
 clear hb H2 HC;cases hv:z7w ⟨so,ch,ra,ba,ro,co⟩ l with
 | false=>
  have HF:Hid (res=1):=by unfold Hid;rw [<- HR.out];exact z9bw hv
  have HE:=zh H3.fewO;clear hv H3;go_wp2_with fail;go_ret;exact ⟨by rw [HF.out];rfl,HE.out⟩
 | true=>
 have HAv:=zh hv;clear hv;have a0:=H3.p0 (O.length+1) (zk rfl)
 have a1:=H3.p1 (O.length+1) (zk rfl)
 have HF:=zh (z9av HSv.out HQv.out HAv.out)
 rw [HR.out] at HF;have HE:=zh H3.fewO;clear H3;obtain ⟨b1,h1⟩:∃ b,decide (40<n3)=b:=⟨_,rfl⟩
 obtain ⟨b2,h2⟩:∃ b,decide (20<n)=b:=⟨_,rfl⟩
 obtain ⟨b3,h3⟩:∃ b,decide (20<m)=b:=⟨_,rfl⟩
 have i1:decide ((40:Int)<n3)=b1:=z6g.trans h1
 have i2:decide ((20:Int)<n)=b2:=z6g.trans h2
 have i3:decide ((20:Int)<m)=b3:=z6g.trans h3
 rw [HLn.1,HPn,HQn,h1,h2,h3] at HF;cases b1 with
 | true=>
  go_wp2_with fail;go_ret;exact ⟨by rw [HF.out];rfl,HE.out⟩
 | false=>
 cases b2 with
 | true=>
  go_wp2_with fail;go_ret;exact ⟨by rw [HF.out];rfl,HE.out⟩
 | false=>
 cases b3 with
 | true=>
  go_wp2_with fail;go_ret;exact ⟨by rw [HF.out];rfl,HE.out⟩
 | false=>
  go_wp2_with fail;go_ret;exact ⟨by rw [HF.out];rfl,HE.out⟩
theorem z8bw {w0 w:World}{g:Option Nat}{M:List (Nat×Value)}{L:List Ob}{O:List Rw}{A A2 A3:Option Addr}{n c m c2 n3 c3 e3:Nat}{p q:List Int}{l:List Sn}(s:Pl)(h:Ow w0 w g M L O)(i j k:Nat)(hi:L[i]?=some ⟨A,n,c,z0p p⟩)(hj:L[j]?=some ⟨A2,m,c2,z0p q⟩)(hk:L[k]?=some ⟨A3,n3*8,e3,fl l⟩):
  Calls Tryz.prog 36 #[.agg s.vs,.agg #[.slice A n c,.slice A2 m c2],.slice A3 n3 c3] w fun e w'=>e=.returned (.int .i64 (chk s p q l))/\Ow w0 w' g M L O:=by
 have H0:=(h.arr s.vs 6 rfl (by omega) 33).pair (.slice A n c) (.slice A2 m c2) 27
 simp only [World.size_alloc,zqa,zqb,zqc] at H0;have HV:=zh (fun W=>z2ar s W)
 have HLn:l.length=n3/\n3<=125:=by
  have:=h.sl hk
  have a:=this.1;have b:=this.2.1;rw [z2q] at a;omega
 have HPn:p.length=n:=(h.raw hi).1
 have HQn:q.length=m:=(h.raw hj).1
 obtain ⟨res,hres⟩:∃ r,chk s p q l=r:=⟨_,rfl⟩
 have HR:=zh hres;rw [hres];have HX:=CellsPl.of H0 (O.length+0) (zk rfl)
 obtain ⟨so,ch,ra,ba,ro,co⟩:=s;unfold Pl.vs at *
 obtain ⟨a0,a1,a2,a3,a4,a5⟩:=HX;simp only at a0 a1 a2 a3 a4 a5
 clear hres;go_enter Tryz.func36,Tryz.ntmps36
 go_wp2_with fail;refine (HV.out _).mono ?_
 rintro e w1 ⟨rfl,hb⟩;have H1:=H0.go hb
 clear a0 a1 a2 a3 a4 a5 hb H0 HV;cases hv:decide (shV ⟨so,ch,ra,ba,ro,co⟩) with
 | false=>
  have HF:Hid (res=1):=by unfold Hid;rw [<- HR.out];exact z9bu hv
  have HE:=zh H1.fewO;clear hv H1;go_wp2_with fail;go_ret;exact ⟨by rw [HF.out];rfl,HE.out⟩
 | true=>
 have HSv:=zh hv;clear hv;have a0:=H1.p0 (O.length+1) (zk rfl)
 have a1:=H1.p1 (O.length+1) (zk rfl)
 have HC:=zh (z9t H1 i j hi hj)
 go_wp2_with fail;refine HC.out.mono ?_;rintro e w2 ⟨rfl,hb⟩;have H2:=H1.go hb
 clear a0 a1 hb H1 HC;cases hv:rv p q with
 | false=>
  have HF:Hid (res=1):=by unfold Hid;rw [<- HR.out];exact z9bv hv
  have HE:=zh H2.fewO;clear hv H2;go_wp2_with fail;go_ret;exact ⟨by rw [HF.out];rfl,HE.out⟩
 | true=>
 have HQv:=zh hv;clear hv;have HO:Hid (Ow w0 w2 g M L (O++[(⟨some ⟨w.heap.size,0,none⟩,6,6,33,[.int .i64 so,.int .i64 ch,.int .i64 ra,.int .i64 ba,.int .i64 ro,.int .i64 co]⟩:Rw),Rw.pair (w.heap.size+1) 27 (.slice A n c) (.slice A2 m c2)])):=H2
 have HL:=zh HLn;clear H2;go_wp2_with fail;go_loopw [19] (fun x wr=>RCk ⟨so,ch,ra,ba,ro,co⟩ l n3 w0 g M L (O++[(⟨some ⟨w.heap.size,0,none⟩,6,6,33,[.int .i64 so,.int .i64 ch,.int .i64 ra,.int .i64 ba,.int .i64 ro,.int .i64 co]⟩:Rw),Rw.pair (w.heap.size+1) 27 (.slice A n c) (.slice A2 m c2)]) x wr) (fun x _=>n3+1 - (intOf x).toNat)
 case atStart=>exact ⟨0,zqr _,rfl,HO,fun j z hj=>absurd hj (Nat.not_lt_zero _)⟩
 case round=>
  clear HO;obtain ⟨i,hi,rfl,HO,hI⟩:=hrel;rcases Nat.eq_or_lt_of_le hi with heq|hlt
  ·have hd:decide ((i:Int)<n3)=false:=zn (by omega)
   have hd2:decide (i<n3)=false:=zn (by omega)
   have HAv:Hid (z7w ⟨so,ch,ra,ba,ro,co⟩ l=true):=z4ai fun j z hz=>hI.out j z (by have:=z0d hz;have:=HL.out.1;omega) hz
   have H3:=HO.out;clear heq hi HO;have a0:=H3.p0 (O.length+1) (zk rfl)
   have a1:=H3.p1 (O.length+1) (zk rfl)
   have HF:=zh (z9av HSv.out HQv.out HAv.out)
   rw [HR.out] at HF;have HE:=zh H3.fewO;clear H3;obtain ⟨b1,h1⟩:∃ b,decide (40<n3)=b:=⟨_,rfl⟩
   obtain ⟨b2,h2⟩:∃ b,decide (20<n)=b:=⟨_,rfl⟩
   obtain ⟨b3,h3⟩:∃ b,decide (20<m)=b:=⟨_,rfl⟩
   have i1:decide ((40:Int)<n3)=b1:=z6g.trans h1
   have i2:decide ((20:Int)<n)=b2:=z6g.trans h2
   have i3:decide ((20:Int)<m)=b3:=z6g.trans h3
   rw [HLn.1,HPn,HQn,h1,h2,h3] at HF;cases b1 with
   | true=>
    go_wp2_with fail;go_ret;exact ⟨by rw [HF.out];rfl,HE.out⟩
   | false=>
   cases b2 with
   | true=>
    go_wp2_with fail;go_ret;exact ⟨by rw [HF.out];rfl,HE.out⟩
   | false=>
   cases b3 with
   | true=>
    go_wp2_with fail;go_ret;exact ⟨by rw [HF.out];rfl,HE.out⟩
   | false=>
    go_wp2_with fail;go_ret;exact ⟨by rw [HF.out];rfl,HE.out⟩
  ·have hd:decide ((i:Int)<n3)=true:=zt (by omega)
   have hd2:decide (i<n3)=true:=zt (by omega)
   obtain ⟨x,hx⟩:∃ x,l[i]?=some x:=⟨l[i]'(by rw [HL.out.1];exact hlt),zql _⟩
   obtain ⟨a,rfl,e0,e1,e2,e3,e4,e5,e6,e7⟩:=z2v (HO.out.sl hk).2.2.2 hx
   have HX:=zh hx;have HH:=zh hlt;have HK:=zh hk;have hli:(i:Int)<n3:=by omega
   obtain ⟨⟨x0,x1,x2,x3,x4,x5⟩,x6,x7⟩:=x
   simp only at e0 e1 e2 e3 e4 e5 e6 e7
   have HO2:Hid (Ow w0 (wr.alloc (.cells #[.int .i64 x0,.int .i64 x1,.int .i64 x2,.int .i64 x3,.int .i64 x4,.int .i64 x5,.int .i64 x6,.int .i64 x7] 40)) g M L (O++[(⟨some ⟨w.heap.size,0,none⟩,6,6,33,[.int .i64 so,.int .i64 ch,.int .i64 ra,.int .i64 ba,.int .i64 ro,.int .i64 co]⟩:Rw),Rw.pair (w.heap.size+1) 27 (.slice A n c) (.slice A2 m c2)])):=HO.out.go (z0i _ _)
   have HC:=zh (z5bh ⟨so,ch,ra,ba,ro,co⟩ ⟨⟨x0,x1,x2,x3,x4,x5⟩,x6,x7⟩ (wr.alloc (.cells #[.int .i64 x0,.int .i64 x1,.int .i64 x2,.int .i64 x3,.int .i64 x4,.int .i64 x5,.int .i64 x6,.int .i64 x7] 40)))
   unfold Pl.vs Sn.vs at HC;obtain ⟨a0,a1,a2,a3,a4,a5⟩:=zc6 (HO2.out.row (O.length+0) (zk rfl));clear hi hx HO hlt;cases hv:snV ⟨so,ch,ra,ba,ro,co⟩ ⟨⟨x0,x1,x2,x3,x4,x5⟩,x6,x7⟩ with
   | false=>
    rw [hv] at HC;have HF:Hid (res=1):=by unfold Hid;rw [<- HR.out];exact z9bw (z4aj HX.out hv)
    clear hv;go_wp2_with fail;refine HC.out.mono ?_;rintro e w4 ⟨rfl,hb⟩;have HE:=zh (HO2.out.go hb).fewO
    clear hb HC HO2 a0 a1 a2 a3 a4 a5 e0 e1 e2 e3 e4 e5 e6 e7;go_wp2_with fail;go_ret;exact ⟨by rw [HF.out];rfl,HE.out⟩
   | true=>
    rw [hv] at HC;have HV:=zh hv;have hw1:IntKind.i64.wrap ((i:Int)+1)=((i+1:Nat):Int):=by rw [IntWalk.i64_in _ (by have:=HL.out.2;omega)];omega
    clear hv;go_wp2_with fail;refine HC.out.mono ?_;rintro e w4 ⟨rfl,hb⟩;have HE:=zh (HO2.out.go hb)
    clear hb HC HO2 a0 a1 a2 a3 a4 a5 e0 e1 e2 e3 e4 e5 e6 e7;go_wp2_with fail;go_roundw
    case rel=>exact ⟨i+1,HH.out,rfl,HE,fun j z hj hz=>by
     rcases zqi j i with h|h
     ·exact hI.out j z h hz
     ·obtain rfl:j=i:=by omega
      have:=HX.out
      rw [hz] at this;obtain rfl:=zqk this
      exact HV.out⟩
    case measure=>
     have:=HH.out
     simp [intOf]
     omega
def RGp (w:World)(A:Option Addr)(n:Nat)(l:List Sn)(mb:Nat)(k:Int)(y x:Value)(wr:World):Prop:=
 ∃ (i:Nat) (Ao:Option Addr) (co:Nat) (inn:List Rw) (es:Array MapEntry) (ck:Nat),i<=n/\x=.int .i64 i/\y=.slice Ao inn.length co/\
  Hid (Gm w wr [⟨A,n*8,n*8,fl l⟩] mb es ck (z2g Ao co inn :: inn))/\Hid (EsOk es ((z2j k l i).map (·.1)))/\Hid (inn.map (·.vs)=(z2j k l i).map (fun p=>z0c p.2))/\Hid (∀ r∈inn,r.e=3)
theorem z3ar {inn:List Rw}{ks:List (Sp×List Nat)}(h:inn.map (·.vs)=ks.map (fun p=>z0c p.2)){j:Nat}{q:Sp}{g:List Nat}(hj:ks[j]?=some (q,g)):∃ r,inn[j]?=some r/\r.vs=z0c g:=by
 have h1:=congrArg (fun l=>l[j]?) h
 simp only [List.getElem?_map,hj,Option.map_some] at h1;cases hi:inn[j]? with
 | none=>rw [hi] at h1;simp at h1
 | some r=>rw [hi] at h1;exact ⟨r,rfl,by simpa using h1⟩
theorem z4m {inn:List Rw}{ks:List (Sp×List Nat)}(h:inn.map (·.vs)=ks.map (fun p=>z0c p.2)):inn.length=ks.length:=by
 have:=congrArg List.length h
 simpa using this
theorem z9ai {inn:List Rw}{ks:List (Sp×List Nat)}(h:inn.map (·.vs)=ks.map (fun p=>z0c p.2))(j:Nat)(q:Sp)(g:List Nat)(r:Rw)(hr:r.vs=z0c g):(inn.set j r).map (·.vs)=(ks.set j (q,g)).map (fun p=>z0c p.2):=by
 rw [List.map_set,List.map_set,h,hr]
theorem z7k (g:List Nat)(i:Nat):z0c g++[.int .i64 i]=z0c (g++[i]):=by unfold z0c;rw [List.map_append];rfl
theorem z7bg {ks:List (Sp×List Nat)}{j:Nat}{q:Sp}(h:(ks.map (·.1))[j]?=some q):∃ g,ks[j]?=some (q,g):=by
 rw [List.getElem?_map] at h;cases hk:ks[j]? with
 | none=>rw [hk] at h;simp at h
 | some p=>
  rw [hk] at h;have e:p.1=q:=by simpa using h
  exact ⟨p.2,by rw [<- e]⟩
theorem z2bq {ks:List (Sp×List Nat)}{q:Sp}(h:∀ p∈ks.map (·.1),p≠q):∀ p∈ks,p.1≠q:=fun p hp=>h _ (List.mem_map.2 ⟨p,hp,rfl⟩)
theorem z2aq {α:Type}:∀ (l:List α) (x y:α),(l++[x]).set l.length y=l++[y]
 | [],_,_=>rfl
 | _ :: l,x,y=>by
  show _ :: (l++[x]).set l.length y=_ :: (l++[y])
  rw [z2aq l x y]
theorem z6n (gb j:Nat):(⟨gb,0,none⟩:Addr).add j=⟨gb,j,none⟩:=by
 unfold Addr.add;split
 ·next h=>rw [h]
 ·simp
theorem z1p {α:Type}{l:List α}{j:Nat}{x:α}(h:l[j]?=some x):l.set j x=l:=by
 apply List.ext_getElem?
 intro k;by_cases e:k=j
 ·subst e
  rw [List.getElem?_set_self (z0d h),h]
 ·rw [zqf (fun e'=>e e'.symm)]
theorem z1ad {inn:List Rw}{j:Nat}{r':Rw}{T:TypeId}(h:∀ r∈inn,r.e=T)(h':r'.e=T):∀ r∈inn.set j r',r.e=T:=fun r hr=>by
 rcases List.mem_or_eq_of_mem_set hr with h1|h1
 ·exact h r h1
 ·rw [h1];exact h'
theorem z1am (k:Int)(hk:kd k)(A:Option Addr)(n c:Nat)(l:List Sn)(w:World)(hn:l.length=n)(hn2:n<=100)(hs:Sl w w.heap.size A (fl l)):
  Calls Tryz.prog 34 #[.int .i64 k,.slice A n c] w (GrR w (z2j k l n)):=by
 have HW:=zh (z5q k ⟨0,0,0,0,0,0⟩)
 rw [zt hk] at HW;obtain ⟨⟨p0,p1,p2,p3,p4,p5⟩,hp⟩:∃ p,whV k ⟨0,0,0,0,0,0⟩=p:=⟨_,rfl⟩
 rw [hp] at HW;unfold Pl.vs at HW;have HKd:=zh hk;have HN:=zh hn;have hmm:=@run_makeMap Tryz.prog
 have H0:=(Ow.of (St.refl w)).old (A:=A) (n:=n*8) (c:=n*8) (vs:=fl l) hs (by rw [z2q,hn]) (zqj _) (by omega)
 simp only [zqc] at H0;have HS:=zh hs;clear hp hs hk hn;go_enter Tryz.func34,Tryz.ntmps34
 go_wp2_with fail;refine (HW.out _).mono ?_
 rintro e w1 ⟨rfl,hb⟩;have H1:Ow w (w1.alloc (.cells #[.int .i64 p0,.int .i64 p1,.int .i64 p2,.int .i64 p3,.int .i64 p4,.int .i64 p5] 38)) none [] [⟨A,n*8,n*8,fl l⟩] []:=(H0.go hb).go (z0i _ _)
 have hsz:w.heap.size<=w1.heap.size:=hb.size
 have G0:Gm w ((w1.alloc (.cells #[.int .i64 p0,.int .i64 p1,.int .i64 p2,.int .i64 p3,.int .i64 p4,.int .i64 p5] 38)).alloc (.map #[] 0)) [⟨A,n*8,n*8,fl l⟩] (w1.heap.size+1) #[] 0 []:=by
  refine ⟨H1.go (z0i _ _),?_,by omega,fun o ho a ea h0 e=>?_,fun j q hj=>by simp at hj⟩
  ·have:=(MapKept.heap_alloc (w1.alloc (.cells #[.int .i64 p0,.int .i64 p1,.int .i64 p2,.int .i64 p3,.int .i64 p4,.int .i64 p5] 38)) (.map #[] 0)).1
   rw [World.size_alloc] at this;exact this
  ·rw [List.mem_singleton] at ho;subst ho
   obtain ⟨a',e',hlt,_⟩:=HS.out (by rw [z2q,HN.out];exact h0)
   rw [show A=some a from ea] at e'
   obtain rfl:=zqk e'
   omega
 have G1:=G0.nil 22
 simp only [zqc] at G1;have HG:=zh G1;clear HW hb H0 H1 G0 G1;go_wp2_with fail;go_loopw [7,25] (fun y x wr=>RGp w A n l (w1.heap.size+1) k y x wr) (fun _ x _=>n+1 - (intOf x).toNat)
 case atStart=>exact ⟨0,none,0,[],#[],0,zqr _,rfl,rfl,HG,EsOk.nil,rfl,fun r hr=>by cases hr⟩
 case round=>
  clear HG;obtain ⟨i,Ao,co,inn,es,ck,hi,rfl,rfl,HG,HE,HV,HT⟩:=hrel;have hil:inn.length<=n:=by
   have:=(z2z k l i).2
   have:=z4m HV.out
   omega
  rcases Nat.eq_or_lt_of_le hi with heq|hlt
  ·have hd:decide ((i:Int)<n)=false:=zn (by omega)
   have hd2:decide (i<n)=false:=zn (by omega)
   have HB:=zh HG.out.ow;have HQ:Hid (i=n):=heq
   clear heq hi;go_wp2_with fail;go_ret;refine ⟨Ao,co,inn,rfl,by rw [HV.out,HQ.out],HT.out,HB.out.less (fun o ho=>by cases ho)⟩
  ·have hd:decide ((i:Int)<n)=true:=zt (by omega)
   have hd2:decide (i<n)=true:=zt (by omega)
   obtain ⟨x,hx⟩:∃ x,l[i]?=some x:=⟨l[i]'(by rw [HN.out];exact hlt),zql _⟩
   obtain ⟨a,rfl,e0,e1,e2,e3,e4,e5,e6,e7⟩:=z2v (HG.out.ow.sl (i:=0) rfl).2.2.2 hx
   have HX:=zh hx;have HA:=zh (z0ba k x)
   obtain ⟨q,hq⟩:∃ q,z3u k x=q:=⟨_,rfl⟩
   have HQ:=zh hq;have HA2:Hid (∀ W,Calls Tryz.prog 61 #[.int .i64 k,.agg x.vs] W fun e w'=>e=.returned (.agg (spA q))/\Below W.heap.size W w'):=fun W=>by
    have:=HA.out W
    rwa [z8bp HKd.out,hq] at this
   obtain ⟨⟨x0,x1,x2,x3,x4,x5⟩,x6,x7⟩:=x
   obtain ⟨⟨q0,q1,q2,q3,q4,q5⟩,q6⟩:=q
   unfold spA at HA2;unfold Sn.vs at HA2;have hi2:i<n:=hlt
   clear HA hx hq hi hlt;go_wp2_with fail;refine (HA2.out _).mono ?_
   rintro e w2 ⟨rfl,hb⟩;have G2:Gm w (w2.alloc (.cells #[.int .i64 q0,.int .i64 q1,.int .i64 q2,.int .i64 q3,.int .i64 q4,.int .i64 q5,.int .i64 q6] 99)) [⟨some a,n*8,n*8,fl l⟩] (w1.heap.size+1) es ck (z2g Ao co inn :: inn):=((HG.out.go (z0i _ _)).go hb).go (z0i _ _)
   clear HG hb e0 e1 e2 e3 e4 e5 e6 e7 HA2;rcases z8ay G2.mp HE.out ⟨⟨q0,q1,q2,q3,q4,q5⟩,q6⟩ with ⟨hnew,hlk⟩|⟨j,hj,hlk⟩
   ·have hil3:inn.length<=100:=by omega
    have hkl:((z2j k l i).map (·.1)).length=inn.length:=by rw [List.length_map];exact (z4m HV.out).symm
    have hst:=z4ar G2.mp HE.out ⟨⟨q0,q1,q2,q3,q4,q5⟩,q6⟩ hnew (.int .i64 (inn.length:Int))
    have HE3:=zh (HE.out.push ⟨⟨q0,q1,q2,q3,q4,q5⟩,q6⟩ ck)
    rw [hkl] at HE3;have HNw:=zh (z0bh (z2j k l i) ⟨⟨q0,q1,q2,q3,q4,q5⟩,q6⟩ i (z2bq hnew))
    have G3:=G2.store (es.push ⟨.agg (spA ⟨⟨q0,q1,q2,q3,q4,q5⟩,q6⟩),.int .i64 (inn.length:Int),ck⟩) (ck+1)
    obtain ⟨es3,hes3⟩:∃ z,es.push ⟨.agg (spA ⟨⟨q0,q1,q2,q3,q4,q5⟩,q6⟩),.int .i64 (inn.length:Int),ck⟩=z:=⟨_,rfl⟩
    rw [hes3] at hst HE3 G3;obtain ⟨w3,hw3⟩:∃ z,setBlock (w2.alloc (.cells #[.int .i64 q0,.int .i64 q1,.int .i64 q2,.int .i64 q3,.int .i64 q4,.int .i64 q5,.int .i64 q6] 99)) (w1.heap.size+1) (.map es3 (ck+1))=z:=⟨_,rfl⟩
    rw [hw3] at hst G3;unfold spA at hst hlk;have HG3:=zh G3;clear hes3 hw3 G2 G3 hnew hkl HE;go_upto_region 15 with (at_builtin;refine z6f z9br HG3.out 0 (.tmp 46) (.tmp 47) _ _ (A:=Ao) (n:=inn.length) (c:=co) (xs:=inn.map Rw.sl) rfl rfl (by unfold maxLen;omega) (by omega) rfl rfl rfl rfl ?_;intro A5 c5 w5 how5)
    simp only [zqd] at how5;obtain ⟨inn2,hinn2⟩:∃ z,inn++[(⟨none,0,0,3,[]⟩:Rw)]=z:=⟨_,rfl⟩
    have hl2:inn2.length=inn.length+1:=by rw [<- hinn2];simp
    have G:Gm w w5 [⟨some a,n*8,n*8,fl l⟩] (w1.heap.size+1) es3 (ck+1) (z2g A5 c5 inn2 :: inn2):=by
     have G5:=how5.nil 3
     rw [<- hinn2];unfold z2g;rw [zqm,List.map_append];exact G5
    have HT2:Hid (∀ r∈inn2,r.e=3):=by
     intro r hr;rw [<- hinn2] at hr;rcases List.mem_append.1 hr with h|h
     ·exact HT.out r h
     ·rw [List.mem_singleton] at h;rw [h]
    have HI2:=zh hinn2;obtain ⟨r,hr,hr0⟩:∃ r,inn2[inn.length]?=some r/\r=⟨none,0,0,3,[]⟩:=⟨_,by rw [<- hinn2,zqo (zqj _),Nat.sub_self];rfl,rfl⟩
    have hrv:r.vs=z0c []:=by rw [hr0];rfl
    have HYl:Hid ((inn2.map Rw.sl)[inn.length]?=some r.sl):=by unfold Hid;rw [List.getElem?_map,hr];rfl
    obtain ⟨g,hg0⟩:∃ g:List Nat,g=[]:=⟨_,rfl⟩
    have HGl:Hid (g.length<=i):=by rw [hg0];exact zqr _
    rw [<- hg0] at hrv;have HG0:=zh hg0;clear how5 hinn2 hr0 hg0 HG3 hst hlk;obtain ⟨Ar,nr,cr,er,vr⟩:=r;obtain rfl:er=3:=HT2.out _ (List.mem_of_getElem? hr)
    obtain rfl:vr=z0c g:=hrv
    have hrow:(z2g A5 c5 inn2 :: inn2)[inn.length+1]?=some ⟨Ar,nr,cr,3,z0c g⟩:=hr
    have hjl:=z0d hr
    have hil2:inn2.length<=101:=by omega
    obtain ⟨gb,hgb,_,_⟩:=z0n (G.ow.row 0 (A:=A5) (n:=inn2.length) (c:=c5) (e:=22) (vs:=inn2.map Rw.sl) rfl) (by omega)
    obtain rfl:=hgb
    have hnr:(z0c g).length=nr:=z1m (G.ow.row (inn.length+1) hrow)
    rw [z0e] at hnr;have hgl:nr<=100:=by have:=HGl.out;omega
    have yl:(inn2.map Rw.sl)[inn.length]?=some (.slice Ar nr cr):=by rw [List.getElem?_map,hr];rfl
    have y0:=(G.ow.row 0 (A:=some ⟨gb,0,none⟩) (n:=inn2.length) (c:=c5) (e:=22) (vs:=inn2.map Rw.sl) rfl).cells (g:=gb) rfl inn.length _ yl
    rw [z6n] at y0;have HGx:=zh G;have hjI:(inn.length:Int)<(inn2.length:Int):=by omega
    clear G hnr hr yl;go_wp2_with (at_builtin;refine z6f z4p HGx.out (inn.length+1) (.tmp 54) (.tmp 56) _ _ hrow rfl (by unfold maxLen;omega) (by omega) rfl rfl rfl rfl ?_;intro A4 c4 w4 how;simp only [zqe] at how;have z0:=(how.ow.row 0 (A:=some ⟨gb,0,none⟩) (n:=inn2.length) (c:=c5) (e:=22) (vs:=inn2.map Rw.sl) rfl).cells (g:=gb) rfl inn.length (.slice Ar nr cr) HYl.out;rw [z6n] at z0;have zf:=(how.ow.row 0 (A:=some ⟨gb,0,none⟩) (n:=inn2.length) (c:=c5) (e:=22) (vs:=inn2.map Rw.sl) rfl).frozenAt inn.length)
    have HF:Hid (Gm w (w4.setCell ⟨gb,inn.length,none⟩ (.slice A4 (nr+1) c4)) [⟨some a,n*8,n*8,fl l⟩] (w1.heap.size+1) es3 (ck+1) (z2g (some ⟨gb,0,none⟩) c5 (inn2.set inn.length ⟨A4,nr+1,c4,3,z0c (g++[i])⟩) :: inn2.set inn.length ⟨A4,nr+1,c4,3,z0c (g++[i])⟩)):=by
     have:=how.put 0 (gb:=gb) (n:=inn2.length) (c:=c5) (e:=22) (vs:=inn2.map Rw.sl) rfl inn.length (.slice A4 (nr+1) c4)
     simp only [zqd] at this;rw [z7k] at this;unfold Hid z2g;rw [List.length_set,List.map_set];exact this
    clear how z0 zf y0 HGx hrow;go_roundw
    case rel=>exact ⟨i+1,some ⟨gb,0,none⟩,c5,inn2.set inn.length ⟨A4,nr+1,c4,3,z0c (g++[i])⟩,es3,ck+1,hi2,by go_num,by rw [List.length_set,hl2],HF,by unfold Hid;rw [z3q HX.out,HQ.out,HNw.out,List.map_append];exact HE3.out,by unfold Hid;rw [z3q HX.out,HQ.out,HNw.out,<- HI2.out,z2aq,List.map_append,List.map_append,HV.out,HG0.out];rfl,fun r hr=>z1ad HT2.out rfl r hr⟩
    case measure=>simp [intOf];omega
   ·obtain ⟨g,hg⟩:=z7bg hj
    obtain ⟨r,hr,hrv⟩:=z3ar HV.out hg
    have HGl:Hid (g.length<=i):=(z2z k l i).1 _ (List.mem_of_getElem? hg)
    have HYl:Hid ((inn.map Rw.sl)[j]?=some r.sl):=by unfold Hid;rw [List.getElem?_map,hr];rfl
    have HGj:=zh hg;unfold spA at hlk;go_upto_region 15 with (fail)
    obtain ⟨w3,hw3⟩:∃ z,w2.alloc (.cells #[.int .i64 q0,.int .i64 q1,.int .i64 q2,.int .i64 q3,.int .i64 q4,.int .i64 q5,.int .i64 q6] 99)=z:=⟨_,rfl⟩
    rw [hw3] at G2 ⊢
    have G:=G2;clear G2 hj hg hw3 hlk;obtain ⟨Ar,nr,cr,er,vr⟩:=r;obtain rfl:er=3:=HT.out _ (List.mem_of_getElem? hr)
    obtain rfl:vr=z0c g:=hrv
    have hrow:(z2g Ao co inn :: inn)[j+1]?=some ⟨Ar,nr,cr,3,z0c g⟩:=hr
    have hjl:=z0d hr
    have hil2:inn.length<=101:=by omega
    obtain ⟨gb,hgb,_,_⟩:=z0n (G.ow.row 0 (A:=Ao) (n:=inn.length) (c:=co) (e:=22) (vs:=inn.map Rw.sl) rfl) (by omega)
    obtain rfl:=hgb
    have hnr:(z0c g).length=nr:=z1m (G.ow.row (j+1) hrow)
    rw [z0e] at hnr;have hgl:nr<=100:=by have:=HGl.out;omega
    have yl:(inn.map Rw.sl)[j]?=some (.slice Ar nr cr):=by rw [List.getElem?_map,hr];rfl
    have y0:=(G.ow.row 0 (A:=some ⟨gb,0,none⟩) (n:=inn.length) (c:=co) (e:=22) (vs:=inn.map Rw.sl) rfl).cells (g:=gb) rfl j _ yl
    rw [z6n] at y0;have HGx:=zh G;have hjI:(j:Int)<(inn.length:Int):=by omega
    clear G hnr hr yl;go_wp2_with (at_builtin;refine z6f z4p HGx.out (j+1) (.tmp 54) (.tmp 56) _ _ hrow rfl (by unfold maxLen;omega) (by omega) rfl rfl rfl rfl ?_;intro A4 c4 w4 how;simp only [zqe] at how;have z0:=(how.ow.row 0 (A:=some ⟨gb,0,none⟩) (n:=inn.length) (c:=co) (e:=22) (vs:=inn.map Rw.sl) rfl).cells (g:=gb) rfl j (.slice Ar nr cr) HYl.out;rw [z6n] at z0;have zf:=(how.ow.row 0 (A:=some ⟨gb,0,none⟩) (n:=inn.length) (c:=co) (e:=22) (vs:=inn.map Rw.sl) rfl).frozenAt j)
    have HF:Hid (Gm w (w4.setCell ⟨gb,j,none⟩ (.slice A4 (nr+1) c4)) [⟨some a,n*8,n*8,fl l⟩] (w1.heap.size+1) es ck (z2g (some ⟨gb,0,none⟩) co (inn.set j ⟨A4,nr+1,c4,3,z0c (g++[i])⟩) :: inn.set j ⟨A4,nr+1,c4,3,z0c (g++[i])⟩)):=by
     have:=how.put 0 (gb:=gb) (n:=inn.length) (c:=co) (e:=22) (vs:=inn.map Rw.sl) rfl j (.slice A4 (nr+1) c4)
     simp only [zqd] at this;rw [z7k] at this;unfold Hid z2g;rw [List.length_set,List.map_set];exact this
    clear how z0 zf y0 HGx hrow;go_roundw
    case rel=>exact ⟨i+1,some ⟨gb,0,none⟩,co,inn.set j ⟨A4,nr+1,c4,3,z0c (g++[i])⟩,es,ck,hi2,by go_num,by rw [List.length_set],HF,by unfold Hid;rw [z3q HX.out,HQ.out,z4am _ _ _ _ _ (z2m k l i) HGj.out,List.map_set,z1p (by rw [List.getElem?_map,HGj.out];rfl)];exact HE.out,by unfold Hid;rw [z3q HX.out,HQ.out,z4am _ _ _ _ _ (z2m k l i) HGj.out];exact z9ai HV.out j _ _ _ rfl,fun r hr=>z1ad HT.out rfl r hr⟩
    case measure=>simp [intOf];omega
theorem z4br:∀ (ks:List (Sp×List Nat))(q:Sp)(i:Nat)(p:Sp×List Nat),p∈ad ks q i->p∈ks∨p=(q,[i])∨∃ g,(q,g)∈ks/\p=(q,g++[i])
 | [],q,i,p,h=>.inr (.inl (by simpa [ad] using h))
 | p0 :: r,q,i,p,h=>by
  have h':p∈(if p0.1=q then (q,p0.2++[i]) :: r else p0 :: ad r q i):=h
  by_cases e:p0.1=q
  ·rw [if_pos e] at h';rcases List.mem_cons.1 h' with h1|h1
   ·exact .inr (.inr ⟨p0.2,by rw [<- e];exact List.mem_cons_self,h1⟩)
   ·exact .inl (List.mem_cons_of_mem _ h1)
  ·rw [if_neg e] at h';rcases List.mem_cons.1 h' with h1|h1
   ·exact .inl (by rw [h1];exact List.mem_cons_self)
   ·rcases z4br r q i p h1 with h2|h2|⟨g,h2,h3⟩
    ·exact .inl (List.mem_cons_of_mem _ h2)
    ·exact .inr (.inl h2)
    ·exact .inr (.inr ⟨g,List.mem_cons_of_mem _ h2,h3⟩)
theorem z4n (k:Int)(l:List Sn):∀ (i:Nat) (p:Sp×List Nat),p∈z2j k l i->∃ h t y,p.2=h :: t/\h<i/\l[h]?=some y/\z3u k y=p.1
 | 0,p,h=>by cases h
 | i+1,p,h=>by
  have h':p∈((match l[i]? with|some x=>ad (z2j k l i) (z3u k x) i|none=>z2j k l i):List (Sp×List Nat)):=h
  cases hx:l[i]? with
  | none=>
   rw [hx] at h';obtain ⟨h1,t,y,a1,a2,a3,a4⟩:=z4n k l i p h'
   exact ⟨h1,t,y,a1,by omega,a3,a4⟩
  | some x=>
   rw [hx] at h';rcases z4br _ _ _ _ h' with h2|h2|⟨g,h2,h3⟩
   ·obtain ⟨h1,t,y,a1,a2,a3,a4⟩:=z4n k l i p h2
    exact ⟨h1,t,y,a1,by omega,a3,a4⟩
   ·exact ⟨i,[],x,by rw [h2],by omega,hx,by rw [h2]⟩
   ·obtain ⟨h1,t,y,a1,a2,a3,a4⟩:=z4n k l i _ h2
    have a1':g=h1 :: t:=a1
    exact ⟨h1,t++[i],y,by rw [h3];show g++[i]=_;rw [a1'];rfl,by omega,a3,by rw [h3];exact a4⟩
def RGr (w:World)(aL:Addr)(n:Nat)(l:List Sn)(k:Int)(y x:Value)(wr:World):Prop:=
 ∃ (i:Nat) (Ao:Option Addr) (co:Nat) (inn:List Rw),i<=n/\x=.int .i64 i/\y=.slice Ao inn.length co/\
  Hid (Ow w wr none [] [⟨some aL,n*8,n*8,fl l⟩] (z2g Ao co inn :: inn))/\Hid (inn.map (·.vs)=(z2j k l i).map (fun p=>z0c p.2))/\Hid (∀ r∈inn,r.e=3)
def RGs (w:World)(aL:Addr)(n:Nat)(l:List Sn)(k:Int)(i xb:Nat)(q:Sp)(x0:Sn)(ks:List (Sp×List Nat))(Ao:Option Addr)(co:Nat)(inn:List Rw)(y x:Value)(wr:World):Prop:=
 ∃ (j:Nat) (inn':List Rw),j<=inn.length/\x=.int .i64 j/\inn'.length=inn.length/\Hid (Ow w wr none [] [⟨some aL,n*8,n*8,fl l⟩] (z2g Ao co inn' :: inn'))/\Hid (∀ r∈inn',r.e=3)/\
  ((y=.bool false/\inn'=inn/\Hid (∀ p r,p<j->ks[p]?=some r->r.1≠q)/\Hid (CellsSn wr ⟨xb,0,none⟩ x0))∨(y=.bool true/\Hid (inn'.map (·.vs)=(ad ks q i).map (fun p=>z0c p.2))))
theorem CellsSn.go {w w':World}{b:Nat}{x:Sn}(h:CellsSn w ⟨b,0,none⟩ x)(hb:Below w.heap.size w w')(hlt:b<w.heap.size):CellsSn w' ⟨b,0,none⟩ x:=by
 obtain ⟨h0,h1,h2,h3,h4,h5,h6,h7⟩:=h;exact ⟨(hb.cell (p:=⟨b,0,none⟩) hlt).trans h0,(hb.cell (p:=⟨b,0+1,none⟩) hlt).trans h1,(hb.cell (p:=⟨b,0+2,none⟩) hlt).trans h2,(hb.cell (p:=⟨b,0+3,none⟩) hlt).trans h3,(hb.cell (p:=⟨b,0+4,none⟩) hlt).trans h4,(hb.cell (p:=⟨b,0+5,none⟩) hlt).trans h5,(hb.cell (p:=⟨b,0+6,none⟩) hlt).trans h6,(hb.cell (p:=⟨b,0+7,none⟩) hlt).trans h7⟩
theorem CellsSn.lt {w:World}{b:Nat}{x:Sn}(h:CellsSn w ⟨b,0,none⟩ x):b<w.heap.size:=by
 have h0:=h.1;rcases zqi b w.heap.size with h1|h1
 ·exact h1
 ·unfold World.cell? at h0
  rw [Array.getElem?_eq_none (by simpa using h1)] at h0
  cases h0
theorem CellsSn.new (w:World)(x:Sn):CellsSn (w.alloc (.cells x.vs 40)) ⟨w.heap.size,0,none⟩ x:=by
 have H:=(Ow.of (St.refl w)).arr x.vs 8 rfl (by omega) 40
 simp only [zqc] at H;exact ⟨(H.row 0 rfl).cellAt 0 (by decide),(H.row 0 rfl).cellAt 1 (by decide),(H.row 0 rfl).cellAt 2 (by decide),(H.row 0 rfl).cellAt 3 (by decide),(H.row 0 rfl).cellAt 4 (by decide),(H.row 0 rfl).cellAt 5 (by decide),(H.row 0 rfl).cellAt 6 (by decide),(H.row 0 rfl).cellAt 7 (by decide)⟩
theorem z1ap {P:Program}{w0 w:World}{g:Option Nat}{M:List (Nat×Value)}{L:List Ob}{O:List Rw}{t e:TypeId}{z:Value}{bytes:Nat}{ops:Array Oper}{rest:List Oper}{o:Oper}{a:Act}{Q:Exit->Act->World->Prop}(b:Nat)(hb:w.heap.size=b)(hE:Elem P t e z bytes)(h:Ow w0 w g M L O)(i:Nat)(s x:Operand)(v:Value)(tt:TypeId){A:Option Addr}{n c:Nat}{xs:List Value}(hi:O[i]?=some ⟨A,n,c,e,xs⟩)
  (h1:v.oneCell'=true) (h63:n+1<=maxLen) (hbytes:(n+1)*bytes<=140737488355328)
  (hgd:o.guard=none) (ho:o.op=.call { callee:=.builtin .append,args:=#[s,x],argTypes:=#[t,t] }) (hs:a.eval s=.slice A n c) (hx:a.eval x=.slice (some ⟨b,0,none⟩) 1 1)
  (hk:∀ A' c' w',Ow w0 w' g M L (O.set i ⟨A',n+1,c',e,xs++[v]⟩)->wpList P ops Q rest (a.put o.dst (.slice A' (n+1) c')) w'):wpList P ops Q (o :: rest) a (w.alloc (.cells #[v] tt)):=by
 subst hb
 exact z2k hE h i s x v tt hi h1 h63 hbytes hgd ho hs hx hk
theorem z6av (k:Int)(hk:kd k)(aL:Addr)(n c:Nat)(l:List Sn)(w:World)(hn:l.length=n)(hn2:n<=100)(hs:Sl w w.heap.size (some aL) (fl l)):
  Calls Tryz.prog 30 #[.int .i64 k,.slice (some aL) n c] w (GrR w (z2j k l n)):=by
 have HKd:=zh hk;have HK:Hid (decide (k<(1:Int))=false/\decide ((6:Int)<k)=false):=⟨zn (by have:=hk.1;omega),zn (by have:=hk.2;omega)⟩
 have HN:=zh hn;have H0:=(Ow.of (St.refl w)).old (A:=some aL) (n:=n*8) (c:=n*8) (vs:=fl l) hs (by rw [z2q,hn]) (zqj _) (by omega)
 have H1:=H0.nil 22
 simp only [zqc] at H1;have HO:=zh H1;obtain ⟨hk1,hk2⟩:=HK.out;clear hs hk hn H0 H1;go_enter Tryz.func30,Tryz.ntmps30
 go_wp2_with fail;clear hk1 hk2;go_loopw [5,19] (fun y x wr=>RGr w aL n l k y x wr) (fun _ x _=>n+1 - (intOf x).toNat)
 case atStart=>exact ⟨0,none,0,[],zqr _,rfl,rfl,HO,rfl,fun r hr=>by cases hr⟩
 case round=>
  clear HO;obtain ⟨i,Ao,co,inn,hi,rfl,rfl,HO,HV,HT⟩:=hrel;have hil:inn.length<=i:=by
   have:=(z2z k l i).2
   have:=z4m HV.out
   omega
  rcases Nat.eq_or_lt_of_le hi with heq|hlt
  ·have hd:decide ((i:Int)<n)=false:=zn (by omega)
   have hd2:decide (i<n)=false:=zn (by omega)
   have HQ:Hid (i=n):=heq
   clear heq hi;go_wp2_with fail;go_ret;refine ⟨Ao,co,inn,rfl,by rw [HV.out,HQ.out],HT.out,HO.out.less (fun o ho=>by cases ho)⟩
  ·have hd:decide ((i:Int)<n)=true:=zt (by omega)
   have hd2:decide (i<n)=true:=zt (by omega)
   obtain ⟨x,hx⟩:∃ x,l[i]?=some x:=⟨l[i]'(by rw [HN.out];exact hlt),zql _⟩
   obtain ⟨a',ea,e0,e1,e2,e3,e4,e5,e6,e7⟩:=z2v (HO.out.sl (i:=0) rfl).2.2.2 hx
   obtain rfl:=zqk ea
   have HX:=zh hx;obtain ⟨q,hq⟩:∃ q,z3u k x=q:=⟨_,rfl⟩
   have HQ:=zh hq;have HSm:Hid (∀ (y:Sn) (W:World),Calls Tryz.prog 23 #[.int .i64 k,.agg y.vs,.agg x.vs] W fun e w'=>e=.returned (.bool (decide (z3u k y=q)))/\Below W.heap.size W w'):=fun y W=>by rw [<- hq];exact z9m k HKd.out y x W
   have hi2:i<n:=hlt
   have hCx:=CellsSn.new wr x
   have hOx:=HO.out.go (z0i wr (.cells x.vs 40))
   obtain ⟨⟨x0,x1,x2,x3,x4,x5⟩,x6,x7⟩:=x
   unfold Sn.vs at hCx hOx HSm;have HCx:=zh hCx;have HOx:=zh hOx;obtain ⟨ks,hks⟩:∃ z,z2j k l i=z:=⟨_,rfl⟩
   have HKs:=zh hks;rw [hks] at HV;clear hx hq hi hlt hCx hOx HO ea hks;go_wp2_with fail;clear e0 e1 e2 e3 e4 e5 e6 e7;obtain ⟨xb,hxb⟩:∃ z,wr.heap.size=z:=⟨_,rfl⟩
   rw [hxb] at HCx ⊢
   clear hxb;go_loopw [8,26] (fun y x wr2=>RGs w aL n l k i xb q (⟨⟨x0,x1,x2,x3,x4,x5⟩,x6,x7⟩:Sn) ks Ao co inn y x wr2) (fun _ x _=>inn.length+1 - (intOf x).toNat)
   case atStart=>exact ⟨0,inn,zqr _,rfl,rfl,HOx,HT,.inl ⟨rfl,rfl,fun p r hp=>absurd hp (Nat.not_lt_zero _),HCx⟩⟩
   case round=>
    clear HOx HCx;obtain ⟨j,inn',hj,rfl,hlen,HO,HT',hcase⟩:=hrel;rcases Nat.eq_or_lt_of_le hj with heq|hlt
    ·have hd3:decide ((j:Int)<(inn.length:Int))=false:=zn (by omega)
     have hd4:decide (j<inn.length)=false:=zn (by omega)
     have hE:Hid (j=inn.length):=heq
     clear heq hj hd hd2;rcases hcase with ⟨rfl,he,hno,hcx⟩|⟨rfl,hyes⟩
     ·have HNw:Hid (ad ks q i=ks++[(q,[i])]):=z0bh ks q i fun p hp=>by
       obtain ⟨z,hz⟩:=List.getElem?_of_mem hp
       exact hno.out z p (by rw [hE.out,z4m HV.out];exact z0d hz) hz
      rw [he] at HO HT';clear he hlen hno hcx;go_upto_region 15 with (fail)
      have H2:=HO.out.add (World.ownsRow_lit (base:=wr.heap.size) (e:=3) (size:=1) wr #[.int .i64 i] 1 (zqj _) (by decide) rfl) (z0i _ _)
      have HH2:=zh H2;clear H2;go_wp2_with (at_builtin;refine z1ap (wr.heap.size+1) (by simp) z9br HH2.out 0 (.tmp 54) (.tmp 57) (.slice (some ⟨wr.heap.size,0,none⟩) 1 1) _ (A:=Ao) (n:=inn.length) (c:=co) (xs:=inn.map Rw.sl) rfl rfl (by unfold maxLen;omega) (by omega) rfl rfl rfl rfl ?_;intro A5 c5 w5 how5)
      have HF:Hid (Ow w w5 none [] [⟨some aL,n*8,n*8,fl l⟩] (z2g A5 c5 (inn++[⟨some ⟨wr.heap.size,0,none⟩,1,1,3,[.int .i64 i]⟩]) :: (inn++[⟨some ⟨wr.heap.size,0,none⟩,1,1,3,[.int .i64 i]⟩]))):=by
       simp only [zqb,zqd] at how5;unfold Hid z2g;rw [zqm,List.map_append];exact how5
      clear how5 HH2;go_roundw
      case rel=>exact ⟨i+1,A5,c5,inn++[⟨some ⟨wr.heap.size,0,none⟩,1,1,3,[.int .i64 i]⟩],hi2,by go_num,by rw [zqm];rfl,HF,by unfold Hid;rw [z3q HX.out,HQ.out,HKs.out,HNw.out,List.map_append,List.map_append,HV.out];rfl,fun r hr=>(List.mem_append.1 hr).elim (HT.out r) fun h=>by rw [List.mem_singleton] at h;rw [h]⟩
      case measure=>simp [intOf];omega
     ·have HYe:=hyes;clear hyes;go_wp2_with fail;go_roundw
      case rel=>exact ⟨i+1,Ao,co,inn',hi2,by go_num,by rw [hlen],HO,by unfold Hid;rw [z3q HX.out,HQ.out,HKs.out];exact HYe.out,HT'⟩
      case measure=>simp [intOf];omega
    ·have hd3:decide ((j:Int)<(inn.length:Int))=true:=zt (by omega)
     have hd4:decide (j<inn.length)=true:=zt hlt
     have hjI:(j:Int)<(inn.length:Int):=by omega
     have hlt2:j+1<=inn.length:=hlt
     rcases hcase with ⟨rfl,he,hno,hcx⟩|⟨rfl,hyes⟩
     ·rw [he] at HO HT';obtain ⟨p,hp⟩:∃ p,ks[j]?=some p:=⟨ks[j]'(by rw [<- z4m HV.out];exact hlt),zql _⟩
      obtain ⟨qj,gj0⟩:=p;obtain ⟨r,hr,hrv⟩:=z3ar HV.out hp
      obtain ⟨h,t,y,hg,hhi,hy,hyq⟩:=z4n k l i (qj,gj0) (by rw [HKs.out];exact List.mem_of_getElem? hp)
      have hg':gj0=h :: t:=hg
      have hyq':z3u k y=qj:=hyq
      obtain ⟨Ar,nr,cr,er,vr⟩:=r;obtain rfl:er=3:=HT.out _ (List.mem_of_getElem? hr)
      obtain rfl:vr=z0c gj0:=hrv
      have hrow:(z2g Ao co inn :: inn)[j+1]?=some ⟨Ar,nr,cr,3,z0c gj0⟩:=hr
      have hnr:(z0c gj0).length=nr:=z1m (HO.out.row (j+1) hrow)
      rw [z0e] at hnr;have hnr0:0<nr:=by rw [<- hnr,hg'];exact Nat.succ_pos _
      have hgl:nr<=100:=by
       have:=(z2z k l i).1 (qj,gj0) (by rw [HKs.out];exact List.mem_of_getElem? hp)
       have h2:gj0.length<=i:=this
       omega
      obtain ⟨gb,hgb,_,_⟩:=z0n (HO.out.row 0 (A:=Ao) (n:=inn.length) (c:=co) (e:=22) (vs:=inn.map Rw.sl) rfl) (by omega)
      obtain rfl:=hgb
      obtain ⟨gj,hgj,_,_⟩:=z0n (HO.out.row (j+1) hrow) hnr0
      obtain rfl:=hgj
      have yl:(inn.map Rw.sl)[j]?=some (.slice (some ⟨gj,0,none⟩) nr cr):=by rw [List.getElem?_map,hr];rfl
      have HYl:=zh yl;have y0:=(HO.out.row 0 (A:=some ⟨gb,0,none⟩) (n:=inn.length) (c:=co) (e:=22) (vs:=inn.map Rw.sl) rfl).cells (g:=gb) rfl j _ yl
      rw [z6n] at y0;have HP:Hid ((0:Int)<nr/\0<nr/\(h:Int)<n/\h<n):=⟨by omega,hnr0,by omega,by omega⟩
      obtain ⟨O,hO⟩:∃ O,z2g (some ⟨gb,0,none⟩) co inn :: inn=O:=⟨_,rfl⟩
      have HOe:=zh hO;have HH:Hid (∀ W,Ow w W none [] [⟨some aL,n*8,n*8,fl l⟩] O->W.cell? ⟨gj,0,none⟩=some (.int .i64 h)):=fun W ho=>by
       rw [<- hO] at ho;have:=(ho.row (j+1) hrow).cells (g:=gj) rfl 0 (.int .i64 h) (by rw [hg'];rfl)
       exact this
      have HY:Hid (∀ W,Ow w W none [] [⟨some aL,n*8,n*8,fl l⟩] O->CellsSn W (aL.add (h*8)) y):=fun W ho=>by
       obtain ⟨a',ea,hc⟩:=z2v (ho.sl (i:=0) rfl).2.2.2 hy
       obtain rfl:=zqk ea
       exact hc
      obtain ⟨bo,hbo⟩:∃ b,decide (z3u k y=q)=b:=⟨_,rfl⟩
      have HBo:Hid (decide (qj=q)=bo):=by unfold Hid;rw [<- hbo,hyq']
      have HS:=zh (HSm.out y)
      rw [hbo] at HS;obtain ⟨⟨y0',y1',y2',y3',y4',y5'⟩,y6',y7'⟩:=y
      have HPj:=zh hp;have HNo:=hno;have hrowL:=zh hrow;rw [hO] at HO;have HO2:=HO;clear he hlen hno hy hyq hg hhi hr hbo hp hrow HO hO hnr hg' hyq' yl hd hd2 HSm hj;go_upto_region 11 with (fail)
      clear y0 hd3 hd4;obtain ⟨g1,g2,g3,g4⟩:=HP.out;have k0:=cell_regrown (HH.out _ HO2.out)
      obtain ⟨e0,e1,e2,e3,e4,e5,e6,e7⟩:=HY.out _ HO2.out
      have l0c:=cell_regrown e0
      have l1c:=cell_regrown e1
      have l2c:=cell_regrown e2
      have l3c:=cell_regrown e3
      have l4c:=cell_regrown e4
      have l5c:=cell_regrown e5
      have l6c:=cell_regrown e6
      have l7c:=cell_regrown e7
      obtain ⟨f0,f1,f2,f3,f4,f5,f6,f7⟩:=hcx.out;have m0c:=cell_regrown f0
      have m1c:=cell_regrown f1
      have m2c:=cell_regrown f2
      have m3c:=cell_regrown f3
      have m4c:=cell_regrown f4
      have m5c:=cell_regrown f5
      have m6c:=cell_regrown f6
      have m7c:=cell_regrown f7
      have c1:=z1i (P:=Tryz.prog) (w:=wr) (f:=23) (args:=#[.int .i64 k,.agg #[.int .i64 y0',.int .i64 y1',.int .i64 y2',.int .i64 y3',.int .i64 y4',.int .i64 y5',.int .i64 y6',.int .i64 y7'],.agg #[.int .i64 x0,.int .i64 x1,.int .i64 x2,.int .i64 x3,.int .i64 x4,.int .i64 x5,.int .i64 x6,.int .i64 x7]]) (v:=.bool bo) (fun W _=>HS.out W)
      clear e0 f0 e1 f1 e2 f2 e3 f3 e4 f4 e5 f5 e6 f6 e7 f7;refine wp_region_quiet_below (by kernel_rfl) (by kernel_rfl) ?_
      repeat (go_big_quiet_step (with_reducible exact c1 _ _))
      refine wpQuiet_nil ?_
      intro W hW;have hBq:=z0v hW
      have HW:=zh (HO2.out.go hBq)
      have HCw:=zh (CellsSn.go hcx.out hBq hcx.out.lt)
      clear hW hBq HO2 hcx HS g1 g2 g3 g4 k0 c1 l0c m0c l1c m1c l2c m2c l3c m3c l4c m4c l5c m5c l6c m6c l7c m7c;cases bo with
      | false=>
       go_wp2_with fail;go_roundw
       case rel=>exact ⟨j+1,inn,hlt2,by go_num,rfl,by rw [HOe.out];exact HW,HT,.inl ⟨rfl,rfl,fun p r hp hr=>by
        rcases zqi p j with h1|h1
        ·exact HNo.out p r h1 hr
        ·obtain rfl:p=j:=by omega
         rw [HPj.out] at hr;rw [<- zqk hr];exact of_decide_eq_false HBo.out,HCw⟩⟩
       case measure=>simp [intOf];omega
      | true=>
       have HW2:Hid (Ow w W none [] [⟨some aL,n*8,n*8,fl l⟩] (z2g (some ⟨gb,0,none⟩) co inn :: inn)):=by rw [HOe.out];exact HW
       clear HW HCw;go_wp2_with (at_builtin;refine z2k z4p HW2.out (j+1) (.tmp 46) (.tmp 48) _ _ hrowL.out rfl (by unfold maxLen;omega) (by omega) rfl rfl rfl rfl ?_;intro A4 c4 w4 how;simp only [zqe] at how;have z0:=(how.row 0 (A:=some ⟨gb,0,none⟩) (n:=inn.length) (c:=co) (e:=22) (vs:=inn.map Rw.sl) rfl).cells (g:=gb) rfl j _ HYl.out;rw [z6n] at z0;have zf:=(how.row 0 (A:=some ⟨gb,0,none⟩) (n:=inn.length) (c:=co) (e:=22) (vs:=inn.map Rw.sl) rfl).frozenAt j)
       have HF:Hid (Ow w (w4.setCell ⟨gb,j,none⟩ (.slice A4 (nr+1) c4)) none [] [⟨some aL,n*8,n*8,fl l⟩] (z2g (some ⟨gb,0,none⟩) co (inn.set j ⟨A4,nr+1,c4,3,z0c (gj0++[i])⟩) :: inn.set j ⟨A4,nr+1,c4,3,z0c (gj0++[i])⟩)):=by
        have:=how.put 0 (gb:=gb) (n:=inn.length) (c:=co) (e:=22) (vs:=inn.map Rw.sl) rfl j (.slice A4 (nr+1) c4)
        simp only [zqd] at this;rw [z7k] at this;unfold Hid z2g;rw [List.length_set,List.map_set];exact this
       have HVn:Hid ((inn.set j ⟨A4,nr+1,c4,3,z0c (gj0++[i])⟩).map (·.vs)=(ad ks q i).map (fun p=>z0c p.2)):=by
        have e:=of_decide_eq_true HBo.out
        have hp:=HPj.out;rw [e] at hp;unfold Hid;rw [z4am ks q i j gj0 (by rw [<- HKs.out];exact z2m k l i) hp]
        exact z9ai HV.out j _ _ _ rfl
       clear how z0 zf HW2;go_roundw
       case rel=>exact ⟨j+1,inn.set j ⟨A4,nr+1,c4,3,z0c (gj0++[i])⟩,hlt2,by go_num,by rw [List.length_set],HF,fun r hr=>z1ad HT.out rfl r hr,.inr ⟨rfl,HVn⟩⟩
       case measure=>simp [intOf];omega
     ·have hlt':j<inn'.length:=by rw [hlen];exact hlt
      obtain ⟨r,hr⟩:∃ r,inn'[j]?=some r:=⟨inn'[j]'hlt',zql _⟩
      obtain ⟨gb,hgb,_,_⟩:=z0n (HO.out.row 0 (A:=Ao) (n:=inn'.length) (c:=co) (e:=22) (vs:=inn'.map Rw.sl) rfl) (by omega)
      obtain rfl:=hgb
      obtain ⟨Ar,nr,cr,er,vr⟩:=r;have yl:(inn'.map Rw.sl)[j]?=some (.slice Ar nr cr):=by rw [List.getElem?_map,hr];rfl
      have y0:=(HO.out.row 0 (A:=some ⟨gb,0,none⟩) (n:=inn'.length) (c:=co) (e:=22) (vs:=inn'.map Rw.sl) rfl).cells (g:=gb) rfl j _ yl
      rw [z6n] at y0;obtain ⟨O,hO⟩:∃ O,z2g (some ⟨gb,0,none⟩) co inn' :: inn'=O:=⟨_,rfl⟩
      have HOe:=zh hO;rw [hO] at HO;have HO2:=HO;have HYe:=hyes;have HLn:=zh hlen;clear HO hO hr yl hyes hlt' hd hd2 HSm hj hlen;go_upto_region 11 with (fail)
      clear y0 hd3 hd4;refine wp_region_quiet_below (by kernel_rfl) (by kernel_rfl) ?_
      repeat (go_big_quiet_step (fail))
      refine wpQuiet_nil ?_
      intro W hW;have HW:=zh (HO2.out.go (z0v hW))
      clear hW HO2;go_wp2_with fail;go_roundw
      case rel=>exact ⟨j+1,inn',hlt2,by go_num,HLn.out,by rw [HOe.out];exact HW,HT',.inr ⟨rfl,HYe⟩⟩
      case measure=>simp [intOf];omega
theorem z6aw (k:Int)(hk:kd k)(A:Option Addr)(c:Nat)(w:World):
  Calls Tryz.prog 30 #[.int .i64 k,.slice A 0 c] w (GrR w []):=by
 have HK:Hid (decide (k<(1:Int))=false/\decide ((6:Int)<k)=false):=⟨zn (by have:=hk.1;omega),zn (by have:=hk.2;omega)⟩
 have H1:=(Ow.of (St.refl w)).nil 22
 simp only [zqc] at H1;have HO:=zh H1;obtain ⟨hk1,hk2⟩:=HK.out;clear hk H1;go_enter Tryz.func30,Tryz.ntmps30
 go_wp2_with fail;clear hk1 hk2;go_loopw [5,19] (fun y x wr=>y=.slice none 0 0/\x=.int .i64 0/\w=wr) (fun _ x _=>0)
 case atStart=>exact ⟨rfl,rfl,rfl⟩
 case round=>
  obtain ⟨rfl,rfl,rfl⟩:=hrel;go_wp2_with fail;go_ret;exact ⟨none,0,[],rfl,rfl,fun r hr=>(by cases hr),HO.out⟩
theorem z6ax (k:Int)(hk:kd k)(A:Option Addr)(n c:Nat)(l:List Sn)(w:World)(hn:l.length=n)(hn2:n<=100)(hs:Sl w w.heap.size A (fl l)):
  Calls Tryz.prog 30 #[.int .i64 k,.slice A n c] w (GrR w (z2j k l n)):=by
 cases n with
 | zero=>exact z6aw k hk A c w
 | succ n=>
  obtain ⟨ad,e,_,_⟩:=hs (by rw [z2q];omega)
  subst e
  exact z6av k hk ad (n+1) c l w hn hn2 hs
def z5z (gs:List (Sp×List Nat)):Nat->List Nat
 | 0=>[]
 | i+1=>match gs[i]? with
  | some p=>if (z5z gs i).length<p.2.length then p.2 else z5z gs i
  | none=>z5z gs i
theorem z6s {gs:List (Sp×List Nat)}{m:Nat}(h:∀ p∈gs,p.2.length<=m):∀ i,(z5z gs i).length<=m
 | 0=>zqr _
 | i+1=>by
  have ih:=z6s h i
  show ((match gs[i]? with|some p=>if (z5z gs i).length<p.2.length then p.2 else z5z gs i|none=>z5z gs i):List Nat).length<=m
  split
  ·next p hp=>
   split
   ·exact h p (List.mem_of_getElem? hp)
   ·exact ih
  ·exact ih
def z6k (k:Int)(l:List Sn):List Nat:=z5z (z2j k l l.length) (z2j k l l.length).length
def LgR (w:World)(g:List Nat)(en:Ending)(w':World):Prop:=
 ∃ (A:Option Addr) (n c:Nat),en=.returned (.slice A n c)/\g.length=n/\w'.ownsRow w.heap.size 3 1 (.slice A n c) n (z0c g)/\Below w.heap.size w w'
def RLg (gs:List (Sp×List Nat))(w1:World)(inn:List Rw)(y x:Value)(wr:World):Prop:=
 ∃ (i:Nat) (A:Option Addr) (n c:Nat),i<=inn.length/\x=.int .i64 i/\y=.slice A n c/\w1=wr/\Hid ((z5z gs i).length=n)/\Hid ((A=none/\n=0/\c=0)∨∃ r∈inn,r.A=A/\r.n=n/\r.c=c/\r.vs=z0c (z5z gs i))
theorem z1bq (k:Int)(hk:kd k)(A:Option Addr)(n c:Nat)(l:List Sn)(w:World)(hn:l.length=n)(hn2:n<=100)(hs:Sl w w.heap.size A (fl l)):
  Calls Tryz.prog 62 #[.int .i64 k,.slice A n c] w (LgR w (z6k k l)):=by
 have HC:=zh (z1am k hk A n c l w hn hn2 hs)
 have HL:=zh (z2z k l n)
 unfold z6k;rw [hn];obtain ⟨gs,hgs⟩:∃ z,z2j k l n=z:=⟨_,rfl⟩
 rw [hgs] at HC HL ⊢
 clear hs hn hgs hk;go_enter Tryz.func62,Tryz.ntmps62
 go_wp2_with fail;refine HC.out.mono ?_;rintro e w1 ⟨Ao,co,inn,rfl,hV,hT,hO⟩;have HV:=zh hV;have HT:=zh hT;have HO:=zh hO;have HIL:Hid (inn.length=gs.length):=z4m hV
 have hgl:inn.length<=100:=by have:=HL.out.2;have:=HIL.out;omega
 clear HC hV hT hO;go_wp2_with fail;go_loopw [5,12] (fun y x wr=>RLg gs w1 inn y x wr) (fun _ x _=>inn.length+1 - (intOf x).toNat)
 case atStart=>exact ⟨0,none,0,0,zqr _,rfl,rfl,rfl,rfl,.inl ⟨rfl,rfl,rfl⟩⟩
 case round=>
  obtain ⟨i,A,nb,cb,hi,rfl,rfl,rfl,HN,HB⟩:=hrel;rcases Nat.eq_or_lt_of_le hi with heq|hlt
  ·have hd:decide ((i:Int)<(inn.length:Int))=false:=zn (by omega)
   have hd2:decide (i<inn.length)=false:=zn (by omega)
   have HQ:Hid (i=gs.length):=by unfold Hid;rw [heq];exact HIL.out
   clear heq hi;go_wp2_with fail;go_ret;refine ⟨A,nb,cb,rfl,by rw [<- HQ.out];exact HN.out,?_,HO.out.below⟩
   rw [<- HQ.out];rcases HB.out with ⟨rfl,rfl,rfl⟩|⟨r,hr,rfl,rfl,rfl,hv⟩
   ·rw [List.length_eq_zero_iff.1 HN.out];exact World.ownsRow_nil _ _ _ _
   ·obtain ⟨j,hj⟩:=List.getElem?_of_mem hr
    have:=HO.out.own (j+1) r hj
    rw [HT.out r hr,hv] at this;exact this
  ·have hd:decide ((i:Int)<(inn.length:Int))=true:=zt (by omega)
   have hd2:decide (i<inn.length)=true:=zt (by omega)
   have hiI:(i:Int)<(inn.length:Int):=by omega
   have hi2:i+1<=inn.length:=hlt
   obtain ⟨p,hp⟩:∃ p,gs[i]?=some p:=⟨gs[i]'(by rw [<- HIL.out];exact hlt),zql _⟩
   obtain ⟨q,g⟩:=p;obtain ⟨r,hr,hrv⟩:=z3ar HV.out hp
   obtain ⟨Ar,nr,cr,er,vr⟩:=r;obtain rfl:er=3:=HT.out _ (List.mem_of_getElem? hr)
   obtain rfl:vr=z0c g:=hrv
   have hrow:(z2g Ao co inn :: inn)[i+1]?=some ⟨Ar,nr,cr,3,z0c g⟩:=hr
   have hnr:(z0c g).length=nr:=z1m (HO.out.row (i+1) hrow)
   rw [z0e] at hnr;have hgl2:nr<=100:=by
    have h1:=HL.out.1 (q,g) (List.mem_of_getElem? hp)
    have h2:g.length<=n:=h1
    omega
   have hnb:nb<=100:=by
    have h1:=z6s HL.out.1 i
    rw [HN.out] at h1;omega
   obtain ⟨gb,hgb,_,_⟩:=z0n (HO.out.row 0 (A:=Ao) (n:=inn.length) (c:=co) (e:=22) (vs:=inn.map Rw.sl) rfl) (by omega)
   have HGb:=zh hgb;have y0:w1.cell? ⟨gb,i,none⟩=some (.slice Ar nr cr):=by
    have hO:=HO.out;rw [hgb] at hO;have:=(hO.row 0 (A:=some ⟨gb,0,none⟩) (n:=inn.length) (c:=co) (e:=22) (vs:=inn.map Rw.sl) rfl).cells (g:=gb) rfl i (.slice Ar nr cr) (by rw [List.getElem?_map,hr];rfl)
    rwa [z6n] at this
   have HE:Hid (z5z gs (i+1)=if (z5z gs i).length<g.length then g else z5z gs i):=by
    show (match gs[i]? with|some p=>_|none=>_)=_
    rw [hp]
   have HR:=zh (List.mem_of_getElem? hr)
   have HNr:=zh hnr;rw [hgb];rcases zqi nb nr with hgt|hle
   ·have hc:decide ((nb:Int)<nr)=true:=zt (by omega)
    have hc2:decide (nb<nr)=true:=zt hgt
    have HE2:Hid (z5z gs (i+1)=g):=by unfold Hid;rw [HE.out,if_pos (by rw [HN.out,HNr.out];exact hgt)]
    clear hgt hp hr hrow hnr hlt hi hgb;go_wp2_with fail;go_roundw
    case rel=>exact ⟨i+1,Ar,nr,cr,hi2,by go_num,rfl,rfl,by rw [HE2.out];exact HNr.out,by unfold Hid;rw [HE2.out];exact .inr ⟨_,HR.out,rfl,rfl,rfl,rfl⟩⟩
    case measure=>simp [intOf];omega
   ·have hc:decide ((nb:Int)<nr)=false:=zn (by omega)
    have hc2:decide (nb<nr)=false:=zn (by omega)
    have HE2:Hid (z5z gs (i+1)=z5z gs i):=by unfold Hid;rw [HE.out,if_neg (by rw [HN.out,HNr.out];omega)]
    clear hle hp hr hrow hnr hlt hi hgb;go_wp2_with fail;go_roundw
    case rel=>exact ⟨i+1,A,nb,cb,hi2,by go_num,rfl,rfl,by rw [HE2.out];exact HN,by unfold Hid;rw [HE2.out];exact HB.out⟩
    case measure=>simp [intOf];omega
theorem z1bd (k:Int)(hk:kd k)(A:Option Addr)(n c:Nat)(l:List Sn)(w:World)(hn:l.length=n)(hn2:n<=100)(hs:Sl w w.heap.size A (fl l)):
  Calls Tryz.prog 20 #[.int .i64 k,.slice A n c] w (LgR w (z6k k l)):=by
 have HC:=zh (z6ax k hk A n c l w hn hn2 hs)
 have HL:=zh (z2z k l n)
 unfold z6k;rw [hn];obtain ⟨gs,hgs⟩:∃ z,z2j k l n=z:=⟨_,rfl⟩
 rw [hgs] at HC HL ⊢
 clear hs hn hgs hk;go_enter Tryz.func20,Tryz.ntmps20
 go_wp2_with fail;refine HC.out.mono ?_;rintro e w1 ⟨Ao,co,inn,rfl,hV,hT,hO⟩;have HV:=zh hV;have HT:=zh hT;have HO:=zh hO;have HIL:Hid (inn.length=gs.length):=z4m hV
 have hgl:inn.length<=100:=by have:=HL.out.2;have:=HIL.out;omega
 clear HC hV hT hO;go_wp2_with fail;go_loopw [5,12] (fun y x wr=>RLg gs w1 inn y x wr) (fun _ x _=>inn.length+1 - (intOf x).toNat)
 case atStart=>exact ⟨0,none,0,0,zqr _,rfl,rfl,rfl,rfl,.inl ⟨rfl,rfl,rfl⟩⟩
 case round=>
  obtain ⟨i,A,nb,cb,hi,rfl,rfl,rfl,HN,HB⟩:=hrel;rcases Nat.eq_or_lt_of_le hi with heq|hlt
  ·have hd:decide ((i:Int)<(inn.length:Int))=false:=zn (by omega)
   have hd2:decide (i<inn.length)=false:=zn (by omega)
   have HQ:Hid (i=gs.length):=by unfold Hid;rw [heq];exact HIL.out
   clear heq hi;go_wp2_with fail;go_ret;refine ⟨A,nb,cb,rfl,by rw [<- HQ.out];exact HN.out,?_,HO.out.below⟩
   rw [<- HQ.out];rcases HB.out with ⟨rfl,rfl,rfl⟩|⟨r,hr,rfl,rfl,rfl,hv⟩
   ·rw [List.length_eq_zero_iff.1 HN.out];exact World.ownsRow_nil _ _ _ _
   ·obtain ⟨j,hj⟩:=List.getElem?_of_mem hr
    have:=HO.out.own (j+1) r hj
    rw [HT.out r hr,hv] at this;exact this
  ·have hd:decide ((i:Int)<(inn.length:Int))=true:=zt (by omega)
   have hd2:decide (i<inn.length)=true:=zt (by omega)
   have hiI:(i:Int)<(inn.length:Int):=by omega
   have hi2:i+1<=inn.length:=hlt
   obtain ⟨p,hp⟩:∃ p,gs[i]?=some p:=⟨gs[i]'(by rw [<- HIL.out];exact hlt),zql _⟩
   obtain ⟨q,g⟩:=p;obtain ⟨r,hr,hrv⟩:=z3ar HV.out hp
   obtain ⟨Ar,nr,cr,er,vr⟩:=r;obtain rfl:er=3:=HT.out _ (List.mem_of_getElem? hr)
   obtain rfl:vr=z0c g:=hrv
   have hrow:(z2g Ao co inn :: inn)[i+1]?=some ⟨Ar,nr,cr,3,z0c g⟩:=hr
   have hnr:(z0c g).length=nr:=z1m (HO.out.row (i+1) hrow)
   rw [z0e] at hnr;have hgl2:nr<=100:=by
    have h1:=HL.out.1 (q,g) (List.mem_of_getElem? hp)
    have h2:g.length<=n:=h1
    omega
   have hnb:nb<=100:=by
    have h1:=z6s HL.out.1 i
    rw [HN.out] at h1;omega
   obtain ⟨gb,hgb,_,_⟩:=z0n (HO.out.row 0 (A:=Ao) (n:=inn.length) (c:=co) (e:=22) (vs:=inn.map Rw.sl) rfl) (by omega)
   have HGb:=zh hgb;have y0:w1.cell? ⟨gb,i,none⟩=some (.slice Ar nr cr):=by
    have hO:=HO.out;rw [hgb] at hO;have:=(hO.row 0 (A:=some ⟨gb,0,none⟩) (n:=inn.length) (c:=co) (e:=22) (vs:=inn.map Rw.sl) rfl).cells (g:=gb) rfl i (.slice Ar nr cr) (by rw [List.getElem?_map,hr];rfl)
    rwa [z6n] at this
   have HE:Hid (z5z gs (i+1)=if (z5z gs i).length<g.length then g else z5z gs i):=by
    show (match gs[i]? with|some p=>_|none=>_)=_
    rw [hp]
   have HR:=zh (List.mem_of_getElem? hr)
   have HNr:=zh hnr;rw [hgb];rcases zqi nb nr with hgt|hle
   ·have hc:decide ((nb:Int)<nr)=true:=zt (by omega)
    have hc2:decide (nb<nr)=true:=zt hgt
    have HE2:Hid (z5z gs (i+1)=g):=by unfold Hid;rw [HE.out,if_pos (by rw [HN.out,HNr.out];exact hgt)]
    clear hgt hp hr hrow hnr hlt hi hgb;go_wp2_with fail;go_roundw
    case rel=>exact ⟨i+1,Ar,nr,cr,hi2,by go_num,rfl,rfl,by rw [HE2.out];exact HNr.out,by unfold Hid;rw [HE2.out];exact .inr ⟨_,HR.out,rfl,rfl,rfl,rfl⟩⟩
    case measure=>simp [intOf];omega
   ·have hc:decide ((nb:Int)<nr)=false:=zn (by omega)
    have hc2:decide (nb<nr)=false:=zn (by omega)
    have HE2:Hid (z5z gs (i+1)=z5z gs i):=by unfold Hid;rw [HE.out,if_neg (by rw [HN.out,HNr.out];omega)]
    clear hle hp hr hrow hnr hlt hi hgb;go_wp2_with fail;go_roundw
    case rel=>exact ⟨i+1,A,nb,cb,hi2,by go_num,rfl,rfl,by rw [HE2.out];exact HN,by unfold Hid;rw [HE2.out];exact HB.out⟩
    case measure=>simp [intOf];omega
open Go.RowKit
namespace De
set_option maxHeartbeats 4000000
def pv (l:List UInt8):Nat:=l.foldl (fun a c=>10*a+(c.toNat - 48)) 0
end De
def NPw (w1:World)(x m:Nat)(i o:Value)(wr:World):Prop:=
 ∃ (v:Int) (j:Nat) (A:Option Addr) (n c:Nat),i=.int .i64 v/\v=(j:Int) - 1/\o=.slice A n c/\j<=13/\n<=401/\Hid ((Na.dig (x ^ (m / 2 ^ j))).length=n)/\wr.ownsRow w1.heap.size 3 1 (.slice A n c) n (z0c (Na.dig (x ^ (m / 2 ^ j))))/\Below w1.heap.size w1 wr/\w1.heap.size<=wr.heap.size
theorem z8aj (A:Option Addr)(n c x m:Nat)(w:World)(hn:(Na.dig x).length=n)(hs:Sl w w.heap.size A (z0c (Na.dig x)))(hx:x<Na.top)(hm:m<=4800):
  Calls Tryz.prog 125 #[.agg #[.slice A n c],.int .i64 m] w (z3m w (z4j (x ^ m)) (z3v (x ^ m))):=by
 have hn200:n<=200:=by rw [<- hn];exact (Na.dig_200 x).2 hx
 obtain ⟨w0,hw0⟩:∃ w0,(w.alloc (.cells #[.slice A n c] 25)).alloc (.cells #[.slice none 0 0] 25)=w0:=⟨_,rfl⟩
 have HW:Hid ((w.alloc (.cells #[.slice A n c] 25)).alloc (.cells #[.slice none 0 0] 25)=w0):=hw0
 have hb0:Below w.heap.size w w0:=by rw [<- hw0];exact bal (bal (Below.refl _ _) _) _
 have HB0:=zh hb0;have hzw:w0.heap.size=w.heap.size+2:=by rw [<- hw0];simp
 have hc0:w0.cell? ⟨w.heap.size,0,none⟩=some (.slice A n c):=by rw [<- hw0];simp [go_sem]
 have hc2:w0.cell? ⟨w.heap.size+1,0,none⟩=some (.slice none 0 0):=by rw [<- hw0];simp [go_sem]
 have hf2:w0.frozen? ⟨w.heap.size+1,0,none⟩=false:=by rw [<- hw0];simp [go_sem]
 have HV:=zh (z4u A n c w0.heap.size (Na.up (Na.dig x)) w0 (by rw [Na.up_length];exact hn) (by rw [z0g];exact (hs.below hb0).more hb0.size) (zqj _) (by omega))
 rw [Na.vld_dig hx] at HV;have HN:=zh hn;have HS:=zh hs;clear hs hn hb0 hw0 hx;have hbm:Nbl m<=13:=z3ag (k:=13) (by omega) (by omega)
 have h1:decide ((m:Int)<0)=false:=zn (by omega)
 have h2:decide (4800<(m:Int))=false:=zn (by omega)
 go_enter Tryz.func125,Tryz.ntmps125
 go_wp2_with fail;rw [HW.out];refine HV.out.mono ?_;rintro e w1 ⟨rfl,hb⟩;have HB1:=zh (btr HB0.out hb)
 have hd0:w1.cell? ⟨w.heap.size,0,none⟩=some (.slice A n c):=(hb.cell (p:=⟨w.heap.size,0,none⟩) (by simp [hzw])).trans hc0
 have hd2:w1.cell? ⟨w.heap.size+1,0,none⟩=some (.slice none 0 0):=(hb.cell (p:=⟨w.heap.size+1,0,none⟩) (by simp [hzw])).trans hc2
 have hg2:w1.frozen? ⟨w.heap.size+1,0,none⟩=false:=(hb.frozen (p:=⟨w.heap.size+1,0,none⟩) (by simp [hzw])).trans hf2
 have hsz1:w.heap.size+2<=w1.heap.size:=by rw [<- hzw];exact hb.size
 clear hb hc0 hc2 hf2 HV HW hzw HB0;have HO0:Hid ((w1.alloc (.cells #[.int .i64 1] 3)).ownsRow w1.heap.size 3 1 (.slice (some ⟨w1.heap.size,0,none⟩) 1 1) 1 (z0c (Na.dig (x ^ (m / 2 ^ Nbl m))))):=by
  unfold Hid;rw [Na.pow_start m hm,Nat.pow_zero,Na.dig_small 1 (by omega) (by omega)]
  exact World.ownsRow_lit (base:=w1.heap.size) (e:=3) (size:=1) w1 #[.int .i64 1] 1 (zqj _) (by unfold maxLen;omega) rfl
 have HL0:Hid ((Na.dig (x ^ (m / 2 ^ Nbl m))).length=1):=by unfold Hid;rw [Na.pow_start m hm,Nat.pow_zero,Na.dig_small 1 (by omega) (by omega)];rfl
 have HBL0:Hid (Below w1.heap.size w1 (w1.alloc (.cells #[.int .i64 1] 3))):=bal (Below.refl _ _) _
 have HSZ0:Hid (w1.heap.size<=(w1.alloc (.cells #[.int .i64 1] 3)).heap.size):=by unfold Hid;simp
 rcases zqh x with hx0|hx0
 ·have hn0:n=0:=by rw [<- HN.out];exact Na.dig_len0.2 hx0
  subst hn0
  have HLB:Hid (∀ j,j<=m->(Na.dig (x ^ j)).length<=401):=fun j _=>by rw [hx0];exact Na.pow_400_zero j
  clear hx0;go_wp2_with fail;have HBl:=zh (z4g m (m:Int) rfl w1 (by omega))
  go_wp2_with fail;refine (z4g m (m:Int) rfl _ (by omega)).mono ?_
  rintro e w1' ⟨rfl,rfl⟩;go_wp2_with fail;go_loopw [9,8] (fun i o wr=>NPw w1 x m i o wr) (fun i _ _=>(intOf i+1).toNat)
  case atStart=>exact ⟨_,Nbl m,_,1,1,rfl,by omega,rfl,hbm,by omega,HL0.out,HO0.out,HBL0.out,HSZ0.out⟩
  case round=>
   clear HO0 HL0 HBL0 HSZ0 HBl;obtain ⟨v,j,A1,n1,c1,rfl,hvj,rfl,hj13,hn1,HLn,ho,hb,hbs⟩:=hrel;have HO:=zh ho;have HB:=zh hb;have HBS:=zh hbs;clear ho hb hbs;rcases zqh j with hj0|hj0
   ·have hv:v=-1:=by omega
    subst hv
    have HEq:Hid (Na.dig (x ^ (m / 2 ^ j))=Na.dig (x ^ m)):=by unfold Hid;rw [hj0,Nat.pow_zero,Nat.div_one]
    clear hvj hj0;rw [HEq.out] at HO HLn;have HR:=zh (z2u A1 n1 c1 w1.heap.size (Na.dig (x ^ m)) wr HLn.out HO.out (Na.dig_lim _) (by omega))
    rw [Na.val_dig] at HR;go_wp2_with fail;refine HR.out.mono ?_;rintro e w9 ⟨A9,n9,c9,rfl,hn9,ho9,hb9⟩;have HN9:=zh hn9;have HO9:=zh ho9;have HB9:=zh (HB.out.trans (hb9.mono HBS.out))
    have hk9:w9.cell? ⟨w.heap.size+1,0,none⟩=some (.slice none 0 0):=(HB9.out.cell (p:=⟨w.heap.size+1,0,none⟩) (by simp;omega)).trans hd2
    have hk9f:w9.frozen? ⟨w.heap.size+1,0,none⟩=false:=(HB9.out.frozen (p:=⟨w.heap.size+1,0,none⟩) (by simp;omega)).trans hg2
    clear hn9 ho9 hb9 hd0 hd2 hg2;go_wp2_with fail;refine bodyPost_ret (v:=.tuple #[.agg #[.slice A9 n9 c9],.int .i64 (z3v (x ^ m))]) (by simp [results,Tryz.results125,go_sem,hk9]) rfl ?_
    exact z2b HO9.out HN9.out (by omega) (by omega) (HB1.out.trans (HB9.out.mono HB1.out.size)) (by omega) _ _
   ·obtain ⟨q,hq⟩:∃ q,j=q+1:=⟨j - 1,by omega⟩
    have hv:v=(q:Int):=by omega
    subst hv
    have hq13:q<=12:=by omega
    obtain ⟨s,hs1⟩:∃ s,m / 2 ^ q=s:=⟨_,rfl⟩
    have hsh:(m:Int) / 2 ^ q=(s:Int):=by rw [<- hs1];norm_cast
    have HSQ:Hid (s % 2=0->x ^ (m / 2 ^ j)*x ^ (m / 2 ^ j)=x ^ s):=fun h=>by rw [hq,<- hs1];exact Na.pow_sq x m q (by rw [hs1];exact h)
    have HSX:Hid (s % 2=1->x ^ (m / 2 ^ j)*x ^ (m / 2 ^ j)*x=x ^ s):=fun h=>by rw [hq,<- hs1];exact Na.pow_sqx x m q (by rw [hs1];exact h)
    have HSM:Hid (m / 2 ^ j+m / 2 ^ j<=m):=by
     unfold Hid;have h1:=Na.pow_half m q
     have h2:m / 2 ^ q<=m:=Nat.div_le_self _ _
     rw [hq];omega
    have HSS:Hid (m / 2 ^ q=s):=hs1
    have HSLE:Hid (s<=m):=by unfold Hid;rw [<- hs1];exact Nat.div_le_self _ _
    have HPr:=zh (z3e A1 A1 n1 c1 n1 c1 _ _ wr HLn.out HLn.out (Sl.of_own HO.out) (Sl.of_own HO.out) (Na.dig_lim _) (Na.dig_lim _) (by omega) (by omega))
    rw [Na.val_dig,<- Nat.pow_add] at HPr;rw [<- Nat.pow_add] at HSQ HSX;have HC1:Hid (n1<=c1):=(z1j HO.out).1
    clear hvj hj0 hs1;go_wp2_with fail;refine HPr.out.mono ?_;rintro e w2 ⟨A2,n2,c2,rfl,hn2,ho2,hb2⟩;have HN2:=zh hn2;have HO2:=zh ho2;have HB2:=zh (HB.out.trans (hb2.mono HBS.out))
    have HS2:=zh (zqq HBS.out hb2.size)
    have hn2l:n2<=401:=by rw [<- hn2];exact HLB.out _ HSM.out
    clear hn2 ho2 hb2 HPr;rcases Nat.mod_two_eq_zero_or_one s with hbit|hbit
    ·have hand:bits .and .i64 (s:Int) 1=0:=by rw [and1];omega
     have HE:=zh (HSQ.out hbit)
     clear HSQ HSX hbit;go_wp2_with fail;go_roundw
     case rel=>
      refine ⟨_,q,A2,n2,c2,rfl,by omega,rfl,by omega,hn2l,?_,?_,HB2.out,HS2.out⟩
      ·rw [HSS.out,<- HE.out];exact HN2.out
      ·rw [HSS.out,<- HE.out];exact z1f HO2.out HBS.out
     case measure=>(simp [intOf]) <;> omega
    ·have hand:bits .and .i64 (s:Int) 1=1:=by rw [and1];omega
     have HE:=zh (HSX.out hbit)
     clear HSQ HSX hbit;have hm0:w2.cell? ⟨w.heap.size,0,none⟩=some (.slice A 0 c):=(HB2.out.cell (p:=⟨w.heap.size,0,none⟩) (by simp;omega)).trans hd0
     have HPx:=zh (z3e A2 A n2 c2 0 c _ (Na.dig x) w2 HN2.out HN.out (Sl.of_own HO2.out) ((HS.out.below ((HB1.out.trans (HB2.out.mono HB1.out.size)))).more (zqq HB1.out.size HS2.out)) (Na.dig_lim _) (Na.dig_lim _) (by omega) (by omega))
     rw [Na.val_dig,Na.val_dig,HE.out] at HPx;go_wp2_with fail;refine HPx.out.mono ?_;rintro e w3 ⟨A3,n3,c3,rfl,hn3,ho3,hb3⟩;have HN3:=zh hn3;have HO3:=zh ho3;have HB3:=zh (HB2.out.trans (hb3.mono HS2.out))
     have HS3:=zh (zqq HS2.out hb3.size)
     have hn3l:n3<=401:=by rw [<- hn3];exact HLB.out _ HSLE.out
     clear hn3 ho3 hb3 HPx hm0;go_wp2_with fail;go_roundw
     case rel=>
      refine ⟨_,q,A3,n3,c3,rfl,by omega,rfl,by omega,hn3l,?_,?_,HB3.out,HS3.out⟩
      ·rw [HSS.out];exact HN3.out
      ·rw [HSS.out];exact z1f HO3.out HS2.out
     case measure=>(simp [intOf]) <;> omega
 ·have hn1:0<n:=by
   rcases zqh n with h0|h0
   ·rw [<- HN.out,Na.dig_len0] at h0;omega
   ·exact h0
  obtain ⟨k,hk⟩:∃ k,n=k+1:=⟨n - 1,by omega⟩
  obtain ⟨a,ha⟩:=z0m (Na.dig x) k (by rw [HN.out];omega)
  obtain ⟨ha0,hb1,hb2,hb3⟩:=Na.bitlen x k a (by rw [HN.out];exact hk) ha
  have ha24:=(Na.dig_lim x).at ha
  have hbl24:Nbl a<=24:=z3ag (k:=24) (by omega) (by omega)
  obtain ⟨ad,rfl,hbk,hca⟩:=(HS.out.below HB1.out).nat ha
  obtain ⟨L,hL⟩:∃ L,k*24+Nbl a=L+1:=⟨k*24+Nbl a - 1,by omega⟩
  obtain ⟨p,hp⟩:∃ p,L*m=p:=⟨_,rfl⟩
  have hpb:p<=23040000:=by
   rw [<- hp];exact Nat.mul_le_mul (show L<=4800 by omega) hm
  rw [hL,Nat.add_sub_cancel] at hb2;rw [hL] at hb3;have HX1:=zh hb2;have HX2:=zh hb3;have HP:=zh hp;have e1:(n:Int) - 1=(k:Int):=by omega
  have e2:(k:Int)*24+(Nbl a:Int)=(L:Int)+1:=by omega
  have e3:(L:Int)+1 - 1=(L:Int):=by omega
  have e4:(L:Int)*(m:Int)=(p:Int):=by rw [<- hp];norm_cast
  have hLb:L<=4800:=by omega
  have hk0:0<n:=by omega
  have hk9:k<n:=by omega
  have hk1:(k:Int)<n:=by omega
  clear hb2 hb3 hp hL hk ha;rcases zqi p 4800 with hp1|hp1
  ·have HLB:Hid (∀ j,j<=m->(Na.dig (x ^ j)).length<=401):=fun j hj=>Na.pow_400 (L:=L+1) (by omega) HX2.out (by rw [Nat.add_sub_cancel,HP.out];exact hp1) hx0 hj
   have t1:decide (4800<=(p:Int))=false:=zn (by omega)
   clear HX1 HX2 HP;go_wp2_with fail;refine (z4g a _ rfl _ (by omega)).mono ?_
   rintro e w1' ⟨rfl,rfl⟩;have HBl:=zh (z4g m (m:Int) rfl w1 (by omega))
   go_wp2_with fail;refine (z4g m (m:Int) rfl _ (by omega)).mono ?_
   rintro e w1' ⟨rfl,rfl⟩;go_wp2_with fail;go_loopw [9,8] (fun i o wr=>NPw w1 x m i o wr) (fun i _ _=>(intOf i+1).toNat)
   case atStart=>exact ⟨_,Nbl m,_,1,1,rfl,by omega,rfl,hbm,by omega,HL0.out,HO0.out,HBL0.out,HSZ0.out⟩
   case round=>
    clear HO0 HL0 HBL0 HSZ0 HBl;obtain ⟨v,j,A1,n1,c1,rfl,hvj,rfl,hj13,hn1,HLn,ho,hb,hbs⟩:=hrel;have HO:=zh ho;have HB:=zh hb;have HBS:=zh hbs;clear ho hb hbs;rcases zqh j with hj0|hj0
    ·have hv:v=-1:=by omega
     subst hv
     have HEq:Hid (Na.dig (x ^ (m / 2 ^ j))=Na.dig (x ^ m)):=by unfold Hid;rw [hj0,Nat.pow_zero,Nat.div_one]
     clear hvj hj0;rw [HEq.out] at HO HLn;have HR:=zh (z2u A1 n1 c1 w1.heap.size (Na.dig (x ^ m)) wr HLn.out HO.out (Na.dig_lim _) (by omega))
     rw [Na.val_dig] at HR;go_wp2_with fail;refine HR.out.mono ?_;rintro e w9 ⟨A9,n9,c9,rfl,hn9,ho9,hb9⟩;have HN9:=zh hn9;have HO9:=zh ho9;have HB9:=zh (HB.out.trans (hb9.mono HBS.out))
     have hk9:w9.cell? ⟨w.heap.size+1,0,none⟩=some (.slice none 0 0):=(HB9.out.cell (p:=⟨w.heap.size+1,0,none⟩) (by simp;omega)).trans hd2
     have hk9f:w9.frozen? ⟨w.heap.size+1,0,none⟩=false:=(HB9.out.frozen (p:=⟨w.heap.size+1,0,none⟩) (by simp;omega)).trans hg2
     clear hn9 ho9 hb9 hd0 hd2 hg2;go_wp2_with fail;refine bodyPost_ret (v:=.tuple #[.agg #[.slice A9 n9 c9],.int .i64 (z3v (x ^ m))]) (by simp [results,Tryz.results125,go_sem,hk9]) rfl ?_
     exact z2b HO9.out HN9.out (by omega) (by omega) (HB1.out.trans (HB9.out.mono HB1.out.size)) (by omega) _ _
    ·obtain ⟨q,hq⟩:∃ q,j=q+1:=⟨j - 1,by omega⟩
     have hv:v=(q:Int):=by omega
     subst hv
     have hq13:q<=12:=by omega
     obtain ⟨s,hs1⟩:∃ s,m / 2 ^ q=s:=⟨_,rfl⟩
     have hsh:(m:Int) / 2 ^ q=(s:Int):=by rw [<- hs1];norm_cast
     have HSQ:Hid (s % 2=0->x ^ (m / 2 ^ j)*x ^ (m / 2 ^ j)=x ^ s):=fun h=>by rw [hq,<- hs1];exact Na.pow_sq x m q (by rw [hs1];exact h)
     have HSX:Hid (s % 2=1->x ^ (m / 2 ^ j)*x ^ (m / 2 ^ j)*x=x ^ s):=fun h=>by rw [hq,<- hs1];exact Na.pow_sqx x m q (by rw [hs1];exact h)
     have HSM:Hid (m / 2 ^ j+m / 2 ^ j<=m):=by
      unfold Hid;have h1:=Na.pow_half m q
      have h2:m / 2 ^ q<=m:=Nat.div_le_self _ _
      rw [hq];omega
     have HSS:Hid (m / 2 ^ q=s):=hs1
     have HSLE:Hid (s<=m):=by unfold Hid;rw [<- hs1];exact Nat.div_le_self _ _
     have HPr:=zh (z3e A1 A1 n1 c1 n1 c1 _ _ wr HLn.out HLn.out (Sl.of_own HO.out) (Sl.of_own HO.out) (Na.dig_lim _) (Na.dig_lim _) (by omega) (by omega))
     rw [Na.val_dig,<- Nat.pow_add] at HPr;rw [<- Nat.pow_add] at HSQ HSX;have HC1:Hid (n1<=c1):=(z1j HO.out).1
     clear hvj hj0 hs1;go_wp2_with fail;refine HPr.out.mono ?_;rintro e w2 ⟨A2,n2,c2,rfl,hn2,ho2,hb2⟩;have HN2:=zh hn2;have HO2:=zh ho2;have HB2:=zh (HB.out.trans (hb2.mono HBS.out))
     have HS2:=zh (zqq HBS.out hb2.size)
     have hn2l:n2<=401:=by rw [<- hn2];exact HLB.out _ HSM.out
     clear hn2 ho2 hb2 HPr;rcases Nat.mod_two_eq_zero_or_one s with hbit|hbit
     ·have hand:bits .and .i64 (s:Int) 1=0:=by rw [and1];omega
      have HE:=zh (HSQ.out hbit)
      clear HSQ HSX hbit;go_wp2_with fail;go_roundw
      case rel=>
       refine ⟨_,q,A2,n2,c2,rfl,by omega,rfl,by omega,hn2l,?_,?_,HB2.out,HS2.out⟩
       ·rw [HSS.out,<- HE.out];exact HN2.out
       ·rw [HSS.out,<- HE.out];exact z1f HO2.out HBS.out
      case measure=>(simp [intOf]) <;> omega
     ·have hand:bits .and .i64 (s:Int) 1=1:=by rw [and1];omega
      have HE:=zh (HSX.out hbit)
      clear HSQ HSX hbit;have hm0:w2.cell? ⟨w.heap.size,0,none⟩=some (.slice (some ad) n c):=(HB2.out.cell (p:=⟨w.heap.size,0,none⟩) (by simp;omega)).trans hd0
      have HPx:=zh (z3e A2 (some ad) n2 c2 n c _ (Na.dig x) w2 HN2.out HN.out (Sl.of_own HO2.out) ((HS.out.below ((HB1.out.trans (HB2.out.mono HB1.out.size)))).more (zqq HB1.out.size HS2.out)) (Na.dig_lim _) (Na.dig_lim _) (by omega) (by omega))
      rw [Na.val_dig,Na.val_dig,HE.out] at HPx;go_wp2_with fail;refine HPx.out.mono ?_;rintro e w3 ⟨A3,n3,c3,rfl,hn3,ho3,hb3⟩;have HN3:=zh hn3;have HO3:=zh ho3;have HB3:=zh (HB2.out.trans (hb3.mono HS2.out))
      have HS3:=zh (zqq HS2.out hb3.size)
      have hn3l:n3<=401:=by rw [<- hn3];exact HLB.out _ HSLE.out
      clear hn3 ho3 hb3 HPx hm0;go_wp2_with fail;go_roundw
      case rel=>
       refine ⟨_,q,A3,n3,c3,rfl,by omega,rfl,by omega,hn3l,?_,?_,HB3.out,HS3.out⟩
       ·rw [HSS.out];exact HN3.out
       ·rw [HSS.out];exact z1f HO3.out HS2.out
      case measure=>(simp [intOf]) <;> omega
  ·have HR:Hid (z4j (x ^ m)=[]):=z5h (Na.pow_big HX1.out (by rw [HP.out];exact hp1))
   have HE:Hid (z3v (x ^ m)=3):=z5i (Na.pow_big HX1.out (by rw [HP.out];exact hp1))
   have t1:decide (4800<=(p:Int))=true:=zt (by omega)
   clear HX1 HX2 HP HO0 HL0 HBL0 HSZ0;go_wp2_with fail;refine (z4g a _ rfl _ (by omega)).mono ?_
   rintro e w1' ⟨rfl,rfl⟩;go_wp2_with fail;rw [HR.out,HE.out];refine bodyPost_ret (v:=.tuple #[.agg #[.slice none 0 0],.int .i64 3]) (by simp [results,Tryz.results125,go_sem,hd2]) rfl ?_
   exact z0y _ _ _ (z4z HB1.out _ (by show w.heap.size<=w.heap.size+1;omega) _)
end Go.Proofs.YtpmofjomadibmaaGreatDoor
