/- ClassifyAllW LawSl OpenSn ClsTab -/
import Derived.Test.YtpmofjomadibmaaGreatDoorU24
import Derived.ProofKit
import Derived.OpenShut
import Derived.Carry
import Derived.Deep.Slices
import Derived.Deep.Fields
import Derived.ChangeSame
import Derived.Test.YtpmofjomadibmaaGreatDoorRows
import Derived.LaidMore
import Derived.Lay
import Derived.SevenTiedAt
import Derived.Stop.Joined
import Derived.Lib.SmallJoins
namespace Go.Proofs.YtpmofjomadibmaaGreatDoor
set_option maxHeartbeats 16000000
open Go.RowKit Go.Sort
open Go.ChangeMaps (setBlock heap_setBlock_same heap_setBlock_other)
set_option linter.unusedVariables false
set_option maxRecDepth 100000
open Cl
theorem z6u {α:Type}(P:List α)(R:List α)(i:Nat):(P++R)[P.length+i]?=R[i]?:=by
 rw [zqo (Nat.le_add_right _ _),Nat.add_sub_cancel_left]
theorem z7t (A0:Option Addr)(n0 c0:Nat)(ts:List Int)(A1:Option Addr)(n1 c1:Nat)(rl:List Sn)(what:Int)(w:World)(hn0:ts.length=n0)(hl0:n0<=9223372036854775807)(hs0:Sl w w.heap.size A0 (z0p ts))(hn1:rl.length=n1)(hl1:n1<=9223372036854775807)(hs1:Sl w w.heap.size A1 (fl rl))(ht:Tab w):
  Calls Tryz.prog 5 #[.slice A0 n0 c0,.slice A1 n1 c1,.int .i64 what] w fun e w'=>e=.returned (.bool true)/\Below w.heap.size w w':=by
 have HT:=zh ht;have HAw:=zh (z5p w ht)
 clear ht;rcases zqi 400 n0 with hbig|hsm
 ·have HLi:=zh (z2bp A0 n0 c0 w hbig hl0)
  clear hn0 hs0 hn1 hs1 hbig;go_enter Tryz.func5,Tryz.ntmps5
  go_wp2_with fail;refine HLi.out.mono ?_;rintro e w1 ⟨rfl,rfl⟩;go_wp2_with fail;refine HAw.out.mono ?_;rintro e w2 ⟨rfl,hb⟩;have HB:=zh hb;clear hb;go_wp2_with fail;go_ret;exact ⟨rfl,HB.out⟩
 have HLi:=zh (z9aa A0 n0 c0 w hsm)
 rcases zqi 60 n1 with hbig|hsm1
 ·have hg1:decide ((60:Int)<n1)=true:=zt (by omega)
  clear hn0 hs0 hn1 hs1 hbig hsm;go_enter Tryz.func5,Tryz.ntmps5
  go_wp2_with fail;refine HLi.out.mono ?_;rintro e w1 ⟨rfl,rfl⟩;go_wp2_with fail;refine HAw.out.mono ?_;rintro e w2 ⟨rfl,hb⟩;have HB:=zh hb;clear hb;go_wp2_with fail;go_ret;exact ⟨rfl,HB.out⟩
 have hg1:decide ((60:Int)<n1)=false:=zn (by omega)
 have HR:=zh (z5br (Ow.of (St.refl w)) A0 n0 c0 w.heap.size ts hn0 (by omega) (zqj _) hs0)
 have HN1:=zh (show rl.length=n1/\n1<=60 from ⟨hn1,hsm1⟩)
 have HS1:=zh hs1;clear hs0 hn0 hs1 hn1 hsm hsm1 hl0 hl1;go_enter Tryz.func5,Tryz.ntmps5
 go_wp2_with fail;refine HLi.out.mono ?_;rintro e w1 ⟨rfl,rfl⟩;go_wp2_with fail;refine HR.out.mono ?_;rintro e w1 ⟨g,rfl,hd1,h1⟩;have HBd:Hid (w.heap.size<=w.heap.size):=zqj _
 have HC:=zh (z0by h1 hd1 HBd.out)
 clear HR HLi hd1 h1 hg1;go_wp2_with fail;refine HC.out.mono ?_;rintro e w2 ⟨sh,rfl,hsh,hd2,h2⟩;obtain ⟨so,ch,ra,ba,ro,co,rfl,h12⟩:=z9z (z0cn hsh)
 have HSm:=zh h12;have HC2:=zh (z9aw h2 hd2 HBd.out)
 clear HC hd2 h2 hsh h12;go_wp2_with fail;refine HC2.out.mono ?_;rintro e w3 ⟨X1,k1,f1,X2,k2,f2,x,y,rfl,-,hd3,h3⟩;have H4:=(h3.arr #[.int .i64 so,.int .i64 ch,.int .i64 ra,.int .i64 ba,.int .i64 ro,.int .i64 co] 6 rfl (by omega) 33).pair (.slice X1 k1 f1) (.slice X2 k2 f2) 27
 simp only [World.size_alloc,zqb,zqc] at H4;have D4:Dice ((w3.alloc (.cells #[.int .i64 so,.int .i64 ch,.int .i64 ra,.int .i64 ba,.int .i64 ro,.int .i64 co] 33)).alloc (.cells #[.slice X1 k1 f1,.slice X2 k2 f2] 27)) g w.heap.size:=(hd3.below (z0i _ _)).below (z0i _ _)
 obtain ⟨a0,a1,a2,a3,a4,a5⟩:=zc6 (H4.row 0 rfl);have HL:=zh (z1bb H4 D4 HBd.out so ch ra ba ro co HSm.out 14 (by omega))
 clear HC2 hd3 h3 H4 D4;unfold Pl.vs;go_wp2_with fail;refine HL.out.mono ?_;rintro e w5 ⟨A,n,c,l,rfl,hl,hn,-,-,hx5⟩;have HY:=zh (hx5.keepX 0 rfl (m:=n*8) rfl (by omega) (by omega)).ow
 clear HL hl hn hx5 a0 a1 a2 a3 a4 a5;have HMo:=zh (z8ar what 6 w5 (by omega) (by omega))
 obtain ⟨z,hz⟩:∃ z,what % 6=z:=⟨_,rfl⟩
 rw [hz] at HMo;clear hz;go_wp2_with fail;refine HMo.out.mono ?_;rintro e w6 ⟨rfl,rfl⟩;clear HMo;by_cases hz0:z=0
 ·have hb0:(z == 0)=true:=by rw [hz0];rfl
  have HZ:=zh (HY.out.old (A:=A1) (n:=n1*8) (c:=n1*8) HS1.out (by rw [z2q,HN1.out.1]) (zqj _) (by have:=HN1.out;omega))
  clear hz0 HY;simp only [zqb,zqc] at HZ;obtain ⟨a0,a1,a2,a3,a4,a5⟩:=zc6 (HZ.out.row 0 rfl);have b0:=HZ.out.p0 1 rfl
  have b1:=HZ.out.p1 1 rfl
  have HP:=zh (pAll (p:=Na.up (Na.dig x)) (q:=Na.up (Na.dig y)) (l:=rl) (n3:=n1) (c3:=c1) ⟨(so:Int),ch,ra,ba,ro,co⟩ HZ.out 0 1 3 (by rw [z0g];rfl) (by rw [z0g];rfl) rfl HT.out)
  obtain ⟨vs,rs,er,hS⟩:∃ vs rs er,allS ⟨(so:Int),ch,ra,ba,ro,co⟩ (Na.up (Na.dig x)) (Na.up (Na.dig y)) rl=(vs,rs,er):=⟨_,_,_,rfl⟩
  have HS:=zh hS;rw [hS] at HP;unfold AllR Pl.vs at HP;clear hS HZ;go_wp2_with fail;refine HP.out.mono ?_;rintro e w7 ⟨Ao,no,co',Ar,nr,cr,V,hV,hno,hnr,rfl,h7⟩;have HQ:=zh (rAll (p:=Na.up (Na.dig x)) (q:=Na.up (Na.dig y)) (l:=rl) (n3:=n1) (c3:=c1) ⟨(so:Int),ch,ra,ba,ro,co⟩ h7 0 1 3 (by rw [z0g];rfl) (by rw [z0g];rfl) rfl HT.out)
  rw [HS.out] at HQ;unfold AllR Pl.vs at HQ;clear a0 a1 a2 a3 a4 a5 b0 b1 HP;obtain ⟨a0,a1,a2,a3,a4,a5⟩:=zc6 (h7.row 0 rfl);have b0:=h7.p0 1 rfl
  have b1:=h7.p1 1 rfl
  have HV:Hid (V.map VR.v=vs/\V.length=no/\rs.length=nr):=⟨hV,hno,hnr⟩
  clear h7 hV hno hnr;go_wp2_with fail;refine HQ.out.mono ?_;rintro e w8 ⟨Bo,mo,do',Br,mr,dr,U,hU,hmo,hmr,rfl,h8⟩;obtain rfl:mo=no:=by
   have h1:=congrArg List.length hU
   rw [List.length_map,<- HV.out.1,List.length_map] at h1;have:=HV.out.2.1
   omega
  obtain rfl:mr=nr:=by
   have:=HV.out.2.2
   omega
  have HSa:=zh (z7a h8 4 ((([⟨X1,k1,f1,z0c (Na.dig x)⟩,⟨X2,k2,f2,z0c (Na.dig y)⟩,⟨A,n*8,n*8,fl l⟩,⟨A1,n1*8,n1*8,fl rl⟩]:List Ob)++(⟨Ao,mo*11,mo*11,fvr V⟩ :: ⟨Ar,mr,cr,z0p rs⟩ :: lvr V)).length+0) (V:=V) (U:=U) (c2:=co') (d:=do') (HV.out.1.trans hU.symm) HV.out.2.1 rfl (by rw [z6u];rfl) (fun o ho=>List.mem_append_left _ (List.mem_append_right _ (List.mem_cons_of_mem _ (List.mem_cons_of_mem _ ho)))) (fun o ho=>List.mem_append_right _ (List.mem_cons_of_mem _ (List.mem_cons_of_mem _ ho))))
  have HIn:Hid (∀ W,Ow w W (some g) [] ((([⟨X1,k1,f1,z0c (Na.dig x)⟩,⟨X2,k2,f2,z0c (Na.dig y)⟩,⟨A,n*8,n*8,fl l⟩,⟨A1,n1*8,n1*8,fl rl⟩]:List Ob)++(⟨Ao,mo*11,mo*11,fvr V⟩ :: ⟨Ar,mr,cr,z0p rs⟩ :: lvr V))++(⟨Bo,mo*11,mo*11,fvr U⟩ :: ⟨Br,mr,dr,z0p rs⟩ :: lvr U)) [(⟨some ⟨w3.heap.size,0,none⟩,6,6,33,[.int .i64 so,.int .i64 ch,.int .i64 ra,.int .i64 ba,.int .i64 ro,.int .i64 co]⟩:Rw),Rw.pair (w3.heap.size+1) 27 (.slice X1 k1 f1) (.slice X2 k2 f2)]->Calls Tryz.prog 29 #[.slice Ar mr cr,.slice Br mr dr] W fun e w'=>e=.returned (.bool true)/\Ow w w' (some g) [] ((([⟨X1,k1,f1,z0c (Na.dig x)⟩,⟨X2,k2,f2,z0c (Na.dig y)⟩,⟨A,n*8,n*8,fl l⟩,⟨A1,n1*8,n1*8,fl rl⟩]:List Ob)++(⟨Ao,mo*11,mo*11,fvr V⟩ :: ⟨Ar,mr,cr,z0p rs⟩ :: lvr V))++(⟨Bo,mo*11,mo*11,fvr U⟩ :: ⟨Br,mr,dr,z0p rs⟩ :: lvr U)) [(⟨some ⟨w3.heap.size,0,none⟩,6,6,33,[.int .i64 so,.int .i64 ch,.int .i64 ra,.int .i64 ba,.int .i64 ro,.int .i64 co]⟩:Rw),Rw.pair (w3.heap.size+1) 27 (.slice X1 k1 f1) (.slice X2 k2 f2)]):=fun W hW=>z3aq hW 5 ((([⟨X1,k1,f1,z0c (Na.dig x)⟩,⟨X2,k2,f2,z0c (Na.dig y)⟩,⟨A,n*8,n*8,fl l⟩,⟨A1,n1*8,n1*8,fl rl⟩]:List Ob)++(⟨Ao,mo*11,mo*11,fvr V⟩ :: ⟨Ar,mr,cr,z0p rs⟩ :: lvr V)).length+1) (zs:=rs) rfl (by rw [z6u];rfl)
  have hq:(er == er)=true:=beq_self_eq_true er
  clear a0 a1 a2 a3 a4 a5 b0 b1 HQ HV hU hmo hmr h8;go_wp2_with fail;refine HSa.out.mono ?_;rintro e w9 ⟨rfl,h9⟩;have HI2:=zh (HIn.out w9 h9)
  clear h9 HSa HIn;go_wp2_with fail;refine HI2.out.mono ?_;rintro e w10 ⟨rfl,h10⟩;have HB:=zh h10.below;have HA:=zh (z5p w10 (HT.out.below h10.below))
  clear h10 HI2;go_wp2_with fail;refine HA.out.mono ?_;rintro e w11 ⟨rfl,hb⟩;have HB2:=zh (HB.out.trans (hb.mono HB.out.size))
  clear hb;go_wp2_with fail;go_ret;exact ⟨rfl,HB2.out⟩
 ·have hb0:(z == 0)=false:=beq_eq_false_iff_ne.2 hz0
  have HZ:=zh HY.out;clear hz0 HY;simp only [zqb,zqc] at HZ;obtain ⟨a0,a1,a2,a3,a4,a5⟩:=zc6 (HZ.out.row 0 rfl);have b0:=HZ.out.p0 1 rfl
  have b1:=HZ.out.p1 1 rfl
  have HP:=zh (pAll (p:=Na.up (Na.dig x)) (q:=Na.up (Na.dig y)) (l:=l) (n3:=n) (c3:=c) ⟨(so:Int),ch,ra,ba,ro,co⟩ HZ.out 0 1 2 (by rw [z0g];rfl) (by rw [z0g];rfl) rfl HT.out)
  obtain ⟨vs,rs,er,hS⟩:∃ vs rs er,allS ⟨(so:Int),ch,ra,ba,ro,co⟩ (Na.up (Na.dig x)) (Na.up (Na.dig y)) l=(vs,rs,er):=⟨_,_,_,rfl⟩
  have HS:=zh hS;rw [hS] at HP;unfold AllR Pl.vs at HP;clear hS HZ;go_wp2_with fail;refine HP.out.mono ?_;rintro e w7 ⟨Ao,no,co',Ar,nr,cr,V,hV,hno,hnr,rfl,h7⟩;have HQ:=zh (rAll (p:=Na.up (Na.dig x)) (q:=Na.up (Na.dig y)) (l:=l) (n3:=n) (c3:=c) ⟨(so:Int),ch,ra,ba,ro,co⟩ h7 0 1 2 (by rw [z0g];rfl) (by rw [z0g];rfl) rfl HT.out)
  rw [HS.out] at HQ;unfold AllR Pl.vs at HQ;clear a0 a1 a2 a3 a4 a5 b0 b1 HP;obtain ⟨a0,a1,a2,a3,a4,a5⟩:=zc6 (h7.row 0 rfl);have b0:=h7.p0 1 rfl
  have b1:=h7.p1 1 rfl
  have HV:Hid (V.map VR.v=vs/\V.length=no/\rs.length=nr):=⟨hV,hno,hnr⟩
  clear h7 hV hno hnr;go_wp2_with fail;refine HQ.out.mono ?_;rintro e w8 ⟨Bo,mo,do',Br,mr,dr,U,hU,hmo,hmr,rfl,h8⟩;obtain rfl:mo=no:=by
   have h1:=congrArg List.length hU
   rw [List.length_map,<- HV.out.1,List.length_map] at h1;have:=HV.out.2.1
   omega
  obtain rfl:mr=nr:=by
   have:=HV.out.2.2
   omega
  have HSa:=zh (z7a h8 3 ((([⟨X1,k1,f1,z0c (Na.dig x)⟩,⟨X2,k2,f2,z0c (Na.dig y)⟩,⟨A,n*8,n*8,fl l⟩]:List Ob)++(⟨Ao,mo*11,mo*11,fvr V⟩ :: ⟨Ar,mr,cr,z0p rs⟩ :: lvr V)).length+0) (V:=V) (U:=U) (c2:=co') (d:=do') (HV.out.1.trans hU.symm) HV.out.2.1 rfl (by rw [z6u];rfl) (fun o ho=>List.mem_append_left _ (List.mem_append_right _ (List.mem_cons_of_mem _ (List.mem_cons_of_mem _ ho)))) (fun o ho=>List.mem_append_right _ (List.mem_cons_of_mem _ (List.mem_cons_of_mem _ ho))))
  have HIn:Hid (∀ W,Ow w W (some g) [] ((([⟨X1,k1,f1,z0c (Na.dig x)⟩,⟨X2,k2,f2,z0c (Na.dig y)⟩,⟨A,n*8,n*8,fl l⟩]:List Ob)++(⟨Ao,mo*11,mo*11,fvr V⟩ :: ⟨Ar,mr,cr,z0p rs⟩ :: lvr V))++(⟨Bo,mo*11,mo*11,fvr U⟩ :: ⟨Br,mr,dr,z0p rs⟩ :: lvr U)) [(⟨some ⟨w3.heap.size,0,none⟩,6,6,33,[.int .i64 so,.int .i64 ch,.int .i64 ra,.int .i64 ba,.int .i64 ro,.int .i64 co]⟩:Rw),Rw.pair (w3.heap.size+1) 27 (.slice X1 k1 f1) (.slice X2 k2 f2)]->Calls Tryz.prog 29 #[.slice Ar mr cr,.slice Br mr dr] W fun e w'=>e=.returned (.bool true)/\Ow w w' (some g) [] ((([⟨X1,k1,f1,z0c (Na.dig x)⟩,⟨X2,k2,f2,z0c (Na.dig y)⟩,⟨A,n*8,n*8,fl l⟩]:List Ob)++(⟨Ao,mo*11,mo*11,fvr V⟩ :: ⟨Ar,mr,cr,z0p rs⟩ :: lvr V))++(⟨Bo,mo*11,mo*11,fvr U⟩ :: ⟨Br,mr,dr,z0p rs⟩ :: lvr U)) [(⟨some ⟨w3.heap.size,0,none⟩,6,6,33,[.int .i64 so,.int .i64 ch,.int .i64 ra,.int .i64 ba,.int .i64 ro,.int .i64 co]⟩:Rw),Rw.pair (w3.heap.size+1) 27 (.slice X1 k1 f1) (.slice X2 k2 f2)]):=fun W hW=>z3aq hW 4 ((([⟨X1,k1,f1,z0c (Na.dig x)⟩,⟨X2,k2,f2,z0c (Na.dig y)⟩,⟨A,n*8,n*8,fl l⟩]:List Ob)++(⟨Ao,mo*11,mo*11,fvr V⟩ :: ⟨Ar,mr,cr,z0p rs⟩ :: lvr V)).length+1) (zs:=rs) rfl (by rw [z6u];rfl)
  have hq:(er == er)=true:=beq_self_eq_true er
  clear a0 a1 a2 a3 a4 a5 b0 b1 HQ HV hU hmo hmr h8;go_wp2_with fail;refine HSa.out.mono ?_;rintro e w9 ⟨rfl,h9⟩;have HI2:=zh (HIn.out w9 h9)
  clear h9 HSa HIn;go_wp2_with fail;refine HI2.out.mono ?_;rintro e w10 ⟨rfl,h10⟩;have HB:=zh h10.below;have HA:=zh (z5p w10 (HT.out.below h10.below))
  clear h10 HI2;go_wp2_with fail;refine HA.out.mono ?_;rintro e w11 ⟨rfl,hb⟩;have HB2:=zh (HB.out.trans (hb.mono HB.out.size))
  clear hb;go_wp2_with fail;go_ret;exact ⟨rfl,HB2.out⟩
open Go.ChangeShapes Go.WideShapes Go.ChangeAt Go.RowKit
section
variable {H:Type}{enc:TypeId×Value->H}{P:Program}
theorem z0bb (hl:laidOutB P=true){W W':World}(hb:Below W.heap.size W W'){sp:Nat->Bool}:∀ {ts:List TypeId} {vs:List Value} {ds:List (DataW H)} {ps:List MemPlace},
  (∀ t∈ts,P.readableRec t=true/\t<P.types.size)->DataW.TrodAll enc P W 0 (fun _=>true) true ts vs ds ps->(∀ x∈ps,x.block<W.heap.size)->(∀ p∈ps,sp p.block=true)->
  DataW.TrodAll enc P W' 0 sp true ts vs ds ps:=by
 intro ts
 induction ts with
 | nil=>
  intro vs ds ps _ h _ _;cases vs <;> cases ds <;> simp [DataW.TrodAll] at h ⊢
  exact h
 | cons t ts ih=>
  intro vs ds ps ht h hlt hs;obtain ⟨v,vs',d,ds',p,q,rfl,rfl,rfl,h0,h1⟩:=trodAll_cons h
  refine ⟨p,q,?_,?_,rfl⟩
  ·exact WideElems.Trod_stays hl (ht t (by simp)).1 (ht t (by simp)).2 h0 (fun x hx=>hb.same (hlt x (by simp [hx]))) (fun x hx=>hs x (by simp [hx]))
  ·exact ih (fun u hu=>ht u (by simp [hu])) h1 (fun x hx=>hlt x (by simp [hx])) (fun x hx=>hs x (by simp [hx]))
theorem z1bp (hl:laidOutB P=true){f:Func}{s:ChangeSpec}{W W':World}{args:Array Value}{ds gs:List (DataW H)}{before:List MemPlace}{tb:TypeId}(hb:Below W.heap.size W W')
  (hvars:s.vars=[]) (hW:DataW.Whole enc P f.params.toList s.vars false W args.toList ds gs before)
  (hfn:s.fn H (ds++gs)={ results:=[.lit (.bool true)],args:=ds,vars:=[] }) (hres:f.resultTypes=#[tb]) (htb:P.underlying tb=some .bool)
  (hts:∀ t∈f.params.toList,P.readableRec t=true/\t<P.types.size) :
  s.post enc P f false true false false W args (.bool true) W':=by
 have hlt:∀ p∈before,p.block<W.heap.size:=fun p hp=>hW.lt p hp
 have hW':=hW
 obtain ⟨p,q,hA,hV,rfl,hz,hn⟩:=hW;rw [hvars] at hV;have hq:q=[]:=by
  cases gs with
  | nil=>exact hV
  | cons g r=>exact absurd hV (by intro h;cases h)
 subst hq
 refine ⟨ds,gs,_,[],p,[],hW',?_,?_,?_,hb.frame _,fun h=>by cases h⟩
 ·rw [hfn,hres];exact trodAll_mk1 (shut_bool htb true)
 ·rw [hfn];exact z0bb hl hb hts hA (fun x hx=>hlt x (by simp [hx])) (fun x hx=>by simpa using hlt x (by simp [hx]))
 ·rw [hfn,hvars];rfl
end
set_option linter.unusedVariables false
theorem z4ae {W:World}{a:Addr}{v:Value}(h:W.cell? a=some v):a.block<W.heap.size:=by
 rcases zqi a.block W.heap.size with h1|h1
 ·exact h1
 ·have h2:W.heap[a.block]?=none:=Array.getElem?_eq_none h1
  simp [World.cell?,h2] at h
section
variable {H:Type}{enc:TypeId×Value->H}{P:Program}{W:World}
theorem z6bp {t e:TypeId}{k:IntKind}(ht:P.underlying t=some (.slice e))(he:P.underlying e=some (.int k))(hc:P.cellsOf e=1){r:Reach}{b0:Nat}{v:Value}{d:DataW H}{ps:List MemPlace}
  (hval:Value.okWide P W r b0 t v) (h:DataW.Trod enc P W 0 (fun _=>true) true t v d ps) :
  ∃ (A:Option Addr) (n c:Nat) (zs:List Int),v=.slice A n c/\zs.length=n/\n<=c/\c<=maxLen/\Sl W W.heap.size A (zs.map (Value.int k))/\∀ z∈zs,(Lit.int k z).wf=true:=by
 obtain ⟨a0,n,c,rfl⟩:=okWide_slice ht hval
 obtain ⟨fuel,hf⟩:=h;rcases Go.ChangeShapes.open_ints ht he hc hf with ⟨hcs,_⟩|⟨a,len,cap,zs,hcs,_,hle,hmx,hall,_,hcell,hwf⟩
 ·have e1:(Value.slice a0 n c)=.slice none 0 0:=(List.cons.inj (show [Value.slice a0 n c]=_ from hcs)).1
  injection e1 with h1 h2 h3
  subst h1 h2 h3
  exact ⟨none,0,0,[],rfl,rfl,zqj _,zqr _,Sl.nil _ _ _,fun z hz=>by cases hz⟩
 ·have e1:(Value.slice a0 n c)=.slice (some a) len cap:=(List.cons.inj (show [Value.slice a0 n c]=_ from hcs)).1
  injection e1 with h1 h2 h3
  subst h1 h2 h3
  have hz:zs.length=c:=by simpa using hall
  refine ⟨some a,n,c,zs.take n,rfl,by rw [zqw];omega,hle,hmx,fun hn=>?_,fun z hz=>hwf z (List.mem_of_mem_take hz)⟩
  rw [List.length_map,zqw] at hn;refine ⟨a,rfl,?_,fun j u hu=>?_⟩
  ·have h0:=hcell 0 (by omega)
   have:=z4ae h0
   rwa [z1d] at this
  ·rw [List.getElem?_map,List.getElem?_take] at hu;by_cases hj:j<n
   ·rw [if_pos hj,zql (by omega)] at hu
    rw [hcell j (by omega),List.getD_eq_getElem?_getD,zql (by omega)]
    exact hu
   ·rw [if_neg hj] at hu;cases hu
end
open Go.ChangeShapes Go.WideShapes Go.ChangeAt Go.RowKit Go.Deep
theorem z9by:Tryz.prog.cellsOf 3=1:=by kernel_rfl
theorem z7br:Tryz.prog.cellsOf 38=6:=by kernel_rfl
theorem z9bx:Tryz.prog.cellsOf 40=8:=by kernel_rfl
section
variable {H:Type}{enc:TypeId×Value->H}{W:World}{sp:Nat->Bool}{held:Bool}{fuel:Nat}
theorem z3d {r:Value}{x:DataW H×List MemPlace}(h:DataW.trod enc Tryz.prog W 0 sp held fuel 3 [r]=some x):∃ z:Int,r=.int .i64 z:=by
 obtain ⟨n,e,_,_⟩:=DataW.trod_int Tryz.underlying3 h
 exact ⟨n,(List.cons.inj e).1⟩
theorem z5af {r0 r1 r2 r3 r4 r5:Value}{x:DataW H×List MemPlace}(h:DataW.trod enc Tryz.prog W 0 sp held fuel 38 [r0,r1,r2,r3,r4,r5]=some x):∃ p:Pl,[r0,r1,r2,r3,r4,r5]=p.vs.toList:=by
 obtain ⟨xs,n,_,_,_,hlen,hf⟩:=DataW.trod_struct Tryz.underlying38 h
 match xs,hlen with
 | [y0,y1,y2,y3,y4,y5],_=>
  have h0:DataW.trod enc Tryz.prog W 0 sp held n 3 (([r0,r1,r2,r3,r4,r5].drop 0).take (Tryz.prog.cellsOf 3))=some y0:=hf 0 _ rfl
  have h1:DataW.trod enc Tryz.prog W 0 sp held n 3 (([r0,r1,r2,r3,r4,r5].drop 1).take (Tryz.prog.cellsOf 3))=some y1:=hf 1 _ rfl
  have h2:DataW.trod enc Tryz.prog W 0 sp held n 3 (([r0,r1,r2,r3,r4,r5].drop 2).take (Tryz.prog.cellsOf 3))=some y2:=hf 2 _ rfl
  have h3:DataW.trod enc Tryz.prog W 0 sp held n 3 (([r0,r1,r2,r3,r4,r5].drop 3).take (Tryz.prog.cellsOf 3))=some y3:=hf 3 _ rfl
  have h4:DataW.trod enc Tryz.prog W 0 sp held n 3 (([r0,r1,r2,r3,r4,r5].drop 4).take (Tryz.prog.cellsOf 3))=some y4:=hf 4 _ rfl
  have h5:DataW.trod enc Tryz.prog W 0 sp held n 3 (([r0,r1,r2,r3,r4,r5].drop 5).take (Tryz.prog.cellsOf 3))=some y5:=hf 5 _ rfl
  rw [z9by] at h0 h1 h2 h3 h4 h5;obtain ⟨z0,rfl⟩:=z3d (show DataW.trod enc Tryz.prog W 0 sp held n 3 [r0]=some y0 from h0)
  obtain ⟨z1,rfl⟩:=z3d (show DataW.trod enc Tryz.prog W 0 sp held n 3 [r1]=some y1 from h1)
  obtain ⟨z2,rfl⟩:=z3d (show DataW.trod enc Tryz.prog W 0 sp held n 3 [r2]=some y2 from h2)
  obtain ⟨z3,rfl⟩:=z3d (show DataW.trod enc Tryz.prog W 0 sp held n 3 [r3]=some y3 from h3)
  obtain ⟨z4,rfl⟩:=z3d (show DataW.trod enc Tryz.prog W 0 sp held n 3 [r4]=some y4 from h4)
  obtain ⟨z5,rfl⟩:=z3d (show DataW.trod enc Tryz.prog W 0 sp held n 3 [r5]=some y5 from h5)
  exact ⟨⟨z0,z1,z2,z3,z4,z5⟩,rfl⟩
theorem z7ax {cs:List Value}{x:DataW H×List MemPlace}(hc:cs.length=8)(h:DataW.trod enc Tryz.prog W 0 sp held fuel 40 cs=some x):∃ y:Sn,cs=y.vs.toList:=by
 obtain ⟨r0,r1,r2,r3,r4,r5,r6,r7,rfl⟩:=z9an hc
 obtain ⟨xs,n,_,_,_,hlen,hf⟩:=DataW.trod_struct Tryz.underlying40 h
 match xs,hlen with
 | [y0,y1,y2],_=>
  have h0:DataW.trod enc Tryz.prog W 0 sp held n 38 (([r0,r1,r2,r3,r4,r5,r6,r7].drop 0).take (Tryz.prog.cellsOf 38))=some y0:=hf 0 _ rfl
  have h1:DataW.trod enc Tryz.prog W 0 sp held n 3 (([r0,r1,r2,r3,r4,r5,r6,r7].drop 6).take (Tryz.prog.cellsOf 3))=some y1:=hf 1 _ rfl
  have h2:DataW.trod enc Tryz.prog W 0 sp held n 3 (([r0,r1,r2,r3,r4,r5,r6,r7].drop 7).take (Tryz.prog.cellsOf 3))=some y2:=hf 2 _ rfl
  rw [z9by] at h1 h2;rw [z7br] at h0;obtain ⟨p,hp⟩:=z5af (show DataW.trod enc Tryz.prog W 0 sp held n 38 [r0,r1,r2,r3,r4,r5]=some y0 from h0)
  obtain ⟨z6,rfl⟩:=z3d (show DataW.trod enc Tryz.prog W 0 sp held n 3 [r6]=some y1 from h1)
  obtain ⟨z7,rfl⟩:=z3d (show DataW.trod enc Tryz.prog W 0 sp held n 3 [r7]=some y2 from h2)
  refine ⟨⟨p,z6,z7⟩,?_⟩
  show [r0,r1,r2,r3,r4,r5]++[.int .i64 z6,.int .i64 z7]=p.vs.toList++[.int .i64 z6,.int .i64 z7]
  rw [hp]
theorem z5ae {r:Reach}{b0:Nat}{v:Value}{d:DataW H}{ps:List MemPlace}(hval:Value.okWide Tryz.prog W r b0 23 v)(h:DataW.Trod enc Tryz.prog W 0 (fun _=>true) true 23 v d ps):
  ∃ (A:Option Addr) (n c:Nat) (zs:List Sn),v=.slice A n c/\zs.length=n/\n<=c/\c<=maxLen/\Sl W W.heap.size A (fl zs):=by
 obtain ⟨a0,n,c,rfl⟩:=okWide_slice Tryz.underlying23 hval
 obtain ⟨fuel,hf⟩:=h;rcases open_slice Tryz.underlying23 hf with ⟨hcs,_⟩|⟨a,len,cap,m,k,D,Pl,hcs,_,hle,hmx,hm,_,hel⟩
 ·have e1:(Value.slice a0 n c)=.slice none 0 0:=(List.cons.inj (show [Value.slice a0 n c]=_ from hcs)).1
  injection e1 with h1 h2 h3
  subst h1 h2 h3
  exact ⟨none,0,0,[],rfl,rfl,zqj _,zqr _,Sl.nil _ _ _⟩
 ·have e1:(Value.slice a0 n c)=.slice (some a) len cap:=(List.cons.inj (show [Value.slice a0 n c]=_ from hcs)).1
  injection e1 with h1 h2 h3
  subst h1 h2 h3
  rw [if_pos rfl] at hm;have key:∀ i,i<n->∃ y:Sn,∀ j u,y.vs.toList[j]?=some u->W.cell? ((a.add (i*8)).add j)=some u:=fun i hi=>by
   obtain ⟨cs',hc,ht⟩:=hel i (by omega)
   rw [z9bx] at hc;obtain ⟨_,hl,hcell⟩:=World.cells?_some hc
   obtain ⟨y,rfl⟩:=z7ax hl ht
   exact ⟨y,fun j u hu=>by rw [hcell j (by have:=z0d hu;omega)];exact hu⟩
  have build:∀ k,k<=n->∃ zs:List Sn,zs.length=k/\∀ j u,(fl zs)[j]?=some u->W.cell? (a.add j)=some u:=fun k=>by
   induction k with
   | zero=>exact fun _=>⟨[],rfl,fun j u hu=>by simp [fl] at hu⟩
   | succ k ih=>
    intro hk;obtain ⟨zs,hl,hz⟩:=ih (by omega)
    obtain ⟨y,hy⟩:=key k (by omega)
    refine ⟨zs++[y],by rw [zqm,hl];rfl,fun j u hu=>?_⟩
    rw [z7p] at hu;rcases zqi j (fl zs).length with h1|h1
    ·rw [zqn h1] at hu;exact hz j u hu
    ·rw [zqo h1,z2q,hl] at hu;have:=hy _ u hu
     rw [Go.Proofs.YtpmofjomadibmaaGreatDoor.add_add] at this;rw [z2q,hl] at h1;rwa [show k*8+(j - k*8)=j by omega] at this
  obtain ⟨zs,hl,hz⟩:=build n (zqj _)
  refine ⟨some a,n,c,zs,rfl,hl,hle,hmx,fun hn=>⟨a,rfl,?_,hz⟩⟩
  have h0:=hz 0 _ (zql hn)
  have:=z4ae h0
  rwa [z1d] at this
end
theorem z8bn {W:World}(h:laidMetH Tryz.prog Rows.classifyJudgesRow.laid W):Tab W:=by
 rw [MakeChecks.laidMetH_plain _ _ _ (by kernel_rfl)] at h
 obtain ⟨ps,⟨g,t,cs,fuel,p,q,hg,ht,hv,hd,_,_⟩,_⟩:=h
 obtain rfl := zqk ((show Tryz.prog.globalNamed "math/bits.deBruijn64tab" = some 0 by kernel_rfl).symm.trans hg)
 obtain rfl:=zqk ((show (Tryz.prog.globals[0]?).map (·.type)=some 180 by kernel_rfl).symm.trans ht)
 obtain ⟨xs,m,_,ex,_,hl,hel⟩:=DataW.trod_array Tryz.underlying180 hd
 have c5:Tryz.prog.cellsOf 5=1:=by kernel_rfl
 have hlen:Lib.deBruijn64tab.length=64:=by kernel_rfl
 have e3:(xs.map (·.1))=Lib.deBruijn64tab.map fun n:Nat=>.lit (.int .u8 (n:Int)):=(DataW.agg.inj (Prod.mk.inj ex).1).symm
 have hcell:∀ k v:Nat,Lib.deBruijn64tab[k]?=some v->W.cell? ⟨0,k,none⟩=some (.int .u8 (v:Int)):=by
  intro r v hr;have hr64:r<64:=by
   rcases zqi r 64 with h|h
   ·exact h
   ·rw [List.getElem?_eq_none (by omega)] at hr;cases hr
  have hE:=hel r hr64
  rw [c5,Nat.mul_one,zql (by omega)] at hE
  obtain ⟨z,e1,e2,_⟩:=DataW.trod_int Tryz.underlying5 hE
  have e4:(xs.map (·.1))[r]?=(Lib.deBruijn64tab.map fun n:Nat=>(DataW.lit (.int .u8 (n:Int)):DataW Unit))[r]?:=by rw [e3]
  rw [List.getElem?_map,List.getElem?_map,zql (by omega:r<xs.length),hr,e2] at e4
  have hz:z=(v:Int):=by
   simp only [Option.map_some,Option.some.injEq,DataW.lit.injEq,Lit.int.injEq,true_and] at e4;exact e4
  rw [World.var?_cell hg hv r,<- hz];have:cs.toList[r]?=some (.int .u8 z):=by
   have h0:((cs.toList.drop r).take 1)[0]?=some (.int .u8 z):=by rw [e1];rfl
   simpa using h0
  simpa using this
 refine ⟨?_,hcell⟩
 have h0:=hcell 0 0 (by kernel_rfl)
 rcases zqh W.heap.size with h|h
 ·exfalso
  unfold World.cell? at h0
  rw [Array.getElem?_eq_none (by simp only;omega)] at h0
  cases h0
 ·exact h
end Go.Proofs.YtpmofjomadibmaaGreatDoor
