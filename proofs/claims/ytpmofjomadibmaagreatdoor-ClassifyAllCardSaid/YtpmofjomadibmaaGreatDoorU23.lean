/- Zv Zw Zx Zj Zt Zy -/
import Derived.Test.YtpmofjomadibmaaGreatDoorU22
namespace Go.Proofs.YtpmofjomadibmaaGreatDoor
set_option maxHeartbeats 16000000
open Go.RowKit Go.Sort
set_option linter.unusedVariables false
set_option maxRecDepth 100000
section
variable {w0 w w':World}{g:Option Nat}{M M2:List (Nat×Value)}{L:List Ob}{O:List Rw}{A A2 A3 A4:Option Addr}{b n c m c2 n3 c3 n4 c4 x y:Nat}{p q r s:List Int}
theorem z0cz {w0 w:World}{A1:Option Addr}{n1:Nat}{A2:Option Addr}{n2:Nat}(hs:w0.heap.size<=w.heap.size)(h:(∀ ad,A1=some ad->0<n1->w.heap.size<=ad.block)/\(∀ ad,A2=some ad->0<n2->w.heap.size<=ad.block)):(∀ ad,A1=some ad->0<n1->w0.heap.size<=ad.block)/\(∀ ad,A2=some ad->0<n2->w0.heap.size<=ad.block):=
 ⟨fun ad e h0=>zqq hs (h.1 ad e h0),fun ad e h0=>zqq hs (h.2 ad e h0)⟩
theorem z4az {w0 w:World}{g:Option Nat}{M:List (Nat×Value)}{L:List Ob}{O:List Rw}{A A2:Option Addr}{n c m c2 x y:Nat}{t:Nat×Nat×Int}(h:Ow w0 w g M L O)(i j:Nat)(hi:L[i]?=some ⟨A,n,c,z0c (Na.dig x)⟩)(hj:L[j]?=some ⟨A2,m,c2,z0c (Na.dig y)⟩)(hx:x<Na.top)(hy:y<Na.top)(e:frM x y=t):
  Calls Tryz.prog 44 #[.agg #[.slice A n c],.agg #[.slice A2 m c2]] w fun en w'=>GotF w0 g M L O t en w'/\FrE w en:=by
 have:=z2aw (p:=Na.up (Na.dig x)) (q:=Na.up (Na.dig y)) h i j (by rw [z0g];exact hi) (by rw [z0g];exact hj)
 unfold z6l at this;rw [Na.vld_dig hx,Na.vld_dig hy,z0l,z0l,e] at this;refine this.mono fun en w' hr=>⟨z2bu h (by rw [<- e];exact (z5o hx hy).1) (by rw [<- e];exact (z5o hx hy).2) hr,?_⟩
 obtain ⟨A1,n1,d1,B2,n2,d2,rfl,_,_,o1,o2,_⟩:=hr;refine z3av ⟨fun ad ea h0=>?_,fun ad ea h0=>?_⟩
 ·obtain ⟨gb,hgb,h1,_⟩:=z0n o1 h0
  rw [ea] at hgb;obtain rfl:=zqk hgb
  exact h1
 ·obtain ⟨gb,hgb,h1,_⟩:=z0n o2 h0
  rw [ea] at hgb;obtain rfl:=zqk hgb
  exact h1
end
section
variable {w0 w w':World}{g:Option Nat}{M M2:List (Nat×Value)}{L:List Ob}{O:List Rw}{A A2 A3 A4:Option Addr}{b n c m c2 n3 c3 n4 c4 x y:Nat}{p q r s:List Int}
theorem z9q (h:Ow w0 w g M L O)(m cc kk:Nat)(hm:m<=40)(hc:1<=cc/\cc<=4096)(hk:1<=kk/\kk<=m):Calls Tryz.prog 21 #[.int .i64 m,.int .i64 cc,.int .i64 kk] w fun en w'=>GotF w0 g M L O (frM (cc ^ m - pwc (z2l kk) cc m) (cc ^ m)) en w'/\FrE w0 en:=by
 have H0:=((h.pair (.slice none 0 0) (.slice none 0 0) 27).nil 25).nil 25
 rw [zqa,zqa,zqb,zqc,zqb,zqc] at H0;have t0:decide ((m:Int)<0)=false:=zn (by omega)
 have t1:decide (40<(m:Int))=false:=zn (by omega)
 have t1b:decide (40<m)=false:=zn (by omega)
 have t2:decide ((cc:Int)<1)=false:=zn (by omega)
 have t3:decide (4096<(cc:Int))=false:=zn (by omega)
 have t3b:decide (4096<cc)=false:=zn (by omega)
 have t4:decide ((kk:Int)<=0)=false:=zn (by omega)
 have t4b:decide (kk=0)=false:=zn (by omega)
 have t5:decide ((m:Int)<kk)=false:=zn (by omega)
 have t5b:decide (m<kk)=false:=zn (by omega)
 have hw1:IntKind.i64.wrap ((m:Int)+1)=(m:Int)+1:=IntWalk.i64_in _ (by omega)
 obtain ⟨t,hmk⟩:∃ t,frM (cc ^ m - pwc (z2l kk) cc m) (cc ^ m)=t:=⟨_,rfl⟩
 rw [hmk];have HMk:=zh hmk;clear hmk;have HO:=zh H0;obtain ⟨rb,hrb⟩:∃ r,w.heap.size=r:=⟨_,rfl⟩
 rw [hrb] at HO;have HRB:=zh hrb;have HB:=zh (And.intro hm (And.intro hc hk))
 clear h H0 hrb;go_enter Tryz.func21,Tryz.ntmps21
 go_wp2_with fail;rw [HRB.out];go_loopw [8,9,49] (fun v8 v9 v49 wr=>RCu w0 g M L (O++[Rw.pair rb 27 (.slice none 0 0) (.slice none 0 0)]) m kk v8 v9 v49 wr) (fun _ _ v49 _=>m+2 - (intOf v49).toNat)
 case atStart=>exact ⟨0,none,0,[],none,0,[],[],by omega,rfl,rfl,rfl,⟨fun z hz=>absurd hz (by omega),fun z hz=>absurd hz (by omega)⟩,by rw [List.append_nil,zqa];exact HO.out⟩
 case round=>
  clear HO;obtain ⟨j,A1,c1,xs,A2,c2,ys,Ls,hj,rfl,rfl,rfl,HV,HO0⟩:=hrel;have HO:Hid (Ow w0 wr g M (L++Ls) (O++[Rw.pair rb 27 (.slice none 0 0) (.slice none 0 0),⟨A1,j,c1,25,xs⟩,⟨A2,j,c2,25,ys⟩])):=by
   have:=HO0.out
   rw [zqa] at this;exact this
  clear HO0;have HL9:Hid (xs.length=j/\ys.length=j):=⟨z1m (HO.out.row (O.length+1) (zk rfl)),z1m (HO.out.row (O.length+2) (zk rfl))⟩
  rcases Nat.eq_or_lt_of_le hj with he|hlt
  ·subst he
   have hd:decide (((m+1:Nat):Int)<(m:Int)+1)=false:=zn (by omega)
   have hd2:decide (m+1<m+1)=false:=zn (by omega)
   have hk1:=HO.out.keep (O.length+1) (zk rfl) (by omega)
   rw [z0o,zqe,zqd] at hk1;have hk2:=hk1.keep (O.length+2) (zk rfl) (by omega)
   rw [z0o,zqe,zqe,zqd] at hk2;have hk3:=hk2.few (O.length+1)
   rw [List.take_append,zqp (by omega),Nat.add_sub_cancel_left,List.take_succ_cons,List.take_zero] at hk3
   have HC:=zh (z1bh hk3 m hm)
   have HX1:Hid ((L++Ls++[(⟨A1,m+1,c1,xs⟩:Ob)]++[(⟨A2,m+1,c2,ys⟩:Ob)])[(L++Ls).length+0]?=some ⟨A1,m+1,c1,xs⟩/\(L++Ls++[(⟨A1,m+1,c1,xs⟩:Ob)]++[(⟨A2,m+1,c2,ys⟩:Ob)])[(L++Ls++[(⟨A1,m+1,c1,xs⟩:Ob)]).length+0]?=some ⟨A2,m+1,c2,ys⟩):=⟨z5w (zk rfl),by rw [z0b];rfl⟩
   have HX2:Hid (WaysU (L++Ls++[(⟨A1,m+1,c1,xs⟩:Ob)]++[(⟨A2,m+1,c2,ys⟩:Ob)]) xs m (z2l kk)/\WaysU (L++Ls++[(⟨A1,m+1,c1,xs⟩:Ob)]++[(⟨A2,m+1,c2,ys⟩:Ob)]) ys m dlt):=⟨fun z hz=>by
     obtain ⟨u,a,b⟩:=HV.out.1 z (by omega)
     exact ⟨u,a,b.more.more⟩,fun z hz=>by
     obtain ⟨u,a,b⟩:=HV.out.2 z (by omega)
     exact ⟨u,a,b.more.more⟩⟩
   clear hk1 hk2 hk3 HO HV HL9;obtain ⟨i1,hi1⟩:∃ t,(L++Ls).length+0=t:=⟨_,rfl⟩
   obtain ⟨i2,hi2⟩:∃ t,(L++Ls++[(⟨A1,m+1,c1,xs⟩:Ob)]).length+0=t:=⟨_,rfl⟩
   rw [hi1,hi2] at HX1;clear hi1 hi2;obtain ⟨LB,hLB⟩:∃ l,L++Ls++[(⟨A1,m+1,c1,xs⟩:Ob)]++[(⟨A2,m+1,c2,ys⟩:Ob)]=l:=⟨_,rfl⟩
   have HSub:Hid (∀ o∈L,o∈LB):=by
    intro o ho;rw [<- hLB];exact List.mem_append_left _ (List.mem_append_left _ (List.mem_append_left _ ho))
   rw [hLB] at HC HX1 HX2;clear hLB;go_wp2_with fail;refine HC.out.mono ?_;clear HC;rintro e w1 ⟨AS,cS,Lp,rfl,G,HSets⟩;have HO:=zh G;have HS:=zh HSets;clear G HSets;have HI0:Hid (0=cc / 2 ^ 13/\(LB++Lp++[])[i2]?=some (⟨A2,m+1,c2,ys⟩:Ob)/\WaysU (LB++Lp++[]) ys m (pwc (z2l kk) 0)):=by
    rw [List.append_nil];exact ⟨by have:=HB.out.2.1;rw [Nat.div_eq_of_lt];omega,z5w HX1.out.2,WaysU.more HX2.out.2⟩
   rw [<- List.append_nil (LB++Lp)] at HO
   go_wp2_with fail;go_loopw [9,14] (fun v9 v14 wr=>RCv w0 g M (LB++Lp) (O++[Rw.pair rb 27 (.slice none 0 0) (.slice none 0 0)]) m cc kk v9 v14 wr) (fun _ v14 _=>(intOf v14+1).toNat)
   case atStart=>
    exact ⟨13,0,12,A2,c2,i2,ys,[],by omega,by omega,rfl,rfl,HI0,HO⟩
   case round=>
    clear HO;obtain ⟨b,r,z,D,c,tD,zs,Lt,hb,hz,rfl,rfl,HV,HO⟩:=hrel;rcases zqh b with hb0|hb0
    ·obtain rfl:z=-1:=by omega
     have hr:r=cc:=by have:=HV.out.1;rw [hb0,Nat.pow_zero,Nat.div_one] at this;exact this
     have hWy:=HV.out.2.2 m (zqj _)
     obtain ⟨uu,hzs,AB,nB,cB,ib,rfl,hib⟩:=hWy;rw [hr] at hib;have hB1:pwc (z2l kk) cc m<=cc ^ m:=z7ak (z8p kk) cc m
     have hc12:cc<=2 ^ 12:=hc.2
     have hTop:Hid (cc<Na.top/\cc ^ m<Na.top/\pwc (z2l kk) cc m<Na.top/\pwc (z2l kk) cc m<=cc ^ m):=by
      have h1:cc ^ m<Na.top:=z3y (z1al hc12 m) (by omega)
      exact ⟨z3y hc12 (by omega),h1,zqu hB1 h1,hB1⟩
     obtain ⟨bq,hbq⟩:∃ z,pwc (z2l kk) cc m=z:=⟨_,rfl⟩
     rw [hbq] at hib hTop HMk;obtain ⟨aq,haq⟩:∃ z,cc ^ m=z:=⟨_,rfl⟩
     have HC:=zh (r_of HO.out cc (by omega))
     have HP2:=zh (And.intro hib (And.intro HV.out.2.1 hzs))
     clear HO HV hB1 hc12 hib hbq hr hb0 hz hzs;go_wp2_with fail;refine HC.out.mono ?_;clear HC;rintro e w3 ⟨A3,n3,c3,rfl,G⟩;have HC:=zh (z5by G ((LB++Lp++Lt).length+0) (zk rfl) hTop.out.1 m (by omega) hTop.out.2.1)
     clear G;go_wp2_with fail;refine HC.out.mono ?_;clear HC;rintro e w4 ⟨AT,nT,cT,rfl,G⟩;rw [haq] at G hTop HMk;clear haq;have H:=G.boxed (.slice AT nT cT) 25
     have hia:(LB++Lp++Lt++[(⟨A3,n3,c3,z0c (Na.dig cc)⟩:Ob)]++[(⟨AT,nT,cT,z0c (Na.dig aq)⟩:Ob)])[(LB++Lp++Lt++[(⟨A3,n3,c3,z0c (Na.dig cc)⟩:Ob)]).length+0]?=some ⟨AT,nT,cT,z0c (Na.dig aq)⟩:=by rw [z0b];rfl
     have hib:(LB++Lp++Lt++[(⟨A3,n3,c3,z0c (Na.dig cc)⟩:Ob)]++[(⟨AT,nT,cT,z0c (Na.dig aq)⟩:Ob)])[ib]?=some ⟨AB,nB,cB,z0c (Na.dig bq)⟩:=z5w (z5w HP2.out.1)
     have hid:(LB++Lp++Lt++[(⟨A3,n3,c3,z0c (Na.dig cc)⟩:Ob)]++[(⟨AT,nT,cT,z0c (Na.dig aq)⟩:Ob)])[tD]?=some ⟨D,m+1,c,zs⟩:=z5w (z5w HP2.out.2.1)
     obtain ⟨ia,hia2⟩:∃ z,(LB++Lp++Lt++[(⟨A3,n3,c3,z0c (Na.dig cc)⟩:Ob)]).length+0=z:=⟨_,rfl⟩
     rw [hia2] at hia;clear hia2;obtain ⟨LC,hLC⟩:∃ z,LB++Lp++Lt++[(⟨A3,n3,c3,z0c (Na.dig cc)⟩:Ob)]++[(⟨AT,nT,cT,z0c (Na.dig aq)⟩:Ob)]=z:=⟨_,rfl⟩
     have hless:∀ o∈L,o∈LC:=by
      intro o ho;rw [<- hLC];exact List.mem_append_left _ (List.mem_append_left _ (List.mem_append_left _ (List.mem_append_left _ (HSub.out o ho))))
     rw [hLC] at hia hib hid H;obtain ⟨adD,rfl,-,-⟩:=(H.sl hid).2.2.2.at_ (k:=0) (by rw [(H.sl hid).1];omega)
     have HLs:=zh hless;obtain ⟨W5,hW5⟩:∃ W,w4.alloc (.cells #[.slice AT nT cT] 25)=W:=⟨_,rfl⟩
     rw [hW5] at H;have HW5:=zh hW5;clear hW5;have HW:=zh H.drew;have HH:=zh H;have HI:=zh (And.intro hia (And.intro hib (And.intro hid HP2.out.2.2)))
     have HI2:Hid (aq<Na.top/\bq<Na.top/\bq<=aq):=hTop.out.2
     have hm41:(m:Int)<m+1:=by omega
     have hm0:(0:Int)<=(m:Int):=by omega
     have hm42:m<m+1:=by omega
     obtain ⟨tb,htb⟩:∃ z,w4.heap.size=z:=⟨_,rfl⟩
     rw [htb] at HW HH;have HTB:=zh htb;clear G H hia hib hid hLC hless hTop HX1 HX2 HS HSub htb;go_upto_region 27 with (fail)
     rw [HTB.out,HW5.out];have S1:=z3ad HW.out ia ib HI.out.1 HI.out.2.1 HI2.out.1 HI2.out.2.1
     have HWB0:=(HH.out.boxed (.slice none 0 0) 25).drew
     rw [zqa,zqb,zqc] at HWB0;have HWB:=zh HWB0;clear HWB0;have S2:=z3ad HWB.out ia ib HI.out.1 HI.out.2.1 HI2.out.1 HI2.out.2.1
     rw [if_neg (Nat.not_lt.2 HI2.out.2.2),if_neg (Nat.not_lt.2 HI2.out.2.2)] at S1 S2
     have HS1:=zh S1;have HS2:=zh S2;clear S1 S2;have c0:=z5x HW.out HI.out.2.2.1 HI.out.2.2.2
     go_region_held3 (fun W=>W.cell? ⟨tb,0,none⟩=some (.slice AT nT cT)/\W.cell? (adD.add m)=some (.slice AB nB cB)) (first|exact c0|exact z5x how2 (z5w HI.out.2.2.1) HI.out.2.2.2|exact z5x howB (z5w HI.out.2.2.1) HI.out.2.2.2|exact z5x how (z5w HI.out.2.2.1) HI.out.2.2.2|exact z5x HWB.out HI.out.2.2.1 HI.out.2.2.2) ((first|(go_at_call 43;(with_reducible refine HS1.out.mono ?_);rintro e v2 ⟨B1,m1,d1,rfl,how⟩;have howB:=how.boxed (.slice none 0 0) 25;rw [zqa,zqb,zqc] at howB;have how2:=how.boxed (.slice B1 m1 d1) 25;rw [zqa,zqb,zqc] at how2)|(go_at_call 43;(with_reducible refine HS2.out.mono ?_);rintro e v2 ⟨B1,m1,d1,rfl,howB⟩;have z0:=howB.cell (M.length+1) (zk rfl);have zf:=howB.free (M.length+1) (zk rfl);have how2:=howB.setv (M.length+1) (zk rfl) (.slice B1 m1 d1);rw [z0o,zqe,zqd] at how2)))
     all_goals (
      have y0:=how2.cell (M.length+0) (zk rfl)
      have y1:=how2.cell (M.length+1) (zk rfl)
      have HSz:=zh how2.size;have HC:=zh (z4az how2 (LC.length+0) ia (zk rfl) (z5w HI.out.1) (zqu (Nat.sub_le _ _) HI2.out.1) HI2.out.1 HMk.out)
      clear how2 c0;go_wp2_with fail;refine HC.out.mono ?_;clear HC;rintro e w9 ⟨⟨C1,k1,e1,C2,k2,e2,rfl,G⟩,hfr⟩;have HFr:=zh (z0cz HSz.out (hfr _ _ _ _ _ _ _ rfl))
      clear y0 y1 hfr HSz;have z0:=G.p0 (O.length+0) (zk rfl)
      have z1:=G.p1 (O.length+0) (zk rfl)
      have f0:=G.pf (O.length+0) (zk rfl) 0
      have f1:=G.pf (O.length+0) (zk rfl) 1
      have Z3:=G.set0 (O.length+0) (zk rfl) (.slice C1 k1 e1)
      rw [z0o] at Z3;simp only [zqd] at Z3;have Z4:=Z3.set1 (O.length+0) (zk rfl) (.slice C2 k2 e2)
      rw [z0o] at Z4;simp only [zqd] at Z4;have r0:=Z4.p0 (O.length+0) (zk rfl)
      have r1:=Z4.p1 (O.length+0) (zk rfl)
      have HF:=zh (Z4.fewM.fewO.less (L':=L++[⟨C1,k1,e1,z0c (Na.dig t.1)⟩]++[⟨C2,k2,e2,z0c (Na.dig t.2.1)⟩]) (fun o ho=>by
       simp only [List.mem_append] at ho ⊢
       rcases ho with (h|h)|h
       ·exact .inl (.inl (.inl (HLs.out o h)))
       ·exact .inl (.inr h)
       ·exact .inr h))
      clear G Z3 Z4;go_wp2_with fail;refine bodyPost_ret (v:=.tuple #[.agg #[.slice C1 k1 e1,.slice C2 k2 e2],.int .i64 t.2.2]) (by simp [results,Tryz.results21,go_sem,r0,r1]) rfl ?_
      exact ⟨⟨C1,k1,e1,C2,k2,e2,rfl,HF.out⟩,z3av HFr.out⟩)
    ·obtain ⟨b1,rfl⟩:∃ z,b=z+1:=⟨b - 1,by omega⟩
     obtain rfl:z=(b1:Int):=by omega
     have hd5:decide ((0:Int)<=(b1:Int))=true:=zt (by omega)
     have hb12:b1<=12:=by omega
     have hwb:IntKind.i64.wrap ((b1:Int) - 1)=(b1:Int) - 1:=IntWalk.i64_in _ (by omega)
     have hr4:r<=4096:=by have:=HV.out.1;have:=Nat.div_le_self cc (2 ^ (b1+1));omega
     have HC:=zh (z3br HO.out m hm AS D D cS c c tD tD zs zs (pwc (z2l kk) r) (pwc (z2l kk) r) (12*m) (by omega) ((HS.out).more) HV.out.2.1 HV.out.2.1 HV.out.2.2 HV.out.2.2 (fun z hz=>z4c hr4 hz) (fun z hz=>z4c hr4 hz))
     rw [z8l] at HC;clear HO;go_wp2_with fail;refine HC.out.mono ?_;clear HC;rintro e w2 ⟨D1,c1,ws,L1,rfl,G,HY⟩;have HO:=zh G;have HW:=zh HY;clear G HY;obtain ⟨qb,hqb⟩:∃ z,cc / 2 ^ b1=z:=⟨_,rfl⟩
     have hqi:(cc:Int) / 2 ^ b1=(qb:Int):=by rw [<- hqb];norm_cast
     have hrq:r=qb / 2:=by rw [HV.out.1,<- hqb,Nat.pow_succ,Nat.div_div_eq_div_mul]
     rcases Nat.mod_two_eq_zero_or_one qb with hq|hq
     ·have hbt:(bits BinOp.and IntKind.i64 ((cc:Int) / 2 ^ b1) 1 == 1)=false:=by rw [hqi,and1,beq_eq_false_iff_ne];omega
      have HR:Hid (r+r=cc / 2 ^ b1):=by unfold Hid;rw [hqb,hrq];omega
      clear hqi hrq hq hqb;go_wp2_with fail;go_roundw
      case rel=>exact ⟨b1,r+r,(b1:Int) - 1,D1,c1,(LB++Lp++Lt++L1).length+0,ws,Lt++(L1++[(⟨D1,m+1,c1,ws⟩:Ob)]),by omega,by omega,rfl,rfl,⟨HR.out,by rw [<- zqa,<- zqa,z0b];rfl,by rw [<- zqa];exact HW.out⟩,by rw [<- zqa];exact HO⟩
      case measure=>first|(simp [intOf];done)|(simp [intOf];omega)
     ·have hbt:(bits BinOp.and IntKind.i64 ((cc:Int) / 2 ^ b1) 1 == 1)=true:=by rw [hqi,and1,beq_iff_eq];omega
      have HR:Hid (r+r+1=cc / 2 ^ b1):=by unfold Hid;rw [hqb,hrq];omega
      have hr8:r+r<=4096:=by have:=HR.out;have:=Nat.div_le_self cc (2 ^ b1);omega
      have HC:=zh (z3br HO.out m hm AS D1 A1 cS c1 _ ((LB++Lp++Lt++L1).length+0) i1 ws xs (pwc (z2l kk) (r+r)) (z2l kk) (12*m) (by omega) (USets.more (USets.more HS.out)) (by rw [<- zqa,z0b];rfl) (z5w (z5w (z5w HX1.out.1))) HW.out (WaysU.more (WaysU.more (WaysU.more HX2.out.1))) (fun z hz=>z4c hr8 hz) (fun z hz=>zqq (z8p kk z) (Nat.one_le_two_pow)))
      rw [show conv (pwc (z2l kk) (r+r)) (z2l kk)=pwc (z2l kk) (r+r+1) from rfl] at HC
      clear hqi hrq hq hqb;go_wp2_with fail;refine HC.out.mono ?_;clear HC;rintro e w3 ⟨D2,c2x,ws2,L2,rfl,G,HY⟩;have HO2:=zh G;have HW2:=zh HY;clear G HY HO HW;go_wp2_with fail;have e9:LB++Lp++(Lt++(L1++[(⟨D1,m+1,c1,ws⟩:Ob)])++(L2++[(⟨D2,m+1,c2x,ws2⟩:Ob)]))=LB++Lp++Lt++(L1++[(⟨D1,m+1,c1,ws⟩:Ob)])++(L2++[(⟨D2,m+1,c2x,ws2⟩:Ob)]):=by simp only [zqa]
      go_roundw
      case rel=>exact ⟨b1,r+r+1,(b1:Int) - 1,D2,c2x,(LB++Lp++Lt++(L1++[(⟨D1,m+1,c1,ws⟩:Ob)])++L2).length+0,ws2,Lt++(L1++[(⟨D1,m+1,c1,ws⟩:Ob)])++(L2++[(⟨D2,m+1,c2x,ws2⟩:Ob)]),by omega,by omega,rfl,rfl,⟨HR.out,by rw [e9,<- zqa,z0b];rfl,by rw [e9];exact HW2.out⟩,by rw [e9];exact HO2⟩
      case measure=>first|(simp [intOf];done)|(simp [intOf];omega)
  ·have hd:decide ((j:Int)<m+1)=true:=zt (by omega)
   have hd2:decide (j<m+1)=true:=zt hlt
   have hj40:j<=40:=by omega
   rcases zqi j kk with hjk|hjk
   ·have g1:decide ((j:Int)<kk)=true:=zt (by omega)
    have g1b:decide (j<kk)=true:=zt hjk
    rcases zqh j with hj0|hj0
    ·have g2:(((j:Int)) == 0)=true:=by rw [beq_iff_eq];omega
     have HE:Hid (z2l kk j=1/\dlt j=1):=by unfold z2l dlt;rw [if_pos hjk,if_pos hj0];exact ⟨rfl,rfl⟩
     clear hj0;have HA1:=zh (z7ae HO.out)
     have HOk:=HO;clear HO;go_wp2_with (first|(go_at_call 39;(with_reducible refine HA1.out.mono ?_);rintro e v2 ⟨B1,m1,d1,rfl,how⟩)|(at_builtin;refine z1v elmN how (O.length+1) (.tmp 57) (.tmp 60) _ _ (zk rfl) rfl (by unfold maxLen;omega) (by omega) rfl rfl rfl rfl ?_;intro A' c' w8 how2;rw [z0o,zqe,zqd] at how2;have HA2:=zh (z7ae how2))|(go_at_call 39;(with_reducible refine HA2.out.mono ?_);rintro e v3 ⟨B2,m2,d2,rfl,how3⟩)|(at_builtin;refine z1v elmN how3 (O.length+2) (.tmp 62) (.tmp 65) _ _ (zk rfl) rfl (by unfold maxLen;omega) (by omega) rfl rfl rfl rfl ?_;intro A3 c3 w9 how4;rw [z0o,zqe,zqe,zqd,zqa L,zqa L] at how4))
     have HZ:=zh how4;have HW:Hid (WayTo (L++(Ls++[(⟨B1,m1,d1,z0c (Na.dig 1)⟩:Ob)]++[(⟨B2,m2,d2,z0c (Na.dig 1)⟩:Ob)])) (xs++[.slice B1 m1 d1]) (j+1) (z2l kk)/\WayTo (L++(Ls++[(⟨B1,m1,d1,z0c (Na.dig 1)⟩:Ob)]++[(⟨B2,m2,d2,z0c (Na.dig 1)⟩:Ob)])) (ys++[.slice B2 m2 d2]) (j+1) dlt):=by
      rw [<- zqa,<- zqa];exact ⟨WayTo.snoc HV.out.1.more.more HL9.out.1 (NumIn.more ⟨B1,m1,d1,(L++Ls).length+0,rfl,by rw [z0b,HE.out.1];rfl⟩),WayTo.snoc HV.out.2.more.more HL9.out.2 ⟨B2,m2,d2,(L++Ls++[_]).length+0,rfl,by rw [z0b,HE.out.2];rfl⟩⟩
     clear how how2 how3 how4 HA1 HA2 HOk HV;go_wp2_with fail;go_roundw
     case rel=>exact ⟨j+1,A',c',_,A3,c3,_,_,by omega,rfl,rfl,z0q (by omega),HW,by unfold Hid;rw [zqa O];exact HZ.out⟩
     case measure=>simp [intOf];omega
    ·have g2:(((j:Int)) == 0)=false:=by rw [beq_eq_false_iff_ne];omega
     have HE:Hid (z2l kk j=1/\dlt j=0):=by unfold z2l dlt;rw [if_pos hjk,if_neg (by omega)];exact ⟨rfl,rfl⟩
     have HA1:=zh (z7ae HO.out)
     have HOk:=HO;clear HO;go_wp2_with (first|(go_at_call 39;(with_reducible refine HA1.out.mono ?_);rintro e v2 ⟨B1,m1,d1,rfl,how⟩)|(at_builtin;refine z1v elmN how (O.length+1) (.tmp 57) (.tmp 60) _ _ (zk rfl) rfl (by unfold maxLen;omega) (by omega) rfl rfl rfl rfl ?_;intro A' c' w8 how2;rw [z0o,zqe,zqd] at how2;have HA2:=zh (z1bi how2))|(go_at_call 39;(with_reducible refine HA2.out.mono ?_);rintro e v3 ⟨B2,m2,d2,rfl,how3⟩)|(at_builtin;refine z1v elmN how3 (O.length+2) (.tmp 62) (.tmp 65) _ _ (zk rfl) rfl (by unfold maxLen;omega) (by omega) rfl rfl rfl rfl ?_;intro A3 c3 w9 how4;rw [z0o,zqe,zqe,zqd,zqa L,zqa L] at how4))
     have HZ:=zh how4;have HW:Hid (WayTo (L++(Ls++[(⟨B1,m1,d1,z0c (Na.dig 1)⟩:Ob)]++[(⟨B2,m2,d2,z0c (Na.dig 0)⟩:Ob)])) (xs++[.slice B1 m1 d1]) (j+1) (z2l kk)/\WayTo (L++(Ls++[(⟨B1,m1,d1,z0c (Na.dig 1)⟩:Ob)]++[(⟨B2,m2,d2,z0c (Na.dig 0)⟩:Ob)])) (ys++[.slice B2 m2 d2]) (j+1) dlt):=by
      rw [<- zqa,<- zqa];exact ⟨WayTo.snoc HV.out.1.more.more HL9.out.1 (NumIn.more ⟨B1,m1,d1,(L++Ls).length+0,rfl,by rw [z0b,HE.out.1];rfl⟩),WayTo.snoc HV.out.2.more.more HL9.out.2 ⟨B2,m2,d2,(L++Ls++[_]).length+0,rfl,by rw [z0b,HE.out.2];rfl⟩⟩
     clear how how2 how3 how4 HA1 HA2 HOk HV;go_wp2_with fail;go_roundw
     case rel=>exact ⟨j+1,A',c',_,A3,c3,_,_,by omega,rfl,rfl,z0q (by omega),HW,by unfold Hid;rw [zqa O];exact HZ.out⟩
     case measure=>simp [intOf];omega
   ·have g1:decide ((j:Int)<kk)=false:=zn (by omega)
    have g1b:decide (j<kk)=false:=zn (by omega)
    have g2:(((j:Int)) == 0)=false:=by rw [beq_eq_false_iff_ne];have:=HB.out.2.2.1;omega
    have HE:Hid (z2l kk j=0/\dlt j=0):=by unfold z2l dlt;rw [if_neg (by omega),if_neg (by have:=HB.out.2.2.1;omega)];exact ⟨rfl,rfl⟩
    have HA1:=zh (z1bi HO.out)
    have HOk:=HO;clear HO;go_wp2_with (first|(go_at_call 39;(with_reducible refine HA1.out.mono ?_);rintro e v2 ⟨B1,m1,d1,rfl,how⟩)|(at_builtin;refine z1v elmN how (O.length+1) (.tmp 57) (.tmp 60) _ _ (zk rfl) rfl (by unfold maxLen;omega) (by omega) rfl rfl rfl rfl ?_;intro A' c' w8 how2;rw [z0o,zqe,zqd] at how2;have HA2:=zh (z1bi how2))|(go_at_call 39;(with_reducible refine HA2.out.mono ?_);rintro e v3 ⟨B2,m2,d2,rfl,how3⟩)|(at_builtin;refine z1v elmN how3 (O.length+2) (.tmp 62) (.tmp 65) _ _ (zk rfl) rfl (by unfold maxLen;omega) (by omega) rfl rfl rfl rfl ?_;intro A3 c3 w9 how4;rw [z0o,zqe,zqe,zqd,zqa L,zqa L] at how4))
    have HZ:=zh how4;have HW:Hid (WayTo (L++(Ls++[(⟨B1,m1,d1,z0c (Na.dig 0)⟩:Ob)]++[(⟨B2,m2,d2,z0c (Na.dig 0)⟩:Ob)])) (xs++[.slice B1 m1 d1]) (j+1) (z2l kk)/\WayTo (L++(Ls++[(⟨B1,m1,d1,z0c (Na.dig 0)⟩:Ob)]++[(⟨B2,m2,d2,z0c (Na.dig 0)⟩:Ob)])) (ys++[.slice B2 m2 d2]) (j+1) dlt):=by
     rw [<- zqa,<- zqa];exact ⟨WayTo.snoc HV.out.1.more.more HL9.out.1 (NumIn.more ⟨B1,m1,d1,(L++Ls).length+0,rfl,by rw [z0b,HE.out.1];rfl⟩),WayTo.snoc HV.out.2.more.more HL9.out.2 ⟨B2,m2,d2,(L++Ls++[_]).length+0,rfl,by rw [z0b,HE.out.2];rfl⟩⟩
    clear how how2 how3 how4 HA1 HA2 HOk HV;go_wp2_with fail;go_roundw
    case rel=>exact ⟨j+1,A',c',_,A3,c3,_,_,by omega,rfl,rfl,z0q (by omega),HW,by unfold Hid;rw [zqa O];exact HZ.out⟩
    case measure=>simp [intOf];omega
end
theorem z9r {w0 w:World}{g:Option Nat}{M:List (Nat×Value)}{L:List Ob}{O:List Rw}(h:Ow w0 w g M L O)(a b k:Int)(h1:0<=a/\a<=40)(h2:1<=b/\b<=4096)(h3:1<=k/\k<=a):Calls Tryz.prog 21 #[.int .i64 a,.int .i64 b,.int .i64 k] w fun en w'=>GotF w0 g M L O (z7u a b k) en w'/\FrE w0 en:=by
 unfold z7u;rw [if_neg (by omega),if_neg (by omega),if_neg (by omega)]
 obtain ⟨x,rfl⟩:=Int.eq_ofNat_of_zero_le (a:=a) (by omega)
 obtain ⟨y,rfl⟩:=Int.eq_ofNat_of_zero_le (a:=b) (by omega)
 obtain ⟨z,rfl⟩:=Int.eq_ofNat_of_zero_le (a:=k) (by omega)
 exact z9q h x y z (by omega) (by omega) (by omega)
open Go.ChangeMaps (setBlock heap_setBlock_same heap_setBlock_other)
open Cl
def z0bj (s:Pl)(p q:List Int)(l:List Sn)(w0:World)(g:Option Nat)(M:List (Nat×Value))(L:List Ob)(O:List Rw)(x:Value)(wr:World):Prop:=
 ∃ i:Nat,1<=i/\i<=6/\x=.int .i64 i/\Hid (Ow w0 wr g M L O)/\Hid (jud s p q l=z7y s p q l i (6 - i))
theorem z5bt {w0 w:World}{g:Option Nat}{M:List (Nat×Value)}{L:List Ob}{O:List Rw}{A A2 A3:Option Addr}{n c m c2 n3 c3 e3:Nat}{p q:List Int}{l:List Sn}(s:Pl)(hs:shV s)(h:Ow w0 w g M L O)(i j k:Nat)(hi:L[i]?=some ⟨A,n,c,z0p p⟩)(hj:L[j]?=some ⟨A2,m,c2,z0p q⟩)(hk:L[k]?=some ⟨A3,n3*8,e3,fl l⟩)(hn3:n3<=40):
  Calls Tryz.prog 37 #[.agg s.vs,.agg #[.slice A n c,.slice A2 m c2],.slice A3 n3 c3] w (VdF w0 g M L O (jud s p q l)):=by
 have H0:=((h.arr s.vs 6 rfl (by omega) 33).pair (.slice A n c) (.slice A2 m c2) 27).arr #[.int .i64 0,.int .i64 0,.int .i64 0,.int .i64 0,.int .i64 0,.int .i64 0,.int .i64 0,.int .i64 0,.int .i64 0,.slice none 0 0,.slice none 0 0] 11 rfl (by omega) 42
 simp only [World.size_alloc,zqa,zqb,zqc] at H0;have HLn:l.length=n3:=by
  have a:=(h.sl hk).1
  rw [z2q] at a;omega
 have HS:=zh hs;have HK:=zh hk;have HI:=zh hi;have HJ:=zh hj;have HNl:=zh HLn
 obtain ⟨so,ch,ra,ba,ro,co⟩:=s;unfold Pl.vs at *
 have HO:Hid (Ow w0 (((w.alloc (.cells #[.int .i64 so,.int .i64 ch,.int .i64 ra,.int .i64 ba,.int .i64 ro,.int .i64 co] 33)).alloc (.cells #[.slice A n c,.slice A2 m c2] 27)).alloc (.cells #[.int .i64 0,.int .i64 0,.int .i64 0,.int .i64 0,.int .i64 0,.int .i64 0,.int .i64 0,.int .i64 0,.int .i64 0,.slice none 0 0,.slice none 0 0] 42)) g M L (O++[(⟨some ⟨w.heap.size,0,none⟩,6,6,33,[.int .i64 so,.int .i64 ch,.int .i64 ra,.int .i64 ba,.int .i64 ro,.int .i64 co]⟩:Rw),Rw.pair (w.heap.size+1) 27 (.slice A n c) (.slice A2 m c2),(⟨some ⟨w.heap.size+1+1,0,none⟩,11,11,42,[.int .i64 0,.int .i64 0,.int .i64 0,.int .i64 0,.int .i64 0,.int .i64 0,.int .i64 0,.int .i64 0,.int .i64 0,.slice none 0 0,.slice none 0 0]⟩:Rw)])):=H0
 clear H0 hs hi hj hk HLn h;go_enter Tryz.func37,Tryz.ntmps37
 go_wp2_with fail;go_loopw [7] (fun x wr=>z0bj ⟨so,ch,ra,ba,ro,co⟩ p q l w0 g M L (O++[(⟨some ⟨w.heap.size,0,none⟩,6,6,33,[.int .i64 so,.int .i64 ch,.int .i64 ra,.int .i64 ba,.int .i64 ro,.int .i64 co]⟩:Rw),Rw.pair (w.heap.size+1) 27 (.slice A n c) (.slice A2 m c2),(⟨some ⟨w.heap.size+1+1,0,none⟩,11,11,42,[.int .i64 0,.int .i64 0,.int .i64 0,.int .i64 0,.int .i64 0,.int .i64 0,.int .i64 0,.int .i64 0,.int .i64 0,.slice none 0 0,.slice none 0 0]⟩:Rw)]) x wr) (fun x _=>7 - (intOf x).toNat)
 case atStart=>exact ⟨1,by omega,by omega,rfl,HO,rfl⟩
 case round=>
  clear HO;obtain ⟨kk,h1,h6,rfl,HO,HF⟩:=hrel;rcases zqi 5 kk with h5|h5
  ·obtain rfl:kk=6:=by omega
   clear h1 h6 h5;have HR:Hid (jud ⟨so,ch,ra,ba,ro,co⟩ p q l=vd0):=HF.out
   have HC:=zh (z0co HO.out)
   clear HF HO;go_wp2_with fail;refine HC.out.mono ?_;rintro e w3 ⟨B1,n1,d1,B2,n2,d2,rfl,H7⟩;unfold Vd.vs vd0;simp only [zqa,zqb,zqc] at H7;clear HC;obtain ⟨v0,v1,v2,v3,v4,v5,v6,v7,v8,v9,v10⟩:=zc11 (H7.row (O.length+2) (zk rfl));obtain ⟨f0,f1,f2,f3,f4,f5,f6,f7,f8,f9,f10⟩:=zf11 (H7.row (O.length+2) (zk rfl));have H8:=z9w H7 (O.length+2) (zk rfl) (.int .i64 0) (.int .i64 0) (.int .i64 0) (.int .i64 0) (.int .i64 0) (.int .i64 0) (.int .i64 0) (.int .i64 0) (.int .i64 0) (.slice B1 n1 d1) (.slice B2 n2 d2)
   rw [z0o] at H8;simp only [zqe,zqd] at H8;obtain ⟨z0,z1,z2,z3,z4,z5,z6,z7,z8,z9,z10⟩:=zc11 (H8.row (O.length+2) (zk rfl));have HE:=zh H8.fewO;clear H7 H8;go_wp2_with fail;refine bodyPost_ret (v:=.agg #[.int .i64 0,.int .i64 0,.int .i64 0,.int .i64 0,.int .i64 0,.int .i64 0,.int .i64 0,.int .i64 0,.int .i64 0,.slice B1 n1 d1,.slice B2 n2 d2]) (by simp [results,Tryz.results37,go_sem,z0,z1,z2,z3,z4,z5,z6,z7,z8,z9,z10]) rfl ?_
   rw [HR.out];exact ⟨B1,n1,d1,B2,n2,d2,rfl,by rw [zqa];exact HE.out,fun h=>absurd rfl h⟩
  ·have hd:decide ((kk:Int)<=5)=true:=zt (by omega)
   have HKd:Hid (kd (kk:Int)):=⟨by omega,by omega⟩
   have HK5:=zh h5;have hw1:IntKind.i64.wrap ((kk:Int)+1)=((kk+1:Nat):Int):=by rw [IntWalk.i64_in _ (by omega)];omega
   have HLg:=zh (z1bd (kk:Int) HKd.out A3 n3 c3 l wr HNl.out (by omega) (HO.out.sl HK.out).2.2.2)
   obtain ⟨gl,hgl⟩:∃ z,z6k (kk:Int) l=z:=⟨_,rfl⟩
   have HGl:=zh hgl;rw [hgl] at HLg;clear hgl h1 h6 h5;go_wp2_with fail;refine HLg.out.mono ?_;rintro e w1 ⟨Ag,ng,cg,rfl,hng,how,hb⟩;have H1:=HO.out.add how hb
   clear HLg how hb HO;rcases zqi ng 2 with h2|h2
   ·have hd2:decide ((ng:Int)<2)=true:=zt (by omega)
    have HN:Hid (jud ⟨so,ch,ra,ba,ro,co⟩ p q l=z7y ⟨so,ch,ra,ba,ro,co⟩ p q l (kk+1) (6 - (kk+1))):=by
     unfold Hid;rw [HF.out];exact z3p HK5.out (z9ag (by rw [HGl.out,hng];exact h2))
    have HE:=zh H1.fewO;clear H1 h2 hng;go_wp2_with fail;go_roundw
    case rel=>exact ⟨kk+1,by omega,Nat.succ_le_succ HK5.out,rfl,HE,HN⟩
    case measure=>
     have:=HK5.out
     simp [intOf]
     omega
   ·have hd2:decide ((ng:Int)<2)=false:=zn (by omega)
    simp only [zqa,zqb,zqc] at H1;obtain ⟨a0,a1,a2,a3,a4,a5⟩:=zc6 (H1.row (O.length+0) (zk rfl));have HP:=zh (fun W=>z4as (kk:Int) ⟨so,ch,ra,ba,ro,co⟩ HS.out W)
    unfold Pl.vs at HP;have HT0:Hid (chc ⟨so,ch,ra,ba,ro,co⟩ l (kk:Int)=z7u (n3:Int) (prt (kk:Int) ⟨so,ch,ra,ba,ro,co⟩) (ng:Int)):=by unfold Hid chc;rw [HNl.out,HGl.out,hng]
    go_wp2_with fail;refine (HP.out _).mono ?_
    rintro e w2 ⟨rfl,hb⟩;have H2:=H1.go hb
    clear a0 a1 a2 a3 a4 a5 hb H1 HP;have HC:=zh (z9r H2 (n3:Int) (prt (kk:Int) ⟨so,ch,ra,ba,ro,co⟩) (ng:Int) ⟨by omega,by omega⟩ (z3bt HKd.out HS.out) ⟨by omega,by have:=HGl.out;have:=HNl.out;have hl:=@z9ac (kk:Int) l;rw [HGl.out] at hl;omega⟩)
    rw [<- HT0.out] at HC;obtain ⟨t,ht⟩:∃ t,chc ⟨so,ch,ra,ba,ro,co⟩ l (kk:Int)=t:=⟨_,rfl⟩
    rw [ht] at HC;have HTt:=zh ht;clear ht;skip
    go_wp2_with fail;refine HC.out.mono ?_;rintro e w3 ⟨⟨B1,n1,d1,B2,n2,d2,rfl,G⟩,hfr⟩;have HFq:=zh (hfr _ _ _ _ _ _ _ rfl)
    clear hfr;have H4:=G.pair (.slice B1 n1 d1) (.slice B2 n2 d2) 27
    simp only [zqa,zqb,zqc] at H4;clear H2 HC G;have c0:=H4.p0 (O.length+4) (zk rfl)
    have c1:=H4.p1 (O.length+4) (zk rfl)
    have b0:=H4.p0 (O.length+1) (zk rfl)
    have b1:=H4.p1 (O.length+1) (zk rfl)
    have HM:=zh (z7ai (p:=Na.up (Na.dig t.1)) (q:=Na.up (Na.dig t.2.1)) H4 (L.length+0) (L.length+1) i j (by rw [z0b,z0g];rfl) (by rw [z0b,z0g];rfl) (by rw [z0r _ _ (z0d HI.out)];exact HI.out) (by rw [z0r _ _ (z0d HJ.out)];exact HJ.out))
    obtain ⟨er,her⟩:∃ z,t.2.2=z:=⟨_,rfl⟩
    obtain ⟨cv,hcv⟩:∃ z,cmpV (Na.up (Na.dig t.1)) (Na.up (Na.dig t.2.1)) p q=z:=⟨_,rfl⟩
    obtain ⟨ce,hce⟩:∃ z,cmpE (Na.up (Na.dig t.1)) (Na.up (Na.dig t.2.1)) p q=z:=⟨_,rfl⟩
    rw [hcv,hce] at HM;rw [her];have HEr:=zh her;have HCv:Hid (cV t p q=cv):=hcv
    have HCe:Hid (cE t p q=ce):=hce
    clear her hcv hce H4;go_wp2_with fail;refine HM.out.mono ?_;rintro e w4 ⟨rfl,H5⟩;clear HM c0 c1 b0 b1;by_cases hc:ce=0
    ·subst hc
     rcases Int.lt_or_le 0 cv with h|h
     ·have g1:decide (cv<=0)=false:=zn (by omega)
      have HN:Hid (jud ⟨so,ch,ra,ba,ro,co⟩ p q l=z7y ⟨so,ch,ra,ba,ro,co⟩ p q l (kk+1) (6 - (kk+1))):=by
       unfold Hid;rw [HF.out];exact z3p HK5.out (z0ao (by rw [HTt.out];rw [HCv.out];omega))
      have HE:Hid (Ow w0 w4 g M L (O++[(⟨some ⟨w.heap.size,0,none⟩,6,6,33,[.int .i64 so,.int .i64 ch,.int .i64 ra,.int .i64 ba,.int .i64 ro,.int .i64 co]⟩:Rw),Rw.pair (w.heap.size+1) 27 (.slice A n c) (.slice A2 m c2),(⟨some ⟨w.heap.size+1+1,0,none⟩,11,11,42,[.int .i64 0,.int .i64 0,.int .i64 0,.int .i64 0,.int .i64 0,.int .i64 0,.int .i64 0,.int .i64 0,.int .i64 0,.slice none 0 0,.slice none 0 0]⟩:Rw)])):=(Ow.fewO (O:=O++[(⟨some ⟨w.heap.size,0,none⟩,6,6,33,[.int .i64 so,.int .i64 ch,.int .i64 ra,.int .i64 ba,.int .i64 ro,.int .i64 co]⟩:Rw),Rw.pair (w.heap.size+1) 27 (.slice A n c) (.slice A2 m c2),(⟨some ⟨w.heap.size+1+1,0,none⟩,11,11,42,[.int .i64 0,.int .i64 0,.int .i64 0,.int .i64 0,.int .i64 0,.int .i64 0,.int .i64 0,.int .i64 0,.int .i64 0,.slice none 0 0,.slice none 0 0]⟩:Rw)]) (by simpa only [zqa,zqb,zqc] using H5)).less (fun o ho=>List.mem_append_left _ ho)
      clear H5;go_wp2_with fail;go_roundw
      case rel=>exact ⟨kk+1,by omega,Nat.succ_le_succ HK5.out,rfl,HE,HN⟩
      case measure=>
       have:=HK5.out
       simp [intOf]
       omega
     ·have g1:decide (cv<=0)=true:=zt h
      obtain ⟨hh,tl,hgt⟩:∃ hh tl,gl=hh :: tl:=by
       cases gl with
       | nil=>simp at hng;omega
       | cons a b=>exact ⟨a,b,rfl⟩
      obtain ⟨x,hx,hfx⟩:=z7m (HGl.out.trans hgt)
      have hR:=H5.row (O.length+3) (zk rfl)
      obtain ⟨gb,hgb,_,_⟩:=z0n hR (by omega)
      obtain rfl:=hgb
      have y0:=hR.cells (g:=gb) rfl 0 (.int .i64 hh) (by rw [hgt];rfl)
      rw [z6n] at y0;obtain ⟨a,rfl,e0,e1,e2,e3,e4,e5,e6,e7⟩:=z2v (H5.sl (i:=k) (by rw [z0r _ _ (z0d HK.out)];exact HK.out)).2.2.2 hx
      have hhl:hh<n3:=by have:=z0d hx;have:=HNl.out;omega
      have hhI:(hh:Int)<n3:=by omega
      have hgI:(0:Int)<ng:=by omega
      have HWh:=zh (fun W=>z8n (kk:Int) HKd.out x.p W)
      have HRs:Hid (jud ⟨so,ch,ra,ba,ro,co⟩ p q l=⟨(kk:Int),wh (kk:Int) x.p,x.cp,(ng:Int),t.1,t.2.1⟩):=by
       unfold Hid;rw [HF.out];refine z0an HK5.out ?_
       rw [z9af (by rw [HGl.out,hng];omega) (by rw [HTt.out];exact ⟨HCe.out,by rw [HCv.out];exact h⟩),hfx,HGl.out,hng,HTt.out]
      obtain ⟨⟨x0,x1,x2,x3,x4,x5⟩,x6,x7⟩:=x
      simp only at e0 e1 e2 e3 e4 e5 e6 e7 HWh HRs
      obtain ⟨⟨q0,q1,q2,q3,q4,q5⟩,hq⟩:∃ z,wh (kk:Int) ⟨x0,x1,x2,x3,x4,x5⟩=z:=⟨_,rfl⟩
      rw [hq] at HWh HRs;unfold Pl.vs at HWh;have H6:=H5.arr #[.int .i64 x0,.int .i64 x1,.int .i64 x2,.int .i64 x3,.int .i64 x4,.int .i64 x5,.int .i64 x6,.int .i64 x7] 8 rfl (by omega) 40
      simp only [zqa,zqb,zqc] at H6;obtain ⟨LL,hLL⟩:∃ z,L++[(⟨B1,n1,d1,z0c (Na.dig t.1)⟩:Ob),⟨B2,n2,d2,z0c (Na.dig t.2.1)⟩]=z:=⟨_,rfl⟩
      have HLe:=zh hLL;have HQ6:Hid (∃ l6:List Rw,Ow w0 (w4.alloc (.cells #[.int .i64 x0,.int .i64 x1,.int .i64 x2,.int .i64 x3,.int .i64 x4,.int .i64 x5,.int .i64 x6,.int .i64 x7] 40)) g M LL (O++l6)/\(O++l6)[O.length+2]?=some ⟨some ⟨w.heap.size+1+1,0,none⟩,11,11,42,[.int .i64 0,.int .i64 0,.int .i64 0,.int .i64 0,.int .i64 0,.int .i64 0,.int .i64 0,.int .i64 0,.int .i64 0,.slice none 0 0,.slice none 0 0]⟩/\(O++l6)[O.length+5]?=some ⟨some ⟨w4.heap.size,0,none⟩,8,8,40,[.int .i64 x0,.int .i64 x1,.int .i64 x2,.int .i64 x3,.int .i64 x4,.int .i64 x5,.int .i64 x6,.int .i64 x7]⟩/\(O++l6)[O.length+4]?=some (Rw.pair w3.heap.size 27 (.slice B1 n1 d1) (.slice B2 n2 d2))):=⟨_,by rw [<- hLL];exact H6,by rw [z0b];rfl,by rw [z0b];rfl,by rw [z0b];rfl⟩
      obtain ⟨l6,HO6,r1,r2,r3⟩:=HQ6.out;obtain ⟨vi,hvi⟩:∃ z,O.length+2=z:=⟨_,rfl⟩
      obtain ⟨si,hsi⟩:∃ z,O.length+5=z:=⟨_,rfl⟩
      obtain ⟨ci,hci⟩:∃ z,O.length+4=z:=⟨_,rfl⟩
      have HNs:Hid (vi≠si):=by unfold Hid;omega
      have HNc:Hid (vi≠ci):=by unfold Hid;omega
      have HVi:=zh hvi;rw [hvi] at r1;rw [hsi] at r2;rw [hci] at r3;obtain ⟨OO,hOO⟩:∃ z,O++l6=z:=⟨_,rfl⟩
      rw [hOO] at r1 r2 r3 HO6;have HOe:=zh hOO;have HVr:=zh r1;have HSr:=zh r2;have HCr:=zh r3;have HOO:=zh HO6;clear hR hx hfx hgt hq h hng H5 H6 HQ6 hLL hOO hvi hsi hci r1 r2 r3 HO6;go_wp2_with fail;refine z1k (VjI w0 g M LL OO (w.heap.size+1+1) vi w4.heap.size w3.heap.size kk ng cg (some ⟨gb,0,none⟩) B1 n1 d1 B2 n2 d2 x0 x1 x2 x3 x4 x5 x6 x7 q0 q1 q2 q3 q4 q5) (by kernel_rfl) (by kernel_rfl) ?_ ?_ ?_
      ·refine @VjI.m _ _ _ _ _ _ _ _ _ _ _ _ _ _ _ _ _ _ _ _ _ _ _ _ _ _ _ _ _ _ _ _ _ _ _ _ _ u53 u54 u55 u56 u57 u58 u59 u60 u61 u62 u63 ⟨HOO.out.drew,?_,?_,?_,?_,?_,?_,?_,?_,?_,?_,?_⟩ ?_
       all_goals first|(intro h;cases h)|simp only [Act.put,zT,zZ,zS]
      ·rintro jj Ld b W hj hf hcl hd ⟨hC,rfl⟩;have hj':jj<12:=hj
       have hcase:jj=0∨jj=1∨jj=2∨jj=3∨jj=4∨jj=5∨jj=6∨jj=7∨jj=8∨jj=9∨jj=10∨jj=11:=by omega
       clear hj hj';simp only [Act.put,zT,zZ,zS];rcases hcase with rfl|rfl|rfl|rfl|rfl|rfl|rfl|rfl|rfl|rfl|rfl|rfl
       ·clear hd hcl;refine zw rfl fun K hK=>?_
        go_simp;exact hK _ _ (.m {hC with h0:=fun _=>rfl})
       ·clear hd hcl;refine zw rfl fun K hK=>?_
        go_simp;exact hK _ _ (.m {hC with h1:=fun _=>rfl})
       ·clear hd hcl;refine zw rfl fun K hK=>?_
        go_simp;exact hK _ _ (.m {hC with h2:=fun _=>rfl})
       ·obtain rfl:=hC.h2 (hd 2 (by kernel_rfl));obtain ⟨y0,y1,y2,y3,y4,y5⟩:=zy6 (hC.ow.row si (z3as HNs.out HSr.out));clear hd hcl;refine zw rfl fun K hK=>?_
        go_simp;exact hK _ _ (.m {hC with h3:=fun _=>rfl})
       ·obtain rfl:=hC.h1 (hd 1 (by kernel_rfl));obtain rfl:=hC.h3 (hd 3 (by kernel_rfl));have hcall:=HWh.out W
        clear hd hcl;refine zw rfl fun K hK=>?_
        go_simp;refine hcall.mono ?_;rintro e W' ⟨rfl,hb⟩;exact hK _ _ (.m {hC with ow:=hC.ow.go hb,h4:=fun _=>rfl})
       ·clear hd hcl;refine zw rfl fun K hK=>?_
        go_simp;exact hK _ _ (.m {hC with h5:=fun _=>rfl})
       ·obtain rfl:=hC.h5 (hd 5 (by kernel_rfl));have y6:=(hC.ow.row si (z3as HNs.out HSr.out)).cellAt 6 (by decide)
        clear hd hcl;refine zw rfl fun K hK=>?_
        go_simp;exact hK _ _ (.m {hC with h6:=fun _=>rfl})
       ·clear hd hcl;refine zw rfl fun K hK=>?_
        go_simp;exact hK _ _ (.m {hC with h7:=fun _=>rfl})
       ·obtain rfl:=hC.h7 (hd 7 (by kernel_rfl));clear hd hcl;refine zw rfl fun K hK=>?_
        go_simp;exact hK _ _ (.m {hC with h8:=fun _=>rfl})
       ·have y0:=hC.ow.p0 ci (z3as HNc.out HCr.out)
        have y1:=hC.ow.p1 ci (z3as HNc.out HCr.out)
        clear hd hcl;refine zw rfl fun K hK=>?_
        go_simp;exact hK _ _ (.m {hC with h9:=fun _=>rfl})
       ·obtain rfl:=hC.h0 (hd 0 (by kernel_rfl));obtain rfl:=hC.h4 (hd 4 (by kernel_rfl));obtain rfl:=hC.h6 (hd 6 (by kernel_rfl));obtain rfl:=hC.h8 (hd 8 (by kernel_rfl));obtain rfl:=hC.h9 (hd 9 (by kernel_rfl));clear hd hcl;refine zw rfl fun K hK=>?_
        go_simp;exact hK _ _ (.m {hC with h10:=fun _=>rfl})
       ·obtain rfl:=hC.h10 (hd 10 (by kernel_rfl));have how:=hC.ow;rw [if_neg (show ¬ Ld 11=true by rw [hf];decide)] at how
        obtain ⟨v0,v1,v2,v3,v4,v5,v6,v7,v8,v9,v10⟩:=zc11 (how.row vi HVr.out);obtain ⟨f0,f1,f2,f3,f4,f5,f6,f7,f8,f9,f10⟩:=zf11 (how.row vi HVr.out);have HZ:=zh (z9w how vi HVr.out (.int .i64 kk) (.int .i64 q0) (.int .i64 q1) (.int .i64 q2) (.int .i64 q3) (.int .i64 q4) (.int .i64 q5) (.int .i64 x6) (.int .i64 ng) (.slice B1 n1 d1) (.slice B2 n2 d2))
        clear how;clear hd hcl;refine zw rfl fun K hK=>?_
        go_simp;exact hK _ _ (.m {hC with ow:=by rw [if_pos (show z3i Ld 11 11=true by simp [z3i])];exact HZ.out})
      ·rintro Ld b W hL ⟨hC,rfl⟩;have how:=hC.ow;rw [if_pos (hL 11 (by show 11<12;decide))] at how
       obtain ⟨z0,z1,z2,z3,z4,z5,z6,z7,z8,z9,z10⟩:=zc11 (how.row vi (z0a HVr.out));have HE:Hid (Ow w0 W g M LL O):=by
        unfold Hid;rw [<- HOe.out,<- HVi.out,z0o] at how;exact how.fewO
       clear hL hC how;simp only [Act.put,zT,zZ,zS];go_wp2_with fail;refine bodyPost_ret (v:=.agg #[.int .i64 kk,.int .i64 q0,.int .i64 q1,.int .i64 q2,.int .i64 q3,.int .i64 q4,.int .i64 q5,.int .i64 x6,.int .i64 ng,.slice B1 n1 d1,.slice B2 n2 d2]) (by simp [results,Tryz.results37,go_sem,z0,z1,z2,z3,z4,z5,z6,z7,z8,z9,z10]) rfl ?_
       rw [HRs.out];exact ⟨B1,n1,d1,B2,n2,d2,rfl,by rw [zqa];rw [<- HLe.out] at HE;exact HE.out,fun _=>HFq.out⟩
    ·have g1:(ce == 0)=false:=z1n hc
     have g2:(ce != 0)=true:=by rw [bne,g1];rfl
     have HN:Hid (jud ⟨so,ch,ra,ba,ro,co⟩ p q l=z7y ⟨so,ch,ra,ba,ro,co⟩ p q l (kk+1) (6 - (kk+1))):=by
      unfold Hid;rw [HF.out];exact z3p HK5.out (z0ao (by rw [HTt.out];rw [HCe.out];omega))
     have HE:Hid (Ow w0 w4 g M L (O++[(⟨some ⟨w.heap.size,0,none⟩,6,6,33,[.int .i64 so,.int .i64 ch,.int .i64 ra,.int .i64 ba,.int .i64 ro,.int .i64 co]⟩:Rw),Rw.pair (w.heap.size+1) 27 (.slice A n c) (.slice A2 m c2),(⟨some ⟨w.heap.size+1+1,0,none⟩,11,11,42,[.int .i64 0,.int .i64 0,.int .i64 0,.int .i64 0,.int .i64 0,.int .i64 0,.int .i64 0,.int .i64 0,.int .i64 0,.slice none 0 0,.slice none 0 0]⟩:Rw)])):=(Ow.fewO (O:=O++[(⟨some ⟨w.heap.size,0,none⟩,6,6,33,[.int .i64 so,.int .i64 ch,.int .i64 ra,.int .i64 ba,.int .i64 ro,.int .i64 co]⟩:Rw),Rw.pair (w.heap.size+1) 27 (.slice A n c) (.slice A2 m c2),(⟨some ⟨w.heap.size+1+1,0,none⟩,11,11,42,[.int .i64 0,.int .i64 0,.int .i64 0,.int .i64 0,.int .i64 0,.int .i64 0,.int .i64 0,.int .i64 0,.int .i64 0,.slice none 0 0,.slice none 0 0]⟩:Rw)]) (by simpa only [zqa,zqb,zqc] using H5)).less (fun o ho=>List.mem_append_left _ ho)
     clear H5;go_wp2_with fail;go_roundw
     case rel=>exact ⟨kk+1,by omega,Nat.succ_le_succ HK5.out,rfl,HE,HN⟩
     case measure=>
      have:=HK5.out
      simp [intOf]
      omega
def RIt (w0:World)(g:Option Nat)(M:List (Nat×Value))(L:List Ob)(O:List Rw)(n:Nat)(x14:Value)(wr:World):Prop:=
 ∃ i:Nat,i<=n/\x14=.int .i64 i/\Hid (Ow w0 wr g M L O)
theorem z3aq {w0 w:World}{g:Option Nat}{M:List (Nat×Value)}{L:List Ob}{O:List Rw}(h:Ow w0 w g M L O)(i j:Nat){A A2:Option Addr}{n c e2 c2 d2:Nat}{zs:List Int}(hi:L[i]?=some ⟨A,n,c,z0p zs⟩)(hj:L[j]?=some ⟨A2,n,c2,z0p zs⟩):
  Calls Tryz.prog 29 #[.slice A n e2,.slice A2 n d2] w fun e w'=>e=.returned (.bool true)/\Ow w0 w' g M L O:=by
 have hl:zs.length=n:=by
  have:=(h.sl hi).1
  rw [z0s] at this;exact this
 have hn:n<=1000:=(h.sl hi).2.2.1
 have HO:=zh h;have HI:=zh hi;have HJ:=zh hj;have HL:Hid (zs.length=n/\n<=1000):=⟨hl,hn⟩
 clear h hi hj hl hn;go_enter Tryz.func29,Tryz.ntmps29
 go_wp2_with fail;go_loopw [14] (fun x14 wr=>RIt w0 g M L O n x14 wr) (fun x14 _=>n+1 - (intOf x14).toNat)
 case atStart=>exact ⟨0,zqr _,rfl,HO.out⟩
 case round=>
  clear HO;obtain ⟨k,hk,rfl,HO⟩:=hrel;rcases Nat.eq_or_lt_of_le hk with heq|hlt
  ·have hd:decide ((k:Int)<n)=false:=zn (by omega)
   have hd2:decide (k<n)=false:=zn (by omega)
   clear heq hk;go_wp2_with fail;go_ret;exact ⟨rfl,HO.out⟩
  ·have hd:decide ((k:Int)<n)=true:=zt (by omega)
   have hd2:decide (k<n)=true:=zt (by omega)
   have hkI:(k:Int)<n:=by omega
   have hw1:IntKind.i64.wrap ((k:Int)+1)=((k+1:Nat):Int):=by rw [IntWalk.i64_in _ (by have:=HL.out.2;omega)];omega
   obtain ⟨z,hz⟩:∃ z,zs[k]?=some z:=⟨zs[k]'(by rw [HL.out.1];exact hlt),zql _⟩
   obtain ⟨a1,rfl,-,h1⟩:=(HO.out.sl HI.out).2.2.2 (by rw [z0s,HL.out.1];omega)
   obtain ⟨a2,rfl,-,h2⟩:=(HO.out.sl HJ.out).2.2.2 (by rw [z0s,HL.out.1];omega)
   have e1:=h1 k (.int .i64 z) (by unfold z0p;rw [List.getElem?_map,hz];rfl)
   have e2':=h2 k (.int .i64 z) (by unfold z0p;rw [List.getElem?_map,hz];rfl)
   have hzz:(z != z)=false:=by simp
   have HK:=zh hlt;clear h1 h2 hz hlt hk;go_wp2_with fail;go_roundw
   case rel=>exact ⟨k+1,HK.out,rfl,HO.out⟩
   case measure=>
    have:=HK.out
    simp [intOf]
    omega
theorem z5br {w0 w:World}{M:List (Nat×Value)}{L:List Ob}{O:List Rw}(h:Ow w0 w none M L O)(A:Option Addr)(n c B:Nat)(ts:List Int)(hn:ts.length=n)(hl:n<=140737488355328)(hB:B<=w0.heap.size)(hs:Sl w B A (z0p ts)):
  Calls Tryz.prog 10 #[.slice A n c] w fun e w'=>∃ g,e=.returned (.pointer (some ⟨g,0,none⟩))/\Dice w' g B/\Ow w0 w' (some g) M L O:=by
 refine (z9o A n c B ts w hn hl hs (zqq hB h.size)).mono ?_
 rintro e w' ⟨he,hd,hz,hb⟩;have h':=h.go hb
 refine ⟨_,he,hd,⟨⟨h'.st.below,fun x e=>by cases e;exact ⟨by omega,h.size⟩,fun i b v hi=>?_,h'.st.one,fun o ho=>?_⟩,h'.own,fun i r hi b hb'=>?_,h'.two⟩⟩
 ·obtain ⟨h1,h2,h3,h4,_⟩:=h'.st.box i b v hi
  exact ⟨h1,h2,h3,h4,fun e=>by cases e;have:=(h.st.box i _ v hi).1;omega⟩
 ·obtain ⟨h1,h2,h3,B,hB,hs2,hne⟩:=h.st.held o ho
  refine ⟨h1,h2,h3,B,zqq hB hb.size,hs2.below (hb.mono hB),fun ad e h0=>⟨fun e2=>?_,(hne ad e h0).2⟩⟩
  obtain ⟨ad',e',hbk,_⟩:=hs2 (by omega)
  rw [e] at e';obtain rfl:=zqk e'
  have:=zqk e2
  omega
 ·obtain ⟨_,a2,a3⟩:=h'.ap i r hi b hb'
  exact ⟨fun e=>by have:=(h.lt hi hb').1;have:=zqk e;omega,a2,a3⟩
namespace Cl
set_option maxHeartbeats 16000000
theorem z3al (s:Pl)(p q:List Int)(l:List Sn):∀ (f:Nat) (la:List Nat),(lnV s p q l f la).2.Sublist la/\(la.length<=f->(jud s p q (pk l (lnV s p q l f la).2)).k=0)
 | 0,la=>⟨List.Sublist.refl _,fun h=>by
   obtain rfl:la=[]:=List.length_eq_zero_iff.1 (Nat.le_zero.1 h)
   exact z9ad s p q⟩
 | f+1,la=>by
  by_cases e:(jud s p q (pk l la)).k=0
  ·have:lnV s p q l (f+1) la=([],la):=by
    show (if (jud s p q (pk l la)).k=0 then _ else _)=_
    rw [if_pos e]
   rw [this];exact ⟨List.Sublist.refl _,fun _=>e⟩
  ·obtain ⟨h1,h2⟩:=z3al s p q l f (nx (jud s p q (pk l la)) l la)
   have h3:=z5ag e
   have:lnV s p q l (f+1) la=(jud s p q (pk l la) :: (lnV s p q l f (nx (jud s p q (pk l la)) l la)).1,(lnV s p q l f (nx (jud s p q (pk l la)) l la)).2):=by
    show (if (jud s p q (pk l la)).k=0 then _ else _)=_
    rw [if_neg e]
   rw [this];exact ⟨h1.trans List.filter_sublist,fun h=>h2 (by omega)⟩
theorem z5u (s:Pl)(p q:List Int)(l:List Sn)(la:List Nat):(lnF s p q l la).2.Sublist la:=(z3al s p q l _ la).1
theorem z2at (n:Nat):(List.range n).Pairwise (·<·):=List.pairwise_lt_range
theorem z7bi {k:Int}{l:List Sn}{p:Sp×List Nat}(h:p∈z2j k l l.length):p.2.Pairwise (·<·):=by
 rw [z3z k l _ p (zqj _) h]
 exact (z2at _).sublist List.filter_sublist
theorem z4w {k:Int}{l:List Sn}{p:Sp×List Nat}{i:Nat}(h:p∈z2j k l l.length):i∈p.2↔∃ x,l[i]?=some x/\z3u k x=p.1:=by
 rw [z3z k l _ p (zqj _) h,List.mem_filter,List.mem_range]
 constructor
 ·rintro ⟨_,h2⟩;have h3:=of_decide_eq_true h2
  cases hx:l[i]? with
  | none=>rw [hx] at h3;cases h3
  | some x=>
   rw [hx] at h3;exact ⟨x,rfl,zqk h3⟩
 ·rintro ⟨x,hx,e⟩;refine ⟨z0d hx,zt ?_⟩
  rw [hx];exact congrArg some e
def lns (l:List Sn):List (List Nat):=(z2j 6 l l.length).map (·.2)
theorem z2bs {k:Int}{l:List Sn}{p p':Sp×List Nat}(h:p∈z2j k l l.length)(h':p'∈z2j k l l.length)(e:p.1=p'.1):p=p':=by
 have e2:p.2=p'.2:=by rw [z3z k l _ p (zqj _) h,z3z k l _ p' (zqj _) h',e]
 exact Prod.ext e e2
theorem z1ax {s:Pl}{p q:List Int}{l:List Sn}{i:Nat}:i∈lsR s p q l (lns l)↔∃ g∈z2j 6 l l.length,i∈(lnF s p q l g.2).2:=by
 unfold lsR lns;rw [List.mem_flatMap];constructor
 ·rintro ⟨a,ha,h⟩;obtain ⟨g,hg,rfl⟩:=List.mem_map.1 ha
  exact ⟨g,hg,h⟩
 ·rintro ⟨g,hg,h⟩;exact ⟨g.2,List.mem_map.2 ⟨g,hg,rfl⟩,h⟩
theorem z8ax (s:Pl)(p q:List Int)(l:List Sn):(lsR s p q l (lns l)).Nodup:=by
 unfold lsR lns;refine List.pairwise_flatMap.2 ⟨fun a ha=>?_,?_⟩
 ·obtain ⟨g,hg,rfl⟩:=List.mem_map.1 ha
  exact ((z7bi hg).sublist (z5u s p q l g.2)).imp fun h=>Nat.ne_of_lt h
 ·rw [List.pairwise_map];have hn:=z2m 6 l l.length
  unfold List.Nodup at hn;rw [List.pairwise_map] at hn;refine List.Pairwise.imp_of_mem (fun {a b} ha hb hne=>?_) hn
  intro x hx y hy e;subst e
  obtain ⟨u,hu,e1⟩:=(z4w ha).1 ((z5u s p q l a.2).subset hx)
  obtain ⟨v,hv,e2⟩:=(z4w hb).1 ((z5u s p q l b.2).subset hy)
  rw [hu] at hv;obtain rfl:=zqk hv
  exact hne (e1.symm.trans e2)
def rstN (s:Pl)(p q:List Int)(l:List Sn):List Nat:=(List.range l.length).filter fun i=>decide (i∈lsR s p q l (lns l))
theorem z8bs (s:Pl)(p q:List Int)(l:List Sn):(rstN s p q l).Pairwise (·<·):=(z2at _).sublist List.filter_sublist
theorem z6at {s:Pl}{p q:List Int}{l:List Sn}{i:Nat}:i∈rstN s p q l↔i∈lsR s p q l (lns l):=by
 unfold rstN;rw [List.mem_filter,List.mem_range];constructor
 ·exact fun h=>of_decide_eq_true h.2
 ·intro h;obtain ⟨g,hg,hi⟩:=z1ax.1 h
  exact ⟨z1az hg i ((z5u s p q l g.2).subset hi),zt h⟩
theorem z9ah:∀ {a b:List Int},a.Pairwise (·<·)->b.Pairwise (·<·)->(∀ x,x∈a↔x∈b)->a=b
 | [],[],_,_,_=>rfl
 | [],y :: b,_,_,h=>absurd ((h y).2 List.mem_cons_self) (by simp)
 | x :: a,[],_,_,h=>absurd ((h x).1 List.mem_cons_self) (by simp)
 | x :: a,y :: b,ha,hb,h=>by
  rw [List.pairwise_cons] at ha hb;have hxy:x=y:=by
   rcases List.mem_cons.1 ((h x).1 List.mem_cons_self) with e|e
   ·exact e
   ·rcases List.mem_cons.1 ((h y).2 List.mem_cons_self) with e2|e2
    ·exact e2.symm
    ·have:=hb.1 x e;have:=ha.1 y e2;omega
  subst hxy
  refine congrArg (x :: ·) (z9ah ha.2 hb.2 fun z=>⟨fun hz=>?_,fun hz=>?_⟩)
  ·rcases List.mem_cons.1 ((h z).1 (List.mem_cons_of_mem _ hz)) with e|e
   ·subst e;have:=ha.1 z hz;omega
   ·exact e
  ·rcases List.mem_cons.1 ((h z).2 (List.mem_cons_of_mem _ hz)) with e|e
   ·subst e;have:=hb.1 z hz;omega
   ·exact e
theorem z3bk {a:List Nat}{z:Int}:z∈Na.up a↔∃ i∈a,z=(i:Int):=by
 unfold Na.up;rw [List.mem_map];exact ⟨fun ⟨i,h,e⟩=>⟨i,h,e.symm⟩,fun ⟨i,h,e⟩=>⟨i,h,e.symm⟩⟩
theorem z6am (s:Pl)(p q:List Int)(l:List Sn):srt (Na.up (lsR s p q l (lns l)))=Na.up (rstN s p q l):=by
 have hp:(srt (Na.up (lsR s p q l (lns l)))).Perm (Na.up (lsR s p q l (lns l))):=List.mergeSort_perm _ _
 refine z9ah ?_ ?_ fun z=>?_
 ·have h1:(srt (Na.up (lsR s p q l (lns l)))).Pairwise (fun x y=>decide (x<=y)=true):=List.pairwise_mergeSort (le:=fun x y:Int=>decide (x<=y)) (fun a b c h1 h2=>zt (Int.le_trans (of_decide_eq_true h1) (of_decide_eq_true h2))) (fun a b=>(Int.le_total a b).elim (fun h=>by rw [zt h];rfl) (fun h=>by rw [zt h,Bool.or_true])) _
  have h2:(srt (Na.up (lsR s p q l (lns l)))).Nodup:=by
   refine hp.nodup_iff.2 ?_
   unfold Na.up List.Nodup;rw [List.pairwise_map];exact (z8ax s p q l).imp fun h e=>h (Int.ofNat.inj e)
  exact List.Pairwise.imp₂ (fun a b h3 h4=>by have:=of_decide_eq_true h3;omega) h1 h2
 ·unfold Na.up;rw [List.pairwise_map];exact (z8bs s p q l).imp fun h=>Int.ofNat_lt.2 h
 ·rw [hp.mem_iff,z3bk,z3bk];exact ⟨fun ⟨i,h,e⟩=>⟨i,z6at.2 h,e⟩,fun ⟨i,h,e⟩=>⟨i,z6at.1 h,e⟩⟩
end Cl
namespace Cl
set_option maxHeartbeats 16000000
def mrk (v:Vd)(l:List Sn)(g:List Nat)(b:Nat->Bool)(z:Nat):Bool:=if z∈g then b z || dlP v.k ⟨v.p,v.cp,0⟩ l z else b z
theorem z2bn (v:Vd)(l:List Sn)(g:List Nat)(b:Nat->Bool):(g.filter fun z=>!mrk v l g b z)=nx v l (g.filter fun z=>!b z):=by
 unfold nx;rw [List.filter_filter];refine List.filter_congr fun z hz=>?_
 unfold mrk;rw [if_pos hz];cases b z <;> cases dlP v.k ⟨v.p,v.cp,0⟩ l z <;> rfl
theorem z8aq {v:Vd}{l:List Sn}{g:List Nat}{b:Nat->Bool}{z:Nat}(h:z ∉ g):mrk v l g b z=b z:=by
 unfold mrk;rw [if_neg h]
theorem z3ak {l:List Sn}{j k:Nat}{g g':List Nat}{z:Nat}(hj:(lns l)[j]?=some g)(hk:(lns l)[k]?=some g')(h:z∈g)(h':z∈g'):j=k:=by
 unfold lns at hj hk;rw [List.getElem?_map] at hj hk;cases e1:(z2j 6 l l.length)[j]? with
 | none=>rw [e1] at hj;cases hj
 | some a=>
  cases e2:(z2j 6 l l.length)[k]? with
  | none=>rw [e2] at hk;cases hk
  | some c=>
   rw [e1] at hj;rw [e2] at hk;obtain rfl:=zqk hj
   obtain rfl:=zqk hk
   obtain ⟨x,hx,h1⟩:=(z4w (List.mem_of_getElem? e1)).1 h
   obtain ⟨y,hy,h2⟩:=(z4w (List.mem_of_getElem? e2)).1 h'
   rw [hx] at hy;obtain rfl:=zqk hy
   have hn:=z2m 6 l l.length
   refine (List.getElem?_inj (l:=(z2j 6 l l.length).map (·.1)) (by rw [List.length_map];exact z0d e1) hn).1 ?_
   rw [List.getElem?_map,List.getElem?_map,e1,e2];exact congrArg some (h1.symm.trans h2)
structure Ex (s:Pl)(p q:List Int)(l:List Sn)(i j:Nat)(b:Nat->Bool):Prop where
 old:∀ m,m<i->∀ g,(lns l)[m]?=some g->∀ z∈g,b z=!decide (z∈(lnF s p q l g).2)
 new:∀ m,j<=m->∀ g,(lns l)[m]?=some g->∀ z∈g,b z=false
theorem Ex.start (s:Pl)(p q:List Int)(l:List Sn):Ex s p q l 0 0 fun _=>false:=⟨fun m h=>absurd h (Nat.not_lt_zero _),fun _ _ _ _ _ _=>rfl⟩
theorem Ex.into {s:Pl}{p q:List Int}{l:List Sn}{i:Nat}{b:Nat->Bool}(h:Ex s p q l i i b):Ex s p q l i (i+1) b:=⟨h.old,fun m hm=>h.new m (by omega)⟩
theorem Ex.first {s:Pl}{p q:List Int}{l:List Sn}{i:Nat}{b:Nat->Bool}{g:List Nat}(h:Ex s p q l i i b)(hg:(lns l)[i]?=some g):(g.filter fun z=>!b z)=g:=
 List.filter_eq_self.2 fun z hz=>by rw [h.new i (zqj _) g hg z hz];rfl
theorem Ex.mark {s:Pl}{p q:List Int}{l:List Sn}{i:Nat}{b:Nat->Bool}{g:List Nat}(h:Ex s p q l i (i+1) b)(hg:(lns l)[i]?=some g)(v:Vd):Ex s p q l i (i+1) (mrk v l g b):=
 ⟨fun m hm g' hg' z hz=>by
  rw [z8aq fun hz'=>by have:=z3ak hg' hg hz hz';omega]
  exact h.old m hm g' hg' z hz,fun m hm g' hg' z hz=>by
  rw [z8aq fun hz'=>by have:=z3ak hg' hg hz hz';omega]
  exact h.new m hm g' hg' z hz⟩
theorem Ex.next {s:Pl}{p q:List Int}{l:List Sn}{i:Nat}{b:Nat->Bool}{g:List Nat}(h:Ex s p q l i (i+1) b)(hg:(lns l)[i]?=some g)(he:(g.filter fun z=>!b z)=(lnF s p q l g).2):Ex s p q l (i+1) (i+1) b:=
 ⟨fun m hm g' hg' z hz=>by
  rcases zqi m i with h1|h1
  ·exact h.old m h1 g' hg' z hz
  ·obtain rfl:m=i:=by omega
   rw [hg] at hg';obtain rfl:=zqk hg'
   rw [<- he];cases hb:b z with
   | true=>
    rw [zn fun h2=>?_]
    ·rfl
    ·have:=(List.mem_filter.1 h2).2
     rw [hb] at this;cases this
   | false=>
    rw [zt (List.mem_filter.2 ⟨hz,by rw [hb];rfl⟩)]
    rfl,h.new⟩
theorem Ex.rest {s:Pl}{p q:List Int}{l:List Sn}{b:Nat->Bool}{j:Nat}(h:Ex s p q l (lns l).length j b):((List.range l.length).filter fun z=>!b z)=rstN s p q l:=by
 unfold rstN;refine List.filter_congr fun z hz=>?_
 rw [List.mem_range] at hz;have hx:l[z]?=some (l[z]'hz):=zql _
 obtain ⟨c,hc,e⟩:=List.mem_map.1 (z8y 6 l l.length z _ hz hx)
 have hzc:z∈c.2:=(z4w hc).2 ⟨_,hx,e.symm⟩
 obtain ⟨m,hm⟩:=List.getElem?_of_mem hc
 have hm':(lns l)[m]?=some c.2:=by unfold lns;rw [List.getElem?_map,hm];rfl
 rw [h.old m (z0d hm') c.2 hm' z hzc,Bool.not_not]
 refine decide_eq_decide.2 ⟨fun h1=>z1ax.2 ⟨c,hc,h1⟩,fun h1=>?_⟩
 obtain ⟨c',hc',h2⟩:=z1ax.1 h1
 obtain ⟨y,hy,e2⟩:=(z4w hc').1 ((z5u s p q l c'.2).subset h2)
 rw [hx] at hy;obtain rfl:=zqk hy
 rw [z2bs hc hc' (e.trans e2)]
 exact h2
end Cl
end Go.Proofs.YtpmofjomadibmaaGreatDoor
