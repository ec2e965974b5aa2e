/- NPow Num Qmd NatV NatQ NPasA NatR Odd Qmf Qx Qyz -/
import Derived.Test.YtpmofjomadibmaaGreatDoorR14
namespace Go.Proofs.YtpmofjomadibmaaGreatDoor
set_option maxHeartbeats 8000000
open Go.RowKit
set_option linter.unusedVariables false
set_option maxRecDepth 100000
def NPw (w1:World)(x m:Nat)(i o:Value)(wr:World):Prop:=
 ∃ (v:Int) (j:Nat) (A:Option Addr) (n c:Nat),i=.int .i64 v∧v=(j:Int) - 1∧o=.slice A n c∧j≤13∧n≤401∧Hid ((Na.dig (x ^ (m / 2 ^ j))).length=n)∧wr.ownsRow w1.heap.size 3 1 (.slice A n c) n (z0c (Na.dig (x ^ (m / 2 ^ j))))∧Below w1.heap.size w1 wr∧w1.heap.size≤wr.heap.size
theorem z6ai (A:Option Addr)(n c x m:Nat)(w:World)(hn:(Na.dig x).length=n)(hs:Sl w w.heap.size A (z0c (Na.dig x)))(hx:x<Na.top)(hm:m≤4800):
  Calls Tryz.prog 125 #[.agg #[.slice A n c],.int .i64 (m:Int)] w (z3b w (z4e (x ^ m)) (z3q (x ^ m))):=by
 have hn200:n≤200:=by rw [← hn];exact (Na.dig_200 x).2 hx
 obtain ⟨w0,hw0⟩:∃ w0,(w.alloc (.cells #[.slice A n c] 25)).alloc (.cells #[.slice none 0 0] 25)=w0:=⟨_,rfl⟩
 have HW:Hid ((w.alloc (.cells #[.slice A n c] 25)).alloc (.cells #[.slice none 0 0] 25)=w0):=hw0
 have hb0:Below w.heap.size w w0:=by rw [← hw0];exact bal (bal (Below.refl _ _) _) _
 have HB0:=zh hb0;have hzw:w0.heap.size=w.heap.size+2:=by rw [← hw0];simp
 have hc0:w0.cell? ⟨w.heap.size,0,none⟩=some (.slice A n c):=by rw [← hw0];simp [go_sem]
 have hc2:w0.cell? ⟨w.heap.size+1,0,none⟩=some (.slice none 0 0):=by rw [← hw0];simp [go_sem]
 have hf2:w0.frozen? ⟨w.heap.size+1,0,none⟩=false:=by rw [← hw0];simp [go_sem]
 have HV:=zh (z4n A n c w0.heap.size (Na.up (Na.dig x)) w0 (by rw [Na.up_length];exact hn) (by rw [z0g];exact (hs.below hb0).more hb0.size) (zqj _) (by omega))
 rw [Na.vld_dig hx] at HV;have HN:=zh hn;have HS:=zh hs;clear hs hn hb0 hw0 hx;have hbm:Nbl m≤13:=z2ah (k:=13) (by omega) (by omega)
 have h1:decide ((m:Int)<0)=false:=zn (by omega)
 have h2:decide (4800<(m:Int))=false:=zn (by omega)
 go_enter Tryz.func125,Tryz.ntmps125
 go_wp2_with fail;rw [HW.out];refine HV.out.mono ?_;rintro e w1 ⟨rfl,hb⟩;have HB1:=zh (btr HB0.out hb)
 have hd0:w1.cell? ⟨w.heap.size,0,none⟩=some (.slice A n c):=(hb.cell (p:=⟨w.heap.size,0,none⟩) (by simp [hzw])).trans hc0
 have hd2:w1.cell? ⟨w.heap.size+1,0,none⟩=some (.slice none 0 0):=(hb.cell (p:=⟨w.heap.size+1,0,none⟩) (by simp [hzw])).trans hc2
 have hg2:w1.frozen? ⟨w.heap.size+1,0,none⟩=false:=(hb.frozen (p:=⟨w.heap.size+1,0,none⟩) (by simp [hzw])).trans hf2
 have hsz1:w.heap.size+2≤w1.heap.size:=by rw [← hzw];exact hb.size
 clear hb hc0 hc2 hf2 HV HW hzw HB0;have HO0:Hid ((w1.alloc (.cells #[.int .i64 1] 3)).ownsRow w1.heap.size 3 1 (.slice (some ⟨w1.heap.size,0,none⟩) 1 1) 1 (z0c (Na.dig (x ^ (m / 2 ^ Nbl m))))):=by
  unfold Hid;rw [Na.pow_start m hm,Nat.pow_zero,Na.dig_small 1 (by omega) (by omega)]
  exact World.ownsRow_lit (base:=w1.heap.size) (e:=3) (size:=1) w1 #[.int .i64 1] 1 (zqj _) (by unfold maxLen;omega) rfl
 have HL0:Hid ((Na.dig (x ^ (m / 2 ^ Nbl m))).length=1):=by unfold Hid;rw [Na.pow_start m hm,Nat.pow_zero,Na.dig_small 1 (by omega) (by omega)];rfl
 have HBL0:Hid (Below w1.heap.size w1 (w1.alloc (.cells #[.int .i64 1] 3))):=bal (Below.refl _ _) _
 have HSZ0:Hid (w1.heap.size≤(w1.alloc (.cells #[.int .i64 1] 3)).heap.size):=by unfold Hid;simp
 rcases zqh x with hx0 | hx0
 ·have hn0:n=0:=by rw [← HN.out];exact Na.dig_len0.2 hx0
  subst hn0
  have HLB:Hid (∀ j,j≤m→(Na.dig (x ^ j)).length≤401):=fun j _=>by rw [hx0];exact Na.pow_400_zero j
  clear hx0;go_wp2_with fail;have HBl:=zh (z4b m (m:Int) rfl w1 (by omega))
  go_wp2_with fail;refine (z4b m (m:Int) rfl _ (by omega)).mono ?_
  rintro e w1' ⟨rfl,rfl⟩;go_wp2_with fail;go_loopw [9,8] (fun i o wr=>NPw w1 x m i o wr) (fun i _ _=>(intOf i+1).toNat)
  case atStart=>exact ⟨_,Nbl m,_,1,1,rfl,by omega,rfl,hbm,by omega,HL0.out,HO0.out,HBL0.out,HSZ0.out⟩
  case round=>
   clear HO0 HL0 HBL0 HSZ0 HBl;obtain ⟨v,j,A1,n1,c1,rfl,hvj,rfl,hj13,hn1,HLn,ho,hb,hbs⟩:=hrel;have HO:=zh ho;have HB:=zh hb;have HBS:=zh hbs;clear ho hb hbs;rcases zqh j with hj0 | hj0
   ·have hv:v=-1:=by omega
    subst hv
    have HEq:Hid (Na.dig (x ^ (m / 2 ^ j))=Na.dig (x ^ m)):=by unfold Hid;rw [hj0,Nat.pow_zero,Nat.div_one]
    clear hvj hj0;rw [HEq.out] at HO HLn;have HR:=zh (z2n A1 n1 c1 w1.heap.size (Na.dig (x ^ m)) wr HLn.out HO.out (Na.dig_lim _) (by omega))
    rw [Na.val_dig] at HR;go_wp2_with fail;refine HR.out.mono ?_;rintro e w9 ⟨A9,n9,c9,rfl,hn9,ho9,hb9⟩;have HN9:=zh hn9;have HO9:=zh ho9;have HB9:=zh (HB.out.trans (hb9.mono HBS.out))
    have hk9:w9.cell? ⟨w.heap.size+1,0,none⟩=some (.slice none 0 0):=(HB9.out.cell (p:=⟨w.heap.size+1,0,none⟩) (by simp;omega)).trans hd2
    have hk9f:w9.frozen? ⟨w.heap.size+1,0,none⟩=false:=(HB9.out.frozen (p:=⟨w.heap.size+1,0,none⟩) (by simp;omega)).trans hg2
    clear hn9 ho9 hb9 hd0 hd2 hg2;go_wp2_with fail;refine bodyPost_ret (v:=.tuple #[.agg #[.slice A9 n9 c9],.int .i64 (z3q (x ^ m))]) (by simp [results,Tryz.results125,go_sem,hk9]) rfl ?_
    exact z1y HO9.out HN9.out (by omega) (by omega) (HB1.out.trans (HB9.out.mono HB1.out.size)) (by omega) _ _
   ·obtain ⟨q,hq⟩:∃ q,j=q+1:=⟨j - 1,by omega⟩
    have hv:v=(q:Int):=by omega
    subst hv
    have hq13:q≤12:=by omega
    obtain ⟨s,hs1⟩:∃ s,m / 2 ^ q=s:=⟨_,rfl⟩
    have hsh:(m:Int) / 2 ^ q=(s:Int):=by rw [← hs1];norm_cast
    have HSQ:Hid (s % 2=0→x ^ (m / 2 ^ j)*x ^ (m / 2 ^ j)=x ^ s):=fun h=>by rw [hq,← hs1];exact Na.pow_sq x m q (by rw [hs1];exact h)
    have HSX:Hid (s % 2=1→x ^ (m / 2 ^ j)*x ^ (m / 2 ^ j)*x=x ^ s):=fun h=>by rw [hq,← hs1];exact Na.pow_sqx x m q (by rw [hs1];exact h)
    have HSM:Hid (m / 2 ^ j+m / 2 ^ j≤m):=by
     unfold Hid;have h1:=Na.pow_half m q
     have h2:m / 2 ^ q≤m:=Nat.div_le_self _ _
     rw [hq];omega
    have HSS:Hid (m / 2 ^ q=s):=hs1
    have HSLE:Hid (s≤m):=by unfold Hid;rw [← hs1];exact Nat.div_le_self _ _
    have HPr:=zh (z2t A1 A1 n1 c1 n1 c1 _ _ wr HLn.out HLn.out (Sl.of_own HO.out) (Sl.of_own HO.out) (Na.dig_lim _) (Na.dig_lim _) (by omega) (by omega))
    rw [Na.val_dig,← Nat.pow_add] at HPr;rw [← Nat.pow_add] at HSQ HSX;have HC1:Hid (n1≤c1):=(z1k HO.out).1
    clear hvj hj0 hs1;go_wp2_with fail;refine HPr.out.mono ?_;rintro e w2 ⟨A2,n2,c2,rfl,hn2,ho2,hb2⟩;have HN2:=zh hn2;have HO2:=zh ho2;have HB2:=zh (HB.out.trans (hb2.mono HBS.out))
    have HS2:=zh (zqq HBS.out hb2.size)
    have hn2l:n2≤401:=by rw [← hn2];exact HLB.out _ HSM.out
    clear hn2 ho2 hb2 HPr;rcases Nat.mod_two_eq_zero_or_one s with hbit | hbit
    ·have hand:bits .and .i64 (s:Int) 1=0:=by rw [and1];omega
     have HE:=zh (HSQ.out hbit)
     clear HSQ HSX hbit;go_wp2_with fail;go_roundw
     case rel=>
      refine ⟨_,q,A2,n2,c2,rfl,by omega,rfl,by omega,hn2l,?_,?_,HB2.out,HS2.out⟩
      ·rw [HSS.out,← HE.out];exact HN2.out
      ·rw [HSS.out,← HE.out];exact z1d HO2.out HBS.out
     case measure=>(simp [intOf]) <;> omega
    ·have hand:bits .and .i64 (s:Int) 1=1:=by rw [and1];omega
     have HE:=zh (HSX.out hbit)
     clear HSQ HSX hbit;have hm0:w2.cell? ⟨w.heap.size,0,none⟩=some (.slice A 0 c):=(HB2.out.cell (p:=⟨w.heap.size,0,none⟩) (by simp;omega)).trans hd0
     have HPx:=zh (z2t A2 A n2 c2 0 c _ (Na.dig x) w2 HN2.out HN.out (Sl.of_own HO2.out) ((HS.out.below ((HB1.out.trans (HB2.out.mono HB1.out.size)))).more (zqq HB1.out.size HS2.out)) (Na.dig_lim _) (Na.dig_lim _) (by omega) (by omega))
     rw [Na.val_dig,Na.val_dig,HE.out] at HPx;go_wp2_with fail;refine HPx.out.mono ?_;rintro e w3 ⟨A3,n3,c3,rfl,hn3,ho3,hb3⟩;have HN3:=zh hn3;have HO3:=zh ho3;have HB3:=zh (HB2.out.trans (hb3.mono HS2.out))
     have HS3:=zh (zqq HS2.out hb3.size)
     have hn3l:n3≤401:=by rw [← hn3];exact HLB.out _ HSLE.out
     clear hn3 ho3 hb3 HPx hm0;go_wp2_with fail;go_roundw
     case rel=>
      refine ⟨_,q,A3,n3,c3,rfl,by omega,rfl,by omega,hn3l,?_,?_,HB3.out,HS3.out⟩
      ·rw [HSS.out];exact HN3.out
      ·rw [HSS.out];exact z1d HO3.out HS2.out
     case measure=>(simp [intOf]) <;> omega
 ·have hn1:0<n:=by
   rcases zqh n with h0 | h0
   ·rw [← HN.out,Na.dig_len0] at h0;omega
   ·exact h0
  obtain ⟨k,hk⟩:∃ k,n=k+1:=⟨n - 1,by omega⟩
  obtain ⟨a,ha⟩:=z0m (Na.dig x) k (by rw [HN.out];omega)
  obtain ⟨ha0,hb1,hb2,hb3⟩:=Na.bitlen x k a (by rw [HN.out];exact hk) ha
  have ha24:=(Na.dig_lim x).at ha
  have hbl24:Nbl a≤24:=z2ah (k:=24) (by omega) (by omega)
  obtain ⟨ad,rfl,hbk,hca⟩:=(HS.out.below HB1.out).nat ha
  obtain ⟨L,hL⟩:∃ L,k*24+Nbl a=L+1:=⟨k*24+Nbl a - 1,by omega⟩
  obtain ⟨p,hp⟩:∃ p,L*m=p:=⟨_,rfl⟩
  have hpb:p≤23040000:=by
   rw [← hp];exact Nat.mul_le_mul (show L≤4800 by omega) hm
  rw [hL,Nat.add_sub_cancel] at hb2;rw [hL] at hb3;have HX1:=zh hb2;have HX2:=zh hb3;have HP:=zh hp;have e1:(n:Int) - 1=(k:Int):=by omega
  have e2:(k:Int)*24+(Nbl a:Int)=(L:Int)+1:=by omega
  have e3:(L:Int)+1 - 1=(L:Int):=by omega
  have e4:(L:Int)*(m:Int)=(p:Int):=by rw [← hp];norm_cast
  have hLb:L≤4800:=by omega
  have hk0:0<n:=by omega
  have hk9:k<n:=by omega
  have hk1:(k:Int)<(n:Int):=by omega
  clear hb2 hb3 hp hL hk ha;rcases zqi p 4800 with hp1 | hp1
  ·have HLB:Hid (∀ j,j≤m→(Na.dig (x ^ j)).length≤401):=fun j hj=>Na.pow_400 (L:=L+1) (by omega) HX2.out (by rw [Nat.add_sub_cancel,HP.out];exact hp1) hx0 hj
   have t1:decide (4800≤(p:Int))=false:=zn (by omega)
   clear HX1 HX2 HP;go_wp2_with fail;refine (z4b a _ rfl _ (by omega)).mono ?_
   rintro e w1' ⟨rfl,rfl⟩;have HBl:=zh (z4b m (m:Int) rfl w1 (by omega))
   go_wp2_with fail;refine (z4b m (m:Int) rfl _ (by omega)).mono ?_
   rintro e w1' ⟨rfl,rfl⟩;go_wp2_with fail;go_loopw [9,8] (fun i o wr=>NPw w1 x m i o wr) (fun i _ _=>(intOf i+1).toNat)
   case atStart=>exact ⟨_,Nbl m,_,1,1,rfl,by omega,rfl,hbm,by omega,HL0.out,HO0.out,HBL0.out,HSZ0.out⟩
   case round=>
    clear HO0 HL0 HBL0 HSZ0 HBl;obtain ⟨v,j,A1,n1,c1,rfl,hvj,rfl,hj13,hn1,HLn,ho,hb,hbs⟩:=hrel;have HO:=zh ho;have HB:=zh hb;have HBS:=zh hbs;clear ho hb hbs;rcases zqh j with hj0 | hj0
    ·have hv:v=-1:=by omega
     subst hv
     have HEq:Hid (Na.dig (x ^ (m / 2 ^ j))=Na.dig (x ^ m)):=by unfold Hid;rw [hj0,Nat.pow_zero,Nat.div_one]
     clear hvj hj0;rw [HEq.out] at HO HLn;have HR:=zh (z2n A1 n1 c1 w1.heap.size (Na.dig (x ^ m)) wr HLn.out HO.out (Na.dig_lim _) (by omega))
     rw [Na.val_dig] at HR;go_wp2_with fail;refine HR.out.mono ?_;rintro e w9 ⟨A9,n9,c9,rfl,hn9,ho9,hb9⟩;have HN9:=zh hn9;have HO9:=zh ho9;have HB9:=zh (HB.out.trans (hb9.mono HBS.out))
     have hk9:w9.cell? ⟨w.heap.size+1,0,none⟩=some (.slice none 0 0):=(HB9.out.cell (p:=⟨w.heap.size+1,0,none⟩) (by simp;omega)).trans hd2
     have hk9f:w9.frozen? ⟨w.heap.size+1,0,none⟩=false:=(HB9.out.frozen (p:=⟨w.heap.size+1,0,none⟩) (by simp;omega)).trans hg2
     clear hn9 ho9 hb9 hd0 hd2 hg2;go_wp2_with fail;refine bodyPost_ret (v:=.tuple #[.agg #[.slice A9 n9 c9],.int .i64 (z3q (x ^ m))]) (by simp [results,Tryz.results125,go_sem,hk9]) rfl ?_
     exact z1y HO9.out HN9.out (by omega) (by omega) (HB1.out.trans (HB9.out.mono HB1.out.size)) (by omega) _ _
    ·obtain ⟨q,hq⟩:∃ q,j=q+1:=⟨j - 1,by omega⟩
     have hv:v=(q:Int):=by omega
     subst hv
     have hq13:q≤12:=by omega
     obtain ⟨s,hs1⟩:∃ s,m / 2 ^ q=s:=⟨_,rfl⟩
     have hsh:(m:Int) / 2 ^ q=(s:Int):=by rw [← hs1];norm_cast
     have HSQ:Hid (s % 2=0→x ^ (m / 2 ^ j)*x ^ (m / 2 ^ j)=x ^ s):=fun h=>by rw [hq,← hs1];exact Na.pow_sq x m q (by rw [hs1];exact h)
     have HSX:Hid (s % 2=1→x ^ (m / 2 ^ j)*x ^ (m / 2 ^ j)*x=x ^ s):=fun h=>by rw [hq,← hs1];exact Na.pow_sqx x m q (by rw [hs1];exact h)
     have HSM:Hid (m / 2 ^ j+m / 2 ^ j≤m):=by
      unfold Hid;have h1:=Na.pow_half m q
      have h2:m / 2 ^ q≤m:=Nat.div_le_self _ _
      rw [hq];omega
     have HSS:Hid (m / 2 ^ q=s):=hs1
     have HSLE:Hid (s≤m):=by unfold Hid;rw [← hs1];exact Nat.div_le_self _ _
     have HPr:=zh (z2t A1 A1 n1 c1 n1 c1 _ _ wr HLn.out HLn.out (Sl.of_own HO.out) (Sl.of_own HO.out) (Na.dig_lim _) (Na.dig_lim _) (by omega) (by omega))
     rw [Na.val_dig,← Nat.pow_add] at HPr;rw [← Nat.pow_add] at HSQ HSX;have HC1:Hid (n1≤c1):=(z1k HO.out).1
     clear hvj hj0 hs1;go_wp2_with fail;refine HPr.out.mono ?_;rintro e w2 ⟨A2,n2,c2,rfl,hn2,ho2,hb2⟩;have HN2:=zh hn2;have HO2:=zh ho2;have HB2:=zh (HB.out.trans (hb2.mono HBS.out))
     have HS2:=zh (zqq HBS.out hb2.size)
     have hn2l:n2≤401:=by rw [← hn2];exact HLB.out _ HSM.out
     clear hn2 ho2 hb2 HPr;rcases Nat.mod_two_eq_zero_or_one s with hbit | hbit
     ·have hand:bits .and .i64 (s:Int) 1=0:=by rw [and1];omega
      have HE:=zh (HSQ.out hbit)
      clear HSQ HSX hbit;go_wp2_with fail;go_roundw
      case rel=>
       refine ⟨_,q,A2,n2,c2,rfl,by omega,rfl,by omega,hn2l,?_,?_,HB2.out,HS2.out⟩
       ·rw [HSS.out,← HE.out];exact HN2.out
       ·rw [HSS.out,← HE.out];exact z1d HO2.out HBS.out
      case measure=>(simp [intOf]) <;> omega
     ·have hand:bits .and .i64 (s:Int) 1=1:=by rw [and1];omega
      have HE:=zh (HSX.out hbit)
      clear HSQ HSX hbit;have hm0:w2.cell? ⟨w.heap.size,0,none⟩=some (.slice (some ad) n c):=(HB2.out.cell (p:=⟨w.heap.size,0,none⟩) (by simp;omega)).trans hd0
      have HPx:=zh (z2t A2 (some ad) n2 c2 n c _ (Na.dig x) w2 HN2.out HN.out (Sl.of_own HO2.out) ((HS.out.below ((HB1.out.trans (HB2.out.mono HB1.out.size)))).more (zqq HB1.out.size HS2.out)) (Na.dig_lim _) (Na.dig_lim _) (by omega) (by omega))
      rw [Na.val_dig,Na.val_dig,HE.out] at HPx;go_wp2_with fail;refine HPx.out.mono ?_;rintro e w3 ⟨A3,n3,c3,rfl,hn3,ho3,hb3⟩;have HN3:=zh hn3;have HO3:=zh ho3;have HB3:=zh (HB2.out.trans (hb3.mono HS2.out))
      have HS3:=zh (zqq HS2.out hb3.size)
      have hn3l:n3≤401:=by rw [← hn3];exact HLB.out _ HSLE.out
      clear hn3 ho3 hb3 HPx hm0;go_wp2_with fail;go_roundw
      case rel=>
       refine ⟨_,q,A3,n3,c3,rfl,by omega,rfl,by omega,hn3l,?_,?_,HB3.out,HS3.out⟩
       ·rw [HSS.out];exact HN3.out
       ·rw [HSS.out];exact z1d HO3.out HS2.out
      case measure=>(simp [intOf]) <;> omega
  ·have HR:Hid (z4e (x ^ m)=[]):=z4z (Na.pow_big HX1.out (by rw [HP.out];exact hp1))
   have HE:Hid (z3q (x ^ m)=3):=z5a (Na.pow_big HX1.out (by rw [HP.out];exact hp1))
   have t1:decide (4800≤(p:Int))=true:=zt (by omega)
   clear HX1 HX2 HP HO0 HL0 HBL0 HSZ0;go_wp2_with fail;refine (z4b a _ rfl _ (by omega)).mono ?_
   rintro e w1' ⟨rfl,rfl⟩;go_wp2_with fail;rw [HR.out,HE.out];refine bodyPost_ret (v:=.tuple #[.agg #[.slice none 0 0],.int .i64 3]) (by simp [results,Tryz.results125,go_sem,hd2]) rfl ?_
   exact z0x _ _ _ (z4s HB1.out _ (by show w.heap.size≤w.heap.size+1;omega) _)
open Go.RowKit Go.Sort
section
variable {w0 w w':World}{g:Option Nat}{M:List (Nat×Value)}{L:List Ob}{O:List Rw}{A A2:Option Addr}{n c m c2 x y:Nat}
theorem z8ai (h:Ow w0 w g M L O)(i:Nat)(hi:L[i]?=some ⟨A,n,c,z0c (Na.dig x)⟩)(hx:x<Na.top):
  Calls Tryz.prog 84 #[.agg #[.slice A n c]] w fun e w'=>e=.returned (.bool true)∧Ow w0 w' g M L O:=by
 rw [← z0g] at hi;have:=z4w h i hi
 rwa [Na.vld_dig hx] at this
end
theorem z9h (A:Option Addr)(n c x:Nat)(v:Int)(w:World)(hn:(Na.dig x).length=n)(hnc:n≤c)(hs:Sl w w.heap.size A (z0c (Na.dig x)))(hx:x<Na.top)(hv:v<0∨4800<v):
  Calls Tryz.prog 125 #[.agg #[.slice A n c],.int .i64 v] w (z3b w [] 2):=by
 have hn2:n≤200:=by rw [← hn];exact (Na.dig_200 x).2 hx
 have H0:=(((Ow.of (St.refl w)).old hs (by rw [z0e];exact hn) hnc (by omega)).boxed (.slice A n c) 25).boxed (.slice none 0 0) 25
 simp only [World.size_alloc,zqc,zqb] at H0;have hc0:=H0.cell 0 rfl
 have HH:=zh (z8ai H0 0 rfl hx)
 clear hn hs H0 hx;rcases hv with hv | hv
 ·have hd:decide (v<0)=true:=zt hv
  go_enter Tryz.func125,Tryz.ntmps125
  go_wp2_with fail;refine HH.out.mono ?_;rintro e w1 ⟨rfl,H1⟩;have hs1:=H1.cell 1 rfl
  have hf1:=H1.free 1 rfl
  clear hc0 HH;go_wp2_with fail;have G:=H1.setv 1 rfl (.slice none 0 0)
  have hz:=G.cell 1 rfl
  refine bodyPost_ret (v:=.tuple #[.agg #[.slice none 0 0],.int .i64 2]) (by simp [results,Tryz.results125,go_sem,hz]) rfl ?_
  exact z0x _ _ _ G.below
 ·have hd:decide (v<0)=false:=zn (by omega)
  have hd2:decide (4800<v)=true:=zt hv
  go_enter Tryz.func125,Tryz.ntmps125
  go_wp2_with fail;refine HH.out.mono ?_;rintro e w1 ⟨rfl,H1⟩;have hs1:=H1.cell 1 rfl
  have hf1:=H1.free 1 rfl
  clear hc0 HH;go_wp2_with fail;have G:=H1.setv 1 rfl (.slice none 0 0)
  have hz:=G.cell 1 rfl
  refine bodyPost_ret (v:=.tuple #[.agg #[.slice none 0 0],.int .i64 2]) (by simp [results,Tryz.results125,go_sem,hz]) rfl ?_
  exact z0x _ _ _ G.below
theorem z7x (A:Option Addr)(n c x:Nat)(v:Int)(w:World)(hn:(Na.dig x).length=n)(hnc:n≤c)(hs:Sl w w.heap.size A (z0c (Na.dig x)))(hx:x<Na.top)(hv:v<0∨4800<v):
  Calls Tryz.prog 72 #[.agg #[.slice A n c],.int .i64 v] w (z3b w [] 2):=by
 have hn2:n≤200:=by rw [← hn];exact (Na.dig_200 x).2 hx
 have H0:=(((Ow.of (St.refl w)).old hs (by rw [z0e];exact hn) hnc (by omega)).boxed (.slice A n c) 25).boxed (.slice none 0 0) 25
 simp only [World.size_alloc,zqc,zqb] at H0;have hc0:=H0.cell 0 rfl
 have HH:=zh (z2d H0 0 rfl hx)
 clear hn hs H0 hx;rcases hv with hv | hv
 ·have hd:decide (v<0)=true:=zt hv
  go_enter Tryz.func72,Tryz.ntmps72
  go_wp2_with fail;refine HH.out.mono ?_;rintro e w1 ⟨rfl,H1⟩;have hs1:=H1.cell 1 rfl
  have hf1:=H1.free 1 rfl
  clear hc0 HH;go_wp2_with fail;have G:=H1.setv 1 rfl (.slice none 0 0)
  have hz:=G.cell 1 rfl
  refine bodyPost_ret (v:=.tuple #[.agg #[.slice none 0 0],.int .i64 2]) (by simp [results,Tryz.results72,go_sem,hz]) rfl ?_
  exact z0x _ _ _ G.below
 ·have hd:decide (v<0)=false:=zn (by omega)
  have hd2:decide (4800<v)=true:=zt hv
  go_enter Tryz.func72,Tryz.ntmps72
  go_wp2_with fail;refine HH.out.mono ?_;rintro e w1 ⟨rfl,H1⟩;have hs1:=H1.cell 1 rfl
  have hf1:=H1.free 1 rfl
  clear hc0 HH;go_wp2_with fail;have G:=H1.setv 1 rfl (.slice none 0 0)
  have hz:=G.cell 1 rfl
  refine bodyPost_ret (v:=.tuple #[.agg #[.slice none 0 0],.int .i64 2]) (by simp [results,Tryz.results72,go_sem,hz]) rfl ?_
  exact z0x _ _ _ G.below
def powL (x:Nat)(v:Int):List Nat:=if v<0∨4800<v then [] else z4e (x ^ v.toNat)
def powE (x:Nat)(v:Int):Int:=if v<0∨4800<v then 2 else z3q (x ^ v.toNat)
theorem z9b (x:Nat)(v:Int):(powL x v).length≤1000:=by
 unfold powL;split
 ·exact zqr _
 ·exact z6t _
theorem z2ac {v:Int}(h:v≤9223372036854775807):(ofL v).length≤1000:=by
 unfold ofL;split
 ·exact zqr _
 ·exact zqq (Na.dig_len_le (n:=3) (zqu (show v.toNat≤9223372036854775807 by omega) (by decide))) (by omega)
section
variable {w0 w w':World}{g:Option Nat}{M:List (Nat×Value)}{L:List Ob}{O:List Rw}{A A2:Option Addr}{n c m c2 x y:Nat}
theorem z6bu (h:Ow w0 w g M L O)(i:Nat)(hi:L[i]?=some ⟨A,n,c,z0c (Na.dig x)⟩)(hx:x<Na.top)(v:Int):
  Calls Tryz.prog 125 #[.agg #[.slice A n c],.int .i64 v] w (z7f w0 g M L O (powL x v) (powE x v)):=by
 obtain ⟨h1,h2,h3,h4⟩:=h.sl hi
 rw [z0e] at h1;have key:Calls Tryz.prog 125 #[.agg #[.slice A n c],.int .i64 v] w (z3b w (powL x v) (powE x v)):=by
  by_cases hv:v<0∨4800<v
  ·have e1:powL x v=[]:=if_pos hv
   have e2:powE x v=2:=if_pos hv
   rw [e1,e2];exact z9h A n c x v w h1 h2 h4 hx hv
  ·have e1:powL x v=z4e (x ^ v.toNat):=if_neg hv
   have e2:powE x v=z3q (x ^ v.toNat):=if_neg hv
   rw [e1,e2];have h0:0≤v:=by omega
   obtain ⟨k,rfl⟩:=Int.eq_ofNat_of_zero_le h0
   exact z6ai A n c x k w h1 h4 hx (by omega)
 exact key.mono fun en w' hr=>z5m h (z9b x v) hr
theorem z4bt (h:Ow w0 w g M L O)(i:Nat)(hi:L[i]?=some ⟨A,n,c,z0c (Na.dig x)⟩)(hx:x<Na.top)(v:Int):
  Calls Tryz.prog 72 #[.agg #[.slice A n c],.int .i64 v] w (z7f w0 g M L O (powL x v) (powE x v)):=by
 obtain ⟨h1,h2,h3,h4⟩:=h.sl hi
 rw [z0e] at h1;have key:Calls Tryz.prog 72 #[.agg #[.slice A n c],.int .i64 v] w (z3b w (powL x v) (powE x v)):=by
  by_cases hv:v<0∨4800<v
  ·have e1:powL x v=[]:=if_pos hv
   have e2:powE x v=2:=if_pos hv
   rw [e1,e2];exact z7x A n c x v w h1 h2 h4 hx hv
  ·have e1:powL x v=z4e (x ^ v.toNat):=if_neg hv
   have e2:powE x v=z3q (x ^ v.toNat):=if_neg hv
   rw [e1,e2];have h0:0≤v:=by omega
   obtain ⟨k,rfl⟩:=Int.eq_ofNat_of_zero_le h0
   exact z3ar A n c x k w h1 h2 h4 hx (by omega)
 exact key.mono fun en w' hr=>z5m h (z9b x v) hr
theorem z7bu (h:Ow w0 w g M L O)(v:Int)(hv:v≤9223372036854775807):Calls Tryz.prog 99 #[.int .i64 v] w (z7f w0 g M L O (ofL v) (ofE v)):=
 (z6aj v w hv).mono fun en w' hr=>z5m h (z2ac hv) hr
theorem z6bt (h:Ow w0 w g M L O)(v:Int)(hv:v≤9223372036854775807):Calls Tryz.prog 55 #[.int .i64 v] w (z7f w0 g M L O (ofL v) (ofE v)):=
 (z6m v w hv).mono fun en w' hr=>z5m h (z2ac hv) hr
end
theorem z5aw (L l:List Ob)(x y:Ob):∀ o∈L++[x]++[y],o∈L++l++[x]++[y]:=fun o ho=>by
 simp only [List.mem_append] at ho ⊢
 rcases ho with (h | h) | h
 ·exact .inl (.inl (.inl h))
 ·exact .inl (.inr h)
 ·exact .inr h
def ofF (a b:Int):Nat×Nat×Int:=if a<0∨b<0 then frE 2 else frM a.toNat b.toNat
theorem z2z {a:Int}(h:a≤9223372036854775807):a.toNat<Na.top:=by
 have h1:(9223372036854775807:Nat)<Na.top:=by decide +kernel
 omega
theorem z2g {a:Int}(h:0≤a):ofL a=Na.dig a.toNat∧ofE a=0:=⟨if_neg (by omega),if_neg (by omega)⟩
theorem z5v {a:Int}(h:a<0):ofL a=[]∧ofE a=2:=⟨if_pos h,if_pos h⟩
section
variable {w0 w w':World}{g:Option Nat}{M:List (Nat×Value)}{L:List Ob}{O:List Rw}
theorem z5bw (h:Ow w0 w g M L O)(a:Int)(ha:a≤9223372036854775807):Calls Tryz.prog 99 #[.int .i64 a] w (z7f w0 g M L O (ofL a) (ofE a)):=
 (z6aj a w ha).mono fun e w' hr=>z5m h (by
  rcases Int.lt_or_le a 0 with h0 | h0
  ·rw [(z5v h0).1];decide
  ·rw [(z2g h0).1];exact z2r (z2z ha)) hr
theorem z5ai (h:Ow w0 w g M L O)(a b:Int)(ha:a≤9223372036854775807)(hb:b≤9223372036854775807)(ht:Tab w0):
  Calls Tryz.prog 65 #[.int .i64 a,.int .i64 b] w (z8k w0 g M L O (ofF a b)):=by
 have H0:=h.pair (.slice none 0 0) (.slice none 0 0) 27
 have HC:=zh (z5bw H0 a ha)
 have HB:=zh hb;have HA:=zh ha;have HT:=zh ht;obtain ⟨l1,h1⟩:∃ l,ofL a=l:=⟨_,rfl⟩
 obtain ⟨e1,he1⟩:∃ l,ofE a=l:=⟨_,rfl⟩
 obtain ⟨l2,h2⟩:∃ l,ofL b=l:=⟨_,rfl⟩
 obtain ⟨e2,he2⟩:∃ l,ofE b=l:=⟨_,rfl⟩
 rw [h1,he1] at HC;have HL:=zh (And.intro h1 (And.intro h2 he2))
 have key:((e1 != 0)=true∧ofF a b=frE 2)∨((e1 != 0)=false∧(e2 != 0)=true∧ofF a b=frE 2)∨((e1 != 0)=false∧(e2 != 0)=false∧0≤a∧0≤b∧ofF a b=frM a.toNat b.toNat):=by
  unfold ofF;rcases Int.lt_or_le a 0 with h0 | h0
  ·exact .inl ⟨by rw [← he1,(z5v h0).2];rfl,if_pos (.inl h0)⟩
  ·rcases Int.lt_or_le b 0 with h3 | h3
   ·exact .inr (.inl ⟨by rw [← he1,(z2g h0).2];rfl,by rw [← he2,(z5v h3).2];rfl,if_pos (.inr h3)⟩)
   ·exact .inr (.inr ⟨by rw [← he1,(z2g h0).2];rfl,by rw [← he2,(z2g h3).2];rfl,h0,h3,if_neg (by omega)⟩)
 clear h H0 ha hb h1 he1 h2 he2 ht;go_enter Tryz.func65,Tryz.ntmps65
 go_wp2_with fail;refine HC.out.mono ?_;rintro e w1 ⟨B1,m1,d1,rfl,H1⟩;have H2:=H1.boxed (.slice B1 m1 d1) 25
 have HD:=zh (z5bw H2 b HB.out)
 rw [HL.out.2.1,HL.out.2.2] at HD;clear HC H1 H2;rcases key with ⟨k1,k2⟩ | ⟨k1,k2,k3⟩ | ⟨k1,k2,ka,kb,k3⟩
 ·have HK:=zh k2;clear k2;go_wp2_with fail;refine HD.out.mono ?_;rintro e w2 ⟨B2,m2,d2,rfl,H3⟩;have H4:=H3.boxed (.slice B2 m2 d2) 25
  simp only [zqa,zqb,zqc] at H4;have x0:=H4.p0 (O.length+0) (zk rfl)
  have x1:=H4.p1 (O.length+0) (zk rfl)
  have f0:=H4.pf (O.length+0) (zk rfl) 0
  have f1:=H4.pf (O.length+0) (zk rfl) 1
  have H5:=H4.set0 (O.length+0) (zk rfl) (.slice none 0 0)
  rw [z0n,zqd] at H5;have H6:=H5.set1 (O.length+0) (zk rfl) (.slice none 0 0)
  rw [z0n,zqd] at H6;have s0:=H6.p0 (O.length+0) (zk rfl)
  have s1:=H6.p1 (O.length+0) (zk rfl)
  have HF:=zh (H6.fewM.fewO.less (L':=L) (fun o ho=>List.mem_append_left _ ho))
  clear HD H3 H4 H5 H6;go_wp2_with fail;refine bodyPost_ret (v:=.tuple #[.agg #[.slice none 0 0,.slice none 0 0],.int .i64 2]) (by simp [results,Tryz.results65,go_sem,s0,s1]) rfl ?_
  rw [HK.out];exact z2j HF.out 2
 ·have HK:=zh k3;clear k3;go_wp2_with fail;refine HD.out.mono ?_;rintro e w2 ⟨B2,m2,d2,rfl,H3⟩;have H4:=H3.boxed (.slice B2 m2 d2) 25
  simp only [zqa,zqb,zqc] at H4;have x0:=H4.p0 (O.length+0) (zk rfl)
  have x1:=H4.p1 (O.length+0) (zk rfl)
  have f0:=H4.pf (O.length+0) (zk rfl) 0
  have f1:=H4.pf (O.length+0) (zk rfl) 1
  have H5:=H4.set0 (O.length+0) (zk rfl) (.slice none 0 0)
  rw [z0n,zqd] at H5;have H6:=H5.set1 (O.length+0) (zk rfl) (.slice none 0 0)
  rw [z0n,zqd] at H6;have s0:=H6.p0 (O.length+0) (zk rfl)
  have s1:=H6.p1 (O.length+0) (zk rfl)
  have HF:=zh (H6.fewM.fewO.less (L':=L) (fun o ho=>List.mem_append_left _ ho))
  clear HD H3 H4 H5 H6;go_wp2_with fail;refine bodyPost_ret (v:=.tuple #[.agg #[.slice none 0 0,.slice none 0 0],.int .i64 2]) (by simp [results,Tryz.results65,go_sem,s0,s1]) rfl ?_
  rw [HK.out];exact z2j HF.out 2
 ·have HK:=zh k3;have HX:=zh (And.intro ka kb)
  obtain ⟨t,hmk⟩:∃ t,frM a.toNat b.toNat=t:=⟨_,rfl⟩
  have HMk:=zh hmk;clear k3 ka kb hmk;go_wp2_with fail;refine HD.out.mono ?_;rintro e w2 ⟨B2,m2,d2,rfl,H3⟩;have H4:=H3.boxed (.slice B2 m2 d2) 25
  simp only [zqa,zqb,zqc] at H4;rw [← HL.out.1,← HL.out.2.1,(z2g HX.out.1).1,(z2g HX.out.2).1] at H4
  have y0:=H4.cell (M.length+0) (zk rfl)
  have y1:=H4.cell (M.length+1) (zk rfl)
  have HE:=zh (z3bg H4 (L.length+0) (L.length+1) (zk rfl) (zk rfl) (z2z HA.out) (z2z HB.out) HT.out)
  rw [HMk.out] at HE;have HG:=zh H4;clear HD H3 H4;go_wp2_with fail;refine HE.out.mono ?_;intro e w3 hr;have ht1:t.1<Na.top∧t.2.1<Na.top:=by rw [← HMk.out];exact z5y (z2z HA.out) (z2z HB.out)
  obtain ⟨C1,p1,q1,C2,p2,q2,rfl,how3⟩:=z0bl HG.out ht1.1 ht1.2 hr
  have x0:=how3.p0 (O.length+0) (zk rfl)
  have x1:=how3.p1 (O.length+0) (zk rfl)
  have f0:=how3.pf (O.length+0) (zk rfl) 0
  have f1:=how3.pf (O.length+0) (zk rfl) 1
  have H5:=how3.set0 (O.length+0) (zk rfl) (.slice C1 p1 q1)
  rw [z0n,zqd] at H5;have H6:=H5.set1 (O.length+0) (zk rfl) (.slice C2 p2 q2)
  rw [z0n,zqd] at H6;have s0:=H6.p0 (O.length+0) (zk rfl)
  have s1:=H6.p1 (O.length+0) (zk rfl)
  have HF:=zh (H6.fewM.fewO.less (L':=L++[⟨C1,p1,q1,_⟩]++[⟨C2,p2,q2,_⟩]) (z5aw L _ _ _))
  clear HE HG hr how3 H5 H6 y0 y1 ht1;go_wp2_with fail;refine bodyPost_ret (v:=.tuple #[.agg #[.slice C1 p1 q1,.slice C2 p2 q2],.int .i64 t.2.2]) (by simp [results,Tryz.results65,go_sem,s0,s1]) rfl ?_
  rw [HK.out,HMk.out];exact ⟨C1,p1,q1,C2,p2,q2,rfl,HF.out⟩
theorem z1av (h:Ow w0 w g M L O)(a:Int)(ha:a≤9223372036854775807):Calls Tryz.prog 55 #[.int .i64 a] w (z7f w0 g M L O (ofL a) (ofE a)):=
 (z6m a w ha).mono fun e w' hr=>z5m h (by
  rcases Int.lt_or_le a 0 with h0 | h0
  ·rw [(z5v h0).1];decide
  ·rw [(z2g h0).1];exact z2r (z2z ha)) hr
theorem z0ap (h:Ow w0 w g M L O)(a b:Int)(ha:a≤9223372036854775807)(hb:b≤9223372036854775807):
  Calls Tryz.prog 31 #[.int .i64 a,.int .i64 b] w (z8k w0 g M L O (ofF a b)):=by
 have H0:=h.pair (.slice none 0 0) (.slice none 0 0) 27
 have HC:=zh (z1av H0 a ha)
 have HB:=zh hb;have HA:=zh ha;obtain ⟨l1,h1⟩:∃ l,ofL a=l:=⟨_,rfl⟩
 obtain ⟨e1,he1⟩:∃ l,ofE a=l:=⟨_,rfl⟩
 obtain ⟨l2,h2⟩:∃ l,ofL b=l:=⟨_,rfl⟩
 obtain ⟨e2,he2⟩:∃ l,ofE b=l:=⟨_,rfl⟩
 rw [h1,he1] at HC;have HL:=zh (And.intro h1 (And.intro h2 he2))
 have key:((e1 != 0)=true∧ofF a b=frE 2)∨((e1 != 0)=false∧(e2 != 0)=true∧ofF a b=frE 2)∨((e1 != 0)=false∧(e2 != 0)=false∧0≤a∧0≤b∧ofF a b=frM a.toNat b.toNat):=by
  unfold ofF;rcases Int.lt_or_le a 0 with h0 | h0
  ·exact .inl ⟨by rw [← he1,(z5v h0).2];rfl,if_pos (.inl h0)⟩
  ·rcases Int.lt_or_le b 0 with h3 | h3
   ·exact .inr (.inl ⟨by rw [← he1,(z2g h0).2];rfl,by rw [← he2,(z5v h3).2];rfl,if_pos (.inr h3)⟩)
   ·exact .inr (.inr ⟨by rw [← he1,(z2g h0).2];rfl,by rw [← he2,(z2g h3).2];rfl,h0,h3,if_neg (by omega)⟩)
 clear h H0 ha hb h1 he1 h2 he2;go_enter Tryz.func31,Tryz.ntmps31
 go_wp2_with fail;refine HC.out.mono ?_;rintro e w1 ⟨B1,m1,d1,rfl,H1⟩;have H2:=H1.boxed (.slice B1 m1 d1) 25
 have HD:=zh (z1av H2 b HB.out)
 rw [HL.out.2.1,HL.out.2.2] at HD;clear HC H1 H2;rcases key with ⟨k1,k2⟩ | ⟨k1,k2,k3⟩ | ⟨k1,k2,ka,kb,k3⟩
 ·have HK:=zh k2;clear k2;go_wp2_with fail;refine HD.out.mono ?_;rintro e w2 ⟨B2,m2,d2,rfl,H3⟩;have H4:=H3.boxed (.slice B2 m2 d2) 25
  simp only [zqa,zqb,zqc] at H4;have x0:=H4.p0 (O.length+0) (zk rfl)
  have x1:=H4.p1 (O.length+0) (zk rfl)
  have f0:=H4.pf (O.length+0) (zk rfl) 0
  have f1:=H4.pf (O.length+0) (zk rfl) 1
  have H5:=H4.set0 (O.length+0) (zk rfl) (.slice none 0 0)
  rw [z0n,zqd] at H5;have H6:=H5.set1 (O.length+0) (zk rfl) (.slice none 0 0)
  rw [z0n,zqd] at H6;have s0:=H6.p0 (O.length+0) (zk rfl)
  have s1:=H6.p1 (O.length+0) (zk rfl)
  have HF:=zh (H6.fewM.fewO.less (L':=L) (fun o ho=>List.mem_append_left _ ho))
  clear HD H3 H4 H5 H6;go_wp2_with fail;refine bodyPost_ret (v:=.tuple #[.agg #[.slice none 0 0,.slice none 0 0],.int .i64 2]) (by simp [results,Tryz.results31,go_sem,s0,s1]) rfl ?_
  rw [HK.out];exact z2j HF.out 2
 ·have HK:=zh k3;clear k3;go_wp2_with fail;refine HD.out.mono ?_;rintro e w2 ⟨B2,m2,d2,rfl,H3⟩;have H4:=H3.boxed (.slice B2 m2 d2) 25
  simp only [zqa,zqb,zqc] at H4;have x0:=H4.p0 (O.length+0) (zk rfl)
  have x1:=H4.p1 (O.length+0) (zk rfl)
  have f0:=H4.pf (O.length+0) (zk rfl) 0
  have f1:=H4.pf (O.length+0) (zk rfl) 1
  have H5:=H4.set0 (O.length+0) (zk rfl) (.slice none 0 0)
  rw [z0n,zqd] at H5;have H6:=H5.set1 (O.length+0) (zk rfl) (.slice none 0 0)
  rw [z0n,zqd] at H6;have s0:=H6.p0 (O.length+0) (zk rfl)
  have s1:=H6.p1 (O.length+0) (zk rfl)
  have HF:=zh (H6.fewM.fewO.less (L':=L) (fun o ho=>List.mem_append_left _ ho))
  clear HD H3 H4 H5 H6;go_wp2_with fail;refine bodyPost_ret (v:=.tuple #[.agg #[.slice none 0 0,.slice none 0 0],.int .i64 2]) (by simp [results,Tryz.results31,go_sem,s0,s1]) rfl ?_
  rw [HK.out];exact z2j HF.out 2
 ·have HK:=zh k3;have HX:=zh (And.intro ka kb)
  obtain ⟨t,hmk⟩:∃ t,frM a.toNat b.toNat=t:=⟨_,rfl⟩
  have HMk:=zh hmk;clear k3 ka kb hmk;go_wp2_with fail;refine HD.out.mono ?_;rintro e w2 ⟨B2,m2,d2,rfl,H3⟩;have H4:=H3.boxed (.slice B2 m2 d2) 25
  simp only [zqa,zqb,zqc] at H4;rw [← HL.out.1,← HL.out.2.1,(z2g HX.out.1).1,(z2g HX.out.2).1] at H4
  have y0:=H4.cell (M.length+0) (zk rfl)
  have y1:=H4.cell (M.length+1) (zk rfl)
  have HE:=zh (z1ax H4 (L.length+0) (L.length+1) (zk rfl) (zk rfl) (z2z HA.out) (z2z HB.out))
  rw [HMk.out] at HE;have HG:=zh H4;clear HD H3 H4;go_wp2_with fail;refine HE.out.mono ?_;intro e w3 hr;have ht1:t.1<Na.top∧t.2.1<Na.top:=by rw [← HMk.out];exact z5y (z2z HA.out) (z2z HB.out)
  obtain ⟨C1,p1,q1,C2,p2,q2,rfl,how3⟩:=z0bl HG.out ht1.1 ht1.2 hr
  have x0:=how3.p0 (O.length+0) (zk rfl)
  have x1:=how3.p1 (O.length+0) (zk rfl)
  have f0:=how3.pf (O.length+0) (zk rfl) 0
  have f1:=how3.pf (O.length+0) (zk rfl) 1
  have H5:=how3.set0 (O.length+0) (zk rfl) (.slice C1 p1 q1)
  rw [z0n,zqd] at H5;have H6:=H5.set1 (O.length+0) (zk rfl) (.slice C2 p2 q2)
  rw [z0n,zqd] at H6;have s0:=H6.p0 (O.length+0) (zk rfl)
  have s1:=H6.p1 (O.length+0) (zk rfl)
  have HF:=zh (H6.fewM.fewO.less (L':=L++[⟨C1,p1,q1,_⟩]++[⟨C2,p2,q2,_⟩]) (z5aw L _ _ _))
  clear HE HG hr how3 H5 H6 y0 y1 ht1;go_wp2_with fail;refine bodyPost_ret (v:=.tuple #[.agg #[.slice C1 p1 q1,.slice C2 p2 q2],.int .i64 t.2.2]) (by simp [results,Tryz.results31,go_sem,s0,s1]) rfl ?_
  rw [HK.out,HMk.out];exact ⟨C1,p1,q1,C2,p2,q2,rfl,HF.out⟩
end
theorem z4br {W:World}{a:Addr}{v:Value}(h:W.cell? a=some v):a.block<W.heap.size:=by
 rcases zqi a.block W.heap.size with h1 | h1
 ·exact h1
 ·have h2:W.heap[a.block]?=none:=Array.getElem?_eq_none h1
  simp [World.cell?,h2] at h
theorem z6as (A:Option Addr)(n c:Nat)(w:World)(h:n≤400):Calls Tryz.prog 8 #[.slice A n c] w fun e w'=>e=.returned (.bool true)∧w=w':=by
 have:=z9o A n c w (by omega)
 rwa [zt (show (n:Int)≤400 by omega)] at this
theorem z0bh (A:Option Addr)(n c:Nat)(w:World)(h:400<n)(hl:n≤9223372036854775807):Calls Tryz.prog 8 #[.slice A n c] w fun e w'=>e=.returned (.bool false)∧w=w':=by
 have:=z9o A n c w hl
 rwa [zn (show ¬ (n:Int)≤400 by omega)] at this
section
variable {w0 w w':World}{g:Nat}{M:List (Nat×Value)}{L:List Ob}
theorem St.made (h:St w0 w (some g) M L){A:Option Addr}{n c:Nat}{vs:List Value}{e:TypeId}(ho:w'.ownsRow w.heap.size e 1 (.slice A n c) n vs)(hg:w.grownBy w' (some g))(hl:n≤1000):St w0 w' (some g) M (L++[⟨A,n,c,vs⟩]):=by
 refine (h.roll hg).add (Sl.of_own ho) (zqj _) (z1j ho) (z1k ho).1 hl fun ad e h0=>?_
 obtain ⟨g',hg',h1,_⟩:=z0u ho h0
 rw [e] at hg';obtain rfl:=zqk hg'
 exact ⟨fun e2=>by have:=(h.lt _ rfl).1;have e3:=zqk e2;simp only at e3;omega,fun i b v hi e2=>by have:=(h.box i b v hi).1;simp only at e2;omega⟩
end
theorem St.drew {w0 w:World}{g:Option Nat}{M:List (Nat×Value)}{L:List Ob}(h:St w0 w g M L):St w0 w.drew g M L:=h.go (Below.refl _ _).drew
structure Lay (k:Nat)(c a s:Nat→Nat):Prop where
 cc:∀ i j,i<k→j<k→c i=c j→i=j
 aa:∀ i j,i<k→j<k→a i=a j→i=j
 ss:∀ i j,i<k→j<k→s i=s j→i=j
 ca:∀ i j,i<k→j<k→c i≠a j
 cs:∀ i j,i<k→j<k→c i≠s j
 sa:∀ i j,i<k→j<k→a i≠s j
def GotV (P:Nat→Nat→Prop)(i:Nat)(r:Value)(Ls:List Ob):Prop:=∃ (A:Option Addr) (n c x:Nat),r=.agg #[.slice A n c]∧(⟨A,n,c,z0c (Na.dig x)⟩:Ob)∈Ls∧P i x
theorem z7d {L:Nat→Bool}{j:Nat}:z2v L j j=true:=if_pos rfl
theorem z0q {L:Nat→Bool}{i j:Nat}(h:i≠j):z2v L j i=L i:=if_neg h
structure VInv (w0:World)(g B k:Nat)(c a s:Nat→Nat)(P:Nat→Nat→Prop)(L:Nat→Bool)(res ptr:List Value)(W:World)(M:List (Nat×Value))(Ls:List Ob):Prop where
 st:St w0 W (some g) M Ls
 dice:Dice W g B
 low:B≤w0.heap.size
 rk:res.length=k
 pk:ptr.length=k
 got:∀ i r,res[i]?=some r→L (c i)=true→GotV P i r Ls
 var:∀ i p r,ptr[i]?=some p→res[i]?=some r→L (a i)=true→∃ b v,p=.pointer (some ⟨b,0,none⟩)∧(b,v)∈M∧(L (s i)=false→v=.slice none 0 0)∧(L (s i)=true→r=.agg #[v])
 ne:∀ i j p,i≠j→ptr[i]?=some p→ptr[j]?=some p→L (a i)=true→L (a j)=true→False
 ord:∀ i,i<k→L (s i)=true→L (c i)=true∧L (a i)=true
section
variable {w0 W W':World}{g B k:Nat}{c a s:Nat→Nat}{P:Nat→Nat→Prop}{L:Nat→Bool}{res ptr:List Value}{M:List (Nat×Value)}{Ls:List Ob}
theorem VInv.other (h:VInv w0 g B k c a s P L res ptr W M Ls)(j:Nat)(hc:∀ i,i<k→c i≠j)(ha:∀ i,i<k→a i≠j)(hs:∀ i,i<k→s i≠j):VInv w0 g B k c a s P (z2v L j) res ptr W M Ls:=by
 have l1:∀ i r,res[i]?=some r→i<k:=fun i r hr=>by have:=z0f hr;rw [h.rk] at this;exact this
 have l2:∀ i r,ptr[i]?=some r→i<k:=fun i r hr=>by have:=z0f hr;rw [h.pk] at this;exact this
 refine ⟨h.st,h.dice,h.low,h.rk,h.pk,fun i r hr hl=>?_,fun i p r hp hr hl=>?_,fun i i' p hne hp hp' hl hl'=>?_,fun i hi hl=>?_⟩
 ·rw [z0q (hc i (l1 i r hr))] at hl;exact h.got i r hr hl
 ·rw [z0q (ha i (l1 i r hr))] at hl
  rw [z0q (hs i (l1 i r hr))]
  exact h.var i p r hp hr hl
 ·rw [z0q (ha i (l2 i p hp))] at hl
  rw [z0q (ha i' (l2 i' p hp'))] at hl'
  exact h.ne i i' p hne hp hp' hl hl'
 ·rw [z0q (hs i hi)] at hl
  rw [z0q (hc i hi),z0q (ha i hi)]
  exact h.ord i hi hl
theorem VInv.call (h:VInv w0 g B k c a s P L res ptr W M Ls)(hl:Lay k c a s)(i:Nat)(hi:i<k)(hf:L (c i)=false){A:Option Addr}{n cc x:Nat}(hn:(Na.dig x).length=n)(hx:P i x)(h1:n≤1000)
  (ho:W'.ownsRow W.heap.size 3 1 (.slice A n cc) n (z0c (Na.dig x))) (hd:Dice W' g B) (hg:W.grownBy W' (some g)) :
  VInv w0 g B k c a s P (z2v L (c i)) (res.set i (.agg #[.slice A n cc])) ptr W' M (Ls++[⟨A,n,cc,z0c (Na.dig x)⟩]):=by
 have l1:∀ i r,res[i]?=some r→i<k:=fun i r hr=>by have:=z0f hr;rw [h.rk] at this;exact this
 have l2:∀ i r,ptr[i]?=some r→i<k:=fun i r hr=>by have:=z0f hr;rw [h.pk] at this;exact this
 refine ⟨h.st.made ho hg h1,hd,h.low,by rw [List.length_set];exact h.rk,h.pk,fun j r hr hl'=>?_,fun j p r hp hr hl'=>?_,fun j j' p hne hp hp' hl1 hl2=>?_,fun j hj hl'=>?_⟩
 ·by_cases e:j=i
  ·subst e
   rw [List.getElem?_set_self (by rw [h.rk];exact hi)] at hr
   obtain rfl:=zqk hr
   exact ⟨A,n,cc,x,rfl,List.mem_append_right _ List.mem_cons_self,hx⟩
  ·rw [zqf (fun e'=>e e'.symm)] at hr
   rw [z0q (fun e'=>e (hl.cc _ _ (l1 _ _ hr) hi e'))] at hl'
   obtain ⟨A',n',c',x',k1,k2,k3⟩:=h.got j r hr hl'
   exact ⟨A',n',c',x',k1,List.mem_append_left _ k2,k3⟩
 ·have hjk:=l2 j p hp
  rw [z0q (fun e'=>hl.ca _ _ hi hjk e'.symm)] at hl'
  rw [z0q (fun e'=>hl.cs _ _ hi hjk e'.symm)]
  by_cases e:j=i
  ·subst e
   have hres:j<res.length:=by rw [h.rk];exact hi
   obtain ⟨b,v,k1,k2,k3,k4⟩:=h.var j p res[j] hp (zql hres) hl'
   refine ⟨b,v,k1,k2,k3,fun e2=>?_⟩
   have:=(h.ord j hi e2).1
   rw [hf] at this;cases this
  ·rw [zqf (fun e'=>e e'.symm)] at hr
   exact h.var j p r hp hr hl'
 ·rw [z0q (fun e'=>hl.ca _ _ hi (l2 _ _ hp) e'.symm)] at hl1
  rw [z0q (fun e'=>hl.ca _ _ hi (l2 _ _ hp') e'.symm)] at hl2
  exact h.ne j j' p hne hp hp' hl1 hl2
 ·rw [z0q (fun e'=>hl.cs _ _ hi hj e'.symm)] at hl'
  rw [z0q (i:=a j) (fun e'=>hl.ca _ _ hi hj e'.symm)]
  by_cases e:j=i
  ·subst e;exact ⟨z7d,(h.ord j hj hl').2⟩
  ·rw [z0q (fun e'=>e (hl.cc _ _ hj hi e'))];exact h.ord j hj hl'
theorem VInv.alloc (h:VInv w0 g B k c a s P L res ptr W M Ls)(hl:Lay k c a s)(i:Nat)(hi:i<k)(hf:L (a i)=false)(hs0:L (s i)=false)(t:TypeId):
  VInv w0 g B k c a s P (z2v L (a i)) res (ptr.set i (.pointer (some ⟨W.heap.size,0,none⟩))) (W.alloc (.cells #[.slice none 0 0] t)) (M++[(W.heap.size,.slice none 0 0)]) Ls:=by
 have l1:∀ i r,res[i]?=some r→i<k:=fun i r hr=>by have:=z0f hr;rw [h.rk] at this;exact this
 have l2:∀ i r,ptr[i]?=some r→i<k:=fun i r hr=>by have:=z0f hr;rw [h.pk] at this;exact this
 refine ⟨h.st.boxed _ _,h.dice.grown (row:=none) (World.grownBy_alloc W _ none) (fun _ e=>by cases e),h.low,h.rk,by rw [List.length_set];exact h.pk,fun j r hr hl'=>?_,fun j p r hp hr hl'=>?_,fun j j' p hne hp hp' hl1 hl2=>?_,fun j hj hl'=>?_⟩
 ·rw [z0q (hl.ca _ _ (l1 _ _ hr) hi)] at hl'
  exact h.got j r hr hl'
 ·have hjk:=l1 j r hr
  rw [z0q (fun e'=>hl.sa _ _ hi hjk e'.symm)]
  by_cases e:j=i
  ·subst e
   rw [List.getElem?_set_self (by rw [h.pk];exact hi)] at hp
   obtain rfl:=zqk hp
   exact ⟨_,_,rfl,List.mem_append_right _ List.mem_cons_self,fun _=>rfl,fun e2=>by rw [hs0] at e2;cases e2⟩
  ·rw [zqf (fun e'=>e e'.symm)] at hp
   rw [z0q (fun e'=>e (hl.aa _ _ hjk hi e'))] at hl'
   obtain ⟨b,v,k1,k2,k3,k4⟩:=h.var j p r hp hr hl'
   exact ⟨b,v,k1,List.mem_append_left _ k2,k3,k4⟩
 ·have key:∀ (j:Nat) (p:Value),ptr[j]?=some p→L (a j)=true→p≠.pointer (some ⟨W.heap.size,0,none⟩):=fun j p hp hlj e=>by
   have hres:j<res.length:=by rw [h.rk];exact l2 j p hp
   obtain ⟨b,v,k1,k2,_⟩:=h.var j p res[j] hp (zql hres) hlj
   have:=(h.st.var k2).2.1
   rw [k1] at e;injection e with e
   injection e with e
   injection e with e
   omega
  by_cases e:j=i <;> by_cases e':j'=i
  ·omega
  ·subst e
   rw [List.getElem?_set_self (by rw [h.pk];exact hi)] at hp
   obtain rfl:=zqk hp
   rw [zqf (fun e2=>e' e2.symm)] at hp'
   rw [z0q (fun e2=>e' (hl.aa _ _ (l2 _ _ hp') hi e2))] at hl2
   exact key j' _ hp' hl2 rfl
  ·subst e'
   rw [List.getElem?_set_self (by rw [h.pk];exact hi)] at hp'
   obtain rfl:=zqk hp'
   rw [zqf (fun e2=>e e2.symm)] at hp
   rw [z0q (fun e2=>e (hl.aa _ _ (l2 _ _ hp) hi e2))] at hl1
   exact key j _ hp hl1 rfl
  ·rw [zqf (fun e2=>e e2.symm)] at hp
   rw [zqf (fun e2=>e' e2.symm)] at hp'
   rw [z0q (fun e2=>e (hl.aa _ _ (l2 _ _ hp) hi e2))] at hl1
   rw [z0q (fun e2=>e' (hl.aa _ _ (l2 _ _ hp') hi e2))] at hl2
   exact h.ne j j' p hne hp hp' hl1 hl2
 ·rw [z0q (fun e'=>hl.sa _ _ hi hj e'.symm)] at hl'
  rw [z0q (hl.ca _ _ hj hi)]
  by_cases e:j=i
  ·subst e;exact ⟨(h.ord j hj hl').1,z7d⟩
  ·rw [z0q (fun e'=>e (hl.aa _ _ hj hi e'))];exact h.ord j hj hl'
theorem VInv.store (h:VInv w0 g B k c a s P L res ptr W M Ls)(hl:Lay k c a s)(i:Nat)(hi:i<k)(hf:L (s i)=false)(hc:L (c i)=true)(ha:L (a i)=true){r p:Value}(hr:res[i]?=some r)(hp:ptr[i]?=some p):
  ∃ b A n cc x,p=.pointer (some ⟨b,0,none⟩)∧r=.agg #[.slice A n cc]∧P i x∧W.cell? ⟨b,0,none⟩=some (.slice none 0 0)∧W.frozen? ⟨b,0,none⟩=false∧
   VInv w0 g B k c a s P (z2v L (s i)) res ptr (W.setCell ⟨b,0,none⟩ (.slice A n cc)) (putV M b (.slice A n cc)) Ls:=by
 have l1:∀ i r,res[i]?=some r→i<k:=fun i r hr=>by have:=z0f hr;rw [h.rk] at this;exact this
 have l2:∀ i r,ptr[i]?=some r→i<k:=fun i r hr=>by have:=z0f hr;rw [h.pk] at this;exact this
 obtain ⟨b,v,rfl,hm,hv,_⟩:=h.var i p r hp hr ha
 obtain rfl:=hv hf
 obtain ⟨A,n,cc,x,rfl,hob,hx⟩:=h.got i r hr hc
 obtain ⟨v1,v2,v3,v4,v5⟩:=h.st.var hm
 have hgb:g≠b:=fun e=>v5 (by rw [e])
 refine ⟨b,A,n,cc,x,rfl,rfl,hx,v3,v4,h.st.putM hm _,?_,h.low,h.rk,h.pk,fun j r hr' hl'=>?_,fun j p' r' hp' hr' hl'=>?_,fun j j' p hne hp hp' hl1 hl2=>?_,fun j hj hl'=>?_⟩
 ·obtain ⟨A',n',c',at_,ts,hh,q1,q2,q3,q4,q5⟩:=h.dice;have hlow:=h.low;exact ⟨A',n',c',at_,ts,(Below.heap_setCell _ _ _ _ (fun e=>hgb e)).trans hh,q1,q2,q3,q4.keep (fun p hp=>World.cell?_of_block (Below.heap_setCell _ _ _ _ (fun e=>by simp only at e;omega))),q5⟩
 ·rw [z0q (hl.cs _ _ (l1 _ _ hr') hi)] at hl'
  exact h.got j r hr' hl'
 ·have hjk:=l1 j r' hr'
  rw [z0q (hl.sa _ _ hjk hi)] at hl'
  by_cases e:j=i
  ·subst e
   rw [hp] at hp';rw [hr] at hr';obtain rfl:=zqk hp'
   obtain rfl:=zqk hr'
   refine ⟨b,.slice A n cc,rfl,z8b hm,fun e2=>?_,fun _=>rfl⟩
   rw [z7d] at e2;cases e2
  ·obtain ⟨b',v',rfl,k2,k3,k4⟩:=h.var j p' r' hp' hr' hl'
   rw [z0q (fun e'=>e (hl.ss _ _ hjk hi e'))]
   refine ⟨b',v',rfl,z7g k2 (fun e2=>?_),k3,k4⟩
   subst e2
   exact h.ne j i _ e hp' hp hl' ha
 ·rw [z0q (hl.sa _ _ (l2 _ _ hp) hi)] at hl1
  rw [z0q (hl.sa _ _ (l2 _ _ hp') hi)] at hl2
  exact h.ne j j' p hne hp hp' hl1 hl2
 ·by_cases e:j=i
  ·subst e
   rw [z0q (hl.cs _ _ hj hi),z0q (hl.sa _ _ hj hi)]
   exact ⟨hc,ha⟩
  ·rw [z0q (fun e'=>e (hl.ss _ _ hj hi e'))] at hl'
   rw [z0q (hl.cs _ _ hj hi),z0q (hl.sa _ _ hj hi)]
   exact h.ord j hj hl'
theorem VInv.start (hs:St w0 W (some g) [] [])(hd:Dice W g B)(hB:B≤w0.heap.size)(hr:res.length=k)(hp:ptr.length=k):VInv w0 g B k c a s P (fun _=>false) res ptr W [] []:=
 ⟨hs,hd,hB,hr,hp,fun _ _ _ h=>(by cases h),fun _ _ _ _ _ h=>(by cases h),fun _ _ _ _ _ _ h=>(by cases h),fun _ _ h=>(by cases h)⟩
end
theorem z8v (A:Option Addr)(n c B:Nat)(ts:List Int)(w:World)(hn:ts.length=n)(hl:n≤140737488355328)(hs:Sl w B A (z0r ts))(hB:B≤w.heap.size):
  Calls Tryz.prog 10 #[.slice A n c] w fun e w'=>e=.returned (.pointer (some ⟨w.heap.size,0,none⟩))∧Dice w' w.heap.size B∧w'.heap.size=w.heap.size+1∧Below w.heap.size w w':=by
 have HD:Hid (Dice (w.alloc (.cells #[.slice A n c,.int .i64 0] 67)) w.heap.size B):=
  ⟨A,n,c,0,ts,heap_alloc_new w _,hn,zqr _,hl,hs.below ((Below.refl _ _).alloc hB _),hB⟩
 clear hn hs;go_enter Tryz.func10,Tryz.ntmps10
 go_wp2_with fail;go_ret;exact ⟨rfl,HD.out,by simp,(Below.refl _ _).alloc (zqj _) _⟩
theorem z2bx {w0 w:World}{M:List (Nat×Value)}{L:List Ob}(h:St w0 w none M L)(A:Option Addr)(n c B:Nat)(ts:List Int)(hn:ts.length=n)(hl:n≤140737488355328)(hB:B≤w0.heap.size)(hs:Sl w B A (z0r ts)):
  Calls Tryz.prog 10 #[.slice A n c] w fun e w'=>∃ g,e=.returned (.pointer (some ⟨g,0,none⟩))∧Dice w' g B∧St w0 w' (some g) M L:=by
 refine (z8v A n c B ts w hn hl hs (zqq hB h.size)).mono ?_
 rintro e w' ⟨he,hd,hz,hb⟩;have h':=h.go hb
 refine ⟨_,he,hd,⟨h'.below,fun x e=>by cases e;exact ⟨by omega,h.size⟩,fun i b v hi=>?_,h'.one,fun o ho=>?_⟩⟩
 ·obtain ⟨h1,h2,h3,h4,_⟩:=h'.box i b v hi
  exact ⟨h1,h2,h3,h4,fun e=>by cases e;have:=(h.box i _ v hi).1;omega⟩
 ·obtain ⟨h1,h2,h3,B,hB,hs2,hne⟩:=h.held o ho
  refine ⟨h1,h2,h3,B,zqq hB hb.size,hs2.below (hb.mono hB),fun ad e h0=>⟨fun e2=>?_,(hne ad e h0).2⟩⟩
  obtain ⟨ad',e',hbk,_⟩:=hs2 (by omega)
  rw [e] at e';obtain rfl:=zqk e'
  have:=zqk e2
  omega
theorem z6be {W W':World}{b o g:Nat}{u:Value}(h0:W.cell? ⟨b,o,none⟩=some u)(hne:b≠g)(hg:W.grownBy W' (some g)):W'.cell? ⟨b,o,none⟩=some u:=by
 have h2:=hg.block b (z4br h0) (fun e=>hne (zqk e))
 exact (World.cell?_of_block (a:=⟨b,o,none⟩) h2).trans h0
structure NK (w:World)(g B rb vb base:Nat)(v:Value)(W:World):Prop where
 dice:Dice W g B
 cr:W.cell? ⟨rb,0,none⟩=some (.slice none 0 0)
 fr:W.frozen? ⟨rb,0,none⟩=false
 cv:W.cell? ⟨vb,0,none⟩=some v
 fv:W.frozen? ⟨vb,0,none⟩=false
 gr:w.grownBy W (some g)
 sz:base≤W.heap.size
 gw:g<w.heap.size
 hr:rb=w.heap.size
 hv:vb=w.heap.size+1
 hb:base=w.heap.size+2
def OwnV (W:World)(base:Nat)(v:Value)(o:List Nat):Prop:=∃ (A:Option Addr) (c:Nat),v=.slice A o.length c∧W.ownsRow base 3 1 (.slice A o.length c) o.length (z0c o)
def Cel (W:World)(g b k x:Nat):Prop:=b≠g∧W.cell? ⟨b,k,none⟩=some (.int .i64 (x:Int))∧x<16777216
section
variable {w W W':World}{g B rb vb base:Nat}{v:Value}{o:List Nat}
theorem Cel.grown {b k x:Nat}(h:Cel W g b k x)(hg:W.grownBy W' (some g)):Cel W' g b k x:=⟨h.1,z6be h.2.1 h.1 hg,h.2.2⟩
theorem Cel.alloc {b k x:Nat}(h:Cel W g b k x)(ob:Obj):Cel (W.alloc ob) g b k x:=h.grown (World.grownBy_alloc W ob _)
theorem NK.call (h:NK w g B rb vb base v W)(hd:Dice W' g B)(hg:W.grownBy W' (some g)):NK w g B rb vb base v W':=by
 have h1:=h.sz;have h2:=h.gw;have h3:=h.hr;have h4:=h.hv;have h5:=h.hb
 have k1:=hg.block rb (by omega) (fun e=>by cases e;omega)
 have k2:=hg.block vb (by omega) (fun e=>by cases e;omega)
 exact ⟨hd,(World.cell?_of_block (a:=⟨rb,0,none⟩) k1).trans h.cr,(World.frozen?_of_block (a:=⟨rb,0,none⟩) k1).trans h.fr,(World.cell?_of_block (a:=⟨vb,0,none⟩) k2).trans h.cv,(World.frozen?_of_block (a:=⟨vb,0,none⟩) k2).trans h.fv,z0j h.gr hg,zqq h1 hg.size,h2,h3,h4,h5⟩
theorem NK.high (h:NK w g B rb vb base v W){row:Option Nat}(hg:W.grownBy W' row)(hrow:∀ r,row=some r→base≤r):NK w g B rb vb base v W':=by
 have h1:=h.sz;have h2:=h.gw;have h3:=h.hr;have h4:=h.hv;have h5:=h.hb
 have k1:=hg.block rb (by omega) (fun e=>by have:=hrow _ e.symm;omega)
 have k2:=hg.block vb (by omega) (fun e=>by have:=hrow _ e.symm;omega)
 exact ⟨h.dice.grown hg (fun r e=>by have:=hrow r e;omega),(World.cell?_of_block (a:=⟨rb,0,none⟩) k1).trans h.cr,(World.frozen?_of_block (a:=⟨rb,0,none⟩) k1).trans h.fr,(World.cell?_of_block (a:=⟨vb,0,none⟩) k2).trans h.cv,(World.frozen?_of_block (a:=⟨vb,0,none⟩) k2).trans h.fv,z0p h.gr hg (fun r e=>by have:=hrow r e;omega),zqq h1 hg.size,h2,h3,h4,h5⟩
theorem NK.alloc (h:NK w g B rb vb base v W)(ob:Obj):NK w g B rb vb base v (W.alloc ob):=h.high (row:=none) (World.grownBy_alloc W ob none) (fun _ e=>by cases e)
theorem NK.drew (h:NK w g B rb vb base v W):NK w g B rb vb base v W.drew:=⟨h.dice,h.cr,h.fr,h.cv,h.fv,z1v h.gr,h.sz,h.gw,h.hr,h.hv,h.hb⟩
theorem NK.put (h:NK w g B rb vb base v W)(u:Value):NK w g B rb vb base u (W.setCell ⟨vb,0,none⟩ u):=by
 have h1:=h.sz;have h2:=h.gw;have h3:=h.hr;have h4:=h.hv;have h5:=h.hb
 have hg:=z0d W ⟨vb,0,none⟩ u
 have k1:=hg.block rb (by omega) (fun e=>by have:=zqk e;simp only at this;omega)
 exact ⟨h.dice.grown hg (fun r e=>by cases e;simp only;omega),(World.cell?_of_block (a:=⟨rb,0,none⟩) k1).trans h.cr,(World.frozen?_of_block (a:=⟨rb,0,none⟩) k1).trans h.fr,z0l _ h.cv,by rw [World.frozen?_setCell];exact h.fv,z0p h.gr hg (fun r e=>by cases e;simp only;omega),zqq h1 hg.size,h2,h3,h4,h5⟩
theorem OwnV.call (h:OwnV W base v o)(hg:W.grownBy W' (some g))(hb:g<base):OwnV W' base v o:=by
 obtain ⟨A,c,rfl,ho⟩:=h;exact ⟨A,c,rfl,z9e ho hg hb⟩
theorem OwnV.alloc (h:OwnV W base v o)(ob:Obj):OwnV (W.alloc ob) base v o:=by
 obtain ⟨A,c,rfl,ho⟩:=h;exact ⟨A,c,rfl,z0w ho ob⟩
theorem OwnV.drew (h:OwnV W base v o):OwnV W.drew base v o:=h
theorem OwnV.put (h:OwnV W base v o)(a:Addr)(u:Value)(ha:a.block<base):OwnV (W.setCell a u) base v o:=by
 obtain ⟨A,c,rfl,ho⟩:=h;exact ⟨A,c,rfl,z2e ho a u ha⟩
end
namespace Na
set_option maxHeartbeats 8000000
def cv (m i:Int):Nat:=if i<0∨m<i then 0 else bin m.toNat i.toNat
theorem two_top (m:Nat)(h:m≤40):2 ^ m<top:=by
 refine z4aq (m:=2) ?_ (by omega)
 have:(2:Nat) ^ m≤2 ^ 40:=Nat.pow_le_pow_right (by omega) h
 omega
end Na
section
variable {w0 w:World}{g:Option Nat}{M:List (Nat×Value)}{L:List Ob}{A:Option Addr}{n c x m:Nat}
theorem St.zero (h:St w0 w g M L):St w0 w g M (L++[⟨none,0,0,z0c (Na.dig 0)⟩]):=
 h.add (B:=0) (by rw [Na.dig_zero];exact Sl.nil _ _ _) (zqr _) (by rw [Na.dig_zero];rfl) (zqj _) (by omega) (fun ad e=>by cases e)
end
namespace Na
set_option maxHeartbeats 8000000
theorem pow_top {x:Nat}(hx:x<16777216 ^ 2)(j:Nat)(h:j≤90):x ^ j<top:=by
 have e1:x ^ j≤(16777216 ^ 2) ^ j:=Nat.pow_le_pow_left (Nat.le_of_lt hx) j
 rw [← Nat.pow_mul] at e1;have e2:16777216 ^ (2*j)<top:=by unfold top;exact Nat.pow_lt_pow_right (by omega) (by omega)
 omega
end Na
section
variable {w0 w w':World}{g B:Nat}{M:List (Nat×Value)}{L:List Ob}{O:List Rw}{A:Option Addr}{n c:Nat}
theorem Ow.roll (h:Ow w0 w (some g) M L O)(hg:w.grownBy w' (some g)):Ow w0 w' (some g) M L O:=by
 refine ⟨h.st.roll hg,fun i r hi=>z2c (h.own i r hi) hg ?_,h.ap,h.two⟩
 by_cases e:(Value.slice r.A r.n r.c).ownBlock=none
 ·exact .inl e
 ·exact .inr fun e2=>(h.ap i r hi g e2).1 rfl
theorem z1c (h:Ow w0 w (some g) M L O)(hd:Dice w g B)(m:Nat)(hm:0<m)(hm2:m≤9223372036854775807):
  Calls Tryz.prog 32 #[.pointer (some ⟨g,0,none⟩),.int .i64 (m:Int)] w fun e w'=>∃ r:Nat,e=.returned (.int .i64 (r:Int))∧r<m∧Dice w' g B∧Ow w0 w' (some g) M L O∧w.grownBy w' (some g):=
 (z0ba g B m w (by omega) (by omega) hd).mono fun e w' ⟨r,he,h0,h1,hd',hg⟩=>⟨r.toNat,by rw [he];congr 2;omega,by omega,hd',h.roll hg,hg⟩
theorem Dice.turned (hd:Dice w g B)(hB:B≤w0.heap.size)(h:Ow w0 w (some g) M L O){i:Nat}{r:Rw}(hi:O[i]?=some r)(hg:w.grownBy w' r.blk):Dice w' g B:=by
 have hlt:=hd.lt;obtain ⟨A,n,c,at_,ts,hh,h1,h2,h3,hs,hBg⟩:=hd;refine ⟨A,n,c,at_,ts,(hg.block g hlt (fun e=>(h.ap i r hi g e.symm).1 rfl)).trans hh,h1,h2,h3,hs.keep fun p hp=>World.cell?_of_block (hg.block p.block (by omega) (fun e=>?_)),hBg⟩
 have:=(h.lt hi e.symm).2
 omega
theorem Dice.set (hd:Dice w g B)(hB:B≤w0.heap.size)(h:Ow w0 w (some g) M L O){i b:Nat}{v:Value}(hi:M[i]?=some (b,v))(u:Value):Dice (w.setCell ⟨b,0,none⟩ u) g B:=by
 have hlt:=hd.lt;have hg:=z0d w ⟨b,0,none⟩ u
 obtain ⟨h1,h2,h3,h4,h5⟩:=h.st.box i b v hi
 obtain ⟨A,n,c,at_,ts,hh,k1,k2,k3,hs,hBg⟩:=hd;exact ⟨A,n,c,at_,ts,(hg.block g hlt (fun e=>h5 e)).trans hh,k1,k2,k3,hs.keep fun p hp=>World.cell?_of_block (hg.block p.block (by omega) (fun e=>by have:=zqk e;simp only at this;omega)),hBg⟩
end
section
variable {w0 w w':World}{g B:Nat}{M:List (Nat×Value)}{L:List Ob}{O:List Rw}{A:Option Addr}{n c:Nat}
theorem Ow.rolled (h:Ow w0 w (some g) M L O){e:TypeId}{vs:List Value}(ho:w'.ownsRow w.heap.size e 1 (.slice A n c) n vs)(hg:w.grownBy w' (some g))(hl:n≤1000)(hst:St w0 w' (some g) M (L++[⟨A,n,c,vs⟩])):Ow w0 w' (some g) M (L++[⟨A,n,c,vs⟩]) O:=by
 have h':=h.roll hg
 refine ⟨hst,h'.own,fun i r hi b hb=>?_,h.two⟩
 obtain ⟨a1,a2,a3⟩:=h.ap i r hi b hb
 refine ⟨a1,a2,fun o ho' ad ea h0=>?_⟩
 rcases List.mem_append.1 ho' with h2 | h2
 ·exact a3 o h2 ad ea h0
 ·rw [List.mem_singleton] at h2;subst h2
  have h3:=(h.lt hi hb).1
  have h4:=(ho.lt ad.block (by rw [show A=some ad from ea];rfl)).1
  omega
end
def Frac (Ls:List Ob)(C1:Option Addr)(k1 e1:Nat)(C2:Option Addr)(k2 e2:Nat):Prop:=∃ (t1 t2 x y:Nat),x<16777216 ^ 3∧y<16777216 ^ 3∧0<y∧Nat.gcd x y=1∧Ls[t1]?=some ⟨C1,k1,e1,z0c (Na.dig x)⟩∧Ls[t2]?=some ⟨C2,k2,e2,z0c (Na.dig y)⟩
theorem Frac.more {Ls l:List Ob}{C1:Option Addr}{k1 e1:Nat}{C2:Option Addr}{k2 e2:Nat}(h:Frac Ls C1 k1 e1 C2 k2 e2):Frac (Ls++l) C1 k1 e1 C2 k2 e2:=by
 obtain ⟨t1,t2,x,y,h1,h2,h3,h4,h5,h6⟩:=h;exact ⟨t1,t2,x,y,h1,h2,h3,h4,by rw [zqn (z0f h5)];exact h5,by rw [zqn (z0f h6)];exact h6⟩
structure Sm2K (w0:World)(g B:Nat)(M:List (Nat×Value))(L:List Ob)(O:List Rw)(rb db:Nat)(Ad:Option Addr)(nd cd yd:Nat)(Ld:Nat→Bool)(u0 u1 u2 u3 u4 u5 u6 v u8:Value)(C1:Option Addr)(k1 e1:Nat)(C2:Option Addr)(k2 e2:Nat)(ps:List Rw)(Ls:List Ob)(W:World):Prop where
 ow:Ow w0 W (some g) (M++[(db,.slice Ad nd cd)]) (L++⟨Ad,nd,cd,z0c (Na.dig yd)⟩ :: Ls) (O++Rw.pair rb 27 (.slice none 0 0) (.slice none 0 0) :: ps)
 dc:Dice W g B
 h0:Ld 0=true→u0=.pointer (some ⟨g,0,none⟩)
 h1:Ld 1=true→∃ (t:Nat) (A:Option Addr) (n c x:Nat),u1=.agg #[.slice A n c]∧x<16777216 ^ 3∧Ls[t]?=some ⟨A,n,c,z0c (Na.dig x)⟩
 h2:Ld 2=true→u2=.agg #[.slice Ad nd cd]
 h3:Ld 3=true→u3=.tuple #[.agg #[.slice C1 k1 e1,.slice C2 k2 e2],.int .i64 0]∧Frac Ls C1 k1 e1 C2 k2 e2
 h4:Ld 4=true→u4=.tuple #[.agg #[.slice C1 k1 e1,.slice C2 k2 e2],.int .i64 0]
 h5:Ld 5=true→u5=.agg #[.slice C1 k1 e1,.slice C2 k2 e2]
 h6:Ld 6=true→u6=.int .i64 0
 h7:Ld 7=true→∃ (t b:Nat) (p q:Value),v=.pointer (some ⟨b,0,none⟩)∧ps[t]?=some (Rw.pair b 27 p q)∧(Ld 8=true→p=.slice C1 k1 e1∧q=.slice C2 k2 e2)
section
variable {w0 w w' W W':World}{g B:Nat}{M:List (Nat×Value)}{L:List Ob}{O:List Rw}{rb db:Nat}{Ad:Option Addr}{nd cd yd:Nat}{Ld:Nat→Bool}{u0 u1 u2 u3 u4 u5 u6 v u8:Value}{C1:Option Addr}{k1 e1:Nat}{C2:Option Addr}{k2 e2:Nat}{ps:List Rw}{Ls:List Ob}
theorem Sm2K.c1 (h:Sm2K w0 g B M L O rb db Ad nd cd yd Ld u0 u1 u2 u3 u4 u5 u6 v u8 C1 k1 e1 C2 k2 e2 ps Ls W)(hf:Ld 8=false){A:Option Addr}{n c x:Nat}(hx:x<16777216 ^ 3)(hd:Dice W' g B)(ho:Ow w0 W' (some g) (M++[(db,.slice Ad nd cd)]) (L++⟨Ad,nd,cd,z0c (Na.dig yd)⟩ :: Ls++[⟨A,n,c,z0c (Na.dig x)⟩]) (O++Rw.pair rb 27 (.slice none 0 0) (.slice none 0 0) :: ps)):
  Sm2K w0 g B M L O rb db Ad nd cd yd (z2v Ld 1) u0 (.agg #[.slice A n c]) u2 u3 u4 u5 u6 v u8 C1 k1 e1 C2 k2 e2 ps (Ls++[⟨A,n,c,z0c (Na.dig x)⟩]) W':=
 ⟨by rw [zqa,zqb] at ho;exact ho,hd,h.h0,fun _=>⟨Ls.length,A,n,c,x,rfl,hx,by simp⟩,h.h2,fun e=>⟨(h.h3 e).1,(h.h3 e).2.more⟩,h.h4,h.h5,h.h6,h.h7⟩
theorem Sm2K.c3 (h:Sm2K w0 g B M L O rb db Ad nd cd yd Ld u0 u1 u2 u3 u4 u5 u6 v u8 C1 k1 e1 C2 k2 e2 ps Ls W)(f4:Ld 4=false)(f5:Ld 5=false)(f8:Ld 8=false){D1:Option Addr}{i1 j1:Nat}{D2:Option Addr}{i2 j2 X Y:Nat}(h1:X<16777216 ^ 3)(h2:Y<16777216 ^ 3)(h3:0<Y)(h4:Nat.gcd X Y=1)(hd:Dice W' g B)(ho:Ow w0 W' (some g) (M++[(db,.slice Ad nd cd)]) (L++⟨Ad,nd,cd,z0c (Na.dig yd)⟩ :: Ls++[⟨D1,i1,j1,z0c (Na.dig X)⟩]++[⟨D2,i2,j2,z0c (Na.dig Y)⟩]) (O++Rw.pair rb 27 (.slice none 0 0) (.slice none 0 0) :: ps)):
  Sm2K w0 g B M L O rb db Ad nd cd yd (z2v Ld 3) u0 u1 u2 (.tuple #[.agg #[.slice D1 i1 j1,.slice D2 i2 j2],.int .i64 0]) u4 u5 u6 v u8 D1 i1 j1 D2 i2 j2 ps (Ls++[⟨D1,i1,j1,z0c (Na.dig X)⟩,⟨D2,i2,j2,z0c (Na.dig Y)⟩]) W':=
 ⟨by rw [zqa,zqa,zqb] at ho;exact ho,hd,h.h0,fun e=>by
  obtain ⟨t,A,n,c,x,k1,k2,k3⟩:=h.h1 e
  exact ⟨t,A,n,c,x,k1,k2,by rw [zqn (z0f k3)];exact k3⟩,h.h2,fun _=>⟨rfl,Ls.length+0,Ls.length+1,X,Y,h1,h2,h3,h4,by rw [z0b];rfl,by rw [z0b];rfl⟩,fun e=>absurd ((show Ld 4=true from e).symm.trans f4) (by decide),fun e=>absurd ((show Ld 5=true from e).symm.trans f5) (by decide),h.h6,fun e=>by
  obtain ⟨t,b,p,q,k1,k2,k3⟩:=h.h7 e
  exact ⟨t,b,p,q,k1,k2,fun e2=>absurd ((show Ld 8=true from e2).symm.trans f8) (by decide)⟩⟩
theorem Sm2K.a7 (h:Sm2K w0 g B M L O rb db Ad nd cd yd Ld u0 u1 u2 u3 u4 u5 u6 v u8 C1 k1 e1 C2 k2 e2 ps Ls W)(f8:Ld 8=false):
  Sm2K w0 g B M L O rb db Ad nd cd yd (z2v Ld 7) u0 u1 u2 u3 u4 u5 u6 (.pointer (some ⟨W.heap.size,0,none⟩)) u8 C1 k1 e1 C2 k2 e2 (ps++[Rw.pair W.heap.size 27 (.slice none 0 0) (.slice none 0 0)]) Ls (W.alloc (.cells #[.slice none 0 0,.slice none 0 0] 27)):=
 ⟨by have:=h.ow.pair (.slice none 0 0) (.slice none 0 0) 27;rwa [zqa,zqb] at this,h.dc.below (z0i _ _),h.h0,h.h1,h.h2,h.h3,h.h4,h.h5,h.h6,fun _=>⟨ps.length,W.heap.size,.slice none 0 0,.slice none 0 0,rfl,by simp,fun e2=>absurd ((show Ld 8=true from e2).symm.trans f8) (by decide)⟩⟩
theorem Sm2K.s8 (h:Sm2K w0 g B M L O rb db Ad nd cd yd Ld u0 u1 u2 u3 u4 u5 u6 v u8 C1 k1 e1 C2 k2 e2 ps Ls W)(hB:B≤w0.heap.size)(h7:Ld 7=true)(h5:Ld 5=true):
  ∃ b p q ps',v=.pointer (some ⟨b,0,none⟩)∧u5=.agg #[.slice C1 k1 e1,.slice C2 k2 e2]∧W.cell? ⟨b,0,none⟩=some p∧W.cell? ⟨b,1,none⟩=some q∧W.frozen? ⟨b,0,none⟩=false∧W.frozen? ⟨b,1,none⟩=false∧
   Sm2K w0 g B M L O rb db Ad nd cd yd (z2v Ld 8) u0 u1 u2 u3 u4 u5 u6 v u8 C1 k1 e1 C2 k2 e2 ps' Ls ((W.setCell ⟨b,0,none⟩ (.slice C1 k1 e1)).setCell ⟨b,1,none⟩ (.slice C2 k2 e2)):=by
 obtain ⟨t,b,p,q,a1,a2,a3⟩:=h.h7 h7
 have hi:(O++Rw.pair rb 27 (.slice none 0 0) (.slice none 0 0) :: ps)[O.length+(t+1)]?=some (Rw.pair b 27 p q):=by rw [z0b];exact a2
 have o1:=h.ow.set0 _ hi (.slice C1 k1 e1)
 have d1:=h.dc.turned hB h.ow hi (z0d W ⟨b,0,none⟩ (.slice C1 k1 e1))
 rw [z0n,zqe] at o1;have hi2:(O++Rw.pair rb 27 (.slice none 0 0) (.slice none 0 0) :: ps.set t (Rw.pair b 27 (.slice C1 k1 e1) q))[O.length+(t+1)]?=some (Rw.pair b 27 (.slice C1 k1 e1) q):=by rw [z0b];exact List.getElem?_set_self (z0f a2)
 have o2:=o1.set1 _ hi2 (.slice C2 k2 e2)
 have d2:=d1.turned hB o1 hi2 (z0d _ ⟨b,1,none⟩ (.slice C2 k2 e2))
 rw [z0n,zqe,List.set_set] at o2;exact ⟨b,p,q,_,a1,h.h5 h5,h.ow.p0 _ hi,h.ow.p1 _ hi,h.ow.pf _ hi 0,h.ow.pf _ hi 1,o2,d2,h.h0,h.h1,h.h2,h.h3,h.h4,h.h5,h.h6,fun _=>⟨t,b,_,_,a1,List.getElem?_set_self (z0f a2),fun _=>⟨rfl,rfl⟩⟩⟩
end
section
variable {w0 w w':World}{g B:Nat}{M:List (Nat×Value)}{L:List Ob}{O:List Rw}
end
structure FrK (x y:Nat):Prop where
 px:x<Na.top
 py:y<Na.top
 pos:0<y
 g:Nat.gcd x y=1
theorem FrK.rv {x y:Nat}(h:FrK x y):rv (Na.up (Na.dig x)) (Na.up (Na.dig y))=true:=z5br h.px h.py h.pos h.g
theorem FrK.of {x y:Nat}(hx:x<Na.top)(hy:y<Na.top)(h0:0<y):∃ n d,frM x y=(n,d,0)∧FrK n d∧n*y=x*d∧n≤x∧d≤y:=by
 obtain ⟨n,d,h1,h2,h3,h4,h5,h6⟩:=z0bm (x:=x) h0
 exact ⟨n,d,h1,⟨by omega,by omega,h2,h3⟩,h4,h5,h6⟩
section
variable {w0 w w':World}{g:Option Nat}{M M2:List (Nat×Value)}{L:List Ob}{O:List Rw}{A A2 A3 A4:Option Addr}{b n c m c2 n3 c3 n4 c4 x y:Nat}{p q r s:List Int}
end
theorem z3z {w0 w:World}{g:Option Nat}{M:List (Nat×Value)}{L:List Ob}{O:List Rw}{A A2:Option Addr}{n c m c2 x y:Nat}(h:Ow w0 w g M L O)(i j:Nat)(hi:L[i]?=some ⟨A,n,c,z0c (Na.dig x)⟩)(hj:L[j]?=some ⟨A2,m,c2,z0c (Na.dig y)⟩)(hx:x<Na.top)(hy:y<Na.top):
  Calls Tryz.prog 46 #[.agg #[.slice A n c],.agg #[.slice A2 m c2]] w (z7f w0 g M L O (z4e (x*y)) (z3q (x*y))):=by
 have:=z4bu (zs:=Na.up (Na.dig x)) (ys:=Na.up (Na.dig y)) h i j (by rw [z0g];exact hi) (by rw [z0g];exact hj)
 rwa [(z4u hx hy).1,(z4u hx hy).2] at this
theorem z9aw {w0 w:World}{g:Option Nat}{M:List (Nat×Value)}{L:List Ob}{O:List Rw}{A A2:Option Addr}{n c m c2 x y:Nat}(h:Ow w0 w g M L O)(i j:Nat)(hi:L[i]?=some ⟨A,n,c,z0c (Na.dig x)⟩)(hj:L[j]?=some ⟨A2,m,c2,z0c (Na.dig y)⟩)(hx:x<Na.top)(hy:y<Na.top):
  Calls Tryz.prog 102 #[.agg #[.slice A n c],.agg #[.slice A2 m c2]] w (z7f w0 g M L O (z4e (x+y)) (z3q (x+y))):=by
 have:=z4bx (zs:=Na.up (Na.dig x)) (ys:=Na.up (Na.dig y)) h i j (by rw [z0g];exact hi) (by rw [z0g];exact hj)
 unfold addL addE at this;rw [Na.vld_dig hx,Na.vld_dig hy,z0k,z0k] at this;exact this
theorem z2ae {w0 w:World}{g:Option Nat}{M:List (Nat×Value)}{L:List Ob}{O:List Rw}{A A2:Option Addr}{n c m c2 x y:Nat}(h:Ow w0 w g M L O)(i j:Nat)(hi:L[i]?=some ⟨A,n,c,z0c (Na.dig x)⟩)(hj:L[j]?=some ⟨A2,m,c2,z0c (Na.dig y)⟩)(hx:x<Na.top)(hy:y<Na.top):
  Calls Tryz.prog 43 #[.agg #[.slice A n c],.agg #[.slice A2 m c2]] w (z7f w0 g M L O (if x<y then [] else Na.dig (x - y)) (if x<y then 5 else 0)):=by
 have:=z4bs (zs:=Na.up (Na.dig x)) (ys:=Na.up (Na.dig y)) h i j (by rw [z0g];exact hi) (by rw [z0g];exact hj)
 unfold subL subE at this;rw [Na.vld_dig hx,Na.vld_dig hy,z0k,z0k] at this;exact this
theorem z9at {w0 w:World}{g:Option Nat}{M:List (Nat×Value)}{L:List Ob}{O:List Rw}{A A2:Option Addr}{n c m c2 x y:Nat}(h:Ow w0 w g M L O)(i j:Nat)(hi:L[i]?=some ⟨A,n,c,z0c (Na.dig x)⟩)(hj:L[j]?=some ⟨A2,m,c2,z0c (Na.dig y)⟩)(hx:x<Na.top)(hy:y<Na.top):
  Calls Tryz.prog 47 #[.agg #[.slice A n c],.agg #[.slice A2 m c2]] w fun e w'=>e=.returned (.int .i64 (Na.sgn x y))∧Ow w0 w' g M L O:=by
 have:=z4bw (zs:=Na.up (Na.dig x)) (ys:=Na.up (Na.dig y)) h i j (by rw [z0g];exact hi) (by rw [z0g];exact hj) (Na.vld_dig hx) (Na.vld_dig hy)
 rwa [z0k,z0k] at this
theorem z5ag {w0 w:World}{g:Option Nat}{M:List (Nat×Value)}{L:List Ob}{O:List Rw}{A A2:Option Addr}{n c m c2 x y:Nat}{t:Nat×Nat×Int}(h:Ow w0 w g M L O)(i j:Nat)(hi:L[i]?=some ⟨A,n,c,z0c (Na.dig x)⟩)(hj:L[j]?=some ⟨A2,m,c2,z0c (Na.dig y)⟩)(hx:x<Na.top)(hy:y<Na.top)(e:frM x y=t):
  Calls Tryz.prog 44 #[.agg #[.slice A n c],.agg #[.slice A2 m c2]] w (z8k w0 g M L O t):=by
 have:=z5ae (p:=Na.up (Na.dig x)) (q:=Na.up (Na.dig y)) h i j (by rw [z0g];exact hi) (by rw [z0g];exact hj)
 unfold z4q at this;rw [Na.vld_dig hx,Na.vld_dig hy,z0k,z0k,e] at this;exact this
section
variable {w0 w w':World}{g:Option Nat}{M M2:List (Nat×Value)}{L:List Ob}{O:List Rw}{A A2 A3 A4:Option Addr}{b n c m c2 n3 c3 n4 c4 x y:Nat}{p q r s:List Int}
theorem z5ah (h:Ow w0 w g M L O)(i j k l:Nat)(hi:L[i]?=some ⟨A,n,c,z0r p⟩)(hj:L[j]?=some ⟨A2,m,c2,z0r q⟩)(hk:L[k]?=some ⟨A3,n3,c3,z0r r⟩)(hl:L[l]?=some ⟨A4,n4,c4,z0r s⟩)  :
  Calls Tryz.prog 22 #[.agg #[.slice A n c,.slice A2 m c2],.agg #[.slice A3 n3 c3,.slice A4 n4 c4]] w (fun e w'=>e=.returned (.tuple #[.int .i64 (cmpV p q r s),.int .i64 (cmpE p q r s)])∧Ow w0 w' g M L O):=by
 have H0:=(h.pair (.slice A n c) (.slice A2 m c2) 27).pair (.slice A3 n3 c3) (.slice A4 n4 c4) 27
 simp only [World.size_alloc,zqa,zqb,zqc] at H0;have a0:=H0.p0 (O.length+0) (zk rfl)
 have a1:=H0.p1 (O.length+0) (zk rfl)
 have HV:=zh (z2l H0 i j hi hj)
 cases h1:rv p q with
 | false=>
 rw [h1] at HV;rw [show cmpV p q r s=0 by unfold cmpV;rw [h1];rfl,show cmpE p q r s=1 by unfold cmpE;rw [h1];rfl]
 clear h H0 hi hj hk hl h1;go_enter Tryz.func22,Tryz.ntmps22
 go_wp2_with fail;refine HV.out.mono ?_;rintro e w1 ⟨rfl,H⟩;clear HV a0 a1;have HF:=zh (H.fewO)
 clear H;go_wp2_with fail;go_ret2
 exact ⟨rfl,HF.out⟩
 | true=>
 rw [h1] at HV;cases h2:rv r s with
 | false=>
 rw [show cmpV p q r s=0 by unfold cmpV;rw [h1,h2];rfl,show cmpE p q r s=1 by unfold cmpE;rw [h1,h2];rfl]
 have HR:=zh (And.intro hk (And.intro hl h2))
 clear h H0 hi hj hk hl h1 h2;go_enter Tryz.func22,Tryz.ntmps22
 go_wp2_with fail;refine HV.out.mono ?_;rintro e w1 ⟨rfl,H⟩;have b0:=H.p0 (O.length+1) (zk rfl)
 have b1:=H.p1 (O.length+1) (zk rfl)
 have HW:=zh (z2l H k l HR.out.1 HR.out.2.1)
 rw [HR.out.2.2] at HW;clear HV H a0 a1;go_wp2_with fail;refine HW.out.mono ?_;rintro e w2 ⟨rfl,H⟩;clear HW b0 b1;have HF:=zh (H.fewO)
 clear H;go_wp2_with fail;go_ret2
 exact ⟨rfl,HF.out⟩
 | true=>
 have HR:=zh (And.intro hk (And.intro hl h2))
 have e1:cmpV p q r s=if num p*num s<Na.top∧num r*num q<Na.top then Na.sgn (num p*num s) (num r*num q) else 0:=by unfold cmpV;rw [h1,h2];rfl
 have e2:cmpE p q r s=if num p*num s<Na.top∧num r*num q<Na.top then 0 else 3:=by unfold cmpE;rw [h1,h2];rfl
 rw [e1,e2];clear e1 e2;obtain ⟨x,y,hx,hy,-,-,rfl,rfl⟩:=z4ar h1
 obtain ⟨u,v,hu,hv,-,-,rfl,rfl⟩:=z4ar h2
 rw [z0k,z0k,z0k,z0k];have HI:=zh (And.intro (z2p hi) (And.intro (z2p hj) (And.intro (z2p hk) (z2p hl))))
 have HX:=zh (And.intro hx (And.intro hy (And.intro hu hv)))
 clear h H0 hi hj hk hl h1 h2 hx hy hu hv;by_cases hX:x*v<Na.top
 ·by_cases hZ:u*y<Na.top
  ·rw [if_pos ⟨hX,hZ⟩,if_pos ⟨hX,hZ⟩]
   obtain ⟨t,hmk⟩:∃ t,Na.sgn (x*v) (u*y)=t:=⟨_,rfl⟩
   rw [hmk];have HE:=zh (And.intro hX (And.intro hZ hmk))
   clear hX hZ hmk;go_enter Tryz.func22,Tryz.ntmps22
   go_wp2_with fail;refine HV.out.mono ?_;rintro e w1 ⟨rfl,H⟩;have b0:=H.p0 (O.length+1) (zk rfl)
   have b1:=H.p1 (O.length+1) (zk rfl)
   have HW:=zh (z2l H k l HR.out.1 HR.out.2.1)
   rw [HR.out.2.2] at HW;clear HV H a0 a1;go_wp2_with fail;refine HW.out.mono ?_;rintro e w2 ⟨rfl,H⟩;clear HW b0 b1;have a0:=H.p0 (O.length+0) (zk rfl)
   have b1:=H.p1 (O.length+1) (zk rfl)
   have HC:=zh (z3z H i l HI.out.1 HI.out.2.2.2 HX.out.1 HX.out.2.2.2)
   rw [z1p HE.out.1,z1q HE.out.1] at HC;clear H;go_wp2_with fail;refine HC.out.mono ?_;rintro e w3 ⟨B3,m3,d3,rfl,G⟩;have H:=G.boxed (.slice B3 m3 d3) 25
   try simp only [zqa,zqb,zqc] at H
   clear HC G a0 b1;have b0:=H.p0 (O.length+1) (zk rfl)
   have a1:=H.p1 (O.length+0) (zk rfl)
   have HC:=zh (z3z H k j ((z0v _ _ (z0f HI.out.2.2.1)).trans HI.out.2.2.1) ((z0v _ _ (z0f HI.out.2.1)).trans HI.out.2.1) HX.out.2.2.1 HX.out.2.1)
   rw [z1p HE.out.2.1,z1q HE.out.2.1] at HC;clear H;go_wp2_with fail;refine HC.out.mono ?_;rintro e w4 ⟨B4,m4,d4,rfl,G⟩;have H:=G.boxed (.slice B4 m4 d4) 25
   try simp only [zqa,zqb,zqc] at H
   clear HC G b0 a1;have k0:=H.cell (M.length+0) (zk rfl)
   have k1:=H.cell (M.length+1) (zk rfl)
   have HC:=zh (z9at H (L.length+0) (L.length+1) (zk rfl) (zk rfl) HE.out.1 HE.out.2.1)
   rw [HE.out.2.2] at HC;clear H;go_wp2_with fail;refine HC.out.mono ?_;rintro e w5 ⟨rfl,H⟩;clear HC k0 k1;have HF:=zh (H.fewM.fewO.less (L':=L) (fun o ho=>by simp [ho]))
   clear H;go_wp2_with fail;go_ret2
   exact ⟨rfl,HF.out⟩
  ·rw [if_neg (fun h=>hZ h.2),if_neg (fun h=>hZ h.2)]
   have HE:=zh (And.intro hX hZ)
   clear hX hZ;go_enter Tryz.func22,Tryz.ntmps22
   go_wp2_with fail;refine HV.out.mono ?_;rintro e w1 ⟨rfl,H⟩;have b0:=H.p0 (O.length+1) (zk rfl)
   have b1:=H.p1 (O.length+1) (zk rfl)
   have HW:=zh (z2l H k l HR.out.1 HR.out.2.1)
   rw [HR.out.2.2] at HW;clear HV H a0 a1;go_wp2_with fail;refine HW.out.mono ?_;rintro e w2 ⟨rfl,H⟩;clear HW b0 b1;have a0:=H.p0 (O.length+0) (zk rfl)
   have b1:=H.p1 (O.length+1) (zk rfl)
   have HC:=zh (z3z H i l HI.out.1 HI.out.2.2.2 HX.out.1 HX.out.2.2.2)
   rw [z1p HE.out.1,z1q HE.out.1] at HC;clear H;go_wp2_with fail;refine HC.out.mono ?_;rintro e w3 ⟨B3,m3,d3,rfl,G⟩;have H:=G.boxed (.slice B3 m3 d3) 25
   try simp only [zqa,zqb,zqc] at H
   clear HC G a0 b1;have b0:=H.p0 (O.length+1) (zk rfl)
   have a1:=H.p1 (O.length+0) (zk rfl)
   have HC:=zh (z3z H k j ((z0v _ _ (z0f HI.out.2.2.1)).trans HI.out.2.2.1) ((z0v _ _ (z0f HI.out.2.1)).trans HI.out.2.1) HX.out.2.2.1 HX.out.2.1)
   rw [z0ag HE.out.2] at HC;clear H;go_wp2_with fail;refine HC.out.mono ?_;rintro e w4 ⟨B4,m4,d4,rfl,G⟩;have H:=G.boxed (.slice B4 m4 d4) 25
   try simp only [zqa,zqb,zqc] at H
   clear HC G b0 a1;have HF:=zh (H.fewM.fewO.less (L':=L) (fun o ho=>by simp [ho]))
   clear H;go_wp2_with fail;go_ret2
   exact ⟨rfl,HF.out⟩
 ·rw [if_neg (fun h=>hX h.1),if_neg (fun h=>hX h.1)]
  have HE:=zh hX;clear hX;go_enter Tryz.func22,Tryz.ntmps22
  go_wp2_with fail;refine HV.out.mono ?_;rintro e w1 ⟨rfl,H⟩;have b0:=H.p0 (O.length+1) (zk rfl)
  have b1:=H.p1 (O.length+1) (zk rfl)
  have HW:=zh (z2l H k l HR.out.1 HR.out.2.1)
  rw [HR.out.2.2] at HW;clear HV H a0 a1;go_wp2_with fail;refine HW.out.mono ?_;rintro e w2 ⟨rfl,H⟩;clear HW b0 b1;have a0:=H.p0 (O.length+0) (zk rfl)
  have b1:=H.p1 (O.length+1) (zk rfl)
  have HC:=zh (z3z H i l HI.out.1 HI.out.2.2.2 HX.out.1 HX.out.2.2.2)
  rw [z0ag HE.out] at HC;clear H;go_wp2_with fail;refine HC.out.mono ?_;rintro e w3 ⟨B3,m3,d3,rfl,G⟩;have H:=G.boxed (.slice B3 m3 d3) 25
  try simp only [zqa,zqb,zqc] at H
  clear HC G a0 b1;have b0:=H.p0 (O.length+1) (zk rfl)
  have a1:=H.p1 (O.length+0) (zk rfl)
  have HC:=zh (z3z H k j ((z0v _ _ (z0f HI.out.2.2.1)).trans HI.out.2.2.1) ((z0v _ _ (z0f HI.out.2.1)).trans HI.out.2.1) HX.out.2.2.1 HX.out.2.1)
  clear H;go_wp2_with fail;refine HC.out.mono ?_;rintro e w4 ⟨B4,m4,d4,rfl,G⟩;have H:=G.boxed (.slice B4 m4 d4) 25
  try simp only [zqa,zqb,zqc] at H
  clear HC G b0 a1;have HF:=zh (H.fewM.fewO.less (L':=L) (fun o ho=>by simp [ho]))
  clear H;go_wp2_with fail;go_ret2
  exact ⟨rfl,HF.out⟩
theorem Ow.apart {M:List (Nat×Value)}(h:Ow w0 w g M L O)(i j:Nat){b c:Nat}{u v:Value}(hi:M[i]?=some (b,u))(hj:M[j]?=some (c,v))(hij:i≠j):b≠c:=by
 rintro rfl;exact hij (h.st.one i j b u v hi hj)
end
section
variable {w0 w w':World}{g:Option Nat}{M M2:List (Nat×Value)}{L:List Ob}{O:List Rw}{A A2 A3 A4:Option Addr}{b n c m c2 n3 c3 n4 c4 x y:Nat}{p q r s:List Int}
end
end Go.Proofs.YtpmofjomadibmaaGreatDoor
