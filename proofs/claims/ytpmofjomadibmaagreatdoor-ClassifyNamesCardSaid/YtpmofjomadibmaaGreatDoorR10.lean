/- Re Rn -/
import Derived.Test.YtpmofjomadibmaaGreatDoorR09
import Derived.Deep.CutBlock
import Derived.Deep.LoopGhost
namespace Go.Proofs.YtpmofjomadibmaaGreatDoor
set_option maxHeartbeats 8000000
open Go.RowKit Go.Sort
set_option linter.unusedVariables false
set_option maxRecDepth 100000
section
variable {P:Program}{w0 w:World}{g:Option Nat}{M:List (Nat×Value)}{L:List Ob}{O:List Rw}{t e:TypeId}{z:Value}{bytes:Nat}
end
theorem Sl.nat_c {w:World}{B:Nat}{ad:Addr}{l:List Nat}(h:Sl w B (some ad) (z0c l)){k b:Nat}(hk:l[k]?=some b):w.cell? (ad.add k)=some (.int .i64 (b:Int)):=by
 obtain ⟨ad',e,_,hc⟩:=h.nat hk
 obtain rfl:=zqk e
 exact hc
namespace Na
set_option maxHeartbeats 8000000
theorem zeros_set (k q:Nat)(Q:List Nat):(List.replicate (k+1) 0++Q).set k q=List.replicate k 0++(q :: Q):=by
 rw [List.replicate_succ',zqa,List.set_append_right _ _ (by rw [List.length_replicate];exact zqj _),List.length_replicate,Nat.sub_self]
 rfl
theorem half_at {y T lo hi mid:Nat}(h1:y*lo≤T)(h2:T<y*(hi+1))(hm:mid=(lo+hi+1) / 2)(hlt:lo<hi):mid≤hi∧lo<mid∧(sgn (y*mid) T≤0→y*mid≤T)∧(¬ sgn (y*mid) T≤0→T<y*(mid - 1+1)):=by
 refine ⟨by omega,by omega,fun h=>?_,fun h=>?_⟩
 ·rcases sgn_cases (y*mid) T with ⟨h3,e⟩ | ⟨h3,e⟩ | ⟨h3,e⟩ <;> omega
 ·rw [show mid - 1+1=mid by omega]
  rcases sgn_cases (y*mid) T with ⟨h3,e⟩ | ⟨h3,e⟩ | ⟨h3,e⟩ <;> omega
theorem half_end {y T q:Nat}(h1:y*q≤T)(h2:T<y*(q+1)):T - y*q<y:=by
 rw [zqt,Nat.mul_one] at h2;omega
theorem div_next {X:List Nat}{j a y q R:Nat}{Q:List Nat}(ha:X[j]?=some a)(h:val (X.drop (j+1))=y*val Q+R)(hq:y*q≤a+16777216*R):val (X.drop j)=y*val (q :: Q)+(a+16777216*R - y*q):=by
 rw [val_drop_cons X j a ha,h,val,zqt,zqt];have e:16777216*(y*val Q)=y*(16777216*val Q):=by rw [Nat.mul_left_comm]
 omega
theorem div_start {a y R:Nat}(ha:a<16777216)(hR:R<y):a+16777216*R<y*(16777215+1):=by
 have:=Nat.mul_le_mul_left 16777216 hR
 rw [Nat.mul_comm y];omega
theorem div_end {x y R:Nat}{Q:List Nat}(h:x=y*val Q+R)(hR:R<y):val Q=x / y∧R=x % y:=by
 have hy:0<y:=by omega
 constructor
 ·rw [h,Nat.mul_add_div hy,Nat.div_eq_of_lt hR,Nat.add_zero]
 ·rw [h,Nat.mul_add_mod,Nat.mod_eq_of_lt hR]
end Na
def RDv (w:World)(M:List (Nat×Value))(r0:Nat)(L:List Ob)(QA:Option Addr)(x y n:Nat)(kk:Nat)(i:Value)(wr:World):Prop:=
 ∃ (z:Int) (R:Nat) (Ar:Option Addr) (nr cr:Nat) (Q:List Nat),-1≤z∧z<n∧Hid ((z+1).toNat=kk)∧i=.int .i64 z∧nr≤200∧Hid (R<y∧Q.length+(z+1).toNat=n∧Na.Lim Q∧Na.val ((Na.dig x).drop (z+1).toNat)=y*Na.val Q+R)∧
  Hid (Ow w wr none (M++[(r0,.slice Ar nr cr)]) (L++[⟨Ar,nr,cr,z0c (Na.dig R)⟩]) [⟨QA,n,n,3,z0c (List.replicate (z+1).toNat 0++Q)⟩])
def z7bw (w0:World)(M:List (Nat×Value))(L:List Ob)(O:List Rw)(y T:Nat)(lo hi:Value)(wr:World):Prop:=
 ∃ l h:Nat,l≤h∧h<16777216∧lo=.int .i64 (l:Int)∧hi=.int .i64 (h:Int)∧Hid (y*l≤T∧T<y*(h+1))∧Hid (Ow w0 wr none M L O)
theorem z6y (A A2:Option Addr)(n c m c2:Nat)(x y:Nat)(w:World)(hn:(Na.dig x).length=n)(hm:(Na.dig y).length=m)(hnc:n≤c)(hmc:m≤c2)(hs:Sl w w.heap.size A (z0c (Na.dig x)))(hs2:Sl w w.heap.size A2 (z0c (Na.dig y)))(hx:x<Na.top)(hy:y<Na.top)(hy0:0<y):
  Calls Tryz.prog 77 #[.agg #[.slice A n c],.agg #[.slice A2 m c2]] w (z6bx w (Na.dig (x / y)) (Na.dig (x % y)) 0):=by
 have hn2:n≤200:=by rw [← hn];exact (Na.dig_200 x).2 hx
 have hm2:m≤200:=by rw [← hm];exact (Na.dig_200 y).2 hy
 have hm0:((m:Int) == 0)=false:=by
  rw [beq_eq_false_iff_ne];intro e;have:m=0:=by omega
  rw [this] at hm;have:=Na.dig_len0.1 hm
  omega
 have HY0:=zh hy0;clear hy0;have H0:=((((((Ow.of (St.refl w)).old hs (by rw [z0e];exact hn) hnc (by omega)).old hs2 (by rw [z0e];exact hm) hmc (by omega)).boxed (.slice A n c) 25).boxed (.slice A2 m c2) 25).boxed (.slice none 0 0) 25).boxed (.slice none 0 0) 25
 simp only [World.size_alloc,zqc,zqb] at H0;have hc0:=H0.cell 0 rfl
 have HH:=zh (z2d H0 0 rfl hx)
 have HX:=zh hx;have HY:=zh hy;have HN:=zh hn;have HM:=zh hm;clear hn hm hs hs2 H0 hx hy;go_enter Tryz.func77,Tryz.ntmps77
 go_wp2_with fail;refine HH.out.mono ?_;rintro e w1 ⟨rfl,H1⟩;have hc1:=H1.cell 1 rfl
 have HK:=zh (z2d H1 1 rfl HY.out)
 clear hc0 HH H1;go_wp2_with fail;refine HK.out.mono ?_;rintro e w2 ⟨rfl,H1⟩;have hc0:=H1.cell 0 rfl
 have hc1:=H1.cell 1 rfl
 clear HK;have hmk:=z5f.make .i64 .i64 (n:Int) (n:Int) n n rfl rfl (zqj _) (by omega) (by omega)
 have H2:=(((H1.made 3 (.int .i64 0) n n rfl (zqj _) (by unfold maxLen;omega)).boxed (.slice none 0 0) 25).old (A:=none) (n:=0) (c:=0) (vs:=[]) (Sl.nil _ _ _) rfl (zqj _) (by omega))
 simp only [World.size_alloc,zqc,zqb] at H2;have hq1:=H2.cell 0 rfl
 obtain ⟨w3,hw3⟩:∃ w3,(w2.alloc (.cells (madeCells #[.int .i64 0] n) 3)).alloc (.cells #[.slice none 0 0] 25)=w3:=⟨_,rfl⟩
 have HW:Hid ((w2.alloc (.cells (madeCells #[.int .i64 0] n) 3)).alloc (.cells #[.slice none 0 0] 25)=w3):=hw3
 rw [hw3] at H2;have hq0:(w2.alloc (.cells (madeCells #[.int .i64 0] n) 3)).cell? ⟨w.heap.size,0,none⟩=some (.slice A n c):=by
  have:=(H1.made 3 (.int .i64 0) n n rfl (zqj _) (by unfold maxLen;omega)).cell 0 rfl
  exact this
 have HH:=zh H2;clear H1 H2 hw3;go_wp2_with fail;obtain ⟨r0,hr0⟩:∃ r,w2.heap.size+1=r:=⟨_,rfl⟩
 obtain ⟨QA,hQA⟩:∃ q,(some (⟨w2.heap.size,0,none⟩:Addr))=q:=⟨_,rfl⟩
 rw [hr0,hQA] at HH;rw [HW.out,hr0,hQA];clear hc0 hc1 hq0 hq1 hmk hm0 hr0 hQA HW;go_loopg [9] n (fun kk i wr=>RDv w [(w.heap.size,.slice A n c),(w.heap.size+1,.slice A2 m c2),(w.heap.size+1+1,.slice none 0 0),(w.heap.size+1+1+1,.slice none 0 0)] r0 [⟨A,n,c,z0c (Na.dig x)⟩,⟨A2,m,c2,z0c (Na.dig y)⟩] QA x y n kk i wr)
 case atStart=>
  refine ⟨(n:Int) - 1,0,none,0,0,[],by omega,by omega,(by unfold Hid;omega),rfl,by omega,⟨HY0.out,by rw [List.length_nil];omega,Na.Lim.nil,?_⟩,?_⟩
  ·rw [List.drop_of_length_le (by rw [HN.out];omega)];rfl
  ·unfold Hid;rw [show ((n:Int) - 1+1).toNat=n by omega,List.append_nil,Na.dig_zero]
   exact (HH.out.same 0 rfl (by unfold z0c;rw [List.map_replicate];rfl))
 case round=>
  obtain ⟨z,R,Ar,nr,cr,Q,hz1,hz2,HKK,rfl,hnr,HP,HO⟩:=hrel;have HO1:=HO.out;simp only [zqc,zqb] at HO1;rcases Int.lt_or_le z 0 with hz | hz
  ·have e0:(z+1).toNat=0:=by omega
   rw [e0,List.replicate_zero,zqc] at HO1;have hd:=HP.out;rw [e0,List.drop_zero,Na.val_dig] at hd;have HE:=zh (Na.div_end hd.2.2.2 hd.1)
   have HF:=zh (z4av HO1 0 rfl hd.2.2.1 (by omega))
   have ht:x / y<Na.top:=zqu (Nat.div_le_self _ _) HX.out
   rw [HE.out.1,z1p ht,z1q ht] at HF;clear HO HO1 hd ht HP hz1 hz2 HH;go_wp2_with fail;refine HF.out.mono ?_;rintro e w4 ⟨A9,n9,c9,rfl,hn9,H4⟩;have H5:=H4.boxed (.slice A9 n9 c9) 25
   simp only [zqc,zqb] at H5;clear HF H4;have HG:=zh ((H5.nil 3).drew)
   have HRg:=zh (HG.out.sl (i:=2) rfl)
   have hx5:=H5.cell 5 rfl
   have hx4:=H5.cell 4 rfl
   have HN9:=zh hn9;clear H5 hn9;go_upto_region 26 with (fail)
   go_region_held3 (fun W=>W.cell? ⟨w4.heap.size,0,none⟩=some (.slice A9 n9 c9)∧W.cell? ⟨r0,0,none⟩=some (.slice Ar nr cr)) (first | exact ⟨hx5,hx4⟩ | exact ⟨how.cell 5 rfl,how.cell 4 rfl⟩ | exact ⟨G1.cell 5 rfl,G1.cell 4 rfl⟩ | exact ⟨G2.cell 5 rfl,G2.cell 4 rfl⟩) ((rw [if_pos (by rfl)];refine z7m z5f HG.out 2 (.const (.slice none 0 0)) (.tmp 109) rfl HRg.out.1 HRg.out.2.2.2 (z3l _) (by unfold maxLen;omega) (by omega) rfl rfl rfl ?_;intro A' c' w8 how;rw [Nat.zero_add,zqc] at how;have hs2:=how.cell 2 rfl;have hs2f:=how.free 2 rfl;have G1:=how.setv 2 rfl (.slice A9 n9 c9);have hs3:=G1.cell 3 rfl;have hs3f:=G1.free 3 rfl;have G2:=G1.setv 3 rfl (.slice A' nr c')))
   clear hs2 hs2f hs3 hs3f hx5 hx4;go_wp2_with fail;have hc5:=G2.cell 2 rfl
   have hc6:=G2.cell 3 rfl
   have HE2:=HE.out.2;subst HE2
   refine bodyPost_ret (v:=.tuple #[.agg #[.slice A9 n9 c9],.agg #[.slice A' nr c'],.int .i64 0]) (by simp [results,Tryz.results77,go_sem,hc5,hc6]) rfl ?_
   have hl6:=HRg.out.1;rw [z0e] at hl6;exact ⟨A9,n9,c9,A',nr,c',rfl,HN9.out,hl6,G2.row 1 rfl,G2.row 2 rfl,G2.below⟩
  ·obtain ⟨j,rfl⟩:=Int.eq_ofNat_of_zero_le hz
   have hjn:j<n:=by omega
   have e1:((j:Int)+1).toNat=j+1:=by omega
   rw [e1] at HO1;have hd:=HP.out;rw [e1] at hd;have HPj:=zh hd;obtain ⟨a,ha⟩:=z0m (Na.dig x) j (by rw [HN.out];exact hjn)
   have ha24:=(Na.dig_lim x).at ha
   obtain ⟨ad,rfl,_,hca⟩:=(HO1.sl (i:=0) rfl).2.2.2.nat ha
   have hx0:=HO1.cell 0 rfl
   have hx4:=HO1.cell 4 rfl
   have HLt:=zh ((HO1.lit1 (.int .i64 (a:Int)) 3).drew)
   have HRs:=zh (HLt.out.sl (i:=2) rfl)
   have HHa:=zh ha;have HOj:=zh HO1;clear ha HO HO1 HP hd hz hz1 hz2 e1;go_upto_region 10 with (fail)
   go_region_held3 (fun W=>W.cell? ⟨w.heap.size,0,none⟩=some (.slice (some ad) n c)∧W.cell? ⟨r0,0,none⟩=some (.slice Ar nr cr)∧W.cell? (ad.add j)=some (.int .i64 (a:Int))) (first | exact ⟨hx0,hx4,hca⟩ | exact ⟨HLt.out.cell 0 rfl,HLt.out.cell 4 rfl,(HLt.out.sl (i:=0) rfl).2.2.2.nat_c HHa.out⟩ | exact ⟨how.cell 0 rfl,how.cell 4 rfl,(how.sl (i:=0) rfl).2.2.2.nat_c HHa.out⟩) ((rw [if_pos (by rfl)];refine z7m z5f HLt.out 1 (.tmp 50) (.tmp 52) rfl HRs.out.1 HRs.out.2.2.2 (z3l _) (by unfold maxLen;omega) (by omega) rfl rfl rfl ?_;intro A' c' w8 how))
   obtain ⟨T,hT⟩:∃ T,a+16777216*R=T:=⟨_,rfl⟩
   have H8:=how;simp only [zqb,zqc,zqe,zqd] at H8;have HLv:Hid (Na.val (a :: Na.dig R)=T):=by unfold Hid;rw [Na.val,Na.val_dig];exact hT
   have HLl:Hid (Na.Lim (a :: Na.dig R)):=Na.Lim.cons ha24 (Na.dig_lim R)
   have HLn:Hid ((a :: Na.dig R).length=1+nr):=by have:=HRs.out.1;rw [z0e] at this;unfold Hid;rw [List.length_cons,this];omega
   have HX8:Hid (Ow w w8 none [(w.heap.size,.slice (some ad) n c),(w.heap.size+1,.slice A2 m c2),(w.heap.size+1+1,.slice none 0 0),(w.heap.size+1+1+1,.slice none 0 0),(r0,.slice Ar nr cr)] [⟨some ad,n,c,z0c (Na.dig x)⟩,⟨A2,m,c2,z0c (Na.dig y)⟩,⟨Ar,nr,cr,z0c (Na.dig R)⟩] [⟨QA,n,n,3,z0c (List.replicate (j+1) 0++Q)⟩,⟨A',1+nr,c',3,z0c (a :: Na.dig R)⟩]):=H8
   have H25:=zh hT;obtain ⟨l,hl⟩:∃ l,a :: Na.dig R=l:=⟨_,rfl⟩
   rw [hl] at HLv HLl HLn HX8;clear hT how H8 hl HLt HRs hca hx0 hx4 HOj ha24;go_upto_block 2 with (fail)
   go_cut [11] from 41 to 101 (fun v wx=>v=.int .i64 ((Na.tl l l.length:Nat):Int)∧wx=w8)
   case first=>
    go_wp2_with fail;go_loop [11] (fun v=>∃ i:Nat,i≤1+nr∧v=.int .i64 (i:Int)∧Hid (Na.tl l i=Na.tl l l.length)) (fun v=>(intOf v).toNat)
    case atStart=>exact ⟨1+nr,zqj _,by simp,by unfold Hid;rw [HLn.out]⟩
    case round=>
     obtain ⟨i,hi,rfl,HT⟩:=hrel;have hown:=Sl.of_own (HX8.out.row 1 rfl)
     rcases Na.tl_case l l.length i (by rw [HLn.out];exact hi) HT.out with ⟨h0,hz,ht⟩ | ⟨ht,hs⟩
     ·obtain ⟨ad2,rfl,_,hcb⟩:=hown.nat hz
      have HT2:=zh ht;have hd:decide (0<(i:Int))=true:=zt (by omega)
      have hcn:(i:Int)≤(1:Int)+(nr:Int):=by omega
      clear hown hz ht;go_wp2_with fail;go_round
      case rel=>exact ⟨i - 1,by omega,z0o (by omega),HT2⟩
      case measure=>simp [intOf];omega
     ·have HTe:=zh ht;rcases hs with h0 | ⟨h0,b,hb,hbne⟩
      ·subst h0
       clear hown ht HT;go_wp2_with fail;go_meet;exact ⟨by rw [HTe.out];rfl,rfl⟩
      ·obtain ⟨ad2,rfl,_,hcb⟩:=hown.nat hb
       have hd:decide (0<(i:Int))=true:=zt (by omega)
       have hcn:(i:Int)≤(1:Int)+(nr:Int):=by omega
       clear hown hb ht HT;go_wp2_with fail;go_meet;exact ⟨by rw [HTe.out],rfl⟩
   case rest=>
    obtain ⟨rfl,rfl⟩:=hcut;have hrow:=HX8.out.row 1 rfl
    obtain ⟨gb,rfl,-,-⟩:=z0u hrow (by omega)
    have hcap:=(z1k hrow).1
    obtain ⟨q1,hq1⟩:∃ k,Na.tl l l.length=k:=⟨_,rfl⟩
    have hq2:q1≤1+nr:=by rw [← hq1,← HLn.out];exact Na.tl_le _ _
    have hjc:(q1:Int)≤(c':Int):=by omega
    have H9:=((HX8.out.trimmed 1 rfl HLl.out hq1 HLv.out).setv 4 rfl (.slice (some ⟨gb,0,none⟩) q1 c')).keep 1 rfl (by omega)
    simp only [zqb,zqc,zqe,zqd] at H9;have hc8:=HX8.out.cell 4 rfl
    have hf8:=HX8.out.free 4 rfl
    rw [hq1];clear hrow hcap hq1;go_upto_region 16 with (fail)
    obtain ⟨w9,hw9⟩:∃ w9,wc.setCell ⟨r0,0,none⟩ (.slice (some ⟨gb,0,none⟩) q1 c')=w9:=⟨_,rfl⟩
    rw [hw9] at H9 ⊢
    clear hw9 hc8 hf8 hjc;have hc8:=H9.cell 4 rfl
    have hc1:=H9.cell 1 rfl
    have HC:=zh (z6u H9 3 1 rfl rfl)
    clear H9 HX8;go_wp2_with fail;refine HC.out.mono ?_;rintro e w10 ⟨rfl,H10⟩;have HX10:=zh H10;clear HC H10 hc8 hc1;go_upto_if 75 with (fail)
    go_cut [13] from 41 to 101 (fun v wx=>∃ h:Nat,h<16777216∧v=.int .i64 (h:Int)∧Hid (T<y*(h+1))∧wx=w10)
    case first=>
     rcases zqi T y with hlt | hge
     ·have hs:Na.sgn T y<0:=by rw [Na.sgn_lt hlt];omega
      have HT0:Hid (T<y*(0+1)):=by unfold Hid;omega
      obtain ⟨sg,hsg⟩:∃ s:Int,Na.sgn T y=s:=⟨_,rfl⟩
      rw [hsg] at hs ⊢
      have hs':decide (sg<0)=true:=zt hs
      clear hlt hsg;go_wp2_with fail;go_meet;exact ⟨0,by omega,rfl,HT0,rfl⟩
     ·have hs:0≤Na.sgn T y:=by rcases Na.sgn_cases T y with ⟨h,e⟩ | ⟨h,e⟩ | ⟨h,e⟩ <;> omega
      have HT0:Hid (T<y*(16777215+1)):=by unfold Hid;rw [← H25.out];exact Na.div_start ((Na.dig_lim x).at HHa.out) HPj.out.1
      obtain ⟨sg,hsg⟩:∃ s:Int,Na.sgn T y=s:=⟨_,rfl⟩
      rw [hsg] at hs ⊢
      have hs':decide (sg<0)=false:=zn (by omega)
      clear hge hsg;go_wp2_with fail;go_meet;exact ⟨16777215,by omega,rfl,HT0,rfl⟩
    case rest=>
     obtain ⟨h0,hh0,rfl,HT0,rfl⟩:=hcut;go_wp2_with fail;go_loopw [12,13] (fun lo hi wr=>z7bw w [(w.heap.size,.slice (some ad) n c),(w.heap.size+1,.slice A2 m c2),(w.heap.size+1+1,.slice none 0 0),(w.heap.size+1+1+1,.slice none 0 0),(r0,.slice (some ⟨gb,0,none⟩) q1 c')] [⟨some ad,n,c,z0c (Na.dig x)⟩,⟨A2,m,c2,z0c (Na.dig y)⟩,⟨Ar,nr,cr,z0c (Na.dig R)⟩,⟨some ⟨gb,0,none⟩,q1,c',z0c (Na.dig T)⟩] [⟨QA,n,n,3,z0c (List.replicate (j+1) 0++Q)⟩,⟨none,0,0,3,[]⟩] y T lo hi wr) (fun lo hi _=>(intOf hi - intOf lo).toNat)
     case atStart=>exact ⟨0,h0,zqr _,hh0,rfl,rfl,⟨by rw [Nat.mul_zero];exact zqr _,HT0.out⟩,HX10.out⟩
     case round=>
      obtain ⟨lo,hi,hlh,hh,rfl,rfl,HLH,HOh⟩:=hrel;rcases zqi lo hi with hlt | hge
      ·obtain ⟨mid,hmid⟩:∃ mid,mid=(lo+hi+1) / 2:=⟨_,rfl⟩
       obtain ⟨hm1,hm2',HMt,HMf⟩:=Na.half_at HLH.out.1 HLH.out.2 hmid hlt
       have hmi:((lo:Int)+(hi:Int)+1) / 2=(mid:Int):=by omega
       have hy1:=HOh.out.cell 1 rfl
       have hy4:=HOh.out.cell 4 rfl
       have hmid24:mid<16777216:=by omega
       have HTi:=zh (z8s HOh.out.drew 1 mid rfl (by omega) hmid24)
       clear hmid;by_cases hsle:Na.sgn (y*mid) T≤0
       ·have hle2:=HMt hsle
        have HN2:Hid (y*mid≤T∧T<y*(hi+1)):=⟨hle2,HLH.out.2⟩
        obtain ⟨sg,hsg⟩:∃ s:Int,Na.sgn (y*mid) T=s:=⟨_,rfl⟩
        have HSg:=zh hsg;rw [hsg] at hsle;have hsd:decide (sg≤0)=true:=zt hsle
        clear hsg hle2 HMt HMf HOh HLH;go_upto_region 20 with (fail)
        go_region_held3 (fun W=>W.cell? ⟨w.heap.size+1,0,none⟩=some (.slice A2 m c2)∧W.cell? ⟨r0,0,none⟩=some (.slice (some ⟨gb,0,none⟩) q1 c')) (first | exact ⟨hy1,hy4⟩ | exact ⟨how.cell 1 rfl,how.cell 4 rfl⟩ | exact ⟨how2.cell 1 rfl,how2.cell 4 rfl⟩) ((first | (go_at_call 103;(with_reducible refine HTi.out.mono ?_);rintro e w11 ⟨A5,n5,c5,rfl,hn5,how⟩) | (go_at_call 47;(with_reducible refine (z6u how 4 3 rfl rfl).mono ?_);rw [HSg.out];rintro e w12 ⟨rfl,how2⟩)))
        have HF:=zh how2;clear hy1 hy4 how how2;go_wp2_with fail;go_roundw
        case rel=>exact ⟨mid,hi,by omega,hh,rfl,rfl,HN2,HF.out.less (fun o ho=>by simp only [List.mem_append];exact .inl ho)⟩
        case measure=>simp [intOf];omega
       ·have hgt2:=HMf hsle
        have HN2:Hid (y*lo≤T∧T<y*(mid - 1+1)):=⟨HLH.out.1,hgt2⟩
        obtain ⟨sg,hsg⟩:∃ s:Int,Na.sgn (y*mid) T=s:=⟨_,rfl⟩
        have HSg:=zh hsg;rw [hsg] at hsle;have hsd:decide (sg≤0)=false:=zn hsle
        have hsle':0<sg:=by omega
        clear hsg hgt2 HMt HMf HOh HLH hsle;go_upto_region 20 with (fail)
        go_region_held3 (fun W=>W.cell? ⟨w.heap.size+1,0,none⟩=some (.slice A2 m c2)∧W.cell? ⟨r0,0,none⟩=some (.slice (some ⟨gb,0,none⟩) q1 c')) (first | exact ⟨hy1,hy4⟩ | exact ⟨how.cell 1 rfl,how.cell 4 rfl⟩ | exact ⟨how2.cell 1 rfl,how2.cell 4 rfl⟩) ((first | (go_at_call 103;(with_reducible refine HTi.out.mono ?_);rintro e w11 ⟨A5,n5,c5,rfl,hn5,how⟩) | (go_at_call 47;(with_reducible refine (z6u how 4 3 rfl rfl).mono ?_);rw [HSg.out];rintro e w12 ⟨rfl,how2⟩)))
        have HF:=zh how2;clear hy1 hy4 how how2;go_wp2_with fail;go_roundw
        case rel=>exact ⟨lo,mid - 1,by omega,by omega,rfl,z0o (by omega),HN2,HF.out.less (fun o ho=>by simp only [List.mem_append];exact .inl ho)⟩
        case measure=>simp [intOf];omega
      ·obtain rfl:lo=hi:=by omega
       have hqd:T / y=lo∧T % y=T - y*lo:=by
        have h1:=HLH.out;have e:T=y*lo+(T - y*lo):=by omega
        have h3:=Na.half_end h1.1 h1.2
        constructor
        ·rw [e,Nat.mul_add_div HY0.out,Nat.div_eq_of_lt h3,Nat.add_zero]
        ·rw [e,Nat.mul_add_mod,Nat.mod_eq_of_lt h3,Nat.add_sub_cancel_left]
       have hlo24:lo<16777216:=hh
       have HLE:=zh HLH.out.1;have HRl:=zh (Na.half_end HLH.out.1 HLH.out.2)
       have hx8:=HOh.out.cell 4 rfl
       have hx1:=HOh.out.cell 1 rfl
       have hQ0:=HOh.out.row 0 rfl
       obtain ⟨gq,rfl,-,-⟩:=z0u hQ0 (by omega)
       have hcq:=z0z hQ0 (k:=j) (b:=0) (by rw [zqn (by simp),List.getElem?_replicate,if_pos (Nat.lt_succ_self j)])
       have hfq:=hQ0.frozenAt j
       have H11:=HOh.out.put 0 rfl j (.int .i64 (lo:Int))
       rw [zqd,z1o,Na.zeros_set] at H11;have hlo0:(lo:Int)=lo:=rfl
       clear hQ0 HLH hqd;go_upto_region 24 with (fail)
       obtain ⟨w13,hw13⟩:∃ w13,wr.setCell ⟨gq,j,none⟩ (.int .i64 (lo:Int))=w13:=⟨_,rfl⟩
       rw [hw13] at H11 ⊢
       clear hw13 hcq hfq hx8 hx1;have hx8:=H11.cell 4 rfl
       have hx1:=H11.cell 1 rfl
       have hf8:=H11.free 4 rfl
       have HTi:=zh (z8s H11.drew 1 lo rfl (by omega) hlo24)
       have HTm:=zh hx8;clear HOh H11;go_region_with (first | (go_at_call 103;(with_reducible refine HTi.out.mono ?_);rintro e w11 ⟨A5,n5,c5,rfl,hn5,how⟩;have hy8:=how.cell 4 rfl;have hyf:=how.free 4 rfl;have HHow:=zh how) | (go_at_call 104;(with_reducible refine (z8as how 3 4 rfl rfl (by omega) (by omega) HLE.out).mono ?_);rintro e w12 ⟨A6,n6,c6,rfl,hn6,how2⟩;have hz8:=how2.cell 4 rfl;have hzf:=how2.free 4 rfl;have HHow2:=zh how2))
       all_goals
        have H12:=(HHow2.out.setv 4 rfl (.slice A6 n6 c6)).less (L':=[⟨some ad,n,c,z0c (Na.dig x)⟩,⟨A2,m,c2,z0c (Na.dig y)⟩,⟨A6,n6,c6,z0c (Na.dig (T - y*lo))⟩]) (fun o ho=>by
         simp only [List.mem_cons,List.not_mem_nil,or_false,List.mem_append] at ho ⊢
         rcases ho with rfl | rfl | rfl <;> simp)
        have hl6:=(HHow2.out.sl (i:=5) rfl).1
        rw [z0e] at hl6;have hn6':n6≤200:=by rw [← hl6];exact (Na.dig_200 _).2 (Nat.lt_trans HRl.out HY.out)
        have HFin:Hid (T - y*lo<y∧(lo :: Q).length+j=n∧Na.Lim (lo :: Q)∧Na.val ((Na.dig x).drop j)=y*Na.val (lo :: Q)+(T - y*lo)):=by
         refine ⟨HRl.out,?_,Na.Lim.cons hlo24 HPj.out.2.2.1,?_⟩
         ·have:=HPj.out.2.1;rw [List.length_cons];omega
         ·rw [← H25.out];exact Na.div_next HHa.out HPj.out.2.2.2 (by rw [H25.out];exact HLE.out)
        have HF12:=zh H12;clear H12 hl6 hx8 hx1 hf8 how how2 HHow HHow2;go_wp2_with fail;go_roundg j
        case measure=>have:=HKK.out;omega
        case rel=>
         have ej:((j:Int) - 1+1).toNat=j:=by omega
         refine ⟨(j:Int) - 1,T - y*lo,A6,n6,c6,lo :: Q,by omega,by omega,ej,rfl,hn6',?_,?_⟩
         ·unfold Hid;rw [ej];exact HFin.out
         ·unfold Hid;rw [ej];exact HF12.out.few 1
def ROf (w:World)(M:List (Nat×Value))(m:Nat)(v s:Value)(wr:World):Prop:=
 ∃ (x:Nat) (A:Option Addr) (k c:Nat) (d:List Nat),x≤m∧v=.int .i64 (x:Int)∧s=.slice A k c∧k≤3∧Hid (Na.dig m=d++Na.dig x∧d.length=k)∧Hid (Ow w wr none M [] [⟨A,k,c,3,z0c d⟩])
theorem z6m (m:Int)(w:World)(hm:m≤9223372036854775807):Calls Tryz.prog 55 #[.int .i64 m] w (z3b w (ofL m) (ofE m)):=by
 have H0:=(Ow.of (St.refl w)).boxed (.slice none 0 0) 25
 simp only [zqc] at H0;by_cases h:m<0
 ·have HR:Hid (ofL m=[]):=if_pos h
  have HE:Hid (ofE m=2):=if_pos h
  have hc0:=H0.cell 0 rfl
  have hf0:=H0.free 0 rfl
  go_enter Tryz.func55,Tryz.ntmps55
  go_wp2_with fail;refine bodyPost_ret (v:=.tuple #[.agg #[.slice none 0 0],.int .i64 2]) (by simp [results,Tryz.results55,go_sem]) rfl ?_
  rw [HR.out,HE.out];exact z0x _ _ _ H0.below
 ·have h':0≤m:=by omega
  obtain ⟨m0,rfl⟩:=Int.eq_ofNat_of_zero_le h'
  have HR:Hid (ofL m0=Na.dig m0):=if_neg (by omega)
  have HE:Hid (ofE m0=0):=if_neg (by omega)
  have hlen:(Na.dig m0).length≤3:=Na.dig_len_le (zqu (show m0≤9223372036854775807 by omega) (by decide))
  have HH:=zh (H0.nil 3)
  clear h H0;rw [HR.out,HE.out];go_enter Tryz.func55,Tryz.ntmps55
  go_wp2_with fail;go_loopw [0,4] (fun v s wr=>ROf w [(w.heap.size,.slice none 0 0)] m0 v s wr) (fun v _ _=>(intOf v).toNat)
  case atStart=>exact ⟨m0,none,0,0,[],zqj _,rfl,rfl,by omega,⟨rfl,rfl⟩,HH.out⟩
  case round=>
   obtain ⟨x,A,k,c,d,hx,rfl,rfl,hk,HD,HO⟩:=hrel;rcases zqh x with rfl | h0
   ·have hd:Na.dig m0=d:=by rw [HD.out.1,Na.dig_zero,List.append_nil]
    have hc0:=HO.out.cell 0 rfl
    have hf0:=HO.out.free 0 rfl
    have HDD:=zh hd;clear hd;go_wp2_with fail;have G:=HO.out.setv 0 rfl (.slice A k c)
    have hc1:=G.cell 0 rfl
    refine bodyPost_ret (v:=.tuple #[.agg #[.slice A k c],.int .i64 0]) (by simp [results,Tryz.results55,go_sem,hc1]) rfl ?_
    rw [HDD.out];exact z4y G 0 rfl 0
   ·have hdx:=Na.dig_pos x h0
    have hdl:k+1≤3:=by
     have h1:=congrArg List.length HD.out.1
     rw [zqm,hdx,List.length_cons,HD.out.2] at h1;omega
    have HD2:Hid (Na.dig m0=(d++[x % 16777216])++Na.dig (x / 16777216)):=by
     unfold Hid;rw [HD.out.1,hdx,zqa];rfl
    clear hdx;have hmod:(x:Int) % 16777216=((x % 16777216:Nat):Int):=by omega
    have hdiv:(x:Int) / 16777216=((x / 16777216:Nat):Int):=by omega
    obtain ⟨r,hr⟩:∃ r,x % 16777216=r:=⟨_,rfl⟩
    obtain ⟨q,hq⟩:∃ q,x / 16777216=q:=⟨_,rfl⟩
    rw [hr] at hmod HD2;rw [hq] at hdiv HD2;have hqx:q<x:=by omega
    have HL:Hid ((d++[r]).length=k+1):=by unfold Hid;rw [zqm,HD.out.2];rfl
    have hd:decide (0<(x:Int))=true:=zt (by omega)
    clear hr hq;go_wp2_with (at_builtin;refine z2m z5f HO.out 0 (.tmp 12) (.tmp 15) _ _ rfl rfl (by unfold maxLen;omega) (by omega) rfl rfl rfl rfl ?_;intro A' c' w8 how)
    go_roundw
    case rel=>
     rw [z1a] at how;exact ⟨q,A',k+1,c',d++[r],by omega,(by first | rfl | exact z0o hdiv),rfl,hdl,⟨HD2.out,HL.out⟩,how⟩
    case measure=>simp [intOf];omega
section
variable {w0 w w':World}{g:Option Nat}{M:List (Nat×Value)}{L:List Ob}{O:List Rw}{A A2:Option Addr}{n c m c2 x y:Nat}
theorem Ow.push2 (h:Ow w0 w g M L O){B1 B2:Option Addr}{n1 d1 n2 d2:Nat}{us vs:List Value}{e:TypeId}(ho:w'.ownsRow w.heap.size e 1 (.slice B1 n1 d1) n1 us)(ho2:w'.ownsRow w.heap.size e 1 (.slice B2 n2 d2) n2 vs)(hl:n1≤1000)(hl2:n2≤1000)(hb:Below w.heap.size w w'):Ow w0 w' g M (L++[⟨B1,n1,d1,us⟩]++[⟨B2,n2,d2,vs⟩]) O:=by
 have h':=h.go hb
 have new:∀ {B:Option Addr} {n d:Nat} {xs:List Value},w'.ownsRow w.heap.size e 1 (.slice B n d) n xs→∀ ad,B=some ad→0<n→w.heap.size≤ad.block:=fun ho ad ea h0=>by
  obtain ⟨gb,hg,h1,_⟩:=z0u ho h0
  rw [ea] at hg;obtain rfl:=zqk hg
  exact h1
 refine ⟨h.st.push2 ho ho2 hl hl2 hb,h'.own,fun i r hi b hbk=>⟨(h'.ap i r hi b hbk).1,(h'.ap i r hi b hbk).2.1,fun o hm ad ea h0=>?_⟩,h'.two⟩
 have hlt:=(h.lt hi hbk).1
 rcases List.mem_append.1 hm with hm | hm
 ·rcases List.mem_append.1 hm with hm | hm
  ·exact (h'.ap i r hi b hbk).2.2 o hm ad ea h0
  ·rw [List.mem_singleton] at hm;subst hm
   have:=new ho ad ea h0
   omega
 ·rw [List.mem_singleton] at hm;subst hm
  have:=new ho2 ad ea h0
  omega
theorem z5bu (h:Ow w0 w g M L O)(v:Nat)(hv:v≤9223372036854775807):Calls Tryz.prog 55 #[.int .i64 (v:Int)] w fun e w'=>∃ (A':Option Addr) (n' c':Nat),e=.returned (.tuple #[.agg #[.slice A' n' c'],.int .i64 0])∧(Na.dig v).length=n'∧Ow w0 w' g M (L++[⟨A',n',c',z0c (Na.dig v)⟩]) O:=by
 have e1:ofL (v:Int)=Na.dig v:=if_neg (by omega)
 have e2:ofE (v:Int)=0:=if_neg (by omega)
 have hr:=z6m (v:Int) w (by omega)
 rw [e1,e2] at hr;exact hr.mono fun en w' hr=>h.pushN hr (zqq (Na.dig_len_le (n:=3) (zqu hv (by decide))) (by omega))
theorem z3ag (h:Ow w0 w g M L O)(i j:Nat)(hi:L[i]?=some ⟨A,n,c,z0c (Na.dig x)⟩)(hj:L[j]?=some ⟨A2,m,c2,z0c (Na.dig y)⟩)(hx:x<Na.top)(hy:y<Na.top)(hy0:0<y):
  Calls Tryz.prog 77 #[.agg #[.slice A n c],.agg #[.slice A2 m c2]] w fun e w'=>∃ (A1:Option Addr) (n1 c1:Nat) (A2:Option Addr) (n2 c2:Nat),e=.returned (.tuple #[.agg #[.slice A1 n1 c1],.agg #[.slice A2 n2 c2],.int .i64 0])∧Ow w0 w' g M ((L++[⟨A1,n1,c1,z0c (Na.dig (x / y))⟩])++[⟨A2,n2,c2,z0c (Na.dig (x % y))⟩]) O:=by
 obtain ⟨h1,h2,h3,h4⟩:=h.sl hi
 obtain ⟨k1,k2,k3,k4⟩:=h.sl hj
 rw [z0e] at h1 k1;have l1:(Na.dig (x / y)).length≤200:=(Na.dig_200 _).2 (zqu (Nat.div_le_self _ _) hx)
 have l2:(Na.dig (x % y)).length≤200:=(Na.dig_200 _).2 (zqu (Nat.mod_le _ _) hx)
 exact (z6y A A2 n c m c2 x y w h1 k1 h2 k2 h4 k4 hx hy hy0).mono fun en w' ⟨A1,n1,c1,A3,n2,c3,he,e1,e2,o1,o2,hb⟩=>
  ⟨A1,n1,c1,A3,n2,c3,he,h.push2 o1 o2 (by omega) (by omega) hb⟩
end
def RGcd (w:World)(B:Nat)(x y:Nat)(k:Nat)(wr:World):Prop:=
 ∃ (X Y:Nat) (A1:Option Addr) (n1 c1:Nat) (A2:Option Addr) (n2 c2:Nat),n1≤200∧n2≤200∧Hid (Nat.gcd X Y=Nat.gcd x y∧Y=k∧X<Na.top∧Y<Na.top)∧Hid (Ow w wr none [(B,.slice A1 n1 c1),(B+1,.slice A2 n2 c2),(B+1+1,.slice none 0 0)] [⟨A1,n1,c1,z0c (Na.dig X)⟩,⟨A2,n2,c2,z0c (Na.dig Y)⟩] [])
theorem z2af (A A2:Option Addr)(n c m c2 x y:Nat)(w:World)(hn:(Na.dig x).length=n)(hm:(Na.dig y).length=m)(hnc:n≤c)(hmc:m≤c2)(hs:Sl w w.heap.size A (z0c (Na.dig x)))(hs2:Sl w w.heap.size A2 (z0c (Na.dig y)))(hx:x<Na.top)(hy:y<Na.top):
  Calls Tryz.prog 76 #[.agg #[.slice A n c],.agg #[.slice A2 m c2]] w (z3b w (Na.dig (Nat.gcd x y)) 0):=by
 have hn2:n≤200:=by rw [← hn];exact (Na.dig_200 x).2 hx
 have hm2:m≤200:=by rw [← hm];exact (Na.dig_200 y).2 hy
 have H0:=(((((Ow.of (St.refl w)).old hs (by rw [z0e];exact hn) hnc (by omega)).old hs2 (by rw [z0e];exact hm) hmc (by omega)).boxed (.slice A n c) 25).boxed (.slice A2 m c2) 25).boxed (.slice none 0 0) 25
 simp only [World.size_alloc,zqc,zqb] at H0;have hc0:=H0.cell 0 rfl
 have HH:=zh (z2d H0 0 rfl hx)
 have HX:=zh hx;have HY:=zh hy;clear hn hm hs hs2 H0 hx hy;go_enter Tryz.func76,Tryz.ntmps76
 go_wp2_with fail;refine HH.out.mono ?_;rintro e w1 ⟨rfl,H1⟩;have hc1:=H1.cell 1 rfl
 have HK:=zh (z2d H1 1 rfl HY.out)
 clear hc0 HH H1;go_wp2_with fail;refine HK.out.mono ?_;rintro e w2 ⟨rfl,H2⟩;have HI:=zh H2;clear HK H2 hc1;go_wp2_with fail;go_loopg [] y (fun k wr=>RGcd w w.heap.size x y k wr)
 case atStart=>exact ⟨x,y,A,n,c,A2,m,c2,hn2,hm2,⟨rfl,rfl,HX.out,HY.out⟩,HI.out⟩
 case round=>
  clear HI;obtain ⟨X,Y,A1,n1,c1,A3,n3,c3,hn1,hn3,HP,HO⟩:=hrel;have hc0:=HO.out.cell 0 rfl
  have hc1:=HO.out.cell 1 rfl
  have hl3:=(HO.out.sl (i:=1) rfl).1
  rw [z0e] at hl3;rcases zqh n3 with h0 | h0
  ·subst h0
   have hY0:=Na.dig_len0.1 hl3
   have hG:Nat.gcd x y=X:=by rw [← HP.out.1,hY0,Nat.gcd_zero_right]
   have HG:=zh hG;have HN:=zh (HO.out.nil 3)
   have hQ:=zh (HN.out.sl (i:=0) rfl)
   have hc2:=HO.out.cell 2 rfl
   clear hl3 hY0 hG HO;go_wp2_with (at_builtin;refine z5l z5f HN.out 0 (.const (.slice none 0 0)) (.tmp 32) rfl hQ.out.1 hQ.out.2.2.2 (z3l _) (by unfold maxLen;omega) (by omega) rfl rfl rfl rfl ?_;intro A' c' w3 how;have hs2:=how.cell 2 rfl;have hs2f:=how.free 2 rfl)
   have G:=how.setv 2 rfl (.slice A' (0+n1) c')
   have hc3:=G.cell 2 rfl
   simp only [Nat.zero_add] at G hc3;refine bodyPost_ret (v:=.tuple #[.agg #[.slice A' n1 c'],.int .i64 0]) (by simp [results,Tryz.results76,go_sem,hc3]) rfl ?_
   rw [HG.out];exact z4y G 0 rfl 0
  ·have hY0:0<Y:=by
    rcases zqh Y with e | e
    ·rw [e,Na.dig_zero] at hl3;simp at hl3;omega
    ·exact e
   have hd:decide (0<(n3:Int))=true:=zt (by omega)
   have HD:=zh (z3ag HO.out 0 1 rfl rfl HP.out.2.2.1 HP.out.2.2.2 hY0)
   have HYp:=zh hY0;have hn0:(0:Int)<(n3:Int):=by omega
   clear hl3 hY0 HO h0;go_wp2_with fail;refine HD.out.mono ?_;rintro e w3 ⟨B1,m1,d1,B2,m2,d2,rfl,H3⟩;have H4:=(H3.boxed (.slice B1 m1 d1) 25).boxed (.slice B2 m2 d2) 25
   simp only [World.size_alloc,zqc,zqb] at H4;clear hc0 hc1 HD H3;go_upto_region 5 with (fail)
   obtain ⟨w4,hw4⟩:∃ w4,(w3.alloc (.cells #[.slice B1 m1 d1] 25)).alloc (.cells #[.slice B2 m2 d2] 25)=w4:=⟨_,rfl⟩
   rw [hw4] at H4 ⊢
   clear hw4;have k1:=H4.cell 1 rfl
   have k4:=H4.cell 4 rfl
   have q0:=H4.cell 0 rfl
   have q0f:=H4.free 0 rfl
   have G1:=H4.setv 0 rfl (.slice A3 n3 c3)
   have q1:=G1.cell 1 rfl
   have q1f:=G1.free 1 rfl
   have q4:=G1.cell 4 rfl
   have G2:=G1.setv 1 rfl (.slice B2 m2 d2)
   have hl2:=(G2.sl (i:=3) rfl).1
   rw [z0e] at hl2;have HM2:Hid (m2≤200):=by unfold Hid;rw [← hl2];exact (Na.dig_200 _).2 (zqu (Nat.mod_le _ _) HP.out.2.2.1)
   have HF:=zh (G2.drew.few2 (M':=[(w.heap.size,.slice A3 n3 c3),(w.heap.size+1,.slice B2 m2 d2),(w.heap.size+1+1,.slice none 0 0)]) (L':=[⟨A3,n3,c3,z0c (Na.dig Y)⟩,⟨B2,m2,d2,z0c (Na.dig (X % Y))⟩]) rfl (fun o ho=>by simp only [List.mem_cons,List.not_mem_nil,or_false] at ho ⊢;rcases ho with rfl | rfl <;> simp))
   have HGn:Hid (Nat.gcd Y (X % Y)=Nat.gcd x y∧X % Y<Y∧X % Y<Na.top):=⟨by rw [← HP.out.1,Nat.gcd_comm X Y,Nat.gcd_rec Y X,Nat.gcd_comm],Nat.mod_lt _ HYp.out,zqu (Nat.mod_le _ _) HP.out.2.2.1⟩
   clear H4 G1 G2 hl2;go_region
   all_goals
    clear k1 k4 q0 q0f q1 q1f q4;go_wp2_with fail;go_roundg (X % Y)
    case measure=>have:=HP.out.2.1;have:=HGn.out.2.1;omega
    case rel=>exact ⟨Y,X % Y,A3,n3,c3,B2,m2,d2,hn3,HM2.out,⟨HGn.out.1,rfl,HP.out.2.2.2,HGn.out.2.2⟩,HF.out⟩
theorem z6af (A A2:Option Addr)(n c m c2:Nat)(zs ys:List Int)(w:World)(hn:zs.length=n)(hm:ys.length=m)(hnc:n≤c)(hmc:m≤c2)(hs:Sl w w.heap.size A (z0r zs))(hs2:Sl w w.heap.size A2 (z0r ys))(hl:n≤1000)(hl2:m≤1000)(hv:(Na.vld zs && Na.vld ys)=false):
  Calls Tryz.prog 76 #[.agg #[.slice A n c],.agg #[.slice A2 m c2]] w (z3b w [] 1):=by
 have H0:=(((((Ow.of (St.refl w)).old hs (by rw [z0s];exact hn) hnc hl).old hs2 (by rw [z0s];exact hm) hmc hl2).boxed (.slice A n c) 25).boxed (.slice A2 m c2) 25).boxed (.slice none 0 0) 25
 simp only [World.size_alloc,zqc,zqb] at H0;have hc0:=H0.cell 0 rfl
 have HH:=zh (z1s H0 0 rfl)
 clear hn hm hs hs2 H0;cases h1:Na.vld zs
 ·rw [h1] at HH;go_enter Tryz.func76,Tryz.ntmps76
  go_wp2_with fail;refine HH.out.mono ?_;rintro e w1 ⟨rfl,H1⟩;have hc2:=H1.cell 2 rfl
  have hf2:=H1.free 2 rfl
  clear hc0 HH;go_wp2_with fail;have H2:=H1.setv 2 rfl (.slice none 0 0)
  have hc3:=H2.cell 2 rfl
  refine bodyPost_ret (v:=.tuple #[.agg #[.slice none 0 0],.int .i64 1]) (by simp [results,Tryz.results76,go_sem,hc3]) rfl ?_
  exact z0x _ _ _ H2.below
 ·rw [h1,Bool.true_and] at hv;rw [h1] at HH;go_enter Tryz.func76,Tryz.ntmps76
  go_wp2_with fail;refine HH.out.mono ?_;rintro e w1 ⟨rfl,H1⟩;have hc1:=H1.cell 1 rfl
  have HK:=zh (z1s H1 1 rfl)
  rw [hv] at HK;clear hc0 HH H1;go_wp2_with fail;refine HK.out.mono ?_;rintro e w2 ⟨rfl,H1⟩;have hc2:=H1.cell 2 rfl
  have hf2:=H1.free 2 rfl
  clear hc1 HK;go_wp2_with fail;have H2:=H1.setv 2 rfl (.slice none 0 0)
  have hc3:=H2.cell 2 rfl
  refine bodyPost_ret (v:=.tuple #[.agg #[.slice none 0 0],.int .i64 1]) (by simp [results,Tryz.results76,go_sem,hc3]) rfl ?_
  exact z0x _ _ _ H2.below
section
variable {w0 w w':World}{g:Option Nat}{M:List (Nat×Value)}{L:List Ob}{O:List Rw}{A A2:Option Addr}{n c m c2 x y:Nat}
theorem Ow.seen (h:Ow w0 w g M L O)(i:Nat){e:TypeId}{l:List Nat}(hi:O[i]?=some ⟨A,n,c,e,z0c l⟩):l.length=n∧n≤c∧Sl w w.heap.size A (z0c l):=by
 have ho:=h.row i hi
 have:=z1j ho
 rw [z0e] at this;exact ⟨this,(z1k ho).1,Sl.of_own ho⟩
theorem Ow.seenL (h:Ow w0 w g M L O)(i:Nat){l:List Nat}(hi:L[i]?=some ⟨A,n,c,z0c l⟩):l.length=n∧n≤c∧Sl w w.heap.size A (z0c l):=by
 obtain ⟨h1,h2,h3,h4⟩:=h.sl hi
 rw [z0e] at h1;exact ⟨h1,h2,h4⟩
theorem z4as (h:Ow w0 w g M L O)(hA:(Na.dig x).length=n∧n≤c∧Sl w w.heap.size A (z0c (Na.dig x)))(hB:(Na.dig y).length=m∧m≤c2∧Sl w w.heap.size A2 (z0c (Na.dig y)))(hx:x<Na.top)(hy:y<Na.top):
  Calls Tryz.prog 46 #[.agg #[.slice A n c],.agg #[.slice A2 m c2]] w fun e w'=>∃ (A':Option Addr) (n' c':Nat),e=.returned (.tuple #[.agg #[.slice A' n' c'],.int .i64 (z3q (x*y))])∧(z4e (x*y)).length=n'∧Ow w0 w' g M L (O++[⟨A',n',c',3,z0c (z4e (x*y))⟩]):=
 (z2ag A A2 n c m c2 x y w hA.1 hB.1 hA.2.2 hB.2.2 hx hy).mono fun en w' hr=>h.addN hr
theorem z3bc (h:Ow w0 w g M L O)(hA:(Na.dig x).length=n∧n≤c∧Sl w w.heap.size A (z0c (Na.dig x)))(hB:(Na.dig y).length=m∧m≤c2∧Sl w w.heap.size A2 (z0c (Na.dig y)))(hl:n≤1000)(hl2:m≤1000):
  Calls Tryz.prog 47 #[.agg #[.slice A n c],.agg #[.slice A2 m c2]] w fun e w'=>e=.returned (.int .i64 (Na.sgn x y))∧Ow w0 w' g M L O:=
 (z6z A A2 n c m c2 x y w hA.1 hB.1 hA.2.1 hB.2.1 hA.2.2 hB.2.2 hl hl2).mono fun en w' ⟨he,hb⟩=>⟨he,h.go hb⟩
theorem z5bv (h:Ow w0 w g M L O)(v:Nat)(hv:v≤9223372036854775807):Calls Tryz.prog 55 #[.int .i64 (v:Int)] w fun e w'=>∃ (A':Option Addr) (n' c':Nat),e=.returned (.tuple #[.agg #[.slice A' n' c'],.int .i64 0])∧(Na.dig v).length=n'∧Ow w0 w' g M L (O++[⟨A',n',c',3,z0c (Na.dig v)⟩]):=by
 have e1:ofL (v:Int)=Na.dig v:=if_neg (by omega)
 have e2:ofE (v:Int)=0:=if_neg (by omega)
 have hr:=z6m (v:Int) w (by omega)
 rw [e1,e2] at hr;exact hr.mono fun en w' hr=>h.addN hr
end
theorem pow_top {x j m:Nat}(hx:0<x)(hj:j<m)(h:Na.top≤x ^ j*x):Na.top≤x ^ m:=by
 rw [← Nat.pow_succ] at h;exact zqq h (Nat.pow_le_pow_right hx hj)
def RPow (w:World)(A:Option Addr)(n c x m:Nat)(r0:Nat)(v:Value)(wr:World):Prop:=
 ∃ (j k:Nat) (A1:Option Addr) (n1 c1:Nat),k+j=m∧v=.int .i64 (k:Int)∧n1≤200∧Hid (x ^ j<Na.top)∧Hid (Ow w wr none [(w.heap.size,.slice A n c),(w.heap.size+1,.slice none 0 0),(r0,.slice A1 n1 c1)] [⟨A,n,c,z0c (Na.dig x)⟩] [⟨A1,n1,c1,3,z0c (Na.dig (x ^ j))⟩])
theorem z3ar (A:Option Addr)(n c x m:Nat)(w:World)(hn:(Na.dig x).length=n)(hnc:n≤c)(hs:Sl w w.heap.size A (z0c (Na.dig x)))(hx:x<Na.top)(hm:m≤4800):
  Calls Tryz.prog 72 #[.agg #[.slice A n c],.int .i64 (m:Int)] w (z3b w (z4e (x ^ m)) (z3q (x ^ m))):=by
 have hn2:n≤200:=by rw [← hn];exact (Na.dig_200 x).2 hx
 have H0:=(((Ow.of (St.refl w)).old hs (by rw [z0e];exact hn) hnc (by omega)).boxed (.slice A n c) 25).boxed (.slice none 0 0) 25
 simp only [World.size_alloc,zqc,zqb] at H0;have hc0:=H0.cell 0 rfl
 have HH:=zh (z2d H0 0 rfl hx)
 have HX:=zh hx;have HN:=zh hn;have h1t:1<Na.top:=zqv (show 1<16777216 ^ 1 by omega) (Nat.pow_le_pow_right (by omega) (by omega))
 have H1T:=zh h1t;obtain ⟨rl,hrl⟩:∃ v,z4e (x ^ m)=v:=⟨_,rfl⟩
 obtain ⟨re,hre⟩:∃ v,z3q (x ^ m)=v:=⟨_,rfl⟩
 rw [hrl,hre];have HRL:=zh hrl;have HRE:=zh hre;clear hn hs H0 hx hrl hre h1t;go_enter Tryz.func72,Tryz.ntmps72
 go_wp2_with fail;refine HH.out.mono ?_;rintro e w1 ⟨rfl,H1⟩;have HK:=zh (z5bv H1 1 (by omega))
 clear hc0 HH H1;go_wp2_with fail;refine HK.out.mono ?_;rintro e w2 ⟨A2,n2,c2,rfl,hn21,H2⟩;have H3:=H2.boxed (.slice A2 n2 c2) 25
 simp only [zqc,zqb] at H3;have hn22:n2≤200:=by rw [← hn21];exact zqq (Na.dig_len_le (n:=1) (by omega)) (by omega)
 have hc0:=H3.cell 0 rfl
 have hc1:=H3.cell 1 rfl
 have hf1:=H3.free 1 rfl
 have HQ:=zh H3;clear HK H2 hn21;by_cases h0:n=0∧0<m
 ·obtain ⟨rfl,hm0⟩:=h0;have hx0:=Na.dig_len0.1 HN.out
  have hp:x ^ m=0:=by rw [hx0];exact Nat.zero_pow hm0
  obtain rfl:[]=rl:=by rw [← HRL.out,hp,z1p (Nat.lt_trans (Nat.zero_lt_one) H1T.out),Na.dig_zero]
  obtain rfl:0=re:=by rw [← HRE.out,hp,z1q (Nat.lt_trans (Nat.zero_lt_one) H1T.out)]
  have hd:decide (0<(m:Int))=true:=zt (by omega)
  clear hx0 hp;go_wp2_with fail;have G:=H3.setv 1 rfl (.slice none 0 0)
  have hc2:=G.cell 1 rfl
  refine bodyPost_ret (v:=.tuple #[.agg #[.slice none 0 0],.int .i64 0]) (by simp [results,Tryz.results72,go_sem,hc2]) rfl ?_
  exact z0x _ _ _ G.below
 ·have hcond:(((n:Int) == 0)=false)∨(((n:Int) == 0)=true∧m=0):=by
   by_cases e:n=0
   ·exact .inr ⟨by simp [e],by omega⟩
   ·exact .inl (by rw [beq_eq_false_iff_ne];omega)
  have HX0:Hid (m=0∨0<x):=by
   unfold Hid;rcases zqh x with e | e
   ·have h3:=HN.out;rw [e,Na.dig_zero] at h3;simp at h3
    omega
   ·exact .inr e
  have HC:=zh (z3bc H3 (H3.seenL 0 rfl) (H3.seen 0 rfl) (by omega) (by omega))
  clear h0 H3;rcases hcond with hd | ⟨hd,hm0⟩
  ·go_wp2_with fail;refine HC.out.mono ?_;by_cases h1:x=1
   ·rw [Na.sgn_eq h1];rintro e w3 ⟨rfl,H4⟩;have hp:x ^ m=1:=by rw [h1,Nat.one_pow]
    obtain rfl:Na.dig 1=rl:=by rw [← HRL.out,hp,z1p H1T.out]
    obtain rfl:0=re:=by rw [← HRE.out,hp,z1q H1T.out]
    have hc3:=H4.cell 1 rfl
    have hf3:=H4.free 1 rfl
    have hc4:=H4.cell 2 rfl
    clear hc0 hc1 hf1 HC hp HQ;go_wp2_with fail;have G:=H4.setv 1 rfl (.slice A2 n2 c2)
    have hc5:=G.cell 1 rfl
    refine bodyPost_ret (v:=.tuple #[.agg #[.slice A2 n2 c2],.int .i64 0]) (by simp [results,Tryz.results72,go_sem,hc5]) rfl ?_
    exact z4y G 0 rfl 0
   ·obtain ⟨sg,hsg⟩:∃ s:Int,Na.sgn x 1=s:=⟨_,rfl⟩
    have hs0:(sg == 0)=false:=by rw [beq_eq_false_iff_ne];rcases Na.sgn_cases x 1 with ⟨h,e⟩ | ⟨h,e⟩ | ⟨h,e⟩ <;> omega
    rw [hsg];rintro e w3 ⟨rfl,H4⟩;have HO:=zh H4;clear hc0 hc1 hf1 HC hsg H4 h1 HQ;go_wp2_with fail;obtain ⟨r0,hr0⟩:∃ r,w2.heap.size=r:=⟨_,rfl⟩
    rw [hr0] at HO ⊢
    go_loopw [1] (fun v wr=>RPow w A n c x m r0 v wr) (fun v _=>(intOf v).toNat)
    case atStart=>exact ⟨0,m,A2,n2,c2,by omega,rfl,hn22,by unfold Hid;rw [Nat.pow_zero];exact H1T.out,by unfold Hid;rw [Nat.pow_zero];exact HO.out⟩
    case round=>
     clear HO;obtain ⟨j,k,A1,n1,c1,hkj,rfl,hn1,HP,HO⟩:=hrel;have hc0:=HO.out.cell 0 rfl
     have hc2:=HO.out.cell 2 rfl
     rcases zqh k with h0 | h0
     ·subst h0
      have hj:j=m:=by omega
      subst hj
      obtain rfl:Na.dig (x ^ j)=rl:=by rw [← HRL.out,z1p HP.out]
      obtain rfl:0=re:=by rw [← HRE.out,z1q HP.out]
      have hc1:=HO.out.cell 1 rfl
      have hf1:=HO.out.free 1 rfl
      go_wp2_with fail;have G:=HO.out.setv 1 rfl (.slice A1 n1 c1)
      have hc5:=G.cell 1 rfl
      refine bodyPost_ret (v:=.tuple #[.agg #[.slice A1 n1 c1],.int .i64 0]) (by simp [results,Tryz.results72,go_sem,hc5]) rfl ?_
      exact z4y G 0 rfl 0
     ·have hd0:decide (0<(k:Int))=true:=zt (by omega)
      have HM:=zh (z4as HO.out (HO.out.seen 0 rfl) (HO.out.seenL 0 rfl) HP.out HX.out)
      have hx1:0<x:=by rcases HX0.out with h | h <;> omega
      clear HO;rcases zqi (x ^ j*x) Na.top with ht | ht
      ·rw [z1p ht,z1q ht,← Nat.pow_succ] at HM;have HT:=zh (show x ^ (j+1)<Na.top from ht)
       clear ht;go_wp2_with fail;refine HM.out.mono ?_;rintro e w4 ⟨A3,n3,c3,rfl,hn3,H5⟩;have hs2:=H5.cell 2 rfl
       have hs2f:=H5.free 2 rfl
       have hn3':n3≤200:=by rw [← hn3];exact (Na.dig_200 _).2 HT.out
       have G:=Ow.tail (H5.setv 2 rfl (.slice A3 n3 c3))
       have HG:=zh G;clear hc0 hc2 HM H5 G hn3;go_wp2_with fail;go_roundw
       case rel=>exact ⟨j+1,k - 1,A3,n3,c3,by omega,z0o (by omega),hn3',HT,HG⟩
       case measure=>simp [intOf];omega
      ·rw [z4z ht,z5a ht] at HM;have hbig:=pow_top hx1 (show j<m by omega) ht
       obtain rfl:[]=rl:=by rw [← HRL.out,z4z hbig]
       obtain rfl:3=re:=by rw [← HRE.out,z5a hbig]
       clear ht hbig;go_wp2_with fail;refine HM.out.mono ?_;rintro e w4 ⟨A3,n3,c3,rfl,hn3,H5⟩;have hs2:=H5.cell 2 rfl
       have hs2f:=H5.free 2 rfl
       have G:=H5.setv 2 rfl (.slice A3 n3 c3)
       have hs1:=G.cell 1 rfl
       have hs1f:=G.free 1 rfl
       clear hc0 hc2 HM H5 hn3;go_wp2_with fail;have G2:=G.setv 1 rfl (.slice none 0 0)
       have hc5:=G2.cell 1 rfl
       refine bodyPost_ret (v:=.tuple #[.agg #[.slice none 0 0],.int .i64 3]) (by simp [results,Tryz.results72,go_sem,hc5]) rfl ?_
       exact z0x _ _ _ G2.below
  ·have hd0:decide (0<(m:Int))=false:=zn (by omega)
   have hd1:decide (0<m)=false:=zn (by omega)
   clear hm0;go_wp2_with fail;refine HC.out.mono ?_;by_cases h1:x=1
   ·rw [Na.sgn_eq h1];rintro e w3 ⟨rfl,H4⟩;have hp:x ^ m=1:=by rw [h1,Nat.one_pow]
    obtain rfl:Na.dig 1=rl:=by rw [← HRL.out,hp,z1p H1T.out]
    obtain rfl:0=re:=by rw [← HRE.out,hp,z1q H1T.out]
    have hc3:=H4.cell 1 rfl
    have hf3:=H4.free 1 rfl
    have hc4:=H4.cell 2 rfl
    clear hc0 hc1 hf1 HC hp HQ;go_wp2_with fail;have G:=H4.setv 1 rfl (.slice A2 n2 c2)
    have hc5:=G.cell 1 rfl
    refine bodyPost_ret (v:=.tuple #[.agg #[.slice A2 n2 c2],.int .i64 0]) (by simp [results,Tryz.results72,go_sem,hc5]) rfl ?_
    exact z4y G 0 rfl 0
   ·obtain ⟨sg,hsg⟩:∃ s:Int,Na.sgn x 1=s:=⟨_,rfl⟩
    have hs0:(sg == 0)=false:=by rw [beq_eq_false_iff_ne];rcases Na.sgn_cases x 1 with ⟨h,e⟩ | ⟨h,e⟩ | ⟨h,e⟩ <;> omega
    rw [hsg];rintro e w3 ⟨rfl,H4⟩;have HO:=zh H4;clear hc0 hc1 hf1 HC hsg H4 h1 HQ;go_wp2_with fail;obtain ⟨r0,hr0⟩:∃ r,w2.heap.size=r:=⟨_,rfl⟩
    rw [hr0] at HO ⊢
    go_loopw [1] (fun v wr=>RPow w A n c x m r0 v wr) (fun v _=>(intOf v).toNat)
    case atStart=>exact ⟨0,m,A2,n2,c2,by omega,rfl,hn22,by unfold Hid;rw [Nat.pow_zero];exact H1T.out,by unfold Hid;rw [Nat.pow_zero];exact HO.out⟩
    case round=>
     clear HO;obtain ⟨j,k,A1,n1,c1,hkj,rfl,hn1,HP,HO⟩:=hrel;have hc0:=HO.out.cell 0 rfl
     have hc2:=HO.out.cell 2 rfl
     rcases zqh k with h0 | h0
     ·subst h0
      have hj:j=m:=by omega
      subst hj
      obtain rfl:Na.dig (x ^ j)=rl:=by rw [← HRL.out,z1p HP.out]
      obtain rfl:0=re:=by rw [← HRE.out,z1q HP.out]
      have hc1:=HO.out.cell 1 rfl
      have hf1:=HO.out.free 1 rfl
      go_wp2_with fail;have G:=HO.out.setv 1 rfl (.slice A1 n1 c1)
      have hc5:=G.cell 1 rfl
      refine bodyPost_ret (v:=.tuple #[.agg #[.slice A1 n1 c1],.int .i64 0]) (by simp [results,Tryz.results72,go_sem,hc5]) rfl ?_
      exact z4y G 0 rfl 0
     ·have hd0:decide (0<(k:Int))=true:=zt (by omega)
      have HM:=zh (z4as HO.out (HO.out.seen 0 rfl) (HO.out.seenL 0 rfl) HP.out HX.out)
      have hx1:0<x:=by rcases HX0.out with h | h <;> omega
      clear HO;rcases zqi (x ^ j*x) Na.top with ht | ht
      ·rw [z1p ht,z1q ht,← Nat.pow_succ] at HM;have HT:=zh (show x ^ (j+1)<Na.top from ht)
       clear ht;go_wp2_with fail;refine HM.out.mono ?_;rintro e w4 ⟨A3,n3,c3,rfl,hn3,H5⟩;have hs2:=H5.cell 2 rfl
       have hs2f:=H5.free 2 rfl
       have hn3':n3≤200:=by rw [← hn3];exact (Na.dig_200 _).2 HT.out
       have G:=Ow.tail (H5.setv 2 rfl (.slice A3 n3 c3))
       have HG:=zh G;clear hc0 hc2 HM H5 G hn3;go_wp2_with fail;go_roundw
       case rel=>exact ⟨j+1,k - 1,A3,n3,c3,by omega,z0o (by omega),hn3',HT,HG⟩
       case measure=>simp [intOf];omega
      ·rw [z4z ht,z5a ht] at HM;have hbig:=pow_top hx1 (show j<m by omega) ht
       obtain rfl:[]=rl:=by rw [← HRL.out,z4z hbig]
       obtain rfl:3=re:=by rw [← HRE.out,z5a hbig]
       clear ht hbig;go_wp2_with fail;refine HM.out.mono ?_;rintro e w4 ⟨A3,n3,c3,rfl,hn3,H5⟩;have hs2:=H5.cell 2 rfl
       have hs2f:=H5.free 2 rfl
       have G:=H5.setv 2 rfl (.slice A3 n3 c3)
       have hs1:=G.cell 1 rfl
       have hs1f:=G.free 1 rfl
       clear hc0 hc2 HM H5 hn3;go_wp2_with fail;have G2:=G.setv 1 rfl (.slice none 0 0)
       have hc5:=G2.cell 1 rfl
       refine bodyPost_ret (v:=.tuple #[.agg #[.slice none 0 0],.int .i64 3]) (by simp [results,Tryz.results72,go_sem,hc5]) rfl ?_
       exact z0x _ _ _ G2.below
section
variable {w0 w w':World}{g:Option Nat}{M:List (Nat×Value)}{L:List Ob}{O:List Rw}{A A2:Option Addr}{n c m c2 x y:Nat}
theorem z7j (h:Ow w0 w g M L O)(hA:(Na.dig x).length=n∧n≤c∧Sl w w.heap.size A (z0c (Na.dig x)))(hB:(Na.dig y).length=m∧m≤c2∧Sl w w.heap.size A2 (z0c (Na.dig y)))(hx:x<Na.top)(hy:y<Na.top)(hy0:0<y):
  Calls Tryz.prog 77 #[.agg #[.slice A n c],.agg #[.slice A2 m c2]] w fun e w'=>∃ (A1:Option Addr) (n1 c1:Nat) (A2:Option Addr) (n2 c2:Nat),e=.returned (.tuple #[.agg #[.slice A1 n1 c1],.agg #[.slice A2 n2 c2],.int .i64 0])∧(Na.dig (x / y)).length=n1∧Ow w0 w' g M L (O++[⟨A1,n1,c1,3,z0c (Na.dig (x / y))⟩]):=
 (z6y A A2 n c m c2 x y w hA.1 hB.1 hA.2.1 hB.2.1 hA.2.2 hB.2.2 hx hy hy0).mono fun en w' ⟨A1,n1,c1,A3,n2,c3,he,e1,e2,o1,o2,hb⟩=>⟨A1,n1,c1,A3,n2,c3,he,e1,h.add o1 hb⟩
end
theorem z5r (a b:List UInt8):str a++str b=str (a++b):=by
 unfold str;apply ByteArray.ext
 simp
theorem z0az (A:Option Addr)(n c:Nat)(zs:List Int)(w:World)(hn:zs.length=n)(hnc:n≤c)(hs:Sl w w.heap.size A (z0r zs))(hl:n≤1000)(hv:Na.vld zs=false):
  Calls Tryz.prog 49 #[.agg #[.slice A n c]] w fun e w'=>e=.returned (.string (str []))∧Below w.heap.size w w':=by
 have H0:=((Ow.of (St.refl w)).old hs (by rw [z0s];exact hn) hnc hl).boxed (.slice A n c) 25
 simp only [zqc] at H0;have hc0:=H0.cell 0 rfl
 have HH:=zh (z1s H0 0 rfl)
 rw [hv] at HH;clear hn hs H0 hv;go_enter Tryz.func49,Tryz.ntmps49
 go_wp2_with fail;refine HH.out.mono ?_;rintro e w1 ⟨rfl,H1⟩;have HB:=zh H1.below;clear hc0 HH H1;go_wp2_with fail;go_ret;exact ⟨rfl,HB.out⟩
def z2bq:Value→Nat
 | .string b=>b.size
 | _=>0
def RPr (w:World)(M:List (Nat×Value))(L:List Ob)(x:Nat)(l s:Value)(wr:World):Prop:=
 ∃ (y:Nat) (ds:List Nat) (A:Option Addr) (n c:Nat),l=.slice A n c∧s=.string (str (ds.map De.asc).reverse)∧n≤200∧ds.length≤4801∧Hid (De.dig x=ds++De.dig y∧De.val ds+10 ^ ds.length*y=x)∧Hid (Ow w wr none M L [⟨A,n,c,3,z0c (Na.dig y)⟩])
def RTen (w:World)(M:List (Nat×Value))(L:List Ob)(Y:List Nat)(n:Nat)(A:Option Addr)(c:Nat)(rest i:Value)(wr:World):Prop:=
 ∃ (z:Int) (r:Nat) (Q:List Nat),-1≤z∧z<n∧i=.int .i64 z∧rest=.int .i64 (r:Int)∧r<10∧Hid (Q.length+(z+1).toNat=n∧Na.Lim Q∧Na.val (Y.drop (z+1).toNat)=10*Na.val Q+r)∧Hid (Ow w wr none M L [⟨A,n,c,3,z0c (Y.take (z+1).toNat++Q)⟩])
theorem z3aq (A:Option Addr)(n c:Nat)(x:Nat)(w:World)(hn:(Na.dig x).length=n)(hnc:n≤c)(hs:Sl w w.heap.size A (z0c (Na.dig x)))(hx:x<Na.top):
  Calls Tryz.prog 49 #[.agg #[.slice A n c]] w fun e w'=>e=.returned (.string (str (De.text x)))∧Below w.heap.size w w':=by
 have hn2:n≤200:=by rw [← hn];exact (Na.dig_200 x).2 hx
 have H0:=((Ow.of (St.refl w)).old hs (by rw [z0e];exact hn) hnc (by omega)).boxed (.slice A n c) 25
 simp only [zqc] at H0;have hc0:=H0.cell 0 rfl
 have HH:=zh (z2d H0 0 rfl hx)
 have HX:=zh hx;clear hn hs H0 hx;go_enter Tryz.func49,Tryz.ntmps49
 go_wp2_with fail;refine HH.out.mono ?_;rintro e w1 ⟨rfl,H1⟩;have hc1:=H1.cell 0 rfl
 have HN:=zh (H1.nil 3)
 have hQ:=zh (HN.out.sl (i:=0) rfl)
 clear hc0 HH H1;go_wp2_with (at_builtin;refine z5l z5f HN.out 0 (.const (.slice none 0 0)) (.tmp 12) rfl hQ.out.1 hQ.out.2.2.2 (z3l _) (by unfold maxLen;omega) (by omega) rfl rfl rfl rfl ?_;intro A1 c1 w2 how)
 rw [Nat.zero_add,zqc] at how;have HI:=zh how
 try rw [Nat.zero_add]
 clear hc1 HN hQ how;go_loopw [3,4] (fun l s wr=>RPr w [(w.heap.size,.slice A n c)] [⟨A,n,c,z0c (Na.dig x)⟩] x l s wr) (fun _ s _=>5000 - z2bq s)
 case atStart=>exact ⟨x,[],A1,n,c1,rfl,rfl,hn2,by simp,⟨rfl,by simp [De.val]⟩,HI.out⟩
 case round=>
  clear HI;obtain ⟨y,ds,A3,n3,c3,rfl,rfl,hn3,hdl,HP,HO⟩:=hrel;have hlen:=(HO.out.seen 0 rfl).1
  rcases zqh n3 with h0 | h0
  ·subst h0
   have hy0:y=0:=Na.dig_len0.1 hlen
   have HD:Hid (De.dig x=ds):=by unfold Hid;rw [HP.out.1,hy0,De.dig_zero,List.append_nil]
   clear hlen hy0;rcases zqh x with hx0 | hx0
   ·have hds:ds=[]:=by rw [← HD.out,hx0,De.dig_zero]
    have HTx:Hid (De.text x=[48]):=by unfold Hid;rw [hx0];rfl
    have hemp:(str ((ds.map De.asc).reverse)).toList.isEmpty=true:=by rw [z7i,hds];rfl
    clear hds hx0;go_wp2_with fail;go_ret;exact ⟨by rw [HTx.out];rfl,HO.out.below⟩
   ·have hemp:(str ((ds.map De.asc).reverse)).toList.isEmpty=false:=z4ap (by rw [← HD.out];exact De.text_ne hx0)
    have HTx:Hid (De.text x=(ds.map De.asc).reverse):=by unfold Hid;rw [De.text_pos hx0,HD.out]
    go_wp2_with fail;go_ret;exact ⟨by rw [HTx.out];rfl,HO.out.below⟩
  ·have HY:Hid (0<y):=by
    unfold Hid;rcases zqh y with h | h
    ·rw [h,Na.dig_zero] at hlen;simp at hlen;omega
    ·exact h
   have hdl2:ds.length≤4800:=De.len_bound (by have:=HP.out.2;omega) HY.out HX.out
   have hd:decide (0<(n3:Int))=true:=zt (by omega)
   have HLn:=zh hlen;obtain ⟨gb,rfl,-,-⟩:=z0u (HO.out.row 0 rfl) h0
   clear hlen;go_wp2_with fail;go_loopw [5,6] (fun r i wr=>RTen w [(w.heap.size,.slice A n c)] [⟨A,n,c,z0c (Na.dig x)⟩] (Na.dig y) n3 (some ⟨gb,0,none⟩) c3 r i wr) (fun _ i _=>(intOf i+1).toNat)
   case atStart=>
    refine ⟨(n3:Int) - 1,0,[],by omega,by omega,rfl,rfl,by omega,⟨by rw [List.length_nil];omega,Na.Lim.nil,?_⟩,?_⟩
    ·rw [List.drop_of_length_le (by rw [HLn.out];omega)];rfl
    ·unfold Hid;rw [show ((n3:Int) - 1+1).toNat=n3 by omega,zqp (by rw [HLn.out];exact zqj _),List.append_nil]
     exact HO.out
   case round=>
    obtain ⟨z,r,Q,hz1,hz2,rfl,rfl,hr10,HQ,HOt⟩:=hrel;rcases Int.lt_or_le z 0 with hz | hz
    ·have e0:(z+1).toNat=0:=by omega
     have HO1:=HOt.out;rw [e0,List.take_zero,zqc] at HO1;have hq:=HQ.out;rw [e0,List.drop_zero,Na.val_dig] at hq;have HQL:Hid (Q.length=n3):=by have:=hq.1;unfold Hid;omega
     have HQ2:=zh hq.2.1;have hyd:y / 10=Na.val Q∧y % 10=r:=by have:=hq.2.2;omega
     have HYd:=zh hyd;have HX1:=zh HO1;have hw8:IntKind.u8.wrap (48+(r:Int))=((De.asc r).toNat:Int):=by rw [De.asc_toNat hr10,IntWalk.u8_in _ (by omega)];omega
     have hconv:(convert 113 9 (.slice (some ⟨wr.heap.size,0,none⟩) 1 1)).run Tryz.prog (wr.alloc (.cells #[.int .u8 ((De.asc r).toNat:Int)] 5))=.ok (.string (str [De.asc r])) (wr.alloc (.cells #[.int .u8 ((De.asc r).toNat:Int)] 5)):=run_convert_bytes_back (P:=Tryz.prog) (wr.alloc (.cells #[.int .u8 ((De.asc r).toNat:Int)] 5)) 113 9 5 ⟨wr.heap.size,0,none⟩ 1 [De.asc r] Tryz.underlying113 Tryz.underlying5 Tryz.underlying9 (fun j hj=>by
      have:j=0:=by simp at hj;omega
      subst this
      exact cell_one_new _ _ _ 0 _ rfl)
     have hsa:str [De.asc r]++str ((ds.map De.asc).reverse)=str (((ds++[r]).map De.asc).reverse):=by rw [z5r,List.map_append,List.reverse_append];rfl
     have hs1:=z5j [De.asc r]
     have hs2:=z5j ((ds.map De.asc).reverse)
     rw [List.length_reverse,List.length_map] at hs2;clear hq hyd HO1 HOt HQ hz1 hz2;have HXw:=zh (HX1.out.go (z0i wr (.cells #[.int .u8 ((De.asc r).toNat:Int)] 5)))
     have HND:Hid (De.dig x=(ds++[r])++De.dig (Na.val Q)):=by
      unfold Hid;rw [HP.out.1,De.dig_pos y HY.out,HYd.out.1,HYd.out.2,zqa];rfl
     have HNV:Hid (De.val (ds++[r])+10 ^ (ds++[r]).length*Na.val Q=x):=by
      unfold Hid;rw [De.val_snoc,zqm,List.length_singleton,Nat.pow_succ];have h1:=HP.out.2;have h2:y=10*Na.val Q+r:=by have:=HYd.out;omega
      rw [h2,zqt,← zqs] at h1;omega
     have HSt:Hid (((ds++[r]).map De.asc).reverse=De.asc r :: (ds.map De.asc).reverse):=by unfold Hid;rw [List.map_append,List.reverse_append];rfl
     have HDL:Hid ((ds++[r]).length≤4801):=by unfold Hid;rw [zqm,List.length_singleton];omega
     go_wp2_with fail
     try rw [hsa]
     obtain ⟨w5,hw5⟩:∃ w5,wr.alloc (.cells #[.int .u8 ((De.asc r).toNat:Int)] 5)=w5:=⟨_,rfl⟩
     rw [hw5] at HXw ⊢
     clear hsa hconv hs1 hw5 hw8 HX1;go_loopw [3] (fun v wr=>∃ k:Nat,k≤n3∧v=.slice (some ⟨gb,0,none⟩) k c3∧wr=w5∧Hid (Na.tl Q k=Na.tl Q Q.length)) (fun v _=>slen v)
     case atStart=>exact ⟨n3,zqj _,rfl,rfl,by unfold Hid;rw [HQL.out]⟩
     case round=>
      obtain ⟨k,hk,rfl,rfl,HT⟩:=hrel;have hown:=Sl.of_own (HXw.out.row 0 rfl)
      have hcap:=(z1k (HXw.out.row 0 rfl)).1
      have hkc:(k:Int) - 1≤(c3:Int):=by omega
      rcases Na.tl_case Q Q.length k (by rw [HQL.out];exact hk) HT.out with ⟨h0,hz,ht⟩ | ⟨ht,hs⟩
      ·have hcb:=z0z (HXw.out.row 0 rfl) hz
       have HT2:=zh ht;have hd:decide (0<(k:Int))=true:=zt (by omega)
       have hb2:((k:Int) - 1).toNat=k - 1:=by omega
       clear hown hz ht;go_wp2_with fail;go_roundw
       case rel=>exact ⟨k - 1,by omega,rfl,trivial,HT2⟩
       case measure=>simp [slen];omega
      ·have HG:=zh (HXw.out.trimmed 0 rfl HQ2.out ht rfl)
       rcases hs with h0 | ⟨h0,b,hb,hbne⟩
       ·subst h0
        clear hown ht HT;go_wp2_with fail;go_roundw
        case rel=>exact ⟨Na.val Q,ds++[r],some ⟨gb,0,none⟩,0,c3,rfl,by rw [HSt.out],by omega,HDL.out,⟨HND.out,HNV.out⟩,HG.out⟩
        case measure=>simp [z2bq,z5j];omega
       ·have hcb:=z0z (HXw.out.row 0 rfl) hb
        have hd:decide (0<(k:Int))=true:=zt (by omega)
        clear hown hb ht HT;go_wp2_with fail;go_roundw
        case rel=>exact ⟨Na.val Q,ds++[r],some ⟨gb,0,none⟩,k,c3,rfl,by rw [HSt.out],by omega,HDL.out,⟨HND.out,HNV.out⟩,HG.out⟩
        case measure=>simp [z2bq,z5j];omega
    ·obtain ⟨j,rfl⟩:=Int.eq_ofNat_of_zero_le hz
     have hjn:j<n3:=by omega
     have e1:((j:Int)+1).toNat=j+1:=by omega
     have HO1:=HOt.out;rw [e1] at HO1;have hq:=HQ.out;rw [e1] at hq;obtain ⟨a,ha⟩:=z0m (Na.dig y) j (by rw [HLn.out];exact hjn)
     have ha24:=(Na.dig_lim y).at ha
     have hrow:=HO1.row 0 rfl
     have hcl:=z0z hrow (k:=j) (b:=a) (by rw [zqn (by rw [zqw,HLn.out];omega),List.getElem?_take,if_pos (by omega)];exact ha)
     have hfz:=hrow.frozenAt j
     obtain ⟨t,ht⟩:∃ t,16777216*r+a=t:=⟨_,rfl⟩
     obtain ⟨s1,s2,s3⟩:=Na.small_step (Na.dig y) Q 10 j a r (by omega) ha (Na.dig_lim y) hq.2.1 hq.2.2 hr10
     rw [ht] at s1 s2 s3;obtain ⟨q,hqd⟩:∃ q,t / 10=q:=⟨_,rfl⟩
     obtain ⟨r2,hr2⟩:∃ r2,t % 10=r2:=⟨_,rfl⟩
     rw [hqd] at s1 s2;rw [hr2] at s2 s3;have hdiv:((r:Int)*16777216+(a:Int)) / 10=(q:Int):=by omega
     have hmod:((r:Int)*16777216+(a:Int)) % 10=(r2:Int):=by omega
     have HS:=zh (And.intro s1 (And.intro s2 s3))
     have H11:=HO1.put 0 rfl j (.int .i64 (q:Int))
     rw [zqd,z1o,Na.small_set (Na.dig y) Q j q (by rw [HLn.out];exact hjn)] at H11
     have HX1:=zh H11;have HQl:=zh hq.1;clear ha hq hz hz1 ht hqd hr2 s1 s2 hrow HO1 HOt H11 HQ;go_wp2_with fail;go_roundw
     case rel=>
      have ej:((j:Int) - 1+1).toNat=j:=by omega
      refine ⟨(j:Int) - 1,r2,q :: Q,by omega,by omega,rfl,(by first | rfl | exact z0o hmod),s3,?_,?_⟩
      ·unfold Hid;rw [ej];exact ⟨by have:=HQl.out;rw [List.length_cons];omega,HS.out.1,HS.out.2.1⟩
      ·unfold Hid;rw [ej];exact HX1.out
     case measure=>simp [intOf]
end Go.Proofs.YtpmofjomadibmaaGreatDoor
