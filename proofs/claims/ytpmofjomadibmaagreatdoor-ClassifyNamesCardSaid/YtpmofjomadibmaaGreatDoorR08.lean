/- Rm Dm NBits -/
import Derived.Test.YtpmofjomadibmaaGreatDoorR04
import Derived.Test.YtpmofjomadibmaaGreatDoorR07
import Derived.Lib.BitFns
namespace Go.Proofs.YtpmofjomadibmaaGreatDoor
set_option maxHeartbeats 4000000
open Go.RowKit
set_option linter.unusedVariables false
set_option maxRecDepth 100000
theorem z6z (A A2:Option Addr)(n c m c2:Nat)(x y:Nat)(w:World)(hn:(Na.dig x).length=n)(hm:(Na.dig y).length=m)(hnc:n≤c)(hmc:m≤c2)(hs:Sl w w.heap.size A (z0c (Na.dig x)))(hs2:Sl w w.heap.size A2 (z0c (Na.dig y)))(hl:n≤1000)(hl2:m≤1000):
  Calls Tryz.prog 47 #[.agg #[.slice A n c],.agg #[.slice A2 m c2]] w fun e w'=>e=.returned (.int .i64 (Na.sgn x y))∧Below w.heap.size w w':=by
 have H0:=((((Ow.of (St.refl w)).old hs (by rw [z0e];exact hn) hnc hl).old hs2 (by rw [z0e];exact hm) hmc hl2).boxed (.slice A n c) 25).boxed (.slice A2 m c2) 25
 simp only [World.size_alloc,zqc,zqb] at H0;have hc0:=H0.cell 0 rfl
 have hc1:=H0.cell 1 rfl
 have HN:=zh hn;have HM:=zh hm;have HB:=zh H0.below;obtain ⟨-,-,-,q1⟩:=H0.sl (i:=0) rfl
 obtain ⟨-,-,-,q2⟩:=H0.sl (i:=1) rfl
 have HP:=zh q1;have HQ:=zh q2;clear hn hm hs hs2 q1 q2 H0;rcases Nat.lt_trichotomy n m with hnm | hnm | hnm
 ·have hne:((n:Int) != (m:Int))=true:=by rw [bne_iff_ne];omega
  have HR:Hid (Na.sgn x y=-1):=by unfold Hid;rw [Na.sgn_of_len (by rw [HN.out,HM.out];omega),HN.out,HM.out];exact Na.sgn_lt hnm
  have hd:decide (n<m)=true:=zt hnm
  clear hnm;go_enter Tryz.func47,Tryz.ntmps47
  go_wp2_with fail;go_ret;exact ⟨by rw [HR.out];rfl,HB.out⟩
 ·subst hnm
  have hne:((n:Int) != (n:Int))=false:=by simp
  obtain ⟨w0,hw0⟩:∃ w0,(w.alloc (.cells #[.slice A n c] 25)).alloc (.cells #[.slice A2 n c2] 25)=w0:=⟨_,rfl⟩
  have HW:Hid ((w.alloc (.cells #[.slice A n c] 25)).alloc (.cells #[.slice A2 n c2] 25)=w0):=hw0
  rw [hw0] at HB HP HQ hc0 hc1;clear hw0;go_enter Tryz.func47,Tryz.ntmps47
  go_wp2_with fail;rw [HW.out];go_loopw [5] (fun v wr=>∃ (z:Int) (nq:Nat),-1≤z∧z<n∧v=.int .i64 z∧wr=w0.drewN nq∧Hid ((Na.dig x).drop (z+1).toNat=(Na.dig y).drop (z+1).toNat)) (fun v _=>(intOf v+1).toNat)
  case atStart=>exact ⟨(n:Int) - 1,0,by omega,by omega,by go_num,rfl,by unfold Hid;rw [List.drop_of_length_le (by rw [HN.out];omega),List.drop_of_length_le (by rw [HM.out];omega)]⟩
  case round=>
   obtain ⟨z,nq,hz1,hz2,rfl,rfl,HE⟩:=hrel;rcases Int.lt_or_le z 0 with hz | hz
   ·have HR:Hid (Na.sgn x y=0):=Na.sgn_eq (Na.dig_inj (by have:=HE.out;rw [show (z+1).toNat=0 by omega,List.drop_zero,List.drop_zero] at this;exact this))
    clear hz1;go_wp2_with fail;go_ret;exact ⟨by rw [HR.out];rfl,z0t HB.out _⟩
   ·obtain ⟨k,rfl⟩:=Int.eq_ofNat_of_zero_le hz
    have hkn:k<n:=by omega
    obtain ⟨a,ha⟩:=z0m (Na.dig x) k (by rw [HN.out];exact hkn)
    obtain ⟨b,hb⟩:=z0m (Na.dig y) k (by rw [HM.out];exact hkn)
    obtain ⟨ad,rfl,_,hca⟩:=HP.out.nat ha
    obtain ⟨ad2,rfl,_,hcb⟩:=HQ.out.nat hb
    have HE1:Hid ((Na.dig x).drop (k+1)=(Na.dig y).drop (k+1)):=HE.out
    have HHA:=zh ha;have HHB:=zh hb;clear ha hb hz1 hz HE;rcases Nat.lt_trichotomy a b with hab | hab | hab
    ·have h1:decide (a<b)=true:=zt hab
     have HR:Hid (Na.sgn x y=-1):=by unfold Hid;rw [Na.sgn_at HHA.out HHB.out HE1.out (by omega)];exact Na.sgn_lt hab
     clear hab;go_wp2_with fail;go_quiet (fail)
     go_wp2_with fail;go_ret;exact ⟨by rw [HR.out];rfl,z0t (z0t HB.out _) _⟩
    ·subst hab
     have h1:decide (a<a)=false:=zn (by omega)
     have HE2:Hid ((Na.dig x).drop ((k:Int) - 1+1).toNat=(Na.dig y).drop ((k:Int) - 1+1).toNat):=by
      unfold Hid;rw [show ((k:Int) - 1+1).toNat=k by omega]
      exact Na.drop_same HHA.out HHB.out HE1.out
     go_wp2_with fail;go_quiet (fail)
     go_wp2_with fail;go_quiet (fail)
     go_wp2_with fail;go_roundw
     case rel=>exact ⟨(k:Int) - 1,_,by omega,by omega,rfl,rfl,HE2⟩
     case measure=>simp [intOf]
    ·have h1:decide (a<b)=false:=zn (by omega)
     have h2:decide (b<a)=true:=zt hab
     have HR:Hid (Na.sgn x y=1):=by unfold Hid;rw [Na.sgn_at HHA.out HHB.out HE1.out (by omega)];exact Na.sgn_gt hab
     clear hab;go_wp2_with fail;go_quiet (fail)
     go_wp2_with fail;go_quiet (fail)
     go_wp2_with fail;go_ret;exact ⟨by rw [HR.out];rfl,z0t (z0t (z0t HB.out _) _) _⟩
 ·have hne:((n:Int) != (m:Int))=true:=by rw [bne_iff_ne];omega
  have HR:Hid (Na.sgn x y=1):=by unfold Hid;rw [Na.sgn_of_len (by rw [HN.out,HM.out];omega),HN.out,HM.out];exact Na.sgn_gt hnm
  have hd:decide (n<m)=false:=zn (by omega)
  clear hnm;go_enter Tryz.func47,Tryz.ntmps47
  go_wp2_with fail;go_ret;exact ⟨by rw [HR.out];rfl,HB.out⟩
open Go.RowKit Go.Sort
def z9x (w:World)(l:List Nat)(en:Ending)(w':World):Prop:=
 ∃ (A:Option Addr) (n c:Nat),en=.returned (.agg #[.slice A n c])∧l.length=n∧n≤c∧w'.ownsRow w.heap.size 3 1 (.slice A n c) n (z0c l)∧Below w.heap.size w w'
theorem z4j {w w':World}{g:Option Nat}{M:List (Nat×Value)}{L:List Ob}{O:List Rw}(h:Ow w w' g M L O)(i:Nat){A:Option Addr}{n c:Nat}{l:List Nat}(hi:O[i]?=some ⟨A,n,c,3,z0c l⟩):z9x w l (.returned (.agg #[.slice A n c])) w':=by
 have ho:=h.row i hi
 exact ⟨A,n,c,rfl,by have:=z1j ho;rwa [z0e] at this,(z1k ho).1,ho,h.below⟩
theorem Ow.trimmed {w0 w:World}{g:Option Nat}{M:List (Nat×Value)}{L:List Ob}{O:List Rw}(h:Ow w0 w g M L O)(i:Nat){A:Option Addr}{n c:Nat}{l:List Nat}(hi:O[i]?=some ⟨A,n,c,3,z0c l⟩)(hl:Na.Lim l){k x:Nat}(hk:Na.tl l l.length=k)(hx:Na.val l=x):Ow w0 w g M L (O.set i ⟨A,k,c,3,z0c (Na.dig x)⟩):=by
 have hn:=z1j (h.row i hi)
 rw [z0e] at hn;have h1:=h.cut i hi (k:=k) (by rw [← hk,← hn];exact Na.tl_le _ _)
 rw [z2u] at h1;have e:=Na.trim_dig hl
 unfold Na.trim at e;rw [hk,hx] at e;rwa [e] at h1
def RTim (w:World)(M:List (Nat×Value))(L:List Ob)(Y:List Nat)(n m:Nat)(i s cr:Value)(wr:World):Prop:=
 ∃ (k c:Nat) (A:Option Addr) (ca:Nat) (o:List Nat),k≤n∧i=.int .i64 (k:Int)∧s=.slice A k ca∧cr=.int .i64 (c:Int)∧c<16777216∧Hid (o.length=k∧Na.Lim o∧Na.val o+16777216 ^ k*c=Na.val (Y.take k)*m+0)∧Hid (Ow w wr none M L [⟨A,k,ca,3,z0c o⟩])
theorem z0ay (A:Option Addr)(n c y m:Nat)(mv:Int)(hmv:mv=(m:Int))(w:World)(hn:(Na.dig y).length=n)(hnc:n≤c)(hs:Sl w w.heap.size A (z0c (Na.dig y)))(hl:n≤999)(hm:m<16777216):
  Calls Tryz.prog 103 #[.agg #[.slice A n c],.int .i64 mv] w (z9x w (Na.dig (y*m))):=by
 subst hmv
 have H0:=(((Ow.of (St.refl w)).old hs (by rw [z0e];exact hn) hnc (by omega)).boxed (.slice A n c) 25).boxed (.slice none 0 0) 25
 simp only [World.size_alloc,zqc,zqb] at H0;have hmk:=z5f.make .i64 .i64 0 ((n:Int)+1) 0 (n+1) rfl (by omega) (by omega) (by omega) (by omega)
 have hc0:=H0.cell 0 rfl
 have H1:=H0.made 3 (.int .i64 0) 0 (n+1) rfl (by omega) (by unfold maxLen;omega)
 simp only [World.size_alloc,zqc] at H1;obtain ⟨w1,hw1⟩:∃ w1,((w.alloc (.cells #[.slice A n c] 25)).alloc (.cells #[.slice none 0 0] 25)).alloc (.cells (madeCells #[.int .i64 0] (n+1)) 3)=w1:=⟨_,rfl⟩
 have HW:Hid (((w.alloc (.cells #[.slice A n c] 25)).alloc (.cells #[.slice none 0 0] 25)).alloc (.cells (madeCells #[.int .i64 0] (n+1)) 3)=w1):=hw1
 rw [hw1] at H1;have HH:=zh H1;have HN:=zh hn;clear hn hs H0 H1 hw1;go_enter Tryz.func103,Tryz.ntmps103
 go_wp2_with fail;rw [HW.out];clear hc0 hmk;go_loopw [7,5,6] (fun i s cr wr=>RTim w [(w.heap.size,.slice A n c),(w.heap.size+1,.slice none 0 0)] [⟨A,n,c,z0c (Na.dig y)⟩] (Na.dig y) n m i s cr wr) (fun i _ _ _=>n - (intOf i).toNat)
 case atStart=>exact ⟨0,0,_,_,[],zqr _,rfl,rfl,rfl,by omega,⟨rfl,Na.Lim.nil,by simp [Na.val]⟩,HH.out⟩
 case round=>
  obtain ⟨k,cr,Ao,co,o,hk,rfl,rfl,rfl,hcr,HP,HO⟩:=hrel;have hc0:=HO.out.cell 0 rfl
  have HQ:=HO.out.sl (i:=0) rfl
  rcases zqi k n with hkn | hkn
  ·obtain ⟨a,ha⟩:=z0m (Na.dig y) k (by rw [HN.out];exact hkn)
   have ha24:=(Na.dig_lim y).at ha
   obtain ⟨ad,rfl,_,hca⟩:=HQ.2.2.2.nat ha
   obtain ⟨p,hp⟩:∃ p,a*m=p:=⟨_,rfl⟩
   have hp1:(a:Int)*(m:Int)=(p:Int):=by rw [← hp];rfl
   obtain ⟨v,hv⟩:∃ v,p+cr=v:=⟨_,rfl⟩
   have hv48:v<281474976710656:=by have:=Na.sq24 (e:=0) (by omega) ha24 hm hcr;omega
   obtain ⟨r,hr⟩:∃ r,v % 16777216=r:=⟨_,rfl⟩
   obtain ⟨q,hq⟩:∃ q,v / 16777216=q:=⟨_,rfl⟩
   have HSt:=zh (Na.grow_step (Na.dig y) o k a m cr 0 v HP.out.1 ha HP.out.2.2 (by rw [hp];omega))
   rw [hr,hq] at HSt;have hmod:((p:Int)+(cr:Int)) % 16777216=(r:Int):=by omega
   have hdiv:((p:Int)+(cr:Int)) / 16777216=(q:Int):=by omega
   have hq24:q<16777216:=by omega
   have hr24:r<16777216:=by omega
   have HLr:=zh (HP.out.2.1.append (Na.Lim.one hr24))
   have HLl:Hid ((o++[r]).length=k+1):=by unfold Hid;rw [zqm,HP.out.1];rfl
   clear ha hp hv hr hq;go_wp2_with (at_builtin;refine z2m z5f HO.out 0 (.tmp 31) (.tmp 34) _ _ rfl rfl (by unfold maxLen;omega) (by omega) rfl rfl rfl rfl ?_;intro A' c' w8 how)
   go_roundw
   case rel=>
    rw [z1a] at how;exact ⟨k+1,q,A',c',o++[r],by omega,by go_num,rfl,(by first | rfl | exact z0o hdiv),hq24,⟨HLl.out,HLr.out,HSt.out⟩,how⟩
   case measure=>simp [intOf];omega
  ·obtain rfl:k=n:=by omega
   have HV:Hid (Na.val (o++[cr])=y*m):=by
    unfold Hid;have h7:=HP.out.2.2;rw [zqp (by rw [HN.out];omega),Na.val_dig] at h7
    rw [Na.val_snoc,HP.out.1];omega
   have HL1:=zh (HP.out.2.1.append (Na.Lim.one hcr))
   have HLl:Hid ((o++[cr]).length=k+1):=by unfold Hid;rw [zqm,HP.out.1];rfl
   clear HQ;go_wp2_with (at_builtin;refine z2m z5f HO.out 0 (.tmp 38) (.tmp 40) _ _ rfl rfl (by unfold maxLen;omega) (by omega) rfl rfl rfl rfl ?_;intro A' c' w8 how)
   rw [z1a] at how;obtain ⟨l,hl0⟩:∃ l,o++[cr]=l:=⟨_,rfl⟩
   rw [hl0] at how HV HL1 HLl;have HX:=zh how;clear HO hl0 how hc0;go_loop [9] (fun v=>∃ j:Nat,j≤k+1∧v=.int .i64 (j:Int)∧Hid (Na.tl l j=Na.tl l l.length)) (fun v=>(intOf v).toNat)
   case atStart=>exact ⟨k+1,zqj _,rfl,by unfold Hid;rw [HLl.out]⟩
   case round=>
    obtain ⟨j,hj,rfl,HT⟩:=hrel;have hrw:=HX.out.row 0 rfl
    have hown:=Sl.of_own hrw
    rcases Na.tl_case l l.length j (by rw [HLl.out];exact hj) HT.out with ⟨h0,hz,ht⟩ | ⟨ht,hs⟩
    ·obtain ⟨ad2,rfl,_,hcb⟩:=hown.nat hz
     have HT2:=zh ht;have hd:decide (0<(j:Int))=true:=zt (by omega)
     clear hown hz ht hrw;go_wp2_with fail;go_round
     case rel=>exact ⟨j - 1,by omega,z0o (by omega),HT2⟩
     case measure=>simp [intOf];omega
    ·have hcap:=(z1k hrw).1
     have hjc:(j:Int)≤(c':Int):=by omega
     have HTr:=zh (HX.out.trimmed 0 rfl HL1.out ht HV.out)
     have hc1:=HX.out.cell 1 rfl
     have hf1:=HX.out.free 1 rfl
     clear hrw hcap ht HT;rcases hs with h0 | ⟨h0,b,hb,hbne⟩
     ·subst h0
      clear hown;go_wp2_with fail;have h2:=HTr.out.setv 1 rfl (.slice A' 0 c')
      have hc2:=h2.cell 1 rfl
      refine bodyPost_ret (v:=.agg #[.slice A' 0 c']) (by simp [results,Tryz.results103,go_sem,hc2]) rfl ?_
      exact z4j h2 0 rfl
     ·obtain ⟨ad2,rfl,_,hcb⟩:=hown.nat hb
      have hd:decide (0<(j:Int))=true:=zt (by omega)
      clear hown hb;go_wp2_with fail;have h2:=HTr.out.setv 1 rfl (.slice (some ad2) j c')
      have hc2:=h2.cell 1 rfl
      refine bodyPost_ret (v:=.agg #[.slice (some ad2) j c']) (by simp [results,Tryz.results103,go_sem,hc2]) rfl ?_
      exact z4j h2 0 rfl
namespace Na
set_option maxHeartbeats 4000000
def lent (o:List Nat)(b:Nat):List Nat→List Int
 | []=>up o
 | a :: r=>up o++((a:Int) - b) :: up r
theorem z6s (o r:List Nat):up (o++r)=up o++up r:=by simp [up]
theorem z2bg (a:Nat)(r:List Nat):up (a :: r)=(a:Int) :: up r:=rfl
theorem lent_get (o:List Nat)(b a:Nat)(r:List Nat):(lent o b (a :: r))[o.length]?=some ((a:Int) - b):=by
 rw [lent,zqo (by rw [up_length];exact zqj _),up_length,Nat.sub_self];rfl
theorem lent_set (o:List Nat)(b a:Nat)(r:List Nat)(v:Int):(lent o b (a :: r)).set o.length v=up o++v :: up r:=by
 rw [lent,List.set_append_right _ _ (by rw [up_length];exact zqj _),up_length,Nat.sub_self];rfl
theorem mid_set (o r:List Nat)(u v:Int):(up o++u :: up r).set o.length v=up o++v :: up r:=by
 rw [List.set_append_right _ _ (by rw [up_length];exact zqj _),up_length,Nat.sub_self];rfl
theorem mid_get (o r:List Nat)(u:Int):(up o++u :: up r)[o.length]?=some u:=by
 rw [zqo (by rw [up_length];exact zqj _),up_length,Nat.sub_self];rfl
theorem mid_get1 (o r:List Nat)(u:Int)(a:Nat):(up o++u :: up (a :: r))[o.length+1]?=some (a:Int):=by
 rw [zqo (by rw [up_length];exact Nat.le_succ _),up_length,Nat.add_sub_cancel_left];rfl
theorem lent_zero (o r:List Nat)(d:Nat):up o++(d:Int) :: up r=lent (o++[d]) 0 r:=by
 cases r with
 | nil=>rw [lent,z6s];rfl
 | cons a r=>rw [lent,z6s,zqa];simp [up]
theorem lent_one (o r:List Nat)(d a:Nat):(up o++(d:Int) :: up (a :: r)).set (o.length+1) ((a:Int) - 1)=lent (o++[d]) 1 (a :: r):=by
 rw [List.set_append_right _ _ (by rw [up_length];exact Nat.le_succ _),up_length,Nat.add_sub_cancel_left,lent,z6s,zqa];rfl
theorem lent_nil (o:List Nat)(b:Nat):z0r (lent o b [])=z0c o:=z0g o
theorem lent_start (X:List Nat):z0r (lent [] 0 X)=z0c X:=by
 cases X with
 | nil=>rfl
 | cons a r=>
  rw [← z0g];have:lent [] 0 (a :: r)=up (a :: r):=by rw [lent,z2bg];simp [up]
  rw [this]
end Na
theorem z8e (l:List Int)(k:Nat)(b:Int):(z0r l).set k (.int .i64 b)=z0r (l.set k b):=by unfold z0r;rw [List.map_set];rfl
theorem z0at {w:World}{base n c g:Nat}{e:TypeId}{l:List Int}(h:w.ownsRow base e 1 (.slice (some ⟨g,0,none⟩) n c) n (z0r l)){k:Nat}{b:Int}(hk:l[k]?=some b):w.cell? ⟨g,k,none⟩=some (.int .i64 b):=by
 have hl:=z1j h
 rw [z0s] at hl;rw [h.cellAt k (by have:=z0f hk;omega)]
 unfold z0r;rw [List.getElem?_map,hk];rfl
theorem z6c {P:Program}{f:FuncId}{args:Array Value}{w:World}{v:Value}(h:∀ W,Below w.heap.size w W→Calls P f args W fun e w'=>e=.returned v∧Below W.heap.size W w')(d:Nat)(os:Array Obj):Calls P f args (grow (redrawn w d) os) fun e w''=>e=.returned v∧∃ p:Regrown,w''=grow (redrawn w p.d) p.os:=
 Calls.regrown_of (h _ (below_regrown w d os))
theorem z5k {w W:World}(h:∃ p:Regrown,W=grow (redrawn w p.d) p.os):Below w.heap.size w W:=by
 obtain ⟨p,rfl⟩:=h;exact below_regrown _ _ _
def z7bv (w:World)(M:List (Nat×Value))(L:List Ob)(X Y:List Nat)(n:Nat)(A:Option Addr)(ca:Nat)(i:Value)(wr:World):Prop:=
 ∃ (k b:Nat) (o:List Nat),k≤n∧i=.int .i64 (k:Int)∧b≤1∧Hid (o.length=k∧Na.Lim o∧Na.val o+Na.val (Y.take k)=Na.val (X.take k)+16777216 ^ k*b)∧Hid (Ow w wr none M L [⟨A,n,ca,3,z0r (Na.lent o b (X.drop k))⟩])
theorem z2aa {w0 w:World}{g:Option Nat}{M:List (Nat×Value)}{L:List Ob}{gb n c:Nat}{e:TypeId}{vs:List Value}{O:List Rw}(h:Ow w0 w g M L (⟨some ⟨gb,0,none⟩,n,c,e,vs⟩ :: O)):gb<w.heap.size:=(h.lt (i:=0) rfl (b:=gb) rfl).1
theorem z3as (A A2:Option Addr)(n c m c2 x y:Nat)(w:World)(hn:(Na.dig x).length=n)(hm:(Na.dig y).length=m)(hnc:n≤c)(hmc:m≤c2)(hs:Sl w w.heap.size A (z0c (Na.dig x)))(hs2:Sl w w.heap.size A2 (z0c (Na.dig y)))(hl:n≤999)(hl2:m≤999)(hle:y≤x):
  Calls Tryz.prog 104 #[.agg #[.slice A n c],.agg #[.slice A2 m c2]] w (z9x w (Na.dig (x - y))):=by
 have H0:=(((((Ow.of (St.refl w)).old hs (by rw [z0e];exact hn) hnc (by omega)).old hs2 (by rw [z0e];exact hm) hmc (by omega)).boxed (.slice A n c) 25).boxed (.slice A2 m c2) 25).boxed (.slice none 0 0) 25
 simp only [World.size_alloc,zqc,zqb] at H0;have hc0:=H0.cell 0 rfl
 have H1:=H0.nil 3
 simp only [zqc] at H1;have HH:=zh H1;have HN:=zh hn;have HM:=zh hm;have HS:=zh (H0.sl (i:=0) rfl)
 have HLe:=zh hle;have hmn:m≤n:=by rw [← hn,← hm];exact Na.dig_len_mono hle
 clear hn hm hs hs2 H0 H1 hle;go_enter Tryz.func104,Tryz.ntmps104
 go_wp2_with (at_builtin;refine z5l z5f HH.out 0 (.const (.slice none 0 0)) (.tmp 9) rfl (by rw [z0e];exact HN.out) HS.out.2.2.2 (z3l _) (by unfold maxLen;omega) (by omega) rfl rfl rfl rfl ?_;intro A' c' w1 how)
 rw [zqc,Nat.zero_add] at how;have HX:=zh how;clear how HH hc0;go_loopw [6] (fun i wr=>z7bv w [(w.heap.size,.slice A n c),(w.heap.size+1,.slice A2 m c2),(w.heap.size+1+1,.slice none 0 0)] [⟨A,n,c,z0c (Na.dig x)⟩,⟨A2,m,c2,z0c (Na.dig y)⟩] (Na.dig x) (Na.dig y) n A' c' i wr) (fun i _=>n - (intOf i).toNat)
 case atStart=>exact ⟨0,0,[],zqr _,rfl,zqr _,⟨rfl,Na.Lim.nil,by simp [Na.val]⟩,by unfold Hid;rw [List.drop_zero,Na.lent_start];exact HX.out⟩
 case round=>
  obtain ⟨k,bw,o,hk,rfl,hbw,HP,HO⟩:=hrel;rcases zqi k n with hkn | hkn
  ·obtain ⟨a,ha⟩:=z0m (Na.dig x) k (by rw [HN.out];exact hkn)
   have ha24:=(Na.dig_lim x).at ha
   have hat:=Na.at0_some ha
   obtain ⟨R,hR⟩:∃ R,(Na.dig x).drop (k+1)=R:=⟨_,rfl⟩
   have hdr:(Na.dig x).drop k=a :: R:=by rw [← hR];exact List.drop_eq_getElem?_toList_append ▸ (by rw [ha];rfl)
   have HO1:=HO.out;rw [hdr] at HO1;have HRl:Hid (R.length+(k+1)=n):=by unfold Hid;rw [← hR,List.length_drop,HN.out];omega
   have HRR:=zh hR;have hrow:=HO1.row 0 rfl
   obtain ⟨gb,rfl,-,-⟩:=z0u hrow (by omega)
   obtain ⟨u,hu⟩:∃ u:Int,(a:Int) - (bw:Int)=u:=⟨_,rfl⟩
   have hg0:(Na.lent o bw (a :: R))[k]?=some u:=by rw [← hu];have:=Na.lent_get o bw a R;rwa [HP.out.1] at this
   have hcl:=z0at hrow hg0
   have hfz:=hrow.frozenAt k
   obtain ⟨b,hb⟩:∃ b,Na.at0 (Na.dig y) k=b:=⟨_,rfl⟩
   have hb24:b<16777216:=by rw [← hb];exact Na.at0_lt (Na.dig_lim y) k
   have hc1:=HO1.cell 1 rfl
   have HQ:=zh (HO1.sl (i:=1) rfl)
   have cL:=z6c (P:=Tryz.prog) (w:=wr) (f:=74) (args:=#[.agg #[.slice A2 m c2],.int .i64 (k:Int)]) (v:=.int .i64 (b:Int)) (fun W hW=>by
    rw [← hb];exact z3e A2 m c2 wr.heap.size k (Na.dig y) _ rfl W HM.out (HQ.out.2.2.2.below hW) hW.size (by omega))
   have k1:=cell_regrown hc1
   have k2:=cell_regrown hcl
   have HOw:=zh HO1;obtain ⟨v0,hv0⟩:∃ v0:Int,u - (b:Int)=v0:=⟨_,rfl⟩
   have hset:(z0r (Na.lent o bw (a :: R))).set k (.int .i64 v0)=z0r (Na.up o++v0 :: Na.up R):=by
    rw [z8e];have:=Na.lent_set o bw a R v0;rw [HP.out.1] at this;rw [this]
   have HHu:=zh hu;have HHv:=zh hv0;have HHb:=zh hb;have HHa:=zh hat;have HSt:=zh hset;have hub : -2≤u∧u<16777216:=by omega
   clear ha hat hR hdr hg0 hu hb HO HO1 hrow hset hc1;go_upto_region 5 with (fail)
   refine z5t 9 (by kernel_rfl) (by kernel_rfl) ?_
   simp only [List.take_succ_cons,List.take_zero,List.drop_succ_cons,List.drop_zero]
   repeat (quiet_step (exact cL _ _))
   refine wpQuiet_nil ?_
   intro W hW;have hbl:=z5k hW
   clear hW k1 k2 cL;have hcw:=(hbl.cell (p:=⟨gb,k,none⟩) (z2aa HOw.out)).trans hcl
   have hfw:=(hbl.frozen (p:=⟨gb,k,none⟩) (z2aa HOw.out)).trans hfz
   have H5:=(HOw.out.go hbl).put 0 rfl k (.int .i64 v0)
   rw [zqd,HSt.out] at H5;clear hcl hfz HOw hbl HSt HQ;go_upto_region 6 with (fail)
   obtain ⟨w5,hw5⟩:∃ w5,W.setCell ⟨gb,k,none⟩ (.int .i64 v0)=w5:=⟨_,rfl⟩
   rw [hw5] at H5 ⊢
   clear hw5 hcw hfw;have hr5:=H5.row 0 rfl
   have hg5:(Na.up o++v0 :: Na.up R)[k]?=some v0:=by have:=Na.mid_get o R v0;rwa [HP.out.1] at this
   have hc5:=z0at hr5 hg5
   have hf5:=hr5.frozenAt k
   have HO5:=zh H5;clear H5 hr5 hg5;by_cases hneg:v0<0
   ·obtain ⟨d,hd⟩:∃ d:Nat,v0+16777216=(d:Int):=⟨(v0+16777216).toNat,by have:=HHv.out;have:=HHu.out;omega⟩
    have hd24:d<16777216:=by omega
    have HSB:=zh (Na.sub_no (Na.dig x) (Na.dig y) o k bw d HP.out.1 HP.out.2.2 (by rw [HHa.out,HHb.out];have:=HHv.out;have:=HHu.out;omega))
    have HLr:=zh (HP.out.2.1.append (Na.Lim.one hd24))
    have HLl:Hid ((o++[d]).length=k+1):=by unfold Hid;rw [zqm,HP.out.1];rfl
    have hkn1:k+1<n:=by
     rcases zqi (k+1) n with h | h
     ·exact h
     ·exfalso
      have h1:=HSB.out;rw [zqp (by have:=HN.out;have:=HM.out;omega),zqp (by have:=HN.out;have:=HM.out;omega),Na.val_dig,Na.val_dig] at h1
      have h2:=Na.val_lt HLr.out
      rw [HLl.out] at h2;have:=HLe.out
      omega
    obtain ⟨a1,ha1⟩:=z0m (Na.dig x) (k+1) (by rw [HN.out];exact hkn1)
    have ha24':=(Na.dig_lim x).at ha1
    obtain ⟨R1,hR1⟩:∃ R1,(Na.dig x).drop (k+2)=R1:=⟨_,rfl⟩
    have hRc:R=a1 :: R1:=by rw [← HRR.out,← hR1];exact List.drop_eq_getElem?_toList_append ▸ (by rw [ha1];rfl)
    subst hRc
    have hn1:(v0+16777216:Int)=d:=hd
    have hs6:(z0r (Na.up o++v0 :: Na.up (a1 :: R1))).set k (.int .i64 (d:Int))=z0r (Na.up o++(d:Int) :: Na.up (a1 :: R1)):=by
     rw [z8e];have:=Na.mid_set o (a1 :: R1) v0 d;rw [HP.out.1] at this;rw [this]
    have H6:=HO5.out.put 0 rfl k (.int .i64 (d:Int))
    rw [zqd,hs6] at H6;clear ha1 hR1 hs6 HO5 hd;go_upto_region 8 with (fail)
    obtain ⟨w6,hw6⟩:∃ w6,w5.setCell ⟨gb,k,none⟩ (.int .i64 (d:Int))=w6:=⟨_,rfl⟩
    rw [hw6] at H6 ⊢
    clear hw6 hc5 hf5 hn1;have hr6:=H6.row 0 rfl
    have hg6:(Na.up o++(d:Int) :: Na.up (a1 :: R1))[k+1]?=some (a1:Int):=by have:=Na.mid_get1 o R1 d a1;rwa [HP.out.1] at this
    have hc6:=z0at hr6 hg6
    have hf6:=hr6.frozenAt (k+1)
    have hs7:(z0r (Na.up o++(d:Int) :: Na.up (a1 :: R1))).set (k+1) (.int .i64 ((a1:Int) - 1))=z0r (Na.lent (o++[d]) 1 (a1 :: R1)):=by
     rw [z8e];have:=Na.lent_one o R1 d a1;rw [HP.out.1] at this;rw [this]
    have H7:=H6.put 0 rfl (k+1) (.int .i64 ((a1:Int) - 1))
    rw [zqd,hs7,← HRR.out] at H7;have HO7:=zh H7;have s4:((k:Int)+1).toNat=k+1:=by omega
    clear H6 H7 hr6 hg6 hs7 hneg;go_wp2_with fail;go_roundw
    case rel=>exact ⟨k+1,1,o++[d],by omega,by go_num,zqj _,⟨HLl.out,HLr.out,HSB.out⟩,HO7.out⟩
    case measure=>simp [intOf];omega
   ·have hpos:0≤v0:=by omega
    obtain ⟨d,rfl⟩:=Int.eq_ofNat_of_zero_le hpos
    have hd24:d<16777216:=by have:=HHv.out;omega
    have HSB:=zh (Na.sub_yes (Na.dig x) (Na.dig y) o k bw d HP.out.1 HP.out.2.2 (by rw [HHa.out,HHb.out];have:=HHv.out;have:=HHu.out;omega))
    have HLr:=zh (HP.out.2.1.append (Na.Lim.one hd24))
    have HLl:Hid ((o++[d]).length=k+1):=by unfold Hid;rw [zqm,HP.out.1];rfl
    have HO7:Hid (Ow w w5 none [(w.heap.size,.slice A n c),(w.heap.size+1,.slice A2 m c2),(w.heap.size+1+1,.slice none 0 0)] [⟨A,n,c,z0c (Na.dig x)⟩,⟨A2,m,c2,z0c (Na.dig y)⟩] [⟨some ⟨gb,0,none⟩,n,c',3,z0r (Na.lent (o++[d]) 0 ((Na.dig x).drop (k+1)))⟩]):=by
     unfold Hid;rw [HRR.out,← Na.lent_zero];exact HO5.out
    clear hneg;go_wp2_with fail;go_roundw
    case rel=>exact ⟨k+1,0,o++[d],by omega,by go_num,zqr _,⟨HLl.out,HLr.out,HSB.out⟩,HO7.out⟩
    case measure=>simp [intOf];omega
  ·obtain rfl:k=n:=by omega
   have HV:Hid (Na.val o=x - y):=by
    unfold Hid;rw [Na.sub_end (Na.dig x) (Na.dig y) o k bw HP.out.2.1 HP.out.1 HP.out.2.2 (by rw [HN.out];exact zqj _) (by rw [HM.out];exact hmn) (by rw [Na.val_dig,Na.val_dig];exact HLe.out),Na.val_dig,Na.val_dig]
   have HL1:=zh HP.out.2.1;have HLl:=zh HP.out.1;have how:=HO.out;rw [List.drop_of_length_le (by rw [HN.out];exact zqj _),Na.lent_nil] at how
   have HY:=zh how;obtain ⟨l,hl0⟩:∃ l,o=l:=⟨_,rfl⟩
   subst hl0
   clear HO how HX HP;go_wp2_with fail;go_loop [7] (fun v=>∃ j:Nat,j≤k∧v=.int .i64 (j:Int)∧Hid (Na.tl o j=Na.tl o o.length)) (fun v=>(intOf v).toNat)
   case atStart=>exact ⟨k,zqj _,rfl,by unfold Hid;rw [HLl.out]⟩
   case round=>
    obtain ⟨j,hj,rfl,HT⟩:=hrel;have hrw:=HY.out.row 0 rfl
    have hown:=Sl.of_own hrw
    rcases Na.tl_case o o.length j (by rw [HLl.out];exact hj) HT.out with ⟨h0,hz,ht⟩ | ⟨ht,hs⟩
    ·obtain ⟨ad2,rfl,_,hcb⟩:=hown.nat hz
     have HT2:=zh ht;have hd:decide (0<(j:Int))=true:=zt (by omega)
     clear hown hz ht hrw;go_wp2_with fail;go_round
     case rel=>exact ⟨j - 1,by omega,z0o (by omega),HT2⟩
     case measure=>simp [intOf];omega
    ·have hcap:=(z1k hrw).1
     have hjc:(j:Int)≤(c':Int):=by omega
     have HTr:=zh (HY.out.trimmed 0 rfl HL1.out ht HV.out)
     have hc1:=HY.out.cell 2 rfl
     have hf1:=HY.out.free 2 rfl
     clear hrw hcap ht HT;rcases hs with h0 | ⟨h0,b,hb,hbne⟩
     ·subst h0
      clear hown;go_wp2_with fail;have h2:=HTr.out.setv 2 rfl (.slice A' 0 c')
      have hc2:=h2.cell 2 rfl
      refine bodyPost_ret (v:=.agg #[.slice A' 0 c']) (by simp [results,Tryz.results104,go_sem,hc2]) rfl ?_
      exact z4j h2 0 rfl
     ·obtain ⟨ad2,rfl,_,hcb⟩:=hown.nat hb
      have hd:decide (0<(j:Int))=true:=zt (by omega)
      clear hown hb;go_wp2_with fail;have h2:=HTr.out.setv 2 rfl (.slice (some ad2) j c')
      have hc2:=h2.cell 2 rfl
      refine bodyPost_ret (v:=.agg #[.slice (some ad2) j c']) (by simp [results,Tryz.results104,go_sem,hc2]) rfl ?_
      exact z4j h2 0 rfl
section
variable {w0 w w':World}{g:Option Nat}{M:List (Nat×Value)}{L:List Ob}{O:List Rw}{A A2:Option Addr}{n c m c2 x y:Nat}
theorem Ow.addN (h:Ow w0 w g M L O){l:List Nat}{e:Int}{en:Ending}(hr:z3b w l e en w'):∃ (A:Option Addr) (n c:Nat),en=.returned (.tuple #[.agg #[.slice A n c],.int .i64 e])∧l.length=n∧Ow w0 w' g M L (O++[⟨A,n,c,3,z0c l⟩]):=by
 obtain ⟨A,n,c,rfl,hn,ho,hb⟩:=hr;exact ⟨A,n,c,rfl,hn,h.add ho hb⟩
theorem Ow.pushN (h:Ow w0 w g M L O){l:List Nat}{e:Int}{en:Ending}(hr:z3b w l e en w')(hl:l.length≤1000):∃ (A:Option Addr) (n c:Nat),en=.returned (.tuple #[.agg #[.slice A n c],.int .i64 e])∧l.length=n∧Ow w0 w' g M (L++[⟨A,n,c,z0c l⟩]) O:=by
 obtain ⟨A,n,c,rfl,hn,ho,hb⟩:=hr;exact ⟨A,n,c,rfl,hn,h.push ho (by omega) hb⟩
theorem Ow.pushS (h:Ow w0 w g M L O){l:List Nat}{en:Ending}(hr:z9x w l en w')(hl:l.length≤1000):∃ (A:Option Addr) (n c:Nat),en=.returned (.agg #[.slice A n c])∧l.length=n∧Ow w0 w' g M (L++[⟨A,n,c,z0c l⟩]) O:=by
 obtain ⟨A,n,c,rfl,hn,_,ho,hb⟩:=hr;exact ⟨A,n,c,rfl,hn,h.push ho (by omega) hb⟩
theorem z4y (h:Ow w w' g M L O)(i:Nat){l:List Nat}(hi:O[i]?=some ⟨A,n,c,3,z0c l⟩)(e:Int):z3b w l e (.returned (.tuple #[.agg #[.slice A n c],.int .i64 e])) w':=by
 have ho:=h.row i hi
 exact ⟨A,n,c,rfl,by have:=z1j ho;rwa [z0e] at this,ho,h.below⟩
theorem z7z {zs:List Int}(hs:Sl w w.heap.size A (z0r zs))(e:zs=Na.up (Na.dig x)):Sl w w.heap.size A (z0c (Na.dig x)):=by rw [e,z0g] at hs;exact hs
theorem z1s (h:Ow w0 w g M L O)(i:Nat){zs:List Int}(hi:L[i]?=some ⟨A,n,c,z0r zs⟩):
  Calls Tryz.prog 73 #[.agg #[.slice A n c]] w fun e w'=>e=.returned (.bool (Na.vld zs))∧Ow w0 w' g M L O:=by
 obtain ⟨h1,h2,h3,h4⟩:=h.sl hi
 rw [z0s] at h1;exact (z0y A n c w.heap.size zs w h1 h4 (zqj _) (by omega)).mono fun en w' ⟨he,hb⟩=>⟨he,h.go hb⟩
theorem z2d (h:Ow w0 w g M L O)(i:Nat)(hi:L[i]?=some ⟨A,n,c,z0c (Na.dig x)⟩)(hx:x<Na.top):
  Calls Tryz.prog 73 #[.agg #[.slice A n c]] w fun e w'=>e=.returned (.bool true)∧Ow w0 w' g M L O:=by
 rw [← z0g] at hi;have:=z1s h i hi
 rwa [Na.vld_dig hx] at this
theorem z6u (h:Ow w0 w g M L O)(i j:Nat)(hi:L[i]?=some ⟨A,n,c,z0c (Na.dig x)⟩)(hj:L[j]?=some ⟨A2,m,c2,z0c (Na.dig y)⟩):
  Calls Tryz.prog 47 #[.agg #[.slice A n c],.agg #[.slice A2 m c2]] w fun e w'=>e=.returned (.int .i64 (Na.sgn x y))∧Ow w0 w' g M L O:=by
 obtain ⟨h1,h2,h3,h4⟩:=h.sl hi
 obtain ⟨k1,k2,k3,k4⟩:=h.sl hj
 rw [z0e] at h1 k1;exact (z6z A A2 n c m c2 x y w h1 k1 h2 k2 h4 k4 h3 k3).mono fun en w' ⟨he,hb⟩=>⟨he,h.go hb⟩
theorem z8s (h:Ow w0 w g M L O)(i m:Nat)(hi:L[i]?=some ⟨A,n,c,z0c (Na.dig y)⟩)(hn:n≤998)(hm:m<16777216):
  Calls Tryz.prog 103 #[.agg #[.slice A n c],.int .i64 (m:Int)] w fun e w'=>∃ (A':Option Addr) (n' c':Nat),e=.returned (.agg #[.slice A' n' c'])∧n'≤n+1∧Ow w0 w' g M (L++[⟨A',n',c',z0c (Na.dig (y*m))⟩]) O:=by
 obtain ⟨h1,h2,h3,h4⟩:=h.sl hi
 rw [z0e] at h1;have hle:(Na.dig (y*m)).length≤n+1:=by
  have a1:=Na.dig_len_mul y m
  have a2:=Na.dig_len_le (n:=1) (x:=m) (by omega)
  omega
 exact (z0ay A n c y m _ rfl w h1 h2 h4 (by omega) hm).mono fun en w' hr=>by
  obtain ⟨A',n',c',e,e2,ho⟩:=h.pushS hr (by omega)
  exact ⟨A',n',c',e,by omega,ho⟩
theorem z8as (h:Ow w0 w g M L O)(i j:Nat)(hi:L[i]?=some ⟨A,n,c,z0c (Na.dig x)⟩)(hj:L[j]?=some ⟨A2,m,c2,z0c (Na.dig y)⟩)(hn:n≤999)(hm:m≤999)(hle:y≤x):
  Calls Tryz.prog 104 #[.agg #[.slice A n c],.agg #[.slice A2 m c2]] w fun e w'=>∃ (A':Option Addr) (n' c':Nat),e=.returned (.agg #[.slice A' n' c'])∧n'≤n∧Ow w0 w' g M (L++[⟨A',n',c',z0c (Na.dig (x - y))⟩]) O:=by
 obtain ⟨h1,h2,h3,h4⟩:=h.sl hi
 obtain ⟨k1,k2,k3,k4⟩:=h.sl hj
 rw [z0e] at h1 k1;have hl:=Na.dig_len_mono (Nat.sub_le x y)
 exact (z3as A A2 n c m c2 x y w h1 k1 h2 k2 h4 k4 hn hm hle).mono fun en w' hr=>by
  obtain ⟨A',n',c',e,e2,ho⟩:=h.pushS hr (by omega)
  exact ⟨A',n',c',e,by omega,ho⟩
theorem z4av (h:Ow w0 w g M L O)(i:Nat){l:List Nat}(hi:O[i]?=some ⟨A,n,c,3,z0c l⟩)(hl:Na.Lim l)(hn1:n≤100000):
  Calls Tryz.prog 75 #[.slice A n c] w fun e w'=>∃ (A':Option Addr) (n' c':Nat),e=.returned (.tuple #[.agg #[.slice A' n' c'],.int .i64 (z3q (Na.val l))])∧(z4e (Na.val l)).length=n'∧Ow w0 w' g M L (O++[⟨A',n',c',3,z0c (z4e (Na.val l))⟩]):=by
 have ho:=h.row i hi
 have hn:=z1j ho
 rw [z0e] at hn;exact (z6n A n c l w hn (Sl.of_own ho) hl (z1k ho).1 (by omega)).mono fun en w' hr=>h.addN hr
end
theorem z6ac (A A2:Option Addr)(n c m c2:Nat)(zs ys:List Int)(w:World)(hn:zs.length=n)(hm:ys.length=m)(hnc:n≤c)(hmc:m≤c2)(hs:Sl w w.heap.size A (z0r zs))(hs2:Sl w w.heap.size A2 (z0r ys))(hl:n≤1000)(hl2:m≤1000)(hv:(Na.vld zs && Na.vld ys)=false):
  Calls Tryz.prog 43 #[.agg #[.slice A n c],.agg #[.slice A2 m c2]] w (z3b w [] 1):=by
 have H0:=(((((Ow.of (St.refl w)).old hs (by rw [z0s];exact hn) hnc hl).old hs2 (by rw [z0s];exact hm) hmc hl2).boxed (.slice A n c) 25).boxed (.slice A2 m c2) 25).boxed (.slice none 0 0) 25
 simp only [World.size_alloc,zqc,zqb] at H0;have hc0:=H0.cell 0 rfl
 have HH:=zh (z1s H0 0 rfl)
 clear hn hm hs hs2 H0;cases h1:Na.vld zs
 ·rw [h1] at HH;go_enter Tryz.func43,Tryz.ntmps43
  go_wp2_with fail;refine HH.out.mono ?_;rintro e w1 ⟨rfl,H1⟩;have hc2:=H1.cell 2 rfl
  have hf2:=H1.free 2 rfl
  clear hc0 HH;go_wp2_with fail;have H2:=H1.setv 2 rfl (.slice none 0 0)
  have hc3:=H2.cell 2 rfl
  refine bodyPost_ret (v:=.tuple #[.agg #[.slice none 0 0],.int .i64 1]) (by simp [results,Tryz.results43,go_sem,hc3]) rfl ?_
  exact z0x _ _ _ H2.below
 ·rw [h1,Bool.true_and] at hv;rw [h1] at HH;go_enter Tryz.func43,Tryz.ntmps43
  go_wp2_with fail;refine HH.out.mono ?_;rintro e w1 ⟨rfl,H1⟩;have hc1:=H1.cell 1 rfl
  have HK:=zh (z1s H1 1 rfl)
  rw [hv] at HK;clear hc0 HH H1;go_wp2_with fail;refine HK.out.mono ?_;rintro e w2 ⟨rfl,H1⟩;have hc2:=H1.cell 2 rfl
  have hf2:=H1.free 2 rfl
  clear hc1 HK;go_wp2_with fail;have H2:=H1.setv 2 rfl (.slice none 0 0)
  have hc3:=H2.cell 2 rfl
  refine bodyPost_ret (v:=.tuple #[.agg #[.slice none 0 0],.int .i64 1]) (by simp [results,Tryz.results43,go_sem,hc3]) rfl ?_
  exact z0x _ _ _ H2.below
def RSub (w:World)(M:List (Nat×Value))(L:List Ob)(X Y:List Nat)(n:Nat)(i s bw:Value)(wr:World):Prop:=
 ∃ (k b:Nat) (A:Option Addr) (ca:Nat) (o:List Nat),k≤n∧i=.int .i64 (k:Int)∧s=.slice A k ca∧bw=.int .i64 (b:Int)∧b≤1∧Hid (o.length=k∧Na.Lim o∧Na.val o+Na.val (Y.take k)=Na.val (X.take k)+16777216 ^ k*b)∧Hid (Ow w wr none M L [⟨A,k,ca,3,z0c o⟩])
theorem z9as (A A2:Option Addr)(n c m c2 x y:Nat)(w:World)(hn:(Na.dig x).length=n)(hm:(Na.dig y).length=m)(hnc:n≤c)(hmc:m≤c2)(hs:Sl w w.heap.size A (z0c (Na.dig x)))(hs2:Sl w w.heap.size A2 (z0c (Na.dig y)))(hx:x<Na.top)(hy:y<Na.top):
  Calls Tryz.prog 43 #[.agg #[.slice A n c],.agg #[.slice A2 m c2]] w (z3b w (if x<y then [] else Na.dig (x - y)) (if x<y then 5 else 0)):=by
 have hn2:n≤200:=by rw [← hn];exact (Na.dig_200 x).2 hx
 have hm2:m≤200:=by rw [← hm];exact (Na.dig_200 y).2 hy
 have H0:=(((((Ow.of (St.refl w)).old hs (by rw [z0e];exact hn) hnc (by omega)).old hs2 (by rw [z0e];exact hm) hmc (by omega)).boxed (.slice A n c) 25).boxed (.slice A2 m c2) 25).boxed (.slice none 0 0) 25
 simp only [World.size_alloc,zqc,zqb] at H0;have hc0:=H0.cell 0 rfl
 have HH:=zh (z2d H0 0 rfl hx)
 have HX:=zh hx;have HY:=zh hy;have HN:=zh hn;have HM:=zh hm;clear hn hm hs hs2 H0 hx hy;obtain ⟨rl,hrl⟩:∃ l,(if x<y then ([]:List Nat) else Na.dig (x - y))=l:=⟨_,rfl⟩
 obtain ⟨re,hre⟩:∃ l,(if x<y then (5:Int) else 0)=l:=⟨_,rfl⟩
 rw [hrl,hre];have HRL:=zh hrl;have HRE:=zh hre;clear hrl hre;go_enter Tryz.func43,Tryz.ntmps43
 go_wp2_with fail;refine HH.out.mono ?_;rintro e w1 ⟨rfl,H1⟩;have hc1:=H1.cell 1 rfl
 have HK:=zh (z2d H1 1 rfl HY.out)
 clear hc0 HH H1;go_wp2_with fail;refine HK.out.mono ?_;rintro e w2 ⟨rfl,H2⟩;have hc0:=H2.cell 0 rfl
 have hc1:=H2.cell 1 rfl
 have HC:=zh (z6u H2 0 1 rfl rfl)
 clear HK H2;go_wp2_with fail;refine HC.out.mono ?_;rcases zqi x y with hlt | hge
 ·obtain rfl:[]=rl:=by rw [← HRL.out,if_pos hlt]
  obtain rfl:5=re:=by rw [← HRE.out,if_pos hlt]
  rw [Na.sgn_lt hlt];rintro e w3 ⟨rfl,H3⟩;have hc2:=H3.cell 2 rfl
  have hf2:=H3.free 2 rfl
  clear hc0 hc1 HC hlt;go_wp2_with fail;have H4:=H3.setv 2 rfl (.slice none 0 0)
  have hc3:=H4.cell 2 rfl
  refine bodyPost_ret (v:=.tuple #[.agg #[.slice none 0 0],.int .i64 5]) (by simp [results,Tryz.results43,go_sem,hc3]) rfl ?_
  exact z0x _ _ _ H4.below
 ·obtain rfl:Na.dig (x - y)=rl:=by rw [← HRL.out,if_neg (by omega)]
  obtain rfl:0=re:=by rw [← HRE.out,if_neg (by omega)]
  obtain ⟨sg,hsg⟩:∃ s:Int,Na.sgn x y=s:=⟨_,rfl⟩
  have hs0:0≤sg:=by rcases Na.sgn_cases x y with ⟨h,e⟩ | ⟨h,e⟩ | ⟨h,e⟩ <;> omega
  rw [hsg];rintro e w3 ⟨rfl,H3⟩;have hmn:m≤n:=by rw [← HN.out,← HM.out];exact Na.dig_len_mono hge
  have HLe:=zh hge;have HO0:=zh (H3.nil 3)
  have hc0:=H3.cell 0 rfl
  clear hc1 HC hge hsg H3;go_wp2_with fail;clear hc0 hs0;go_loopw [8,6,7] (fun i s bw wr=>RSub w [(w.heap.size,.slice A n c),(w.heap.size+1,.slice A2 m c2),(w.heap.size+1+1,.slice none 0 0)] [⟨A,n,c,z0c (Na.dig x)⟩,⟨A2,m,c2,z0c (Na.dig y)⟩] (Na.dig x) (Na.dig y) n i s bw wr) (fun i _ _ _=>n - (intOf i).toNat)
  case atStart=>exact ⟨0,0,none,0,[],zqr _,rfl,rfl,rfl,zqr _,⟨rfl,Na.Lim.nil,by simp [Na.val]⟩,HO0.out⟩
  case round=>
   obtain ⟨k,b0,Ao,co,o,hk,rfl,rfl,rfl,hbw,HP,HO⟩:=hrel;have hc0:=HO.out.cell 0 rfl
   rcases zqi k n with hkn | hkn
   ·obtain ⟨a,ha⟩:=z0m (Na.dig x) k (by rw [HN.out];exact hkn)
    have ha24:=(Na.dig_lim x).at ha
    have hat:=Na.at0_some ha
    obtain ⟨b,hb⟩:∃ b,Na.at0 (Na.dig y) k=b:=⟨_,rfl⟩
    have hb24:b<16777216:=by rw [← hb];exact Na.at0_lt (Na.dig_lim y) k
    obtain ⟨ad,rfl,_,hca⟩:=(HO.out.sl (i:=0) rfl).2.2.2.nat ha
    have hc1:=HO.out.cell 1 rfl
    have HQ:=zh (HO.out.sl (i:=1) rfl)
    have cL:=z6c (P:=Tryz.prog) (w:=wr) (f:=74) (args:=#[.agg #[.slice A2 m c2],.int .i64 (k:Int)]) (v:=.int .i64 (b:Int)) (fun W hW=>by
     rw [← hb];exact z3e A2 m c2 wr.heap.size k (Na.dig y) _ rfl W HM.out (HQ.out.2.2.2.below hW) hW.size (by omega))
    have k0:=cell_regrown hc0
    have k1:=cell_regrown hc1
    have k2:=cell_regrown hca
    obtain ⟨v0,hv0⟩:∃ v0:Int,(a:Int) - (b:Int) - (b0:Int)=v0:=⟨_,rfl⟩
    have HHv:=zh hv0;have HHb:=zh hb;have HHa:=zh hat;have s1:IntKind.i64.wrap ((a:Int) - (b:Int))=(a:Int) - (b:Int):=IntWalk.i64_in _ (by omega)
    have s2:IntKind.i64.wrap ((a:Int) - (b:Int) - (b0:Int))=v0:=by rw [hv0];exact IntWalk.i64_in _ (by omega)
    clear ha hat hb hca hc1 hv0;go_upto_region 10 with (fail)
    refine wp_region_quiet_below (by kernel_rfl) (by kernel_rfl) ?_
    repeat (quiet_step (exact cL _ _))
    refine wpQuiet_nil ?_
    intro W hW;have hbl:=z5k hW
    have HOw:=zh (HO.out.go hbl)
    clear hW k0 k1 k2 cL hbl hc0 HO HQ s1 s2;by_cases hneg:v0<0
    ·obtain ⟨d,hd⟩:∃ d:Nat,v0+16777216=(d:Int):=⟨(v0+16777216).toNat,by have:=HHv.out;omega⟩
     have hd24:d<16777216:=by omega
     have HSB:=zh (Na.sub_no (Na.dig x) (Na.dig y) o k b0 d HP.out.1 HP.out.2.2 (by rw [HHa.out,HHb.out];have:=HHv.out;omega))
     have HLr:=zh (HP.out.2.1.append (Na.Lim.one hd24))
     have HLl:Hid ((o++[d]).length=k+1):=by unfold Hid;rw [zqm,HP.out.1];rfl
     go_wp2_with (at_builtin;refine z2m z5f HOw.out 0 (.tmp 46) (.tmp 48) _ _ rfl rfl (by unfold maxLen;omega) (by omega) rfl rfl rfl rfl ?_;intro A' c' w8 how)
     go_roundw
     case rel=>
      rw [z1a] at how;exact ⟨k+1,1,A',c',o++[d],by omega,by go_num,rfl,rfl,zqj _,⟨HLl.out,HLr.out,HSB.out⟩,how⟩
     case measure=>simp [intOf];omega
    ·have hpos:0≤v0:=by omega
     obtain ⟨d,rfl⟩:=Int.eq_ofNat_of_zero_le hpos
     have hd24:d<16777216:=by have:=HHv.out;omega
     have HSB:=zh (Na.sub_yes (Na.dig x) (Na.dig y) o k b0 d HP.out.1 HP.out.2.2 (by rw [HHa.out,HHb.out];have:=HHv.out;omega))
     have HLr:=zh (HP.out.2.1.append (Na.Lim.one hd24))
     have HLl:Hid ((o++[d]).length=k+1):=by unfold Hid;rw [zqm,HP.out.1];rfl
     clear hneg;go_wp2_with (at_builtin;refine z2m z5f HOw.out 0 (.tmp 46) (.tmp 48) _ _ rfl rfl (by unfold maxLen;omega) (by omega) rfl rfl rfl rfl ?_;intro A' c' w8 how)
     go_roundw
     case rel=>
      rw [z1a] at how;exact ⟨k+1,0,A',c',o++[d],by omega,by go_num,rfl,rfl,zqr _,⟨HLl.out,HLr.out,HSB.out⟩,how⟩
     case measure=>simp [intOf];omega
   ·obtain rfl:k=n:=by omega
    have HV:Hid (Na.val o=x - y):=by
     unfold Hid;rw [Na.sub_end (Na.dig x) (Na.dig y) o k b0 HP.out.2.1 HP.out.1 HP.out.2.2 (by rw [HN.out];exact zqj _) (by rw [HM.out];exact hmn) (by rw [Na.val_dig,Na.val_dig];exact HLe.out),Na.val_dig,Na.val_dig]
    have HF:=zh (z4av HO.out 0 rfl HP.out.2.1 (by omega))
    have ht:x - y<Na.top:=zqu (Nat.sub_le _ _) HX.out
    rw [HV.out,z1p ht,z1q ht] at HF;clear HO ht;go_wp2_with fail;refine HF.out.mono ?_;rintro e w9 ⟨A9,n9,c9,rfl,-,H9⟩;have hc2:=H9.cell 2 rfl
    have hf2:=H9.free 2 rfl
    clear HF hc0;go_wp2_with fail;have h2:=H9.setv 2 rfl (.slice A9 n9 c9)
    have hc3:=h2.cell 2 rfl
    refine bodyPost_ret (v:=.tuple #[.agg #[.slice A9 n9 c9],.int .i64 0]) (by simp [results,Tryz.results43,go_sem,hc3]) rfl ?_
    exact z4y h2 1 rfl 0
theorem z6ad (A A2:Option Addr)(n c m c2:Nat)(zs ys:List Int)(w:World)(hn:zs.length=n)(hm:ys.length=m)(hnc:n≤c)(hmc:m≤c2)(hs:Sl w w.heap.size A (z0r zs))(hs2:Sl w w.heap.size A2 (z0r ys))(hl:n≤1000)(hl2:m≤1000):
  Calls Tryz.prog 43 #[.agg #[.slice A n c],.agg #[.slice A2 m c2]] w (z3b w (subL zs ys) (subE zs ys)):=by
 cases hv:(Na.vld zs && Na.vld ys)
 ·have e1:subL zs ys=[]:=by unfold subL;rw [hv];rfl
  have e2:subE zs ys=1:=by unfold subE;rw [hv];rfl
  rw [e1,e2];exact z6ac A A2 n c m c2 zs ys w hn hm hnc hmc hs hs2 hl hl2 hv
 ·obtain ⟨x,y,hx,hy,rfl,rfl⟩:=z8l hv
  rw [(z1ap hx hy).1,(z1ap hx hy).2]
  rw [z0g] at hs hs2;rw [Na.up_length] at hn hm;exact z9as A A2 n c m c2 x y w hn hm hnc hmc hs hs2 hx hy
namespace Na
set_option maxHeartbeats 4000000
def Gue (q t v1 guess rest:Nat):Prop:=guess*v1+rest=t∧q≤guess∧guess≤16777217∧(16777216≤rest→guess≤16777216)
structure Rnd (U V P u0 u1 u2 Ul v1 v2 Vl:Nat):Prop where
 hU:U=((u0*16777216+u1)*16777216+u2)*P+Ul
 hUl:Ul<P
 hV:V=(v1*16777216+v2)*P+Vl
 hVl:Vl<P
 h1:u1<16777216
 h2:u2<16777216
 k1:v1<16777216
 k2:v2<16777216
 hi:8388608≤v1
 lt:U<16777216*V
section
variable {U V P u0 u1 u2 Ul v1 v2 Vl:Nat}
theorem Rnd.pos (h:Rnd U V P u0 u1 u2 Ul v1 v2 Vl):0<V:=by
 have h1:=h.lt;rcases zqh V with e | e
 ·rw [e] at h1;omega
 ·exact e
theorem Rnd.qlt (h:Rnd U V P u0 u1 u2 Ul v1 v2 Vl):U / V<16777216:=by
 rw [Nat.div_lt_iff_lt_mul h.pos];exact h.lt
theorem Rnd.topU (h:Rnd U V P u0 u1 u2 Ul v1 v2 Vl):u0≤v1:=by
 rcases zqi v1 u0 with hc | hc
 ·exfalso
  have e1:(v1+1)*(16777216*16777216*P)≤u0*(16777216*16777216*P):=Nat.mul_le_mul_right _ hc
  have e2:u0*(16777216*16777216*P)≤U:=by
   rw [h.hU,Nat.add_mul,Nat.add_mul,Nat.add_mul,zqs (u0*16777216),zqs u0,← zqs 16777216 16777216 P]
   omega
  have e3:16777216*V≤(v1+1)*(16777216*16777216*P):=by
   have e4:V≤(v1+1)*(16777216*P):=by
    have e5:v2*P+P≤16777216*P:=by
     have:=Nat.mul_le_mul_right P (show v2+1≤16777216 by have:=h.k2;omega)
     rw [Nat.add_mul,Nat.one_mul] at this;exact this
    have e6:=h.hV;have e7:=h.hVl;rw [Nat.add_mul,zqs] at e6;rw [Nat.add_mul,Nat.one_mul];omega
   have:=Nat.mul_le_mul_left 16777216 e4
   rw [Nat.mul_left_comm] at this;rw [zqs 16777216 16777216 P];exact this
  have:=h.lt
  omega
 ·exact hc
theorem Rnd.start (h:Rnd U V P u0 u1 u2 Ul v1 v2 Vl):Gue (U / V) (u0*16777216+u1) v1 ((u0*16777216+u1) / v1) ((u0*16777216+u1) % v1):=by
 have hv:0<v1:=by have:=h.hi;omega
 have hm:=Nat.mod_lt (u0*16777216+u1) hv
 have hP:0<P:=by have:=h.hVl;omega
 refine ⟨by rw [Nat.mul_comm];exact Nat.div_add_mod _ _,?_,?_,fun h1=>by have:=h.k1;omega⟩
 ·rw [Nat.le_div_iff_mul_le hv];rcases zqi (u0*16777216+u1) (U / V*v1) with hc | hc
  ·exfalso
   have e1:(u0*16777216+u1+1)*(16777216*P)≤U / V*v1*(16777216*P):=Nat.mul_le_mul_right _ hc
   have e2:U / V*v1*(16777216*P)≤U / V*V:=by
    rw [zqs];refine Nat.mul_le_mul_left _ ?_
    have:=h.hV
    rw [Nat.add_mul,zqs] at this;omega
   have e3:=Nat.div_mul_le_self U V
   have e4:U<(u0*16777216+u1+1)*(16777216*P):=by
    have e5:u2*P+P≤16777216*P:=by
     have:=Nat.mul_le_mul_right P (show u2+1≤16777216 by have:=h.h2;omega)
     rw [Nat.add_mul,Nat.one_mul] at this;exact this
    have e6:=h.hU;have e7:=h.hUl;rw [Nat.add_mul,zqs] at e6;rw [Nat.add_mul,Nat.one_mul];omega
   omega
  ·exact hc
 ·have e1:=h.topU;have e2:=h.hi;have e3:=h.h1;rw [← Nat.lt_succ_iff,Nat.div_lt_iff_lt_mul hv];have e4:u0*16777216≤v1*16777216:=Nat.mul_le_mul_right _ e1
  omega
theorem Rnd.next (h:Rnd U V P u0 u1 u2 Ul v1 v2 Vl){guess rest:Nat}(hg:Gue (U / V) (u0*16777216+u1) v1 guess rest)(hr:rest<16777216)(hc:16777216≤guess∨rest*16777216+u2<guess*v2):
  1≤guess∧Gue (U / V) (u0*16777216+u1) v1 (guess - 1) (rest+v1):=by
 obtain ⟨g1,g2,g3,g4⟩:=hg;have hlt:U / V<guess:=by
  rcases hc with hc | hc
  ·have:=h.qlt;omega
  ·rcases zqi (U / V) guess with hq | hq
   ·exact hq
   ·exfalso
    have e1:guess*V≤U:=zqq (Nat.mul_le_mul_right V hq) (Nat.div_mul_le_self U V)
    have e2:guess*((v1*16777216+v2)*P)≤guess*V:=Nat.mul_le_mul_left _ (by have:=h.hV;omega)
    have e3:guess*(v1*16777216+v2)=(guess*v1)*16777216+guess*v2:=by rw [zqt,zqs]
    have e4:(u0*16777216+u1)*16777216+u2+1≤guess*(v1*16777216+v2):=by
     rw [e3];have:(guess*v1+rest)*16777216=(u0*16777216+u1)*16777216:=by rw [g1]
     omega
    have e5:=Nat.mul_le_mul_right P e4
    rw [Nat.add_mul _ 1,Nat.one_mul,zqs guess] at e5;have:=h.hU
    have:=h.hUl
    omega
 have hlt2:1≤guess:=zqu (zqr _) hlt
 refine ⟨hlt2,?_,Nat.le_sub_one_of_lt hlt,by omega,fun _=>by omega⟩
 obtain ⟨m,rfl⟩:∃ m,guess=m+1:=⟨guess - 1,by omega⟩
 rw [Nat.add_mul,Nat.one_mul] at g1
 show m*v1+(rest+v1)=_
 omega
theorem Rnd.done (h:Rnd U V P u0 u1 u2 Ul v1 v2 Vl){guess rest:Nat}(hg:Gue (U / V) (u0*16777216+u1) v1 guess rest)(hc:16777216≤rest∨(guess<16777216∧guess*v2≤rest*16777216+u2)):
  U / V≤guess∧guess≤U / V+1∧guess≤16777216:=by
 obtain ⟨g1,g2,g3,g4⟩:=hg;have hP:0<P:=by have:=h.hVl;omega
 have hgb:guess≤16777216:=by
  rcases hc with hc | ⟨hc,_⟩
  ·exact g4 hc
  ·omega
 refine ⟨g2,?_,hgb⟩
 have hV0:=h.pos;have hVP:16777216*P≤V:=by
  have e1:=h.hV;have e2:1*(16777216*P)≤v1*(16777216*P):=Nat.mul_le_mul_right _ (by have:=h.hi;omega)
  rw [Nat.add_mul,zqs] at e1;omega
 have key:guess*V<U+V:=by
  rcases hc with hc | ⟨_,hc⟩
  ·-- guess*v1≤top - base
   have e1:guess*V≤guess*(v1*(16777216*P)+16777216*P):=by
    refine Nat.mul_le_mul_left _ ?_
    have e2:=h.hV;have e3:=h.hVl;have e4:v2*P+P≤16777216*P:=by
     have:=Nat.mul_le_mul_right P (show v2+1≤16777216 by have:=h.k2;omega)
     rw [Nat.add_mul,Nat.one_mul] at this;exact this
    rw [Nat.add_mul,zqs] at e2;omega
   have e2:guess*(v1*(16777216*P)+16777216*P)≤(guess*v1)*(16777216*P)+16777216*(16777216*P):=by
    rw [zqt,← zqs guess v1];have:=Nat.mul_le_mul_right (16777216*P) hgb
    omega
   have e3:(guess*v1+rest)*(16777216*P)=(u0*16777216+u1)*(16777216*P):=by rw [g1]
   rw [Nat.add_mul] at e3;have e4:=Nat.mul_le_mul_right (16777216*P) hc
   have e5:=h.hU;rw [Nat.add_mul,zqs] at e5;omega
  ·have e1:guess*V=guess*((v1*16777216+v2)*P)+guess*Vl:=by rw [h.hV,zqt]
   have e2:guess*((v1*16777216+v2)*P)=(guess*v1*16777216+guess*v2)*P:=by rw [← zqs,zqt,zqs]
   have e3:(guess*v1*16777216+guess*v2)*P≤((u0*16777216+u1)*16777216+u2)*P:=by
    refine Nat.mul_le_mul_right _ ?_
    have:(guess*v1+rest)*16777216=(u0*16777216+u1)*16777216:=by rw [g1]
    omega
   have e4:guess*Vl≤16777216*Vl:=Nat.mul_le_mul_right _ hgb
   have e5:=h.hVl;have e6:=h.hU;omega
 have e7:guess*V<(U / V+1+1)*V:=by
  have e8:=Nat.div_add_mod U V
  have e9:=Nat.mod_lt U hV0
  rw [Nat.add_mul,Nat.add_mul,Nat.one_mul,Nat.mul_comm (U / V) V]
  omega
 have:=Nat.lt_of_mul_lt_mul_right e7
 omega
end
theorem take_step (X Y o:List Nat)(t k bw d bw':Nat)(ho:o.length=k)(h:val o+t*val (Y.take k)=val (X.take k)+16777216 ^ k*bw)(hd:d+(bw+t*at0 Y k)=at0 X k+16777216*bw'):
  val (o++[d])+t*val (Y.take (k+1))=val (X.take (k+1))+16777216 ^ (k+1)*bw':=by
 rw [val_snoc,ho,val_take_at0,val_take_at0,Nat.pow_succ,zqt];have e1:16777216 ^ k*(d+(bw+t*at0 Y k))=16777216 ^ k*(at0 X k+16777216*bw'):=by rw [hd]
 rw [zqt,zqt,zqt,← zqs _ 16777216] at e1;have e2:t*(16777216 ^ k*at0 Y k)=16777216 ^ k*(t*at0 Y k):=Nat.mul_left_comm ..
 omega
theorem take_borrow {t bw y x d bw':Nat}(ht:t≤16777216)(hb:bw≤16777216)(hy:y<16777216)(hd:d<16777216)(h:d+(bw+t*y)=x+16777216*bw'):bw'≤16777216:=by
 have e1:t*y≤16777216*y:=Nat.mul_le_mul_right _ ht
 omega
theorem take_end {X Y o:List Nat}{t n bw:Nat}(hl:Lim o)(ho:o.length=n)(h:val o+t*val (Y.take n)=val (X.take n)+16777216 ^ n*bw)(hX:X.length≤n)(hY:Y.length≤n):
  (val X<t*val Y→0<bw)∧(t*val Y≤val X→bw=0∧val o=val X - t*val Y):=by
 rw [zqp hX,zqp hY] at h;have hlt:=val_lt hl
 rw [ho] at hlt;refine ⟨fun h1=>?_,fun h1=>?_⟩
 ·rcases zqh bw with rfl | hb
  ·rw [Nat.mul_zero] at h;omega
  ·exact hb
 ·have:bw=0:=by
   rcases zqh bw with hb | hb
   ·exact hb
   ·have h2:=Nat.mul_le_mul_left (16777216 ^ n) hb
    rw [Nat.mul_one] at h2;omega
  subst this
  rw [Nat.mul_zero] at h;exact ⟨rfl,by omega⟩
theorem give_end {X Y o o':List Nat}{t n bw cr:Nat}(hl:Lim o)(ho:o.length=n)(hl':Lim o')(ho':o'.length=n)(h:val o+(t+1)*val (Y.take n)=val (X.take n)+16777216 ^ n*bw)
  (hX:X.length≤n) (hY:Y.length≤n) (hb:0<bw) (hYv:val Y≤16777216 ^ n) (ht:t*val Y≤val X) (hr:val X<(t+1)*val Y) (h2:val o'+16777216 ^ n*cr=val o+val Y):val o'=val X - t*val Y:=by
 rw [zqp hX,zqp hY] at h;have k1:=val_lt hl
 have k2:=val_lt hl'
 rw [ho] at k1;rw [ho'] at k2;rw [Nat.add_mul,Nat.one_mul] at h hr;have e0:16777216 ^ n*bw<16777216 ^ n*2:=by omega
 have e0':=Nat.lt_of_mul_lt_mul_left e0
 obtain rfl:bw=1:=by omega
 rw [Nat.mul_one] at h;have hcr:cr=1:=by
  rcases zqh cr with rfl | hc
  ·rw [Nat.mul_zero] at h2;omega
  ·have hlt:16777216 ^ n*cr<16777216 ^ n*2:=by omega
   have:=Nat.lt_of_mul_lt_mul_left hlt
   omega
 subst hcr
 omega
end Na
namespace Na
set_option maxHeartbeats 4000000
theorem shift_carry {x s cr:Nat}(hx:x<16777216)(hc:cr<s):(x*s+cr) / 16777216<s:=by
 rw [Nat.div_lt_iff_lt_mul (by omega)]
 have:(x+1)*s≤16777216*s:=Nat.mul_le_mul_right _ hx
 rw [Nat.add_mul,Nat.one_mul] at this;rw [Nat.mul_comm s];omega
end Na
theorem z1bo (a b:Nat)(ha:a<9223372036854775808)(hb:b<9223372036854775808):bits .or .i64 (a:Int) (b:Int)=((a ||| b:Nat):Int):=by
 have hlt:a ||| b<2 ^ 63:=Nat.or_lt_two_pow (by simpa using ha) (by simpa using hb)
 have key:(BitVec.ofInt 64 (a:Int) ||| BitVec.ofInt 64 (b:Int)).toNat=a ||| b:=by
  rw [BitVec.toNat_or,BitVec.toNat_ofInt,BitVec.toNat_ofInt];congr 1 <;> omega
 show IntKind.i64.wrap ((BitVec.ofInt 64 (a:Int) ||| BitVec.ofInt 64 (b:Int)).toNat:Nat)=((a ||| b:Nat):Int)
 rw [key,IntKind.wrap_i64];generalize a ||| b=c at *
 omega
theorem z9al (x k cr:Nat)(hx:x<16777216)(hb:k<24)(hc:cr<2 ^ k):bits .or .i64 (cr:Int) ((x*2 ^ k:Nat):Int)=((x*2 ^ k+cr:Nat):Int):=by
 have h2:2 ^ k≤2 ^ 23:=Nat.pow_le_pow_right (by omega) (by omega)
 have h3:x*2 ^ k≤x*2 ^ 23:=Nat.mul_le_mul_left _ h2
 rw [z1bo _ _ (by omega) (by omega),Nat.or_comm,Nat.mul_comm x,← Nat.two_pow_add_eq_or_of_lt hc]
def NSh (w:World)(X:List Nat)(k n:Nat)(i cr o:Value)(wr:World):Prop:=
 ∃ (j c:Nat) (Ao:Option Addr) (co:Nat) (l:List Nat),j≤n∧i=.int .i64 (j:Int)∧cr=.int .i64 (c:Int)∧o=.slice Ao j co∧Hid (l.length=j∧Na.Lim l∧Na.val l+16777216 ^ j*c=Na.val (X.take j)*2 ^ k∧c<2 ^ k)∧wr.ownsRow w.heap.size 3 1 (.slice Ao j co) j (z0c l)∧Below w.heap.size w wr
theorem z7n (A:Option Addr)(n c k:Nat)(X:List Nat)(w:World)(hn:X.length=n)(hs:Sl w w.heap.size A (z0c X))(hX:Na.Lim X)(hl:n≤1000)(hk:k<24):
  Calls Tryz.prog 153 #[.slice A n c,.int .i64 (k:Int)] w fun e w'=>∃ (A':Option Addr) (c':Nat) (o:List Nat),e=.returned (.slice A' (n+1) c')∧o.length=n+1∧Na.Lim o∧Na.val o=Na.val X*2 ^ k∧w'.ownsRow w.heap.size 3 1 (.slice A' (n+1) c') (n+1) (z0c o)∧Below w.heap.size w w':=by
 obtain ⟨i0,hi,hz0,hz1,hz2⟩:=info_parts z4r
 have HN:=zh hn;have HS:=zh hs;have HX:=zh hX;have hmk:=z1h (P:=Tryz.prog) 22 3 i0 (.int .i64 0) Tryz.underlying22 hi hz0 hz1 .i64 .i64 0 ((n:Int)+1) 0 (n+1) (by omega) (by omega) (zqr _) (by rw [hz2];omega) (by omega)
 have HO0:Hid ((w.alloc (.cells (madeCells #[Value.int .i64 0] (n+1)) 3)).ownsRow w.heap.size 3 1 (.slice (some ⟨w.heap.size,0,none⟩) 0 (n+1)) 0 (z0c [])):=z7v w (.int .i64 0) (n+1) 3 rfl (by unfold maxLen;omega)
 have HBB:Hid (Below w.heap.size w (w.alloc (.cells (madeCells #[Value.int .i64 0] (n+1)) 3))):=z0i _ _
 have hp0:0<2 ^ k:=Nat.pow_pos (by omega)
 have HP0:=zh hp0;clear hn hs hX hp0;go_enter Tryz.func153,Tryz.ntmps153
 go_wp2_with fail;clear hmk;go_loopw [15,6,5] (fun i cr o wr=>NSh w X k n i cr o wr) (fun i _ _ _=>n - (intOf i).toNat)
 case atStart=>exact ⟨0,0,_,_,[],zqr _,rfl,rfl,rfl,⟨rfl,Na.Lim.nil,by simp [Na.val],HP0.out⟩,HO0.out,HBB.out⟩
 case round=>
  clear HO0 HBB;obtain ⟨j,cr,Ao,co,l,hj,rfl,rfl,rfl,HP,ho,hb⟩:=hrel;have HO:=zh ho;have HB:=zh hb;rcases zqi j n with hjn | hjn
  ·obtain ⟨a,ha⟩:=z0m X j (by rw [HN.out];exact hjn)
   obtain ⟨ad,rfl,hbk,hca⟩:=(HS.out.below hb).nat ha
   have ha24:=HX.out.at ha
   have ham:a*2 ^ k≤a*2 ^ 23:=Nat.mul_le_mul_left _ (Nat.pow_le_pow_right (by omega) (by omega))
   have HOR:=zh (z9al a k cr ha24 hk HP.out.2.2.2)
   have HE1:Hid ((a:Int)*2 ^ k=((a*2 ^ k:Nat):Int)):=by unfold Hid;simp
   obtain ⟨m,hm⟩:∃ m:Nat,a*2 ^ k=m:=⟨_,rfl⟩
   rw [hm] at HOR HE1 ham;have hm1:m≤140737488355328:=by omega
   have hcr:cr<8388608:=zqv HP.out.2.2.2 (Nat.pow_le_pow_right (n:=2) (j:=23) (by omega) (by omega))
   have HSH:Hid (wrap64 ((a:Int)*2 ^ k)=(m:Int)):=by
    unfold Hid;rw [HE1.out];exact IntWalk.wrap64_in _ ⟨by omega,by omega⟩
   obtain ⟨t,ht⟩:∃ t:Nat,m+cr=t:=⟨_,rfl⟩
   have ht2:t<281474976710656:=by omega
   rw [ht] at HOR;obtain ⟨d,hd⟩:∃ d,t % 16777216=d:=⟨_,rfl⟩
   obtain ⟨q,hq⟩:∃ q,t / 16777216=q:=⟨_,rfl⟩
   have HAND:Hid (bits .and .i64 (t:Int) 16777215=(d:Int)):=by unfold Hid;rw [z6i];omega
   have hshr:(t:Int) / 16777216=(q:Int):=by omega
   have hd24:d<16777216:=by omega
   have HQ:Hid (q<2 ^ k):=by
    unfold Hid;have:=Na.shift_carry ha24 HP.out.2.2.2
    rw [hm,ht,hq] at this;exact this
   have hq24:q<16777216:=by omega
   have HST:Hid (Na.val (l++[d])+16777216 ^ (j+1)*q=Na.val (X.take (j+1))*2 ^ k):=by
    unfold Hid;have h1:=Na.split24 (16777216 ^ j) t
    rw [hd,hq] at h1;have h2:=HP.out.2.2.1;rw [Na.val_snoc,HP.out.1,Na.val_take_succ X j a ha,Nat.add_mul,← h2,zqs (16777216 ^ j) a,hm,Nat.pow_succ]
    have h3:16777216 ^ j*t=16777216 ^ j*m+16777216 ^ j*cr:=by rw [← ht,zqt]
    omega
   have HLr:=zh (HP.out.2.1.append (Na.Lim.one hd24))
   have HLl:Hid ((l++[d]).length=j+1):=by unfold Hid;rw [zqm,HP.out.1];rfl
   have HO3:Hid ((wr.alloc (.cells #[.int .i64 (d:Int)] 3)).ownsRow w.heap.size 3 1 (.slice Ao j co) j (z0c l)):=z0w ho _
   have HSl:=zh (z2a wr 3 (.int .i64 (d:Int)))
   have HBW:Hid (w.heap.size≤wr.heap.size):=hb.size
   have hrow:∀ y,(Value.slice Ao j co).ownBlock=some y→w.heap.size≤y:=z1n ho
   have HM1:Hid (j+1≤maxLen∧(j+1)*8≤140737488355328):=⟨by unfold maxLen;omega,by omega⟩
   have HM3:Hid (w.heap.size≤(wr.alloc (.cells #[.int .i64 (d:Int)] 3)).heap.size):=by have:=HBW.out;unfold Hid;simp;omega
   clear ho hb ha ham hm ht hd hq hcr hm1;have hor:=HOR.out;have hsh:=HSH.out;have hand:=HAND.out;clear HOR HSH HAND HE1;go_wp2_with (at_builtin;refine z0h _ rfl (.tmp 24) (.tmp 27) 22 rfl w.heap.size 3 i0 (.int .i64 0) 8 Tryz.underlying22 hi hz0 hz1 hz2 rfl _ _ _ _ rfl HO3.out _ _ 1 _ _ rfl rfl HSl.out (fun u hu=>by simp at hu;subst hu;rfl) HM1.out.1 HM1.out.2 HM3.out ?_;intro A' c' w8 hown hgrow hblk;clear hor hsh hand)
   go_roundw
   case rel=>
    rw [z1a] at hown;exact ⟨j+1,q,A',c',l++[d],by omega,by go_num,rfl,rfl,⟨HLl.out,HLr.out,HST.out,HQ.out⟩,hown,(HB.out.alloc HBW.out _).grown hgrow (by have:=HBW.out;simp;omega) hrow⟩
   case measure=>simp [intOf];omega
  ·obtain rfl:n=j:=by omega
   have hc24:cr<16777216:=zqv HP.out.2.2.2 (Nat.pow_le_pow_right (n:=2) (j:=24) (by omega) (by omega))
   have hdk:decide (n<n)=false:=zn (by omega)
   have HLr:=zh (HP.out.2.1.append (Na.Lim.one hc24))
   have HLl:Hid ((l++[cr]).length=n+1):=by unfold Hid;rw [zqm,HP.out.1];rfl
   have HVl:Hid (Na.val (l++[cr])=Na.val X*2 ^ k):=by
    unfold Hid;rw [Na.val_snoc,HP.out.1,HP.out.2.2.1,zqp (by have:=HN.out;omega)]
   have HO3:Hid ((wr.alloc (.cells #[.int .i64 (cr:Int)] 3)).ownsRow w.heap.size 3 1 (.slice Ao n co) n (z0c l)):=z0w ho _
   have HSl:=zh (z2a wr 3 (.int .i64 (cr:Int)))
   have HBW:Hid (w.heap.size≤wr.heap.size):=hb.size
   have hrow:∀ y,(Value.slice Ao n co).ownBlock=some y→w.heap.size≤y:=z1n ho
   clear ho hb HS HP0 hjn;go_wp2_with (at_builtin;refine z0h _ rfl (.tmp 32) (.tmp 34) 22 rfl w.heap.size 3 i0 (.int .i64 0) 8 Tryz.underlying22 hi hz0 hz1 hz2 rfl _ _ _ _ rfl HO3.out _ _ 1 _ _ rfl rfl HSl.out (fun u hu=>by simp at hu;subst hu;rfl) (by unfold maxLen;omega) (by omega) (by have:=HBW.out;simp;omega) ?_;intro A' c' w8 hown hgrow hblk)
   go_ret;rw [z1a] at hown;exact ⟨A',c',l++[cr],rfl,HLl.out,HLr.out,HVl.out,hown,(HB.out.alloc HBW.out _).grown hgrow (by have:=HBW.out;simp;omega) hrow⟩
namespace Na
set_option maxHeartbeats 4000000
def win (U o:List Nat)(j:Nat):List Nat:=U.take j++(o++U.drop (j+o.length))
theorem win_length (U o:List Nat)(j:Nat)(h:j+o.length≤U.length):(win U o j).length=U.length:=by
 unfold win;simp
 omega
theorem win_nil (U:List Nat)(j:Nat)(h:j≤U.length):win U [] j=U:=by
 unfold win;simp
theorem win_get (U o:List Nat)(j k a:Nat)(hk:o.length≤k)(h:U[j+k]?=some a):(win U o j)[j+k]?=some a:=by
 unfold win;have hj:j+k<U.length:=lt_of_get h
 rw [zqo (by rw [zqw];omega),zqw,Nat.min_eq_left (by omega),show j+k - j=k by omega,zqo hk,List.getElem?_drop,show j+o.length+(k - o.length)=j+k by omega]
 exact h
theorem win_set (U o:List Nat)(j d:Nat)(h:j+o.length<U.length):(win U o j).set (j+o.length) d=win U (o++[d]) j:=by
 unfold win;rw [List.set_append_right _ _ (by rw [zqw];omega),zqw,Nat.min_eq_left (by omega),show j+o.length - j=o.length by omega,List.set_append_right _ _ (zqj _),Nat.sub_self]
 rw [List.drop_eq_getElem_cons h];simp [Nat.add_assoc]
theorem take_digit (u X:Nat)(hX:X≤281475000000000)(hu:u<16777216):∃ d b:Nat,d<16777216∧d+X=u+16777216*b∧((u:Int) - (X:Int)) % 16777216=(d:Int)∧((d:Int) - ((u:Int) - (X:Int))) / 16777216=(b:Int):=by
 refine ⟨(((u:Int) - (X:Int)) % 16777216).toNat,((((u:Int) - (X:Int)) % 16777216 - ((u:Int) - (X:Int))) / 16777216).toNat,?_,?_,?_,?_⟩ <;> omega
end Na
def NTk (w:World)(g j N m c base:Nat)(U V:List Nat)(t:Nat)(i bw:Value)(wr:World):Prop:=
 ∃ (k b:Nat) (o:List Nat),k≤N∧i=.int .i64 (k:Int)∧bw=.int .i64 (b:Int)∧b≤16777216∧Hid (o.length=k∧Na.Lim o∧Na.val o+t*Na.val (V.take k)=Na.val ((U.drop j).take k)+16777216 ^ k*b)∧
  wr.ownsRow base 3 1 (.slice (some ⟨g,0,none⟩) m c) m (z0c (Na.win U o j))∧w.grownBy wr (some g)
theorem z9f (g j N cap m c base n c2 B:Nat)(A2:Option Addr)(U V:List Nat)(t:Nat)(w:World)(hU:U.length=m)(hV:V.length=n)(ho:w.ownsRow base 3 1 (.slice (some ⟨g,0,none⟩) m c) m (z0c U))(hs2:Sl w B A2 (z0c V))(hg2:∀ ad,A2=some ad→0<n→ad.block≠g)(hB:B≤w.heap.size)
  (hUl:Na.Lim U) (hVl:Na.Lim V) (hN:j+N≤m) (hm:m≤1000) (hn1:n≤1000) (ht:t≤16777216) :
  Calls Tryz.prog 154 #[.slice (some ⟨g,j,none⟩) N cap,.slice A2 n c2,.int .i64 (t:Int)] w fun e w'=>∃ (b:Nat) (o:List Nat),e=.returned (.bool (decide (0<b)))∧o.length=N∧Na.Lim o∧Na.val o+t*Na.val (V.take N)=Na.val ((U.drop j).take N)+16777216 ^ N*b∧
   w'.ownsRow base 3 1 (.slice (some ⟨g,0,none⟩) m c) m (z0c (Na.win U o j))∧w.grownBy w' (some g):=by
 have HU:=zh hU;have HV:=zh hV;have HO0:=zh ho;have HS2:=zh hs2;have HUl:=zh hUl;have HVl:=zh hVl;have HG2:=zh hg2;clear hU hV ho hs2 hUl hVl hg2;go_enter Tryz.func154,Tryz.ntmps154
 go_wp2_with fail;go_loopw [12,7] (fun i bw wr=>NTk w g j N m c base U V t i bw wr) (fun i _ _=>N - (intOf i).toNat)
 case atStart=>exact ⟨0,0,[],zqr _,rfl,rfl,zqr _,⟨rfl,Na.Lim.nil,by simp [Na.val]⟩,by rw [Na.win_nil U j (by have:=HU.out;omega)];exact HO0.out,World.grownBy.refl w _⟩
 case round=>
  clear HO0;obtain ⟨k,b,o,hk,rfl,rfl,hb,HP,ho,hg⟩:=hrel;have HO:=zh ho;have HG:=zh hg;rcases zqi k N with hkN | hkN
  ·obtain ⟨a,ha⟩:=z0m U (j+k) (by rw [HU.out];omega)
   have hca:=z0z ho (Na.win_get U o j k a (by rw [HP.out.1];exact zqj _) ha)
   have hfz:=ho.frozenAt (j+k)
   have ha24:=HUl.out.at ha
   have HA0:Hid (Na.at0 (U.drop j) k=a):=Na.at0_some (by rw [List.getElem?_drop];exact ha)
   rcases zqi k n with hkn | hkn
   ·obtain ⟨y,hy⟩:=z0m V k (by rw [HV.out];exact hkn)
    obtain ⟨ad2,rfl,hbk2,hcy⟩:=HS2.out.nat hy
    have hcb:=(World.cell?_of_block (a:=ad2.add k) (hg.block (ad2.add k).block (by rw [z1g];omega) (by rw [z1g];intro e;exact HG2.out ad2 rfl (by omega) (zqk e)))).trans hcy
    have hy24:=HVl.out.at hy
    have HY0:Hid (Na.at0 V k=y):=Na.at0_some hy
    obtain ⟨p,hp⟩:∃ p,t*y=p:=⟨_,rfl⟩
    have hp2:p≤281474976710656:=by
     have:=Nat.mul_le_mul ht (Nat.le_of_lt hy24)
     omega
    have HP1:Hid ((t:Int)*(y:Int)=(p:Int)):=by unfold Hid;rw [← hp];exact (Int.natCast_mul t y).symm
    obtain ⟨d,b',hd24,hdb,hd1,hd2⟩:=Na.take_digit a (b+p) (by omega) ha24
    have HAND:Hid (bits .and .i64 ((a:Int) - (b:Int) - (p:Int)) 16777215=(d:Int)):=by unfold Hid;rw [z6i];omega
    have HSHR:Hid (((d:Int) - ((a:Int) - (b:Int) - (p:Int))) / 16777216=(b':Int)):=by unfold Hid;omega
    have HBB:Hid (b'≤16777216):=Na.take_borrow ht hb hy24 hd24 (by rw [hp];exact hdb)
    have HST:=zh (Na.take_step (U.drop j) V o t k b d b' HP.out.1 HP.out.2.2 (by rw [HA0.out,HY0.out,hp];exact hdb))
    have HLr:=zh (HP.out.2.1.append (Na.Lim.one hd24))
    have HLl:Hid ((o++[d]).length=k+1):=by unfold Hid;rw [zqm,HP.out.1];rfl
    have HSet:=zh (Na.win_set U o j d (by rw [HU.out,HP.out.1];omega))
    rw [HP.out.1] at HSet;clear ho hg ha hy hcy hp hd1 hd2 hdb hbk2;have hmul:=HP1.out;have hand:=HAND.out;have hshr:=HSHR.out;clear HP1 HAND HSHR;go_wp2_with fail;go_roundw
    case rel=>
     have o1:=z1t HO.out (j+k) (.int .i64 (d:Int))
     rw [z1o,HSet.out] at o1;exact ⟨k+1,b',o++[d],by omega,by go_num,rfl,HBB.out,⟨HLl.out,HLr.out,HST.out⟩,o1,z0j HG.out (z0d _ _ _)⟩
    case measure=>simp [intOf];omega
   ·have HY0:Hid (Na.at0 V k=0):=Na.at0_none (by rw [HV.out];exact hkn)
    obtain ⟨d,b',hd24,hdb,hd1,hd2⟩:=Na.take_digit a b (by omega) ha24
    have HAND:Hid (bits .and .i64 ((a:Int) - (b:Int)) 16777215=(d:Int)):=by unfold Hid;rw [z6i];omega
    have HSHR:Hid (((d:Int) - ((a:Int) - (b:Int))) / 16777216=(b':Int)):=by unfold Hid;omega
    have HBB:Hid (b'≤16777216):=by unfold Hid;omega
    have HST:=zh (Na.take_step (U.drop j) V o t k b d b' HP.out.1 HP.out.2.2 (by rw [HA0.out,HY0.out,Nat.mul_zero,Nat.add_zero];exact hdb))
    have HLr:=zh (HP.out.2.1.append (Na.Lim.one hd24))
    have HLl:Hid ((o++[d]).length=k+1):=by unfold Hid;rw [zqm,HP.out.1];rfl
    have HSet:=zh (Na.win_set U o j d (by rw [HU.out,HP.out.1];omega))
    rw [HP.out.1] at HSet;have hkd:decide (k<n)=false:=zn (by omega)
    clear ho hg ha hd1 hd2 hdb;have hand:=HAND.out;have hshr:=HSHR.out;clear HAND HSHR;go_wp2_with fail;go_roundw
    case rel=>
     have o1:=z1t HO.out (j+k) (.int .i64 (d:Int))
     rw [z1o,HSet.out] at o1;exact ⟨k+1,b',o++[d],by omega,by go_num,rfl,HBB.out,⟨HLl.out,HLr.out,HST.out⟩,o1,z0j HG.out (z0d _ _ _)⟩
    case measure=>simp [intOf];omega
  ·obtain rfl:N=k:=by omega
   have hdk:decide (N<N)=false:=zn (by omega)
   have HBd:Hid (decide (0<(b:Int))=decide (0<b)):=by
    unfold Hid;by_cases h:0<b
    ·rw [zt h,zt (by omega)]
    ·rw [zn h,zn (by omega)]
   clear ho hg hkN;go_wp2_with fail;go_ret;exact ⟨b,o,z2h (by first | rfl | exact HBd.out),HP.out.1,HP.out.2.1,HP.out.2.2,HO.out,HG.out⟩
def NGi (w:World)(g j N m c base:Nat)(U V:List Nat)(i cr:Value)(wr:World):Prop:=
 ∃ (k b:Nat) (o:List Nat),k≤N∧i=.int .i64 (k:Int)∧cr=.int .i64 (b:Int)∧b≤1∧Hid (o.length=k∧Na.Lim o∧Na.val o+16777216 ^ k*b=Na.val ((U.drop j).take k)+Na.val (V.take k))∧
  wr.ownsRow base 3 1 (.slice (some ⟨g,0,none⟩) m c) m (z0c (Na.win U o j))∧w.grownBy wr (some g)
theorem z9k (g j N cap m c base n c2 B:Nat)(A2:Option Addr)(U V:List Nat)(w:World)(hU:U.length=m)(hV:V.length=n)(ho:w.ownsRow base 3 1 (.slice (some ⟨g,0,none⟩) m c) m (z0c U))(hs2:Sl w B A2 (z0c V))(hg2:∀ ad,A2=some ad→0<n→ad.block≠g)(hB:B≤w.heap.size)
  (hUl:Na.Lim U) (hVl:Na.Lim V) (hN:j+N≤m) (hm:m≤1000) (hn1:n≤1000) :
  Calls Tryz.prog 155 #[.slice (some ⟨g,j,none⟩) N cap,.slice A2 n c2] w fun e w'=>∃ (b:Nat) (o:List Nat),e=.returned (.tuple #[])∧o.length=N∧Na.Lim o∧Na.val o+16777216 ^ N*b=Na.val ((U.drop j).take N)+Na.val (V.take N)∧
   w'.ownsRow base 3 1 (.slice (some ⟨g,0,none⟩) m c) m (z0c (Na.win U o j))∧w.grownBy w' (some g):=by
 have HU:=zh hU;have HV:=zh hV;have HO0:=zh ho;have HS2:=zh hs2;have HUl:=zh hUl;have HVl:=zh hVl;have HG2:=zh hg2;clear hU hV ho hs2 hUl hVl hg2;go_enter Tryz.func155,Tryz.ntmps155
 go_wp2_with fail;go_loopw [8,4] (fun i cr wr=>NGi w g j N m c base U V i cr wr) (fun i _ _=>N - (intOf i).toNat)
 case atStart=>exact ⟨0,0,[],zqr _,rfl,rfl,zqr _,⟨rfl,Na.Lim.nil,by simp [Na.val]⟩,by rw [Na.win_nil U j (by have:=HU.out;omega)];exact HO0.out,World.grownBy.refl w _⟩
 case round=>
  clear HO0;obtain ⟨k,b,o,hk,rfl,rfl,hb,HP,ho,hg⟩:=hrel;have HO:=zh ho;have HG:=zh hg;rcases zqi k N with hkN | hkN
  ·obtain ⟨a,ha⟩:=z0m U (j+k) (by rw [HU.out];omega)
   have hca:=z0z ho (Na.win_get U o j k a (by rw [HP.out.1];exact zqj _) ha)
   have hfz:=ho.frozenAt (j+k)
   have ha24:=HUl.out.at ha
   have HA0:Hid (Na.at0 (U.drop j) k=a):=Na.at0_some (by rw [List.getElem?_drop];exact ha)
   rcases zqi k n with hkn | hkn
   ·obtain ⟨y,hy⟩:=z0m V k (by rw [HV.out];exact hkn)
    obtain ⟨ad2,rfl,hbk2,hcy⟩:=HS2.out.nat hy
    have hcb:=(World.cell?_of_block (a:=ad2.add k) (hg.block (ad2.add k).block (by rw [z1g];omega) (by rw [z1g];intro e;exact HG2.out ad2 rfl (by omega) (zqk e)))).trans hcy
    have hy24:=HVl.out.at hy
    have HY0:Hid (Na.at0 V k=y):=Na.at0_some hy
    obtain ⟨s,hs⟩:∃ s,b+a+y=s:=⟨_,rfl⟩
    obtain ⟨d,hd⟩:∃ d,s % 16777216=d:=⟨_,rfl⟩
    obtain ⟨q,hq⟩:∃ q,s / 16777216=q:=⟨_,rfl⟩
    have HAND:Hid (bits .and .i64 ((b:Int)+(a:Int)+(y:Int)) 16777215=(d:Int)):=by unfold Hid;rw [z6i];omega
    have HSHR:Hid (((b:Int)+(a:Int)+(y:Int)) / 16777216=(q:Int)):=by unfold Hid;omega
    have hd24:d<16777216:=by omega
    have HBB:Hid (q≤1):=by unfold Hid;omega
    have HST:=zh (Na.add_step (U.drop j) V o k b s HP.out.1 HP.out.2.2 (by rw [HA0.out,HY0.out];omega))
    rw [hd,hq] at HST;have HLr:=zh (HP.out.2.1.append (Na.Lim.one hd24))
    have HLl:Hid ((o++[d]).length=k+1):=by unfold Hid;rw [zqm,HP.out.1];rfl
    have HSet:=zh (Na.win_set U o j d (by rw [HU.out,HP.out.1];omega))
    rw [HP.out.1] at HSet;clear ho hg ha hy hcy hs hd hq hbk2;have hand:=HAND.out;have hshr:=HSHR.out;clear HAND HSHR;go_wp2_with fail;go_roundw
    case rel=>
     have o1:=z1t HO.out (j+k) (.int .i64 (d:Int))
     rw [z1o,HSet.out] at o1;exact ⟨k+1,q,o++[d],by omega,by go_num,rfl,HBB.out,⟨HLl.out,HLr.out,HST.out⟩,o1,z0j HG.out (z0d _ _ _)⟩
    case measure=>simp [intOf];omega
   ·have HY0:Hid (Na.at0 V k=0):=Na.at0_none (by rw [HV.out];exact hkn)
    obtain ⟨s,hs⟩:∃ s,b+a=s:=⟨_,rfl⟩
    obtain ⟨d,hd⟩:∃ d,s % 16777216=d:=⟨_,rfl⟩
    obtain ⟨q,hq⟩:∃ q,s / 16777216=q:=⟨_,rfl⟩
    have HAND:Hid (bits .and .i64 ((b:Int)+(a:Int)) 16777215=(d:Int)):=by unfold Hid;rw [z6i];omega
    have HSHR:Hid (((b:Int)+(a:Int)) / 16777216=(q:Int)):=by unfold Hid;omega
    have hd24:d<16777216:=by omega
    have HBB:Hid (q≤1):=by unfold Hid;omega
    have HST:=zh (Na.add_step (U.drop j) V o k b s HP.out.1 HP.out.2.2 (by rw [HA0.out,HY0.out];omega))
    rw [hd,hq] at HST;have HLr:=zh (HP.out.2.1.append (Na.Lim.one hd24))
    have HLl:Hid ((o++[d]).length=k+1):=by unfold Hid;rw [zqm,HP.out.1];rfl
    have HSet:=zh (Na.win_set U o j d (by rw [HU.out,HP.out.1];omega))
    rw [HP.out.1] at HSet;have hkd:decide (k<n)=false:=zn (by omega)
    clear ho hg ha hs hd hq;have hand:=HAND.out;have hshr:=HSHR.out;clear HAND HSHR;go_wp2_with fail;go_roundw
    case rel=>
     have o1:=z1t HO.out (j+k) (.int .i64 (d:Int))
     rw [z1o,HSet.out] at o1;exact ⟨k+1,q,o++[d],by omega,by go_num,rfl,HBB.out,⟨HLl.out,HLr.out,HST.out⟩,o1,z0j HG.out (z0d _ _ _)⟩
    case measure=>simp [intOf];omega
  ·obtain rfl:N=k:=by omega
   have hdk:decide (N<N)=false:=zn (by omega)
   clear ho hg hkN;go_wp2_with fail;go_end0
   exact ⟨b,o,rfl,HP.out.1,HP.out.2.1,HP.out.2.2,HO.out,HG.out⟩
theorem z2bb:∀ (f x:Nat),x<2 ^ f→x≠0→1≤Lib.bitLenAux f x∧2 ^ (Lib.bitLenAux f x - 1)≤x∧x<2 ^ Lib.bitLenAux f x
 | 0,x,h,h0=>by simp at h;omega
 | f+1,x,h,h0=>by
  rw [Lib.bitLenAux,if_neg h0];by_cases h2:x / 2=0
  ·have hz:Lib.bitLenAux f 0=0:=by cases f <;> simp [Lib.bitLenAux]
   rw [h2,hz];simp
   omega
  ·obtain ⟨a,b,c⟩:=z2bb f (x / 2) (by rw [Nat.pow_succ] at h;omega) h2
   generalize Lib.bitLenAux f (x / 2)=L at a b c ⊢
   obtain ⟨L,rfl⟩:∃ M,L=M+1:=⟨L - 1,by omega⟩
   have e1:1+(L+1) - 1=L+1:=by omega
   have e2:1+(L+1)=(L+1)+1:=by omega
   rw [e1,e2,Nat.pow_succ 2 (L+1)]
   simp only [Nat.add_sub_cancel] at b;rw [Nat.pow_succ] at c ⊢
   omega
def Nbl (x:Nat):Nat:=Lib.bitLen x
theorem z6an {x:Nat}(h0:0<x)(h:x<18446744073709551616):1≤Nbl x∧2 ^ (Nbl x - 1)≤x∧x<2 ^ Nbl x:=z2bb 64 x h (by omega)
theorem z2ah {x k:Nat}(h:x<2 ^ k)(hk:k≤64):Nbl x≤k:=Lib.bitLen_le x k hk h
theorem z8al:(Lib.len8tab.size:Int)=256:=by
 have:Lib.len8tab.size=256:=by decide
 omega
theorem z7p (k a b:Nat)(hk:k≤56)(ha:a≤8)(hb:b=k+a):wrap64 ((k:Int)+wrap64 (a:Int))=(b:Int):=by
 unfold wrap64;omega
theorem z4ak (a:Nat)(ha:a≤8):wrap64 (wrap64 (a:Int))=(a:Int):=by
 unfold wrap64;omega
theorem z8ah (a:Nat)(ha:a≤8):wrap64 (a:Int)=(a:Int):=by
 unfold wrap64;omega
theorem z9z (y:Int)(h:y.toNat<Lib.len8tab.size):((Lib.len8tab[y.toNat]'h).toNat:Int)=Lib.len8 y:=by
 unfold Lib.len8;rw [getElem?_pos Lib.len8tab y.toNat h];rfl
theorem z6at (x:Int)(w:World)(h0:0≤x)(h1:x<16777216):
    Calls Tryz.prog 115 #[.int .u64 x] w fun e w'=>e=.returned (.int .i64 (Lib.bitLen x.toNat))∧w'=w:=by
  go_enter Tryz.func115,Tryz.ntmps115
  go_wp2
  all_goals first
    | (go_ret;refine ⟨congrArg Ending.returned (congrArg (Value.int IntKind.i64) ?_),rfl⟩)
    | (exfalso;have hs:=z8al;omega)
  all_goals first
    | (rw [z9z (x / 65536) _,Lib.len8_of (x / 65536) (by omega) (by omega)]
       have e:(x / 65536).toNat=x.toNat / 65536:=by omega
       have l:=Lib.bitLen_le8' (x / 65536) (by omega) (by omega)
       have s:=Lib.bitLen_shift16 x.toNat (by omega) (by omega)
       rw [e] at l ⊢
       exact z7p 16 _ _ (by decide) l s)
    | (rw [z9z (x / 256) _,Lib.len8_of (x / 256) (by omega) (by omega)]
       have e:(x / 256).toNat=x.toNat / 256:=by omega
       have l:=Lib.bitLen_le8' (x / 256) (by omega) (by omega)
       have s:=Lib.bitLen_shift8 x.toNat (by omega) (by omega)
       rw [e] at l ⊢
       exact z7p 8 _ _ (by decide) l s)
    | (rw [z9z (x) _,Lib.len8_of (x) (by omega) (by omega)]
       have l:=Lib.bitLen_le8' (x) (by omega) (by omega)
       first | exact z4ak _ l | exact z7p 0 _ _ (by decide) l (by omega) | exact z8ah _ l)
theorem z4b (x:Nat)(xi:Int)(hx:xi=(x:Int))(w:World)(h1:x<16777216):
  Calls Tryz.prog 82 #[.int .u64 xi] w fun e w'=>e=.returned (.int .i64 (Nbl x:Int))∧w=w':=by
 subst hx
 go_enter Tryz.func82,Tryz.ntmps82
 go_wp2_with fail;refine (z6at x _ (by omega) (by omega)).mono ?_
 rintro e w' ⟨rfl,rfl⟩;go_wp2_with fail;go_ret;exact ⟨rfl,rfl⟩
end Go.Proofs.YtpmofjomadibmaaGreatDoor
