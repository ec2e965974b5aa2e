/- Rm Xd Xe Xf -/
import Derived.Test.YtpmofjomadibmaaGreatDoorU04
import Derived.Test.YtpmofjomadibmaaGreatDoorU05
import Derived.Laws.StructEq
import Derived.MapKept
import Derived.ChangeMaps5
namespace Go.Proofs.YtpmofjomadibmaaGreatDoor
set_option maxHeartbeats 4000000
open Go.RowKit
set_option linter.unusedVariables false
set_option maxRecDepth 100000
theorem z7i (A A2:Option Addr)(n c m c2:Nat)(x y:Nat)(w:World)(hn:(Na.dig x).length=n)(hm:(Na.dig y).length=m)(hnc:n<=c)(hmc:m<=c2)(hs:Sl w w.heap.size A (z0c (Na.dig x)))(hs2:Sl w w.heap.size A2 (z0c (Na.dig y)))(hl:n<=1000)(hl2:m<=1000):
  Calls Tryz.prog 47 #[.agg #[.slice A n c],.agg #[.slice A2 m c2]] w fun e w'=>e=.returned (.int .i64 (Na.sgn x y))/\Below w.heap.size w w':=by
 have H0:=((((Ow.of (St.refl w)).old hs (by rw [z0e];exact hn) hnc hl).old hs2 (by rw [z0e];exact hm) hmc hl2).boxed (.slice A n c) 25).boxed (.slice A2 m c2) 25
 simp only [World.size_alloc,zqc,zqb] at H0;have hc0:=H0.cell 0 rfl
 have hc1:=H0.cell 1 rfl
 have HN:=zh hn;have HM:=zh hm;have HB:=zh H0.below;obtain ⟨-,-,-,q1⟩:=H0.sl (i:=0) rfl
 obtain ⟨-,-,-,q2⟩:=H0.sl (i:=1) rfl
 have HP:=zh q1;have HQ:=zh q2;clear hn hm hs hs2 q1 q2 H0;rcases Nat.lt_trichotomy n m with hnm|hnm|hnm
 ·have hne:((n:Int) != (m:Int))=true:=by rw [bne_iff_ne];omega
  have HR:Hid (Na.sgn x y=-1):=by unfold Hid;rw [Na.sgn_of_len (by rw [HN.out,HM.out];omega),HN.out,HM.out];exact Na.sgn_lt hnm
  have hd:decide (n<m)=true:=zt hnm
  clear hnm;go_enter Tryz.func47,Tryz.ntmps47
  go_wp2_with fail;go_ret;exact ⟨by rw [HR.out];rfl,HB.out⟩
 ·subst hnm
  have hne:((n:Int) != (n:Int))=false:=by simp
  obtain ⟨w0,hw0⟩:∃ w0,(w.alloc (.cells #[.slice A n c] 25)).alloc (.cells #[.slice A2 n c2] 25)=w0:=⟨_,rfl⟩
  have HW:Hid ((w.alloc (.cells #[.slice A n c] 25)).alloc (.cells #[.slice A2 n c2] 25)=w0):=hw0
  rw [hw0] at HB HP HQ hc0 hc1;clear hw0;go_enter Tryz.func47,Tryz.ntmps47
  go_wp2_with fail;rw [HW.out];go_loopw [5] (fun v wr=>∃ (z:Int) (nq:Nat),-1<=z/\z<n/\v=.int .i64 z/\wr=w0.drewN nq/\Hid ((Na.dig x).drop (z+1).toNat=(Na.dig y).drop (z+1).toNat)) (fun v _=>(intOf v+1).toNat)
  case atStart=>exact ⟨(n:Int) - 1,0,by omega,by omega,by go_num,rfl,by unfold Hid;rw [List.drop_of_length_le (by rw [HN.out];omega),List.drop_of_length_le (by rw [HM.out];omega)]⟩
  case round=>
   obtain ⟨z,nq,hz1,hz2,rfl,rfl,HE⟩:=hrel;rcases Int.lt_or_le z 0 with hz|hz
   ·have HR:Hid (Na.sgn x y=0):=Na.sgn_eq (Na.dig_inj (by have:=HE.out;rw [show (z+1).toNat=0 by omega,List.drop_zero,List.drop_zero] at this;exact this))
    clear hz1;go_wp2_with fail;go_ret;exact ⟨by rw [HR.out];rfl,z0w HB.out _⟩
   ·obtain ⟨k,rfl⟩:=Int.eq_ofNat_of_zero_le hz
    have hkn:k<n:=by omega
    obtain ⟨a,ha⟩:=z0m (Na.dig x) k (by rw [HN.out];exact hkn)
    obtain ⟨b,hb⟩:=z0m (Na.dig y) k (by rw [HM.out];exact hkn)
    obtain ⟨ad,rfl,_,hca⟩:=HP.out.nat ha
    obtain ⟨ad2,rfl,_,hcb⟩:=HQ.out.nat hb
    have HE1:Hid ((Na.dig x).drop (k+1)=(Na.dig y).drop (k+1)):=HE.out
    have HHA:=zh ha;have HHB:=zh hb;clear ha hb hz1 hz HE;rcases Nat.lt_trichotomy a b with hab|hab|hab
    ·have h1:decide (a<b)=true:=zt hab
     have HR:Hid (Na.sgn x y=-1):=by unfold Hid;rw [Na.sgn_at HHA.out HHB.out HE1.out (by omega)];exact Na.sgn_lt hab
     clear hab;go_wp2_with fail;go_quiet (fail)
     go_wp2_with fail;go_ret;exact ⟨by rw [HR.out];rfl,z0w (z0w HB.out _) _⟩
    ·subst hab
     have h1:decide (a<a)=false:=zn (by omega)
     have HE2:Hid ((Na.dig x).drop ((k:Int) - 1+1).toNat=(Na.dig y).drop ((k:Int) - 1+1).toNat):=by
      unfold Hid;rw [show ((k:Int) - 1+1).toNat=k by omega]
      exact Na.drop_same HHA.out HHB.out HE1.out
     go_wp2_with fail;go_quiet (fail)
     go_wp2_with fail;go_quiet (fail)
     go_wp2_with fail;go_roundw
     case rel=>exact ⟨(k:Int) - 1,_,by omega,by omega,rfl,rfl,HE2⟩
     case measure=>simp [intOf]
    ·have h1:decide (a<b)=false:=zn (by omega)
     have h2:decide (b<a)=true:=zt hab
     have HR:Hid (Na.sgn x y=1):=by unfold Hid;rw [Na.sgn_at HHA.out HHB.out HE1.out (by omega)];exact Na.sgn_gt hab
     clear hab;go_wp2_with fail;go_quiet (fail)
     go_wp2_with fail;go_quiet (fail)
     go_wp2_with fail;go_ret;exact ⟨by rw [HR.out];rfl,z0w (z0w (z0w HB.out _) _) _⟩
 ·have hne:((n:Int) != (m:Int))=true:=by rw [bne_iff_ne];omega
  have HR:Hid (Na.sgn x y=1):=by unfold Hid;rw [Na.sgn_of_len (by rw [HN.out,HM.out];omega),HN.out,HM.out];exact Na.sgn_gt hnm
  have hd:decide (n<m)=false:=zn (by omega)
  clear hnm;go_enter Tryz.func47,Tryz.ntmps47
  go_wp2_with fail;go_ret;exact ⟨by rw [HR.out];rfl,HB.out⟩
open Go.RowKit Go.Sort
def z0aw (w:World)(l:List Nat)(en:Ending)(w':World):Prop:=
 ∃ (A:Option Addr) (n c:Nat),en=.returned (.agg #[.slice A n c])/\l.length=n/\n<=c/\w'.ownsRow w.heap.size 3 1 (.slice A n c) n (z0c l)/\Below w.heap.size w w'
theorem z4o {w w':World}{g:Option Nat}{M:List (Nat×Value)}{L:List Ob}{O:List Rw}(h:Ow w w' g M L O)(i:Nat){A:Option Addr}{n c:Nat}{l:List Nat}(hi:O[i]?=some ⟨A,n,c,3,z0c l⟩):z0aw w l (.returned (.agg #[.slice A n c])) w':=by
 have ho:=h.row i hi
 exact ⟨A,n,c,rfl,by have:=z1m ho;rwa [z0e] at this,(z1j ho).1,ho,h.below⟩
theorem Ow.trimmed {w0 w:World}{g:Option Nat}{M:List (Nat×Value)}{L:List Ob}{O:List Rw}(h:Ow w0 w g M L O)(i:Nat){A:Option Addr}{n c:Nat}{l:List Nat}(hi:O[i]?=some ⟨A,n,c,3,z0c l⟩)(hl:Na.Lim l){k x:Nat}(hk:Na.tl l l.length=k)(hx:Na.val l=x):Ow w0 w g M L (O.set i ⟨A,k,c,3,z0c (Na.dig x)⟩):=by
 have hn:=z1m (h.row i hi)
 rw [z0e] at hn;have h1:=h.cut i hi (k:=k) (by rw [<- hk,<- hn];exact Na.tl_le _ _)
 rw [z3f] at h1;have e:=Na.trim_dig hl
 unfold Na.trim at e;rw [hk,hx] at e;rwa [e] at h1
def RTim (w:World)(M:List (Nat×Value))(L:List Ob)(Y:List Nat)(n m:Nat)(i s cr:Value)(wr:World):Prop:=
 ∃ (k c:Nat) (A:Option Addr) (ca:Nat) (o:List Nat),k<=n/\i=.int .i64 k/\s=.slice A k ca/\cr=.int .i64 c/\c<16777216/\Hid (o.length=k/\Na.Lim o/\Na.val o+16777216 ^ k*c=Na.val (Y.take k)*m+0)/\Hid (Ow w wr none M L [⟨A,k,ca,3,z0c o⟩])
theorem z1as (A:Option Addr)(n c y m:Nat)(mv:Int)(hmv:mv=(m:Int))(w:World)(hn:(Na.dig y).length=n)(hnc:n<=c)(hs:Sl w w.heap.size A (z0c (Na.dig y)))(hl:n<=999)(hm:m<16777216):
  Calls Tryz.prog 103 #[.agg #[.slice A n c],.int .i64 mv] w (z0aw w (Na.dig (y*m))):=by
 subst hmv
 have H0:=(((Ow.of (St.refl w)).old hs (by rw [z0e];exact hn) hnc (by omega)).boxed (.slice A n c) 25).boxed (.slice none 0 0) 25
 simp only [World.size_alloc,zqc,zqb] at H0;have hmk:=z4p.make .i64 .i64 0 ((n:Int)+1) 0 (n+1) rfl (by omega) (by omega) (by omega) (by omega)
 have hc0:=H0.cell 0 rfl
 have H1:=H0.made 3 (.int .i64 0) 0 (n+1) rfl (by omega) (by unfold maxLen;omega)
 simp only [World.size_alloc,zqc] at H1;obtain ⟨w1,hw1⟩:∃ w1,((w.alloc (.cells #[.slice A n c] 25)).alloc (.cells #[.slice none 0 0] 25)).alloc (.cells (madeCells #[.int .i64 0] (n+1)) 3)=w1:=⟨_,rfl⟩
 have HW:Hid (((w.alloc (.cells #[.slice A n c] 25)).alloc (.cells #[.slice none 0 0] 25)).alloc (.cells (madeCells #[.int .i64 0] (n+1)) 3)=w1):=hw1
 rw [hw1] at H1;have HH:=zh H1;have HN:=zh hn;clear hn hs H0 H1 hw1;go_enter Tryz.func103,Tryz.ntmps103
 go_wp2_with fail;rw [HW.out];clear hc0 hmk;go_loopw [7,5,6] (fun i s cr wr=>RTim w [(w.heap.size,.slice A n c),(w.heap.size+1,.slice none 0 0)] [⟨A,n,c,z0c (Na.dig y)⟩] (Na.dig y) n m i s cr wr) (fun i _ _ _=>n - (intOf i).toNat)
 case atStart=>exact ⟨0,0,_,_,[],zqr _,rfl,rfl,rfl,by omega,⟨rfl,Na.Lim.nil,by simp [Na.val]⟩,HH.out⟩
 case round=>
  obtain ⟨k,cr,Ao,co,o,hk,rfl,rfl,rfl,hcr,HP,HO⟩:=hrel;have hc0:=HO.out.cell 0 rfl
  have HQ:=HO.out.sl (i:=0) rfl
  rcases zqi k n with hkn|hkn
  ·obtain ⟨a,ha⟩:=z0m (Na.dig y) k (by rw [HN.out];exact hkn)
   have ha24:=(Na.dig_lim y).at ha
   obtain ⟨ad,rfl,_,hca⟩:=HQ.2.2.2.nat ha
   obtain ⟨p,hp⟩:∃ p,a*m=p:=⟨_,rfl⟩
   have hp1:(a:Int)*(m:Int)=(p:Int):=by rw [<- hp];rfl
   obtain ⟨v,hv⟩:∃ v,p+cr=v:=⟨_,rfl⟩
   have hv48:v<281474976710656:=by have:=Na.sq24 (e:=0) (by omega) ha24 hm hcr;omega
   obtain ⟨r,hr⟩:∃ r,v % 16777216=r:=⟨_,rfl⟩
   obtain ⟨q,hq⟩:∃ q,v / 16777216=q:=⟨_,rfl⟩
   have HSt:=zh (Na.grow_step (Na.dig y) o k a m cr 0 v HP.out.1 ha HP.out.2.2 (by rw [hp];omega))
   rw [hr,hq] at HSt;have hmod:((p:Int)+(cr:Int)) % 16777216=(r:Int):=by omega
   have hdiv:((p:Int)+(cr:Int)) / 16777216=(q:Int):=by omega
   have hq24:q<16777216:=by omega
   have hr24:r<16777216:=by omega
   have HLr:=zh (HP.out.2.1.append (Na.Lim.one hr24))
   have HLl:Hid ((o++[r]).length=k+1):=by unfold Hid;rw [zqm,HP.out.1];rfl
   clear ha hp hv hr hq;go_wp2_with (at_builtin;refine z2k z4p HO.out 0 (.tmp 31) (.tmp 34) _ _ rfl rfl (by unfold maxLen;omega) (by omega) rfl rfl rfl rfl ?_;intro A' c' w8 how)
   go_roundw
   case rel=>
    rw [z1a] at how;exact ⟨k+1,q,A',c',o++[r],by omega,by go_num,rfl,(by first|rfl|exact z0q hdiv),hq24,⟨HLl.out,HLr.out,HSt.out⟩,how⟩
   case measure=>simp [intOf];omega
  ·obtain rfl:k=n:=by omega
   have HV:Hid (Na.val (o++[cr])=y*m):=by
    unfold Hid;have h7:=HP.out.2.2;rw [zqp (by rw [HN.out];omega),Na.val_dig] at h7
    rw [Na.val_snoc,HP.out.1];omega
   have HL1:=zh (HP.out.2.1.append (Na.Lim.one hcr))
   have HLl:Hid ((o++[cr]).length=k+1):=by unfold Hid;rw [zqm,HP.out.1];rfl
   clear HQ;go_wp2_with (at_builtin;refine z2k z4p HO.out 0 (.tmp 38) (.tmp 40) _ _ rfl rfl (by unfold maxLen;omega) (by omega) rfl rfl rfl rfl ?_;intro A' c' w8 how)
   rw [z1a] at how;obtain ⟨l,hl0⟩:∃ l,o++[cr]=l:=⟨_,rfl⟩
   rw [hl0] at how HV HL1 HLl;have HX:=zh how;clear HO hl0 how hc0;go_loop [9] (fun v=>∃ j:Nat,j<=k+1/\v=.int .i64 j/\Hid (Na.tl l j=Na.tl l l.length)) (fun v=>(intOf v).toNat)
   case atStart=>exact ⟨k+1,zqj _,rfl,by unfold Hid;rw [HLl.out]⟩
   case round=>
    obtain ⟨j,hj,rfl,HT⟩:=hrel;have hrw:=HX.out.row 0 rfl
    have hown:=Sl.of_own hrw
    rcases Na.tl_case l l.length j (by rw [HLl.out];exact hj) HT.out with ⟨h0,hz,ht⟩|⟨ht,hs⟩
    ·obtain ⟨ad2,rfl,_,hcb⟩:=hown.nat hz
     have HT2:=zh ht;have hd:decide (0<(j:Int))=true:=zt (by omega)
     clear hown hz ht hrw;go_wp2_with fail;go_round
     case rel=>exact ⟨j - 1,by omega,z0q (by omega),HT2⟩
     case measure=>simp [intOf];omega
    ·have hcap:=(z1j hrw).1
     have hjc:(j:Int)<=(c':Int):=by omega
     have HTr:=zh (HX.out.trimmed 0 rfl HL1.out ht HV.out)
     have hc1:=HX.out.cell 1 rfl
     have hf1:=HX.out.free 1 rfl
     clear hrw hcap ht HT;rcases hs with h0|⟨h0,b,hb,hbne⟩
     ·subst h0
      clear hown;go_wp2_with fail;have h2:=HTr.out.setv 1 rfl (.slice A' 0 c')
      have hc2:=h2.cell 1 rfl
      refine bodyPost_ret (v:=.agg #[.slice A' 0 c']) (by simp [results,Tryz.results103,go_sem,hc2]) rfl ?_
      exact z4o h2 0 rfl
     ·obtain ⟨ad2,rfl,_,hcb⟩:=hown.nat hb
      have hd:decide (0<(j:Int))=true:=zt (by omega)
      clear hown hb;go_wp2_with fail;have h2:=HTr.out.setv 1 rfl (.slice (some ad2) j c')
      have hc2:=h2.cell 1 rfl
      refine bodyPost_ret (v:=.agg #[.slice (some ad2) j c']) (by simp [results,Tryz.results103,go_sem,hc2]) rfl ?_
      exact z4o h2 0 rfl
namespace Na
set_option maxHeartbeats 4000000
def lent (o:List Nat)(b:Nat):List Nat->List Int
 | []=>up o
 | a :: r=>up o++((a:Int) - b) :: up r
theorem z6z (o r:List Nat):up (o++r)=up o++up r:=by simp [up]
theorem z4bu (a:Nat)(r:List Nat):up (a :: r)=(a:Int) :: up r:=rfl
theorem lent_get (o:List Nat)(b a:Nat)(r:List Nat):(lent o b (a :: r))[o.length]?=some ((a:Int) - b):=by
 rw [lent,zqo (by rw [up_length];exact zqj _),up_length,Nat.sub_self];rfl
theorem lent_set (o:List Nat)(b a:Nat)(r:List Nat)(v:Int):(lent o b (a :: r)).set o.length v=up o++v :: up r:=by
 rw [lent,List.set_append_right _ _ (by rw [up_length];exact zqj _),up_length,Nat.sub_self];rfl
theorem mid_set (o r:List Nat)(u v:Int):(up o++u :: up r).set o.length v=up o++v :: up r:=by
 rw [List.set_append_right _ _ (by rw [up_length];exact zqj _),up_length,Nat.sub_self];rfl
theorem mid_get (o r:List Nat)(u:Int):(up o++u :: up r)[o.length]?=some u:=by
 rw [zqo (by rw [up_length];exact zqj _),up_length,Nat.sub_self];rfl
theorem mid_get1 (o r:List Nat)(u:Int)(a:Nat):(up o++u :: up (a :: r))[o.length+1]?=some (a:Int):=by
 rw [zqo (by rw [up_length];exact Nat.le_succ _),up_length,Nat.add_sub_cancel_left];rfl
theorem lent_zero (o r:List Nat)(d:Nat):up o++(d:Int) :: up r=lent (o++[d]) 0 r:=by
 cases r with
 | nil=>rw [lent,z6z];rfl
 | cons a r=>rw [lent,z6z,zqa];simp [up]
theorem lent_one (o r:List Nat)(d a:Nat):(up o++(d:Int) :: up (a :: r)).set (o.length+1) ((a:Int) - 1)=lent (o++[d]) 1 (a :: r):=by
 rw [List.set_append_right _ _ (by rw [up_length];exact Nat.le_succ _),up_length,Nat.add_sub_cancel_left,lent,z6z,zqa];rfl
theorem lent_nil (o:List Nat)(b:Nat):z0p (lent o b [])=z0c o:=z0g o
theorem lent_start (X:List Nat):z0p (lent [] 0 X)=z0c X:=by
 cases X with
 | nil=>rfl
 | cons a r=>
  rw [<- z0g];have:lent [] 0 (a :: r)=up (a :: r):=by rw [lent,z4bu];simp [up]
  rw [this]
end Na
theorem z8w (l:List Int)(k:Nat)(b:Int):(z0p l).set k (.int .i64 b)=z0p (l.set k b):=by unfold z0p;rw [List.map_set];rfl
theorem z1ao {w:World}{base n c g:Nat}{e:TypeId}{l:List Int}(h:w.ownsRow base e 1 (.slice (some ⟨g,0,none⟩) n c) n (z0p l)){k:Nat}{b:Int}(hk:l[k]?=some b):w.cell? ⟨g,k,none⟩=some (.int .i64 b):=by
 have hl:=z1m h
 rw [z0s] at hl;rw [h.cellAt k (by have:=z0d hk;omega)]
 unfold z0p;rw [List.getElem?_map,hk];rfl
theorem z1i {P:Program}{f:FuncId}{args:Array Value}{w:World}{v:Value}(h:∀ W,Below w.heap.size w W->Calls P f args W fun e w'=>e=.returned v/\Below W.heap.size W w')(d:Nat)(os:Array Obj):Calls P f args (grow (redrawn w d) os) fun e w''=>e=.returned v/\∃ p:Regrown,w''=grow (redrawn w p.d) p.os:=
 Calls.regrown_of (h _ (below_regrown w d os))
theorem z0v {w W:World}(h:∃ p:Regrown,W=grow (redrawn w p.d) p.os):Below w.heap.size w W:=by
 obtain ⟨p,rfl⟩:=h;exact below_regrown _ _ _
def z1cf (w:World)(M:List (Nat×Value))(L:List Ob)(X Y:List Nat)(n:Nat)(A:Option Addr)(ca:Nat)(i:Value)(wr:World):Prop:=
 ∃ (k b:Nat) (o:List Nat),k<=n/\i=.int .i64 k/\b<=1/\Hid (o.length=k/\Na.Lim o/\Na.val o+Na.val (Y.take k)=Na.val (X.take k)+16777216 ^ k*b)/\Hid (Ow w wr none M L [⟨A,n,ca,3,z0p (Na.lent o b (X.drop k))⟩])
theorem z3aa {w0 w:World}{g:Option Nat}{M:List (Nat×Value)}{L:List Ob}{gb n c:Nat}{e:TypeId}{vs:List Value}{O:List Rw}(h:Ow w0 w g M L (⟨some ⟨gb,0,none⟩,n,c,e,vs⟩ :: O)):gb<w.heap.size:=(h.lt (i:=0) rfl (b:=gb) rfl).1
theorem z5am (A A2:Option Addr)(n c m c2 x y:Nat)(w:World)(hn:(Na.dig x).length=n)(hm:(Na.dig y).length=m)(hnc:n<=c)(hmc:m<=c2)(hs:Sl w w.heap.size A (z0c (Na.dig x)))(hs2:Sl w w.heap.size A2 (z0c (Na.dig y)))(hl:n<=999)(hl2:m<=999)(hle:y<=x):
  Calls Tryz.prog 104 #[.agg #[.slice A n c],.agg #[.slice A2 m c2]] w (z0aw w (Na.dig (x - y))):=by
 have H0:=(((((Ow.of (St.refl w)).old hs (by rw [z0e];exact hn) hnc (by omega)).old hs2 (by rw [z0e];exact hm) hmc (by omega)).boxed (.slice A n c) 25).boxed (.slice A2 m c2) 25).boxed (.slice none 0 0) 25
 simp only [World.size_alloc,zqc,zqb] at H0;have hc0:=H0.cell 0 rfl
 have H1:=H0.nil 3
 simp only [zqc] at H1;have HH:=zh H1;have HN:=zh hn;have HM:=zh hm;have HS:=zh (H0.sl (i:=0) rfl)
 have HLe:=zh hle;have hmn:m<=n:=by rw [<- hn,<- hm];exact Na.dig_len_mono hle
 clear hn hm hs hs2 H0 H1 hle;go_enter Tryz.func104,Tryz.ntmps104
 go_wp2_with (at_builtin;refine z5t z4p HH.out 0 (.const (.slice none 0 0)) (.tmp 9) rfl (by rw [z0e];exact HN.out) HS.out.2.2.2 (z3k _) (by unfold maxLen;omega) (by omega) rfl rfl rfl rfl ?_;intro A' c' w1 how)
 rw [zqc,Nat.zero_add] at how;have HX:=zh how;clear how HH hc0;go_loopw [6] (fun i wr=>z1cf w [(w.heap.size,.slice A n c),(w.heap.size+1,.slice A2 m c2),(w.heap.size+1+1,.slice none 0 0)] [⟨A,n,c,z0c (Na.dig x)⟩,⟨A2,m,c2,z0c (Na.dig y)⟩] (Na.dig x) (Na.dig y) n A' c' i wr) (fun i _=>n - (intOf i).toNat)
 case atStart=>exact ⟨0,0,[],zqr _,rfl,zqr _,⟨rfl,Na.Lim.nil,by simp [Na.val]⟩,by unfold Hid;rw [List.drop_zero,Na.lent_start];exact HX.out⟩
 case round=>
  obtain ⟨k,bw,o,hk,rfl,hbw,HP,HO⟩:=hrel;rcases zqi k n with hkn|hkn
  ·obtain ⟨a,ha⟩:=z0m (Na.dig x) k (by rw [HN.out];exact hkn)
   have ha24:=(Na.dig_lim x).at ha
   have hat:=Na.at0_some ha
   obtain ⟨R,hR⟩:∃ R,(Na.dig x).drop (k+1)=R:=⟨_,rfl⟩
   have hdr:(Na.dig x).drop k=a :: R:=by rw [<- hR];exact List.drop_eq_getElem?_toList_append ▸ (by rw [ha];rfl)
   have HO1:=HO.out;rw [hdr] at HO1;have HRl:Hid (R.length+(k+1)=n):=by unfold Hid;rw [<- hR,List.length_drop,HN.out];omega
   have HRR:=zh hR;have hrow:=HO1.row 0 rfl
   obtain ⟨gb,rfl,-,-⟩:=z0n hrow (by omega)
   obtain ⟨u,hu⟩:∃ u:Int,(a:Int) - (bw:Int)=u:=⟨_,rfl⟩
   have hg0:(Na.lent o bw (a :: R))[k]?=some u:=by rw [<- hu];have:=Na.lent_get o bw a R;rwa [HP.out.1] at this
   have hcl:=z1ao hrow hg0
   have hfz:=hrow.frozenAt k
   obtain ⟨b,hb⟩:∃ b,Na.at0 (Na.dig y) k=b:=⟨_,rfl⟩
   have hb24:b<16777216:=by rw [<- hb];exact Na.at0_lt (Na.dig_lim y) k
   have hc1:=HO1.cell 1 rfl
   have HQ:=zh (HO1.sl (i:=1) rfl)
   have cL:=z1i (P:=Tryz.prog) (w:=wr) (f:=74) (args:=#[.agg #[.slice A2 m c2],.int .i64 k]) (v:=.int .i64 b) (fun W hW=>by
    rw [<- hb];exact z3n A2 m c2 wr.heap.size k (Na.dig y) _ rfl W HM.out (HQ.out.2.2.2.below hW) hW.size (by omega))
   have k1:=cell_regrown hc1
   have k2:=cell_regrown hcl
   have HOw:=zh HO1;obtain ⟨v0,hv0⟩:∃ v0:Int,u - (b:Int)=v0:=⟨_,rfl⟩
   have hset:(z0p (Na.lent o bw (a :: R))).set k (.int .i64 v0)=z0p (Na.up o++v0 :: Na.up R):=by
    rw [z8w];have:=Na.lent_set o bw a R v0;rw [HP.out.1] at this;rw [this]
   have HHu:=zh hu;have HHv:=zh hv0;have HHb:=zh hb;have HHa:=zh hat;have HSt:=zh hset;have hub : -2<=u/\u<16777216:=by omega
   clear ha hat hR hdr hg0 hu hb HO HO1 hrow hset hc1;go_upto_region 5 with (fail)
   refine z2s 9 (by kernel_rfl) (by kernel_rfl) ?_
   simp only [List.take_succ_cons,List.take_zero,List.drop_succ_cons,List.drop_zero]
   repeat (quiet_step (exact cL _ _))
   refine wpQuiet_nil ?_
   intro W hW;have hbl:=z0v hW
   clear hW k1 k2 cL;have hcw:=(hbl.cell (p:=⟨gb,k,none⟩) (z3aa HOw.out)).trans hcl
   have hfw:=(hbl.frozen (p:=⟨gb,k,none⟩) (z3aa HOw.out)).trans hfz
   have H5:=(HOw.out.go hbl).put 0 rfl k (.int .i64 v0)
   rw [zqd,HSt.out] at H5;clear hcl hfz HOw hbl HSt HQ;go_upto_region 6 with (fail)
   obtain ⟨w5,hw5⟩:∃ w5,W.setCell ⟨gb,k,none⟩ (.int .i64 v0)=w5:=⟨_,rfl⟩
   rw [hw5] at H5 ⊢
   clear hw5 hcw hfw;have hr5:=H5.row 0 rfl
   have hg5:(Na.up o++v0 :: Na.up R)[k]?=some v0:=by have:=Na.mid_get o R v0;rwa [HP.out.1] at this
   have hc5:=z1ao hr5 hg5
   have hf5:=hr5.frozenAt k
   have HO5:=zh H5;clear H5 hr5 hg5;by_cases hneg:v0<0
   ·obtain ⟨d,hd⟩:∃ d:Nat,v0+16777216=(d:Int):=⟨(v0+16777216).toNat,by have:=HHv.out;have:=HHu.out;omega⟩
    have hd24:d<16777216:=by omega
    have HSB:=zh (Na.sub_no (Na.dig x) (Na.dig y) o k bw d HP.out.1 HP.out.2.2 (by rw [HHa.out,HHb.out];have:=HHv.out;have:=HHu.out;omega))
    have HLr:=zh (HP.out.2.1.append (Na.Lim.one hd24))
    have HLl:Hid ((o++[d]).length=k+1):=by unfold Hid;rw [zqm,HP.out.1];rfl
    have hkn1:k+1<n:=by
     rcases zqi (k+1) n with h|h
     ·exact h
     ·exfalso
      have h1:=HSB.out;rw [zqp (by have:=HN.out;have:=HM.out;omega),zqp (by have:=HN.out;have:=HM.out;omega),Na.val_dig,Na.val_dig] at h1
      have h2:=Na.val_lt HLr.out
      rw [HLl.out] at h2;have:=HLe.out
      omega
    obtain ⟨a1,ha1⟩:=z0m (Na.dig x) (k+1) (by rw [HN.out];exact hkn1)
    have ha24':=(Na.dig_lim x).at ha1
    obtain ⟨R1,hR1⟩:∃ R1,(Na.dig x).drop (k+2)=R1:=⟨_,rfl⟩
    have hRc:R=a1 :: R1:=by rw [<- HRR.out,<- hR1];exact List.drop_eq_getElem?_toList_append ▸ (by rw [ha1];rfl)
    subst hRc
    have hn1:(v0+16777216:Int)=d:=hd
    have hs6:(z0p (Na.up o++v0 :: Na.up (a1 :: R1))).set k (.int .i64 d)=z0p (Na.up o++(d:Int) :: Na.up (a1 :: R1)):=by
     rw [z8w];have:=Na.mid_set o (a1 :: R1) v0 d;rw [HP.out.1] at this;rw [this]
    have H6:=HO5.out.put 0 rfl k (.int .i64 d)
    rw [zqd,hs6] at H6;clear ha1 hR1 hs6 HO5 hd;go_upto_region 8 with (fail)
    obtain ⟨w6,hw6⟩:∃ w6,w5.setCell ⟨gb,k,none⟩ (.int .i64 d)=w6:=⟨_,rfl⟩
    rw [hw6] at H6 ⊢
    clear hw6 hc5 hf5 hn1;have hr6:=H6.row 0 rfl
    have hg6:(Na.up o++(d:Int) :: Na.up (a1 :: R1))[k+1]?=some (a1:Int):=by have:=Na.mid_get1 o R1 d a1;rwa [HP.out.1] at this
    have hc6:=z1ao hr6 hg6
    have hf6:=hr6.frozenAt (k+1)
    have hs7:(z0p (Na.up o++(d:Int) :: Na.up (a1 :: R1))).set (k+1) (.int .i64 ((a1:Int) - 1))=z0p (Na.lent (o++[d]) 1 (a1 :: R1)):=by
     rw [z8w];have:=Na.lent_one o R1 d a1;rw [HP.out.1] at this;rw [this]
    have H7:=H6.put 0 rfl (k+1) (.int .i64 ((a1:Int) - 1))
    rw [zqd,hs7,<- HRR.out] at H7;have HO7:=zh H7;have s4:((k:Int)+1).toNat=k+1:=by omega
    clear H6 H7 hr6 hg6 hs7 hneg;go_wp2_with fail;go_roundw
    case rel=>exact ⟨k+1,1,o++[d],by omega,by go_num,zqj _,⟨HLl.out,HLr.out,HSB.out⟩,HO7.out⟩
    case measure=>simp [intOf];omega
   ·have hpos:0<=v0:=by omega
    obtain ⟨d,rfl⟩:=Int.eq_ofNat_of_zero_le hpos
    have hd24:d<16777216:=by have:=HHv.out;omega
    have HSB:=zh (Na.sub_yes (Na.dig x) (Na.dig y) o k bw d HP.out.1 HP.out.2.2 (by rw [HHa.out,HHb.out];have:=HHv.out;have:=HHu.out;omega))
    have HLr:=zh (HP.out.2.1.append (Na.Lim.one hd24))
    have HLl:Hid ((o++[d]).length=k+1):=by unfold Hid;rw [zqm,HP.out.1];rfl
    have HO7:Hid (Ow w w5 none [(w.heap.size,.slice A n c),(w.heap.size+1,.slice A2 m c2),(w.heap.size+1+1,.slice none 0 0)] [⟨A,n,c,z0c (Na.dig x)⟩,⟨A2,m,c2,z0c (Na.dig y)⟩] [⟨some ⟨gb,0,none⟩,n,c',3,z0p (Na.lent (o++[d]) 0 ((Na.dig x).drop (k+1)))⟩]):=by
     unfold Hid;rw [HRR.out,<- Na.lent_zero];exact HO5.out
    clear hneg;go_wp2_with fail;go_roundw
    case rel=>exact ⟨k+1,0,o++[d],by omega,by go_num,zqr _,⟨HLl.out,HLr.out,HSB.out⟩,HO7.out⟩
    case measure=>simp [intOf];omega
  ·obtain rfl:k=n:=by omega
   have HV:Hid (Na.val o=x - y):=by
    unfold Hid;rw [Na.sub_end (Na.dig x) (Na.dig y) o k bw HP.out.2.1 HP.out.1 HP.out.2.2 (by rw [HN.out];exact zqj _) (by rw [HM.out];exact hmn) (by rw [Na.val_dig,Na.val_dig];exact HLe.out),Na.val_dig,Na.val_dig]
   have HL1:=zh HP.out.2.1;have HLl:=zh HP.out.1;have how:=HO.out;rw [List.drop_of_length_le (by rw [HN.out];exact zqj _),Na.lent_nil] at how
   have HY:=zh how;obtain ⟨l,hl0⟩:∃ l,o=l:=⟨_,rfl⟩
   subst hl0
   clear HO how HX HP;go_wp2_with fail;go_loop [7] (fun v=>∃ j:Nat,j<=k/\v=.int .i64 j/\Hid (Na.tl o j=Na.tl o o.length)) (fun v=>(intOf v).toNat)
   case atStart=>exact ⟨k,zqj _,rfl,by unfold Hid;rw [HLl.out]⟩
   case round=>
    obtain ⟨j,hj,rfl,HT⟩:=hrel;have hrw:=HY.out.row 0 rfl
    have hown:=Sl.of_own hrw
    rcases Na.tl_case o o.length j (by rw [HLl.out];exact hj) HT.out with ⟨h0,hz,ht⟩|⟨ht,hs⟩
    ·obtain ⟨ad2,rfl,_,hcb⟩:=hown.nat hz
     have HT2:=zh ht;have hd:decide (0<(j:Int))=true:=zt (by omega)
     clear hown hz ht hrw;go_wp2_with fail;go_round
     case rel=>exact ⟨j - 1,by omega,z0q (by omega),HT2⟩
     case measure=>simp [intOf];omega
    ·have hcap:=(z1j hrw).1
     have hjc:(j:Int)<=(c':Int):=by omega
     have HTr:=zh (HY.out.trimmed 0 rfl HL1.out ht HV.out)
     have hc1:=HY.out.cell 2 rfl
     have hf1:=HY.out.free 2 rfl
     clear hrw hcap ht HT;rcases hs with h0|⟨h0,b,hb,hbne⟩
     ·subst h0
      clear hown;go_wp2_with fail;have h2:=HTr.out.setv 2 rfl (.slice A' 0 c')
      have hc2:=h2.cell 2 rfl
      refine bodyPost_ret (v:=.agg #[.slice A' 0 c']) (by simp [results,Tryz.results104,go_sem,hc2]) rfl ?_
      exact z4o h2 0 rfl
     ·obtain ⟨ad2,rfl,_,hcb⟩:=hown.nat hb
      have hd:decide (0<(j:Int))=true:=zt (by omega)
      clear hown hb;go_wp2_with fail;have h2:=HTr.out.setv 2 rfl (.slice (some ad2) j c')
      have hc2:=h2.cell 2 rfl
      refine bodyPost_ret (v:=.agg #[.slice (some ad2) j c']) (by simp [results,Tryz.results104,go_sem,hc2]) rfl ?_
      exact z4o h2 0 rfl
section
variable {w0 w w':World}{g:Option Nat}{M:List (Nat×Value)}{L:List Ob}{O:List Rw}{A A2:Option Addr}{n c m c2 x y:Nat}
theorem Ow.addN (h:Ow w0 w g M L O){l:List Nat}{e:Int}{en:Ending}(hr:z3m w l e en w'):∃ (A:Option Addr) (n c:Nat),en=.returned (.tuple #[.agg #[.slice A n c],.int .i64 e])/\l.length=n/\Ow w0 w' g M L (O++[⟨A,n,c,3,z0c l⟩]):=by
 obtain ⟨A,n,c,rfl,hn,ho,hb⟩:=hr;exact ⟨A,n,c,rfl,hn,h.add ho hb⟩
theorem Ow.pushN (h:Ow w0 w g M L O){l:List Nat}{e:Int}{en:Ending}(hr:z3m w l e en w')(hl:l.length<=1000):∃ (A:Option Addr) (n c:Nat),en=.returned (.tuple #[.agg #[.slice A n c],.int .i64 e])/\l.length=n/\Ow w0 w' g M (L++[⟨A,n,c,z0c l⟩]) O:=by
 obtain ⟨A,n,c,rfl,hn,ho,hb⟩:=hr;exact ⟨A,n,c,rfl,hn,h.push ho (by omega) hb⟩
theorem Ow.pushS (h:Ow w0 w g M L O){l:List Nat}{en:Ending}(hr:z0aw w l en w')(hl:l.length<=1000):∃ (A:Option Addr) (n c:Nat),en=.returned (.agg #[.slice A n c])/\l.length=n/\Ow w0 w' g M (L++[⟨A,n,c,z0c l⟩]) O:=by
 obtain ⟨A,n,c,rfl,hn,_,ho,hb⟩:=hr;exact ⟨A,n,c,rfl,hn,h.push ho (by omega) hb⟩
theorem z5g (h:Ow w w' g M L O)(i:Nat){l:List Nat}(hi:O[i]?=some ⟨A,n,c,3,z0c l⟩)(e:Int):z3m w l e (.returned (.tuple #[.agg #[.slice A n c],.int .i64 e])) w':=by
 have ho:=h.row i hi
 exact ⟨A,n,c,rfl,by have:=z1m ho;rwa [z0e] at this,ho,h.below⟩
theorem z8s {zs:List Int}(hs:Sl w w.heap.size A (z0p zs))(e:zs=Na.up (Na.dig x)):Sl w w.heap.size A (z0c (Na.dig x)):=by rw [e,z0g] at hs;exact hs
theorem z1w (h:Ow w0 w g M L O)(i:Nat){zs:List Int}(hi:L[i]?=some ⟨A,n,c,z0p zs⟩):
  Calls Tryz.prog 73 #[.agg #[.slice A n c]] w fun e w'=>e=.returned (.bool (Na.vld zs))/\Ow w0 w' g M L O:=by
 obtain ⟨h1,h2,h3,h4⟩:=h.sl hi
 rw [z0s] at h1;exact (z0z A n c w.heap.size zs w h1 h4 (zqj _) (by omega)).mono fun en w' ⟨he,hb⟩=>⟨he,h.go hb⟩
theorem z2e (h:Ow w0 w g M L O)(i:Nat)(hi:L[i]?=some ⟨A,n,c,z0c (Na.dig x)⟩)(hx:x<Na.top):
  Calls Tryz.prog 73 #[.agg #[.slice A n c]] w fun e w'=>e=.returned (.bool true)/\Ow w0 w' g M L O:=by
 rw [<- z0g] at hi;have:=z1w h i hi
 rwa [Na.vld_dig hx] at this
theorem z7c (h:Ow w0 w g M L O)(i j:Nat)(hi:L[i]?=some ⟨A,n,c,z0c (Na.dig x)⟩)(hj:L[j]?=some ⟨A2,m,c2,z0c (Na.dig y)⟩):
  Calls Tryz.prog 47 #[.agg #[.slice A n c],.agg #[.slice A2 m c2]] w fun e w'=>e=.returned (.int .i64 (Na.sgn x y))/\Ow w0 w' g M L O:=by
 obtain ⟨h1,h2,h3,h4⟩:=h.sl hi
 obtain ⟨k1,k2,k3,k4⟩:=h.sl hj
 rw [z0e] at h1 k1;exact (z7i A A2 n c m c2 x y w h1 k1 h2 k2 h4 k4 h3 k3).mono fun en w' ⟨he,hb⟩=>⟨he,h.go hb⟩
theorem z9l (h:Ow w0 w g M L O)(i m:Nat)(hi:L[i]?=some ⟨A,n,c,z0c (Na.dig y)⟩)(hn:n<=998)(hm:m<16777216):
  Calls Tryz.prog 103 #[.agg #[.slice A n c],.int .i64 m] w fun e w'=>∃ (A':Option Addr) (n' c':Nat),e=.returned (.agg #[.slice A' n' c'])/\n'<=n+1/\Ow w0 w' g M (L++[⟨A',n',c',z0c (Na.dig (y*m))⟩]) O:=by
 obtain ⟨h1,h2,h3,h4⟩:=h.sl hi
 rw [z0e] at h1;have hle:(Na.dig (y*m)).length<=n+1:=by
  have a1:=Na.dig_len_mul y m
  have a2:=Na.dig_len_le (n:=1) (x:=m) (by omega)
  omega
 exact (z1as A n c y m _ rfl w h1 h2 h4 (by omega) hm).mono fun en w' hr=>by
  obtain ⟨A',n',c',e,e2,ho⟩:=h.pushS hr (by omega)
  exact ⟨A',n',c',e,by omega,ho⟩
theorem z1bc (h:Ow w0 w g M L O)(i j:Nat)(hi:L[i]?=some ⟨A,n,c,z0c (Na.dig x)⟩)(hj:L[j]?=some ⟨A2,m,c2,z0c (Na.dig y)⟩)(hn:n<=999)(hm:m<=999)(hle:y<=x):
  Calls Tryz.prog 104 #[.agg #[.slice A n c],.agg #[.slice A2 m c2]] w fun e w'=>∃ (A':Option Addr) (n' c':Nat),e=.returned (.agg #[.slice A' n' c'])/\n'<=n/\Ow w0 w' g M (L++[⟨A',n',c',z0c (Na.dig (x - y))⟩]) O:=by
 obtain ⟨h1,h2,h3,h4⟩:=h.sl hi
 obtain ⟨k1,k2,k3,k4⟩:=h.sl hj
 rw [z0e] at h1 k1;have hl:=Na.dig_len_mono (Nat.sub_le x y)
 exact (z5am A A2 n c m c2 x y w h1 k1 h2 k2 h4 k4 hn hm hle).mono fun en w' hr=>by
  obtain ⟨A',n',c',e,e2,ho⟩:=h.pushS hr (by omega)
  exact ⟨A',n',c',e,by omega,ho⟩
theorem z6ay (h:Ow w0 w g M L O)(i:Nat){l:List Nat}(hi:O[i]?=some ⟨A,n,c,3,z0c l⟩)(hl:Na.Lim l)(hn1:n<=100000):
  Calls Tryz.prog 75 #[.slice A n c] w fun e w'=>∃ (A':Option Addr) (n' c':Nat),e=.returned (.tuple #[.agg #[.slice A' n' c'],.int .i64 (z3v (Na.val l))])/\(z4j (Na.val l)).length=n'/\Ow w0 w' g M L (O++[⟨A',n',c',3,z0c (z4j (Na.val l))⟩]):=by
 have ho:=h.row i hi
 have hn:=z1m ho
 rw [z0e] at hn;exact (z6r A n c l w hn (Sl.of_own ho) hl (z1j ho).1 (by omega)).mono fun en w' hr=>h.addN hr
end
theorem z8ad (A A2:Option Addr)(n c m c2:Nat)(zs ys:List Int)(w:World)(hn:zs.length=n)(hm:ys.length=m)(hnc:n<=c)(hmc:m<=c2)(hs:Sl w w.heap.size A (z0p zs))(hs2:Sl w w.heap.size A2 (z0p ys))(hl:n<=1000)(hl2:m<=1000)(hv:(Na.vld zs && Na.vld ys)=false):
  Calls Tryz.prog 43 #[.agg #[.slice A n c],.agg #[.slice A2 m c2]] w (z3m w [] 1):=by
 have H0:=(((((Ow.of (St.refl w)).old hs (by rw [z0s];exact hn) hnc hl).old hs2 (by rw [z0s];exact hm) hmc hl2).boxed (.slice A n c) 25).boxed (.slice A2 m c2) 25).boxed (.slice none 0 0) 25
 simp only [World.size_alloc,zqc,zqb] at H0;have hc0:=H0.cell 0 rfl
 have HH:=zh (z1w H0 0 rfl)
 clear hn hm hs hs2 H0;cases h1:Na.vld zs
 ·rw [h1] at HH;go_enter Tryz.func43,Tryz.ntmps43
  go_wp2_with fail;refine HH.out.mono ?_;rintro e w1 ⟨rfl,H1⟩;have hc2:=H1.cell 2 rfl
  have hf2:=H1.free 2 rfl
  clear hc0 HH;go_wp2_with fail;have H2:=H1.setv 2 rfl (.slice none 0 0)
  have hc3:=H2.cell 2 rfl
  refine bodyPost_ret (v:=.tuple #[.agg #[.slice none 0 0],.int .i64 1]) (by simp [results,Tryz.results43,go_sem,hc3]) rfl ?_
  exact z0y _ _ _ H2.below
 ·rw [h1,Bool.true_and] at hv;rw [h1] at HH;go_enter Tryz.func43,Tryz.ntmps43
  go_wp2_with fail;refine HH.out.mono ?_;rintro e w1 ⟨rfl,H1⟩;have hc1:=H1.cell 1 rfl
  have HK:=zh (z1w H1 1 rfl)
  rw [hv] at HK;clear hc0 HH H1;go_wp2_with fail;refine HK.out.mono ?_;rintro e w2 ⟨rfl,H1⟩;have hc2:=H1.cell 2 rfl
  have hf2:=H1.free 2 rfl
  clear hc1 HK;go_wp2_with fail;have H2:=H1.setv 2 rfl (.slice none 0 0)
  have hc3:=H2.cell 2 rfl
  refine bodyPost_ret (v:=.tuple #[.agg #[.slice none 0 0],.int .i64 1]) (by simp [results,Tryz.results43,go_sem,hc3]) rfl ?_
  exact z0y _ _ _ H2.below
def RSub (w:World)(M:List (Nat×Value))(L:List Ob)(X Y:List Nat)(n:Nat)(i s bw:Value)(wr:World):Prop:=
 ∃ (k b:Nat) (A:Option Addr) (ca:Nat) (o:List Nat),k<=n/\i=.int .i64 k/\s=.slice A k ca/\bw=.int .i64 b/\b<=1/\Hid (o.length=k/\Na.Lim o/\Na.val o+Na.val (Y.take k)=Na.val (X.take k)+16777216 ^ k*b)/\Hid (Ow w wr none M L [⟨A,k,ca,3,z0c o⟩])
theorem z1bz (A A2:Option Addr)(n c m c2 x y:Nat)(w:World)(hn:(Na.dig x).length=n)(hm:(Na.dig y).length=m)(hnc:n<=c)(hmc:m<=c2)(hs:Sl w w.heap.size A (z0c (Na.dig x)))(hs2:Sl w w.heap.size A2 (z0c (Na.dig y)))(hx:x<Na.top)(hy:y<Na.top):
  Calls Tryz.prog 43 #[.agg #[.slice A n c],.agg #[.slice A2 m c2]] w (z3m w (if x<y then [] else Na.dig (x - y)) (if x<y then 5 else 0)):=by
 have hn2:n<=200:=by rw [<- hn];exact (Na.dig_200 x).2 hx
 have hm2:m<=200:=by rw [<- hm];exact (Na.dig_200 y).2 hy
 have H0:=(((((Ow.of (St.refl w)).old hs (by rw [z0e];exact hn) hnc (by omega)).old hs2 (by rw [z0e];exact hm) hmc (by omega)).boxed (.slice A n c) 25).boxed (.slice A2 m c2) 25).boxed (.slice none 0 0) 25
 simp only [World.size_alloc,zqc,zqb] at H0;have hc0:=H0.cell 0 rfl
 have HH:=zh (z2e H0 0 rfl hx)
 have HX:=zh hx;have HY:=zh hy;have HN:=zh hn;have HM:=zh hm;clear hn hm hs hs2 H0 hx hy;obtain ⟨rl,hrl⟩:∃ l,(if x<y then ([]:List Nat) else Na.dig (x - y))=l:=⟨_,rfl⟩
 obtain ⟨re,hre⟩:∃ l,(if x<y then (5:Int) else 0)=l:=⟨_,rfl⟩
 rw [hrl,hre];have HRL:=zh hrl;have HRE:=zh hre;clear hrl hre;go_enter Tryz.func43,Tryz.ntmps43
 go_wp2_with fail;refine HH.out.mono ?_;rintro e w1 ⟨rfl,H1⟩;have hc1:=H1.cell 1 rfl
 have HK:=zh (z2e H1 1 rfl HY.out)
 clear hc0 HH H1;go_wp2_with fail;refine HK.out.mono ?_;rintro e w2 ⟨rfl,H2⟩;have hc0:=H2.cell 0 rfl
 have hc1:=H2.cell 1 rfl
 have HC:=zh (z7c H2 0 1 rfl rfl)
 clear HK H2;go_wp2_with fail;refine HC.out.mono ?_;rcases zqi x y with hlt|hge
 ·obtain rfl:[]=rl:=by rw [<- HRL.out,if_pos hlt]
  obtain rfl:5=re:=by rw [<- HRE.out,if_pos hlt]
  rw [Na.sgn_lt hlt];rintro e w3 ⟨rfl,H3⟩;have hc2:=H3.cell 2 rfl
  have hf2:=H3.free 2 rfl
  clear hc0 hc1 HC hlt;go_wp2_with fail;have H4:=H3.setv 2 rfl (.slice none 0 0)
  have hc3:=H4.cell 2 rfl
  refine bodyPost_ret (v:=.tuple #[.agg #[.slice none 0 0],.int .i64 5]) (by simp [results,Tryz.results43,go_sem,hc3]) rfl ?_
  exact z0y _ _ _ H4.below
 ·obtain rfl:Na.dig (x - y)=rl:=by rw [<- HRL.out,if_neg (by omega)]
  obtain rfl:0=re:=by rw [<- HRE.out,if_neg (by omega)]
  obtain ⟨sg,hsg⟩:∃ s:Int,Na.sgn x y=s:=⟨_,rfl⟩
  have hs0:0<=sg:=by rcases Na.sgn_cases x y with ⟨h,e⟩|⟨h,e⟩|⟨h,e⟩ <;> omega
  rw [hsg];rintro e w3 ⟨rfl,H3⟩;have hmn:m<=n:=by rw [<- HN.out,<- HM.out];exact Na.dig_len_mono hge
  have HLe:=zh hge;have HO0:=zh (H3.nil 3)
  have hc0:=H3.cell 0 rfl
  clear hc1 HC hge hsg H3;go_wp2_with fail;clear hc0 hs0;go_loopw [8,6,7] (fun i s bw wr=>RSub w [(w.heap.size,.slice A n c),(w.heap.size+1,.slice A2 m c2),(w.heap.size+1+1,.slice none 0 0)] [⟨A,n,c,z0c (Na.dig x)⟩,⟨A2,m,c2,z0c (Na.dig y)⟩] (Na.dig x) (Na.dig y) n i s bw wr) (fun i _ _ _=>n - (intOf i).toNat)
  case atStart=>exact ⟨0,0,none,0,[],zqr _,rfl,rfl,rfl,zqr _,⟨rfl,Na.Lim.nil,by simp [Na.val]⟩,HO0.out⟩
  case round=>
   obtain ⟨k,b0,Ao,co,o,hk,rfl,rfl,rfl,hbw,HP,HO⟩:=hrel;have hc0:=HO.out.cell 0 rfl
   rcases zqi k n with hkn|hkn
   ·obtain ⟨a,ha⟩:=z0m (Na.dig x) k (by rw [HN.out];exact hkn)
    have ha24:=(Na.dig_lim x).at ha
    have hat:=Na.at0_some ha
    obtain ⟨b,hb⟩:∃ b,Na.at0 (Na.dig y) k=b:=⟨_,rfl⟩
    have hb24:b<16777216:=by rw [<- hb];exact Na.at0_lt (Na.dig_lim y) k
    obtain ⟨ad,rfl,_,hca⟩:=(HO.out.sl (i:=0) rfl).2.2.2.nat ha
    have hc1:=HO.out.cell 1 rfl
    have HQ:=zh (HO.out.sl (i:=1) rfl)
    have cL:=z1i (P:=Tryz.prog) (w:=wr) (f:=74) (args:=#[.agg #[.slice A2 m c2],.int .i64 k]) (v:=.int .i64 b) (fun W hW=>by
     rw [<- hb];exact z3n A2 m c2 wr.heap.size k (Na.dig y) _ rfl W HM.out (HQ.out.2.2.2.below hW) hW.size (by omega))
    have k0:=cell_regrown hc0
    have k1:=cell_regrown hc1
    have k2:=cell_regrown hca
    obtain ⟨v0,hv0⟩:∃ v0:Int,(a:Int) - (b:Int) - (b0:Int)=v0:=⟨_,rfl⟩
    have HHv:=zh hv0;have HHb:=zh hb;have HHa:=zh hat;have s1:IntKind.i64.wrap ((a:Int) - (b:Int))=(a:Int) - (b:Int):=IntWalk.i64_in _ (by omega)
    have s2:IntKind.i64.wrap ((a:Int) - (b:Int) - (b0:Int))=v0:=by rw [hv0];exact IntWalk.i64_in _ (by omega)
    clear ha hat hb hca hc1 hv0;go_upto_region 10 with (fail)
    refine wp_region_quiet_below (by kernel_rfl) (by kernel_rfl) ?_
    repeat (quiet_step (exact cL _ _))
    refine wpQuiet_nil ?_
    intro W hW;have hbl:=z0v hW
    have HOw:=zh (HO.out.go hbl)
    clear hW k0 k1 k2 cL hbl hc0 HO HQ s1 s2;by_cases hneg:v0<0
    ·obtain ⟨d,hd⟩:∃ d:Nat,v0+16777216=(d:Int):=⟨(v0+16777216).toNat,by have:=HHv.out;omega⟩
     have hd24:d<16777216:=by omega
     have HSB:=zh (Na.sub_no (Na.dig x) (Na.dig y) o k b0 d HP.out.1 HP.out.2.2 (by rw [HHa.out,HHb.out];have:=HHv.out;omega))
     have HLr:=zh (HP.out.2.1.append (Na.Lim.one hd24))
     have HLl:Hid ((o++[d]).length=k+1):=by unfold Hid;rw [zqm,HP.out.1];rfl
     go_wp2_with (at_builtin;refine z2k z4p HOw.out 0 (.tmp 46) (.tmp 48) _ _ rfl rfl (by unfold maxLen;omega) (by omega) rfl rfl rfl rfl ?_;intro A' c' w8 how)
     go_roundw
     case rel=>
      rw [z1a] at how;exact ⟨k+1,1,A',c',o++[d],by omega,by go_num,rfl,rfl,zqj _,⟨HLl.out,HLr.out,HSB.out⟩,how⟩
     case measure=>simp [intOf];omega
    ·have hpos:0<=v0:=by omega
     obtain ⟨d,rfl⟩:=Int.eq_ofNat_of_zero_le hpos
     have hd24:d<16777216:=by have:=HHv.out;omega
     have HSB:=zh (Na.sub_yes (Na.dig x) (Na.dig y) o k b0 d HP.out.1 HP.out.2.2 (by rw [HHa.out,HHb.out];have:=HHv.out;omega))
     have HLr:=zh (HP.out.2.1.append (Na.Lim.one hd24))
     have HLl:Hid ((o++[d]).length=k+1):=by unfold Hid;rw [zqm,HP.out.1];rfl
     clear hneg;go_wp2_with (at_builtin;refine z2k z4p HOw.out 0 (.tmp 46) (.tmp 48) _ _ rfl rfl (by unfold maxLen;omega) (by omega) rfl rfl rfl rfl ?_;intro A' c' w8 how)
     go_roundw
     case rel=>
      rw [z1a] at how;exact ⟨k+1,0,A',c',o++[d],by omega,by go_num,rfl,rfl,zqr _,⟨HLl.out,HLr.out,HSB.out⟩,how⟩
     case measure=>simp [intOf];omega
   ·obtain rfl:k=n:=by omega
    have HV:Hid (Na.val o=x - y):=by
     unfold Hid;rw [Na.sub_end (Na.dig x) (Na.dig y) o k b0 HP.out.2.1 HP.out.1 HP.out.2.2 (by rw [HN.out];exact zqj _) (by rw [HM.out];exact hmn) (by rw [Na.val_dig,Na.val_dig];exact HLe.out),Na.val_dig,Na.val_dig]
    have HF:=zh (z6ay HO.out 0 rfl HP.out.2.1 (by omega))
    have ht:x - y<Na.top:=zqu (Nat.sub_le _ _) HX.out
    rw [HV.out,z1t ht,z1u ht] at HF;clear HO ht;go_wp2_with fail;refine HF.out.mono ?_;rintro e w9 ⟨A9,n9,c9,rfl,-,H9⟩;have hc2:=H9.cell 2 rfl
    have hf2:=H9.free 2 rfl
    clear HF hc0;go_wp2_with fail;have h2:=H9.setv 2 rfl (.slice A9 n9 c9)
    have hc3:=h2.cell 2 rfl
    refine bodyPost_ret (v:=.tuple #[.agg #[.slice A9 n9 c9],.int .i64 0]) (by simp [results,Tryz.results43,go_sem,hc3]) rfl ?_
    exact z5g h2 1 rfl 0
theorem z8ae (A A2:Option Addr)(n c m c2:Nat)(zs ys:List Int)(w:World)(hn:zs.length=n)(hm:ys.length=m)(hnc:n<=c)(hmc:m<=c2)(hs:Sl w w.heap.size A (z0p zs))(hs2:Sl w w.heap.size A2 (z0p ys))(hl:n<=1000)(hl2:m<=1000):
  Calls Tryz.prog 43 #[.agg #[.slice A n c],.agg #[.slice A2 m c2]] w (z3m w (subL zs ys) (subE zs ys)):=by
 cases hv:(Na.vld zs && Na.vld ys)
 ·have e1:subL zs ys=[]:=by unfold subL;rw [hv];rfl
  have e2:subE zs ys=1:=by unfold subE;rw [hv];rfl
  rw [e1,e2];exact z8ad A A2 n c m c2 zs ys w hn hm hnc hmc hs hs2 hl hl2 hv
 ·obtain ⟨x,y,hx,hy,rfl,rfl⟩:=z9f hv
  rw [(z2al hx hy).1,(z2al hx hy).2]
  rw [z0g] at hs hs2;rw [Na.up_length] at hn hm;exact z1bz A A2 n c m c2 x y w hn hm hnc hmc hs hs2 hx hy
open Cl
theorem z4ab (a0 a1 a2 a3 a4 a5 a6 b0 b1 b2 b3 b4 b5 b6:Int)(w:World):(binOp .eql 99 (.agg #[.int .i64 a0,.int .i64 a1,.int .i64 a2,.int .i64 a3,.int .i64 a4,.int .i64 a5,.int .i64 a6]) (.agg #[.int .i64 b0,.int .i64 b1,.int .i64 b2,.int .i64 b3,.int .i64 b4,.int .i64 b5,.int .i64 b6])).run Tryz.prog w=.ok (.bool (decide (((Pl.mk a0 a1 a2 a3 a4 a5,a6):Pl×Int)=(Pl.mk b0 b1 b2 b3 b4 b5,b6)))) w:=by
 by_cases h0:a0=b0
 case neg=>simp [go_sem,run_eql_struct,Tryz.underlying99,Tryz.underlying38,Tryz.underlying3,h0]
 by_cases h1:a1=b1
 case neg=>simp [go_sem,run_eql_struct,Tryz.underlying99,Tryz.underlying38,Tryz.underlying3,h1,h0]
 by_cases h2:a2=b2
 case neg=>simp [go_sem,run_eql_struct,Tryz.underlying99,Tryz.underlying38,Tryz.underlying3,h2,h0,h1]
 by_cases h3:a3=b3
 case neg=>simp [go_sem,run_eql_struct,Tryz.underlying99,Tryz.underlying38,Tryz.underlying3,h3,h0,h1,h2]
 by_cases h4:a4=b4
 case neg=>simp [go_sem,run_eql_struct,Tryz.underlying99,Tryz.underlying38,Tryz.underlying3,h4,h0,h1,h2,h3]
 by_cases h5:a5=b5
 case neg=>simp [go_sem,run_eql_struct,Tryz.underlying99,Tryz.underlying38,Tryz.underlying3,h5,h0,h1,h2,h3,h4]
 by_cases h6:a6=b6
 case neg=>simp [go_sem,run_eql_struct,Tryz.underlying99,Tryz.underlying38,Tryz.underlying3,h6,h0,h1,h2,h3,h4,h5]
 subst h0 h1 h2 h3 h4 h5 h6
 simp [go_sem,run_eql_struct,Tryz.underlying99,Tryz.underlying38,Tryz.underlying3]
theorem z0ar (a0 a1 a2 a3 a4 a5 b0 b1 b2 b3 b4 b5:Int)(w:World):(binOp .eql 38 (.agg #[.int .i64 a0,.int .i64 a1,.int .i64 a2,.int .i64 a3,.int .i64 a4,.int .i64 a5]) (.agg #[.int .i64 b0,.int .i64 b1,.int .i64 b2,.int .i64 b3,.int .i64 b4,.int .i64 b5])).run Tryz.prog w=.ok (.bool (decide (Pl.mk a0 a1 a2 a3 a4 a5=Pl.mk b0 b1 b2 b3 b4 b5))) w:=by
 by_cases h0:a0=b0
 case neg=>simp [go_sem,run_eql_struct,Tryz.underlying38,Tryz.underlying3,h0]
 by_cases h1:a1=b1
 case neg=>simp [go_sem,run_eql_struct,Tryz.underlying38,Tryz.underlying3,h1,h0]
 by_cases h2:a2=b2
 case neg=>simp [go_sem,run_eql_struct,Tryz.underlying38,Tryz.underlying3,h2,h0,h1]
 by_cases h3:a3=b3
 case neg=>simp [go_sem,run_eql_struct,Tryz.underlying38,Tryz.underlying3,h3,h0,h1,h2]
 by_cases h4:a4=b4
 case neg=>simp [go_sem,run_eql_struct,Tryz.underlying38,Tryz.underlying3,h4,h0,h1,h2,h3]
 by_cases h5:a5=b5
 case neg=>simp [go_sem,run_eql_struct,Tryz.underlying38,Tryz.underlying3,h5,h0,h1,h2,h3,h4]
 subst h0 h1 h2 h3 h4 h5
 simp [go_sem,run_eql_struct,Tryz.underlying38,Tryz.underlying3]
theorem z2bt:Tryz.prog.eqGuardType Tryz.prog.depth 99=false:=by kernel_rfl
theorem z0ap:Tryz.prog.eqGuardType Tryz.prog.depth 38=false:=by kernel_rfl
theorem z6bg (k:Int)(hk:kd k)(x y:Sn)(w:World):
  Calls Tryz.prog 53 #[.int .i64 k,.agg x.vs,.agg y.vs] w fun e w'=>e=.returned (.bool (decide ((whV k x.p,x.cp)=(whV k y.p,y.cp))))/\Below w.heap.size w w':=by
 have HA0:=fun W=>z0ba k x W
 have HB0:=fun W=>z0ba k y W
 have HW:=zh (z5q k x.p)
 rw [zt hk] at HW;obtain ⟨⟨x0,x1,x2,x3,x4,x5⟩,x6,x7⟩:=x
 obtain ⟨⟨y0,y1,y2,y3,y4,y5⟩,y6,y7⟩:=y
 unfold spV at HA0 HB0;simp only at HA0 HB0 HW ⊢
 obtain ⟨⟨p0,p1,p2,p3,p4,p5⟩,hp⟩:∃ q,whV k ⟨x0,x1,x2,x3,x4,x5⟩=q:=⟨_,rfl⟩
 obtain ⟨⟨q0,q1,q2,q3,q4,q5⟩,hq⟩:∃ q,whV k ⟨y0,y1,y2,y3,y4,y5⟩=q:=⟨_,rfl⟩
 rw [hp] at HA0 HW ⊢
 rw [hq] at HB0 ⊢
 unfold Sn.vs at *
 unfold Pl.vs at HW;have HA:=zh HA0;have HB:=zh HB0;have H0:=((Ow.of (St.refl w)).arr #[.int .i64 x0,.int .i64 x1,.int .i64 x2,.int .i64 x3,.int .i64 x4,.int .i64 x5,.int .i64 x6,.int .i64 x7] 8 rfl (by omega) 40).arr #[.int .i64 y0,.int .i64 y1,.int .i64 y2,.int .i64 y3,.int .i64 y4,.int .i64 y5,.int .i64 y6,.int .i64 y7] 8 rfl (by omega) 40
 simp only [zqc,zqb,World.size_alloc] at H0;obtain ⟨a0,a1,a2,a3,a4,a5,a6,a7⟩:=zc8 (H0.row 0 rfl);clear hk HA0 HB0 hp hq;obtain ⟨r,hr⟩:∃ r,decide ((Pl.mk p0 p1 p2 p3 p4 p5,x6)=(Pl.mk q0 q1 q2 q3 q4 q5,y6))=r:=⟨_,rfl⟩
 have he:∀ W:World,(binOp .eql 99 (.agg #[.int .i64 p0,.int .i64 p1,.int .i64 p2,.int .i64 p3,.int .i64 p4,.int .i64 p5,.int .i64 x6]) (.agg #[.int .i64 q0,.int .i64 q1,.int .i64 q2,.int .i64 q3,.int .i64 q4,.int .i64 q5,.int .i64 y6])).run Tryz.prog W=.ok (.bool r) W:=fun W=>by rw [<- hr];exact z4ab ..
 rw [hr];clear hr;go_enter Tryz.func53,Tryz.ntmps53
 go_wp2_with fail;refine (HW.out _).mono ?_
 rintro e w1 ⟨rfl,hb⟩;have H1:=(H0.go hb).arr #[.int .i64 p0,.int .i64 p1,.int .i64 p2,.int .i64 p3,.int .i64 p4,.int .i64 p5] 6 rfl (by omega) 38
 simp only [zqc,zqb] at H1;clear HW hb H0 a0 a1 a2 a3 a4 a5 a6 a7;go_upto_region 2 with (fail)
 obtain ⟨wb,hwb⟩:∃ wb,w1.alloc (.cells #[.int .i64 p0,.int .i64 p1,.int .i64 p2,.int .i64 p3,.int .i64 p4,.int .i64 p5] 38)=wb:=⟨_,rfl⟩
 rw [hwb] at H1 ⊢
 have HF:=zh H1;have x0c:=cell_regrown ((H1.row 0 rfl).cellAt 0 (by decide))
 have y0c:=cell_regrown ((H1.row 1 rfl).cellAt 0 (by decide))
 have x1c:=cell_regrown ((H1.row 0 rfl).cellAt 1 (by decide))
 have y1c:=cell_regrown ((H1.row 1 rfl).cellAt 1 (by decide))
 have x2c:=cell_regrown ((H1.row 0 rfl).cellAt 2 (by decide))
 have y2c:=cell_regrown ((H1.row 1 rfl).cellAt 2 (by decide))
 have x3c:=cell_regrown ((H1.row 0 rfl).cellAt 3 (by decide))
 have y3c:=cell_regrown ((H1.row 1 rfl).cellAt 3 (by decide))
 have x4c:=cell_regrown ((H1.row 0 rfl).cellAt 4 (by decide))
 have y4c:=cell_regrown ((H1.row 1 rfl).cellAt 4 (by decide))
 have x5c:=cell_regrown ((H1.row 0 rfl).cellAt 5 (by decide))
 have y5c:=cell_regrown ((H1.row 1 rfl).cellAt 5 (by decide))
 have x6c:=cell_regrown ((H1.row 0 rfl).cellAt 6 (by decide))
 have y6c:=cell_regrown ((H1.row 1 rfl).cellAt 6 (by decide))
 have x7c:=cell_regrown ((H1.row 0 rfl).cellAt 7 (by decide))
 have y7c:=cell_regrown ((H1.row 1 rfl).cellAt 7 (by decide))
 have c1:=z1i (P:=Tryz.prog) (w:=wb) (f:=61) (args:=#[.int .i64 k,.agg #[.int .i64 x0,.int .i64 x1,.int .i64 x2,.int .i64 x3,.int .i64 x4,.int .i64 x5,.int .i64 x6,.int .i64 x7]]) (v:=.agg #[.int .i64 p0,.int .i64 p1,.int .i64 p2,.int .i64 p3,.int .i64 p4,.int .i64 p5,.int .i64 x6]) (fun W _=>HA.out W)
 have c2:=z1i (P:=Tryz.prog) (w:=wb) (f:=61) (args:=#[.int .i64 k,.agg #[.int .i64 y0,.int .i64 y1,.int .i64 y2,.int .i64 y3,.int .i64 y4,.int .i64 y5,.int .i64 y6,.int .i64 y7]]) (v:=.agg #[.int .i64 q0,.int .i64 q1,.int .i64 q2,.int .i64 q3,.int .i64 q4,.int .i64 q5,.int .i64 y6]) (fun W _=>HB.out W)
 have hg:=z2bt;clear H1 hwb;refine wp_region_quiet_below (by kernel_rfl) (by kernel_rfl) ?_
 repeat (go_big_quiet_step ((first|with_reducible exact c1 _ _|with_reducible exact c2 _ _)))
 refine wpQuiet_nil ?_
 intro W hW;have HZ:=zh (HF.out.go (z0v hW)).below
 clear hW x0c y0c x1c y1c x2c y2c x3c y3c x4c y4c x5c y5c x6c y6c x7c y7c c1 c2;go_wp2_with fail;go_ret;exact ⟨rfl,HZ.out⟩
theorem z5bi (k:Int)(hk:kd k)(x y:Sn)(hc:x.cp=y.cp)(w:World):
  Calls Tryz.prog 23 #[.int .i64 k,.agg x.vs,.agg y.vs] w fun e w'=>e=.returned (.bool (decide (wh k x.p=wh k y.p)))/\Below w.heap.size w w':=by
 obtain ⟨⟨x0,x1,x2,x3,x4,x5⟩,x6,x7⟩:=x
 obtain ⟨⟨y0,y1,y2,y3,y4,y5⟩,y6,y7⟩:=y
 unfold Sn.vs at *
 simp only at hc ⊢
 have H0:=((Ow.of (St.refl w)).arr #[.int .i64 x0,.int .i64 x1,.int .i64 x2,.int .i64 x3,.int .i64 x4,.int .i64 x5,.int .i64 x6,.int .i64 x7] 8 rfl (by omega) 40).arr #[.int .i64 y0,.int .i64 y1,.int .i64 y2,.int .i64 y3,.int .i64 y4,.int .i64 y5,.int .i64 y6,.int .i64 y7] 8 rfl (by omega) 40
 simp only [zqc,zqb,World.size_alloc] at H0;have HF:=zh H0;obtain ⟨g1,g2⟩:=hk;have g3:decide (1<=k)=true:=zt g1
 have g4:decide (k<=6)=true:=zt g2
 have x0c:=cell_regrown ((H0.row 0 rfl).cellAt 0 (by decide))
 have y0c:=cell_regrown ((H0.row 1 rfl).cellAt 0 (by decide))
 have x1c:=cell_regrown ((H0.row 0 rfl).cellAt 1 (by decide))
 have y1c:=cell_regrown ((H0.row 1 rfl).cellAt 1 (by decide))
 have x2c:=cell_regrown ((H0.row 0 rfl).cellAt 2 (by decide))
 have y2c:=cell_regrown ((H0.row 1 rfl).cellAt 2 (by decide))
 have x3c:=cell_regrown ((H0.row 0 rfl).cellAt 3 (by decide))
 have y3c:=cell_regrown ((H0.row 1 rfl).cellAt 3 (by decide))
 have x4c:=cell_regrown ((H0.row 0 rfl).cellAt 4 (by decide))
 have y4c:=cell_regrown ((H0.row 1 rfl).cellAt 4 (by decide))
 have x5c:=cell_regrown ((H0.row 0 rfl).cellAt 5 (by decide))
 have y5c:=cell_regrown ((H0.row 1 rfl).cellAt 5 (by decide))
 have x6c:=cell_regrown ((H0.row 0 rfl).cellAt 6 (by decide))
 have y6c:=cell_regrown ((H0.row 1 rfl).cellAt 6 (by decide))
 have x7c:=cell_regrown ((H0.row 0 rfl).cellAt 7 (by decide))
 have y7c:=cell_regrown ((H0.row 1 rfl).cellAt 7 (by decide))
 have hb:(x6 == y6)=true:=beq_iff_eq.2 hc
 obtain ⟨⟨p0,p1,p2,p3,p4,p5⟩,hp⟩:∃ q,wh k ⟨x0,x1,x2,x3,x4,x5⟩=q:=⟨_,rfl⟩
 obtain ⟨⟨q0,q1,q2,q3,q4,q5⟩,hq⟩:∃ q,wh k ⟨y0,y1,y2,y3,y4,y5⟩=q:=⟨_,rfl⟩
 obtain ⟨r,hr⟩:∃ r,decide (Pl.mk p0 p1 p2 p3 p4 p5=Pl.mk q0 q1 q2 q3 q4 q5)=r:=⟨_,rfl⟩
 have c1:=z1i (P:=Tryz.prog) (w:=((w.alloc (.cells #[.int .i64 x0,.int .i64 x1,.int .i64 x2,.int .i64 x3,.int .i64 x4,.int .i64 x5,.int .i64 x6,.int .i64 x7] 40)).alloc (.cells #[.int .i64 y0,.int .i64 y1,.int .i64 y2,.int .i64 y3,.int .i64 y4,.int .i64 y5,.int .i64 y6,.int .i64 y7] 40))) (f:=48) (args:=#[.int .i64 k,.agg #[.int .i64 x0,.int .i64 x1,.int .i64 x2,.int .i64 x3,.int .i64 x4,.int .i64 x5]]) (v:=.agg #[.int .i64 p0,.int .i64 p1,.int .i64 p2,.int .i64 p3,.int .i64 p4,.int .i64 p5]) (fun W _=>by
  have h:=z8n k ⟨g1,g2⟩ ⟨x0,x1,x2,x3,x4,x5⟩ W
  rwa [hp] at h)
 have c2:=z1i (P:=Tryz.prog) (w:=((w.alloc (.cells #[.int .i64 x0,.int .i64 x1,.int .i64 x2,.int .i64 x3,.int .i64 x4,.int .i64 x5,.int .i64 x6,.int .i64 x7] 40)).alloc (.cells #[.int .i64 y0,.int .i64 y1,.int .i64 y2,.int .i64 y3,.int .i64 y4,.int .i64 y5,.int .i64 y6,.int .i64 y7] 40))) (f:=48) (args:=#[.int .i64 k,.agg #[.int .i64 y0,.int .i64 y1,.int .i64 y2,.int .i64 y3,.int .i64 y4,.int .i64 y5]]) (v:=.agg #[.int .i64 q0,.int .i64 q1,.int .i64 q2,.int .i64 q3,.int .i64 q4,.int .i64 q5]) (fun W _=>by
  have h:=z8n k ⟨g1,g2⟩ ⟨y0,y1,y2,y3,y4,y5⟩ W
  rwa [hq] at h)
 have he:∀ w,(binOp .eql 38 (.agg #[.int .i64 p0,.int .i64 p1,.int .i64 p2,.int .i64 p3,.int .i64 p4,.int .i64 p5]) (.agg #[.int .i64 q0,.int .i64 q1,.int .i64 q2,.int .i64 q3,.int .i64 q4,.int .i64 q5])).run Tryz.prog w=.ok (.bool r) w:=fun w=>by rw [z0ar,hr]
 have hg:=z0ap;rw [hp,hq,hr];clear hp hq hr hc H0;go_enter Tryz.func23,Tryz.ntmps23
 go_upto_region 1 with (fail)
 refine wp_region_quiet_below (by kernel_rfl) (by kernel_rfl) ?_
 repeat (go_big_quiet_step ((first|with_reducible exact c1 _ _|with_reducible exact c2 _ _)))
 refine wpQuiet_nil ?_
 intro W hW;have HZ:=zh (HF.out.go (z0v hW)).below
 clear hW x0c y0c x1c y1c x2c y2c x3c y3c x4c y4c x5c y5c x6c y6c x7c y7c c1 c2;go_wp2_with fail;go_ret;exact ⟨rfl,HZ.out⟩
theorem z5bj (k:Int)(hk:kd k)(x y:Sn)(hc:x.cp≠y.cp)(w:World):
  Calls Tryz.prog 23 #[.int .i64 k,.agg x.vs,.agg y.vs] w fun e w'=>e=.returned (.bool (false))/\Below w.heap.size w w':=by
 obtain ⟨⟨x0,x1,x2,x3,x4,x5⟩,x6,x7⟩:=x
 obtain ⟨⟨y0,y1,y2,y3,y4,y5⟩,y6,y7⟩:=y
 unfold Sn.vs at *
 simp only at hc ⊢
 have H0:=((Ow.of (St.refl w)).arr #[.int .i64 x0,.int .i64 x1,.int .i64 x2,.int .i64 x3,.int .i64 x4,.int .i64 x5,.int .i64 x6,.int .i64 x7] 8 rfl (by omega) 40).arr #[.int .i64 y0,.int .i64 y1,.int .i64 y2,.int .i64 y3,.int .i64 y4,.int .i64 y5,.int .i64 y6,.int .i64 y7] 8 rfl (by omega) 40
 simp only [zqc,zqb,World.size_alloc] at H0;have HF:=zh H0;obtain ⟨g1,g2⟩:=hk;have g3:decide (1<=k)=true:=zt g1
 have g4:decide (k<=6)=true:=zt g2
 have x0c:=cell_regrown ((H0.row 0 rfl).cellAt 0 (by decide))
 have y0c:=cell_regrown ((H0.row 1 rfl).cellAt 0 (by decide))
 have x1c:=cell_regrown ((H0.row 0 rfl).cellAt 1 (by decide))
 have y1c:=cell_regrown ((H0.row 1 rfl).cellAt 1 (by decide))
 have x2c:=cell_regrown ((H0.row 0 rfl).cellAt 2 (by decide))
 have y2c:=cell_regrown ((H0.row 1 rfl).cellAt 2 (by decide))
 have x3c:=cell_regrown ((H0.row 0 rfl).cellAt 3 (by decide))
 have y3c:=cell_regrown ((H0.row 1 rfl).cellAt 3 (by decide))
 have x4c:=cell_regrown ((H0.row 0 rfl).cellAt 4 (by decide))
 have y4c:=cell_regrown ((H0.row 1 rfl).cellAt 4 (by decide))
 have x5c:=cell_regrown ((H0.row 0 rfl).cellAt 5 (by decide))
 have y5c:=cell_regrown ((H0.row 1 rfl).cellAt 5 (by decide))
 have x6c:=cell_regrown ((H0.row 0 rfl).cellAt 6 (by decide))
 have y6c:=cell_regrown ((H0.row 1 rfl).cellAt 6 (by decide))
 have x7c:=cell_regrown ((H0.row 0 rfl).cellAt 7 (by decide))
 have y7c:=cell_regrown ((H0.row 1 rfl).cellAt 7 (by decide))
 have hb:(x6 == y6)=false:=beq_eq_false_iff_ne.2 hc
 clear hc H0;go_enter Tryz.func23,Tryz.ntmps23
 go_upto_region 1 with (fail)
 refine wp_region_quiet_below (by kernel_rfl) (by kernel_rfl) ?_
 repeat (go_big_quiet_step ((fail)))
 refine wpQuiet_nil ?_
 intro W hW;have HZ:=zh (HF.out.go (z0v hW)).below
 clear hW x0c y0c x1c y1c x2c y2c x3c y3c x4c y4c x5c y5c x6c y6c x7c y7c ;go_wp2_with fail;go_ret;exact ⟨rfl,HZ.out⟩
theorem z9m (k:Int)(hk:kd k)(x y:Sn)(w:World):
  Calls Tryz.prog 23 #[.int .i64 k,.agg x.vs,.agg y.vs] w fun e w'=>e=.returned (.bool (decide (z3u k x=z3u k y)))/\Below w.heap.size w w':=by
 unfold z3u;by_cases hc:x.cp=y.cp
 ·have:=z5bi k hk x y hc w
  rwa [show decide ((wh k x.p,x.cp)=(wh k y.p,y.cp))=decide (wh k x.p=wh k y.p) by rw [hc];simp]
 ·have:=z5bj k hk x y hc w
  rwa [show decide ((wh k x.p,x.cp)=(wh k y.p,y.cp))=false from zn fun e=>hc (Prod.mk.inj e).2]
theorem z2aj {k:Int}(hk:kd k)(p:Pl):whV k p=wh k p:=if_pos hk
theorem z7an (k:Int)(hk:kd k)(x y:Sn)(w:World):
  Calls Tryz.prog 53 #[.int .i64 k,.agg x.vs,.agg y.vs] w fun e w'=>e=.returned (.bool (decide (z3u k x=z3u k y)))/\Below w.heap.size w w':=by
 have:=z6bg k hk x y w
 rwa [z2aj hk,z2aj hk] at this
open Go.ChangeMaps (setBlock heap_setBlock_same heap_setBlock_other)
namespace Cl
set_option maxHeartbeats 4000000
abbrev Sp:Type:=Pl×Int
def spA (q:Sp):Array Value:=#[.int .i64 q.1.so,.int .i64 q.1.ch,.int .i64 q.1.ra,.int .i64 q.1.ba,.int .i64 q.1.ro,.int .i64 q.1.co,.int .i64 q.2]
end Cl
theorem z8bp {k:Int}(hk:kd k)(x:Sn):spV k x=spA (z3u k x):=by unfold spV spA z3u;rw [z2aj hk]
theorem z5av (q p:Sp)(w:World):(Op.equal 99 (.agg (spA q)) (.agg (spA p))).run Tryz.prog w=.ok (decide (q=p)) w:=by
 obtain ⟨⟨a0,a1,a2,a3,a4,a5⟩,a6⟩:=q
 obtain ⟨⟨b0,b1,b2,b3,b4,b5⟩,b6⟩:=p
 have h:=z4ab a0 a1 a2 a3 a4 a5 a6 b0 b1 b2 b3 b4 b5 b6 w
 rw [run_eql_struct] at h;unfold Op.equal Op.maxDepth spA;cases hr:(Op.equalIn 10000 99 (.agg #[.int .i64 a0,.int .i64 a1,.int .i64 a2,.int .i64 a3,.int .i64 a4,.int .i64 a5,.int .i64 a6]) (.agg #[.int .i64 b0,.int .i64 b1,.int .i64 b2,.int .i64 b3,.int .i64 b4,.int .i64 b5,.int .i64 b6])).run Tryz.prog w with
 | ok r w'=>
  rw [hr] at h;simp only [Result.andThen_ok,Result.ok.injEq,Value.bool.injEq] at h;obtain ⟨rfl,rfl⟩:=h;rfl
 | halt x w'=>
  rw [hr] at h;simp [Result.andThen] at h
theorem z4bn (em:Bool)(n:Nat)(x:Int)(w:World):(Instr.checkKey em (n+1) 3 (.int .i64 x)).run Tryz.prog w=.ok () w:=by
 rw [Instr.checkKey];simp [run_underlying Tryz.underlying3]
theorem z3bb (em:Bool)(n:Nat)(p:Pl)(w:World):(Instr.checkKey em (n+1+1) 38 (.agg p.vs)).run Tryz.prog w=.ok () w:=by
 rw [Instr.checkKey];unfold Pl.vs;simp [run_underlying Tryz.underlying38,z4bn,go_sem]
theorem z7bo (em:Bool)(n:Nat)(q:Sp)(w:World):(Instr.checkKey em (n+1+1+1) 99 (.agg (spA q))).run Tryz.prog w=.ok () w:=by
 have hp:=z3bb em n q.1 w
 rw [Instr.checkKey];unfold spA;unfold Pl.vs at hp;simp [run_underlying Tryz.underlying99,z4bn,hp,go_sem]
theorem z6h (em:Bool)(q:Sp)(w:World):(Instr.checkKey em 10000 99 (.agg (spA q))).run Tryz.prog w=.ok () w:=z7bo em 9997 q w
theorem z3ay (q:Sp)(w:World):∀ (es:List MapEntry) (ks:List Sp) (i:Nat),es.map (·.key)=ks.map (fun p=>Value.agg (spA p))->
  ((∀ p∈ks,p≠q)/\(Instr.findAsking 99 (.agg (spA q)) es i).run Tryz.prog w=.ok none w)∨
  ∃ j e,ks[j]?=some q/\es[j]?=some e/\(Instr.findAsking 99 (.agg (spA q)) es i).run Tryz.prog w=.ok (some (i+j,e.val)) w
 | [],[],i,_=>.inl ⟨(by intro p hp;cases hp),by simp [Instr.findAsking]⟩
 | [],_ :: _,i,h=>by cases h
 | _ :: _,[],i,h=>by cases h
 | e :: es,p :: ks,i,h=>by
  simp only [List.map_cons,List.cons.injEq] at h;obtain ⟨h1,h2⟩:=h;have heq:(Op.equal 99 (.agg (spA q)) e.key).run Tryz.prog w=.ok (decide (q=p)) w:=by rw [h1];exact z5av q p w
  by_cases hq:q=p
  ·refine .inr ⟨0,e,by rw [hq];rfl,rfl,?_⟩
   rw [zt hq] at heq;simp [Instr.findAsking,heq]
  ·rw [zn hq] at heq;rcases z3ay q w es ks (i+1) h2 with ⟨a1,a2⟩|⟨j,e',a1,a2,a3⟩
   ·refine .inl ⟨fun p' hp'=>?_,by simp [Instr.findAsking,heq,a2]⟩
    rcases List.mem_cons.1 hp' with rfl|hp'
    ·exact fun e=>hq e.symm
    ·exact a1 p' hp'
   ·exact .inr ⟨j+1,e',a1,a2,by simp [Instr.findAsking,heq,a3];omega⟩
theorem z3ax (q:Sp)(w:World)(es:List MapEntry)(ks:List Sp)(h:es.map (·.key)=ks.map (fun p=>Value.agg (spA p))):
  ((∀ p∈ks,p≠q)/\(Instr.findKey 99 (.agg (spA q)) es).run Tryz.prog w=.ok none w)∨
  ∃ j e,ks[j]?=some q/\es[j]?=some e/\(Instr.findKey 99 (.agg (spA q)) es).run Tryz.prog w=.ok (some (j,e.val)) w:=by
 cases es with
 | nil=>
  have hk:ks=[]:=by cases ks with|nil=>rfl|cons=>cases h
  subst hk
  exact .inl ⟨(by intro p hp;cases hp),by simp [Instr.findKey,run_underlying Tryz.underlying99,Instr.findNow]⟩
 | cons e es=>
  have hn:(Instr.findKey 99 (.agg (spA q)) (e :: es)).run Tryz.prog w=(Instr.findAsking 99 (.agg (spA q)) (e :: es)).run Tryz.prog w:=by
   simp [Instr.findKey,run_underlying Tryz.underlying99,Instr.findNow,Instr.sameNow]
  rw [hn];rcases z3ay q w (e :: es) ks 0 h with ⟨a1,a2⟩|⟨j,e',a1,a2,a3⟩
  ·exact .inl ⟨a1,a2⟩
  ·exact .inr ⟨j,e',a1,a2,by rw [a3,Nat.zero_add]⟩
def EsOk (es:Array MapEntry)(ks:List Sp):Prop:=es.toList.map (·.key)=ks.map (fun p=>Value.agg (spA p))/\∀ (j:Nat) (e:MapEntry),es[j]?=some e->e.val=Value.int .i64 j
theorem EsOk.nil:EsOk #[] []:=⟨rfl,fun j e h=>by simp at h⟩
theorem EsOk.push {es:Array MapEntry}{ks:List Sp}(h:EsOk es ks)(q:Sp)(b:Nat):EsOk (es.push ⟨.agg (spA q),.int .i64 ((ks.length:Nat):Int),b⟩) (ks++[q]):=by
 have hl:es.size=ks.length:=by have:=congrArg List.length h.1;simpa using this
 refine ⟨by simp [h.1],fun j e hj=>?_⟩
 rcases zqi j es.size with h1|h1
 ·rw [Array.getElem?_push_lt h1] at hj;exact h.2 j e (by rw [<- hj,Array.getElem?_eq_getElem h1])
 ·have:=(Array.getElem?_eq_some_iff.1 hj).1
  rw [Array.size_push] at this;obtain rfl:j=es.size:=by omega
  rw [Array.getElem?_push_size] at hj;obtain rfl:=(zqk hj).symm
  rw [hl]
section
variable {w:World}{mb ck:Nat}{es:Array MapEntry}{ks:List Sp}
theorem z8ay (hm:w.heap[mb]?=some (.map es ck))(h:EsOk es ks)(q:Sp):
  ((∀ p∈ks,p≠q)/\(Instr.lookup 97 (.map (some mb)) (.agg (spA q)) true).run Tryz.prog w=.ok (.tuple #[.int .i64 0,.bool false]) w)∨
  ∃ j:Nat,ks[j]?=some q/\(Instr.lookup 97 (.map (some mb)) (.agg (spA q)) true).run Tryz.prog w=.ok (.tuple #[.int .i64 j,.bool true]) w:=by
 have hz:(zeroValue 3).run Tryz.prog w=.ok (.int .i64 0) w:=by simp [go_sem]
 rcases z3ax q w es.toList ks h.1 with ⟨a1,a2⟩|⟨j,e,a1,a2,a3⟩
 ·exact .inl ⟨a1,by simp [Instr.lookup,run_underlying Tryz.underlying97,MapKept.run_getObj_map hm,z6h,a2,hz,Result.andThen]⟩
 ·refine .inr ⟨j,a1,?_⟩
  have hv:=h.2 j e (by simpa using a2)
  simp [Instr.lookup,run_underlying Tryz.underlying97,MapKept.run_getObj_map hm,z6h,a3,hv,Result.andThen]
theorem z4ar (hm:w.heap[mb]?=some (.map es ck))(h:EsOk es ks)(q:Sp)(hq:∀ p∈ks,p≠q)(v:Value):
  (Instr.mapUpdate 97 (.map (some mb)) (.agg (spA q)) v).run Tryz.prog w=.ok () (setBlock w mb (.map (es.push ⟨.agg (spA q),v,ck⟩) (ck+1))):=by
 rcases z3ax q w es.toList ks h.1 with ⟨a1,a2⟩|⟨j,e,a1,a2,a3⟩
 ·simp [Instr.mapUpdate,run_underlying Tryz.underlying97,MapKept.run_getObj_map hm,z6h,a2,MapKept.run_setObj_map _ hm,Result.andThen,setBlock]
 ·exact absurd rfl (hq q (List.mem_of_getElem? a1))
end
def fl (l:List Sn):List Value:=l.flatMap fun x=>x.vs.toList
theorem z2q (l:List Sn):(fl l).length=l.length*8:=by
 induction l with
 | nil=>rfl
 | cons x l ih=>
  show (x.vs.toList++fl l).length=_
  rw [zqm,ih,List.length_cons]
  show 8+_=_
  omega
theorem z9bq:∀ (l:List Sn)(i j:Nat)(x:Sn),l[i]?=some x->j<8->(fl l)[i*8+j]?=x.vs.toList[j]?
 | [],i,j,x,h,_=>by simp at h
 | y :: l,0,j,x,h,hj=>by
  obtain rfl:y=x:=by simpa using h
  show (y.vs.toList++fl l)[0*8+j]?=_
  rw [Nat.zero_mul,Nat.zero_add,zqn hj]
 | y :: l,i+1,j,x,h,hj=>by
  show (y.vs.toList++fl l)[(i+1)*8+j]?=_
  rw [zqo (show 8<=_ by omega)]
  have:=z9bq l i j x (by simpa using h) hj
  rw [show (i+1)*8+j - y.vs.toList.length=i*8+j by show (i+1)*8+j - 8=_;omega]
  exact this
def CellsSn (w:World)(ad:Addr)(x:Sn):Prop:=
 w.cell? ad=some (.int .i64 x.p.so)/\w.cell? ⟨ad.block,ad.off+1,none⟩=some (.int .i64 x.p.ch)/\w.cell? ⟨ad.block,ad.off+2,none⟩=some (.int .i64 x.p.ra)/\w.cell? ⟨ad.block,ad.off+3,none⟩=some (.int .i64 x.p.ba)/\w.cell? ⟨ad.block,ad.off+4,none⟩=some (.int .i64 x.p.ro)/\w.cell? ⟨ad.block,ad.off+5,none⟩=some (.int .i64 x.p.co)/\w.cell? ⟨ad.block,ad.off+6,none⟩=some (.int .i64 x.cp)/\w.cell? ⟨ad.block,ad.off+7,none⟩=some (.int .i64 x.ti)
theorem z2v {w:World}{B:Nat}{A:Option Addr}{l:List Sn}(h:Sl w B A (fl l)){i:Nat}{x:Sn}(hx:l[i]?=some x):
  ∃ ad,A=some ad/\CellsSn w (ad.add (i*8)) x:=by
 have hi:=z0d hx
 obtain ⟨ad,e,hb,hc⟩:=h (by rw [z2q];omega)
 have key:∀ j u,j<8->x.vs.toList[j]?=some u->w.cell? ((ad.add (i*8)).add j)=some u:=fun j u hj hu=>by
  rw [add_add];exact hc _ u (by rw [z9bq l i j x hx hj];exact hu)
 exact ⟨ad,e,key 0 _ (by omega) rfl,key 1 _ (by omega) rfl,key 2 _ (by omega) rfl,key 3 _ (by omega) rfl,key 4 _ (by omega) rfl,key 5 _ (by omega) rfl,key 6 _ (by omega) rfl,key 7 _ (by omega) rfl⟩
namespace Cl
set_option maxHeartbeats 4000000
def ad (ks:List (Sp×List Nat))(q:Sp)(i:Nat):List (Sp×List Nat):=
 match ks with
 | []=>[(q,[i])]
 | p :: r=>if p.1=q then (q,p.2++[i]) :: r else p :: ad r q i
theorem z0bh:∀ (ks:List (Sp×List Nat))(q:Sp)(i:Nat),(∀ p∈ks,p.1≠q)->ad ks q i=ks++[(q,[i])]
 | [],_,_,_=>rfl
 | p :: r,q,i,h=>by
  show (if p.1=q then _ else _)=_
  rw [if_neg (h p List.mem_cons_self),z0bh r q i fun p' hp=>h p' (List.mem_cons_of_mem _ hp)]
  rfl
theorem z4am:∀ (ks:List (Sp×List Nat))(q:Sp)(i j:Nat)(g:List Nat),(ks.map (·.1)).Nodup->ks[j]?=some (q,g)->ad ks q i=ks.set j (q,g++[i])
 | [],_,_,_,_,_,h=>by simp at h
 | p :: r,q,i,0,g,_,h=>by
  obtain rfl:p=(q,g):=by simpa using h
  show (if q=q then _ else _)=_
  rw [if_pos rfl];rfl
 | p :: r,q,i,j+1,g,hn,h=>by
  have h':r[j]?=some (q,g):=by simpa using h
  rw [List.map_cons,List.nodup_cons] at hn
  show (if p.1=q then _ else _)=_
  rw [if_neg (fun e=>hn.1 (by rw [e];exact List.mem_map.2 ⟨_,List.mem_of_getElem? h',rfl⟩)),z4am r q i j g hn.2 h']
  rfl
def z2j (k:Int)(l:List Sn):Nat->List (Sp×List Nat)
 | 0=>[]
 | i+1=>match l[i]? with
  | some x=>ad (z2j k l i) (z3u k x) i
  | none=>z2j k l i
theorem z3q {k:Int}{l:List Sn}{i:Nat}{x:Sn}(h:l[i]?=some x):z2j k l (i+1)=ad (z2j k l i) (z3u k x) i:=by
 show (match l[i]? with|some x=>_|none=>_)=_
 rw [h]
theorem z9e:∀ (ks:List (Sp×List Nat))(q:Sp)(i:Nat),(∀ x,x∈(ad ks q i).map (·.1)↔x∈ks.map (·.1)∨x=q)/\((ks.map (·.1)).Nodup->((ad ks q i).map (·.1)).Nodup)
 | [],q,i=>⟨fun x=>by simp [ad],fun _=>by simp [ad]⟩
 | p :: r,q,i=>by
  obtain ⟨h1,h2⟩:=z9e r q i
  by_cases e:p.1=q
  ·have h:ad (p :: r) q i=(q,p.2++[i]) :: r:=by show (if p.1=q then _ else _)=_;rw [if_pos e]
   rw [h];refine ⟨fun x=>?_,fun hn=>?_⟩
   ·simp only [List.map_cons,List.mem_cons];rw [e];constructor
    ·rintro (h|h)
     ·exact .inr h
     ·exact .inl (.inr h)
    ·rintro ((h|h)|h)
     ·exact .inl h
     ·exact .inr h
     ·exact .inl h
   ·rw [List.map_cons] at hn ⊢
    rw [<- e];exact hn
  ·have h:ad (p :: r) q i=p :: ad r q i:=by show (if p.1=q then _ else _)=_;rw [if_neg e]
   rw [h];refine ⟨fun x=>?_,fun hn=>?_⟩
   ·simp only [List.map_cons,List.mem_cons,h1];constructor
    ·rintro (h|h|h)
     ·exact .inl (.inl h)
     ·exact .inl (.inr h)
     ·exact .inr h
    ·rintro ((h|h)|h)
     ·exact .inl h
     ·exact .inr (.inl h)
     ·exact .inr (.inr h)
   ·rw [List.map_cons,List.nodup_cons] at hn ⊢
    refine ⟨fun hm=>?_,h2 hn.2⟩
    rcases (h1 _).1 hm with h|h
    ·exact hn.1 h
    ·exact e h
theorem z2m (k:Int)(l:List Sn):∀ i,((z2j k l i).map (·.1)).Nodup
 | 0=>List.nodup_nil
 | i+1=>by
  show (((match l[i]? with|some x=>_|none=>_):List (Sp×List Nat)).map (·.1)).Nodup
  split
  ·exact (z9e _ _ _).2 (z2m k l i)
  ·exact z2m k l i
theorem z4bs:∀ (ks:List (Sp×List Nat))(q:Sp)(i m:Nat),(∀ p∈ks,p.2.length<=m)->(∀ p∈ad ks q i,p.2.length<=m+1)/\(ad ks q i).length<=ks.length+1
 | [],q,i,m,_=>⟨fun p hp=>by
   have:p=(q,[i]):=by simpa [ad] using hp
   rw [this]
   show 1<=m+1
   omega,zqj _⟩
 | p :: r,q,i,m,h=>by
  obtain ⟨h1,h2⟩:=z4bs r q i m fun p hp=>h p (List.mem_cons_of_mem _ hp)
  show (∀ x∈(if p.1=q then (q,p.2++[i]) :: r else p :: ad r q i),x.2.length<=m+1)/\(if p.1=q then (q,p.2++[i]) :: r else p :: ad r q i).length<=_
  have h0:=h p List.mem_cons_self
  split
  ·refine ⟨fun x hx=>?_,by simp⟩
   rcases List.mem_cons.1 hx with rfl|hx
   ·show (p.2++[i]).length<=m+1
    rw [zqm];exact Nat.succ_le_succ h0
   ·have:=h x (List.mem_cons_of_mem _ hx);omega
  ·refine ⟨fun x hx=>?_,by simp only [List.length_cons];omega⟩
   rcases List.mem_cons.1 hx with rfl|hx
   ·omega
   ·exact h1 x hx
theorem z2z (k:Int)(l:List Sn):∀ i,(∀ p∈z2j k l i,p.2.length<=i)/\(z2j k l i).length<=i
 | 0=>⟨fun p hp=>(by cases hp),zqj _⟩
 | i+1=>by
  obtain ⟨h1,h2⟩:=z2z k l i
  show (∀ p∈((match l[i]? with|some x=>ad (z2j k l i) (z3u k x) i|none=>z2j k l i):List (Sp×List Nat)),p.2.length<=i+1)/\((match l[i]? with|some x=>ad (z2j k l i) (z3u k x) i|none=>z2j k l i):List (Sp×List Nat)).length<=i+1
  split
  ·obtain ⟨a,b⟩:=z4bs (z2j k l i) (z3u k ‹Sn›) i i h1
   exact ⟨a,by omega⟩
  ·exact ⟨fun p hp=>by have:=h1 p hp;omega,by omega⟩
end Cl
def Rw.sl (r:Rw):Value:=.slice r.A r.n r.c
def z2g (Ao:Option Addr)(co:Nat)(inn:List Rw):Rw:=⟨Ao,inn.length,co,22,inn.map Rw.sl⟩
structure Gm (w0 w:World)(L:List Ob)(mb:Nat)(es:Array MapEntry)(ck:Nat)(O:List Rw):Prop where
 ow:Ow w0 w none [] L O
 mp:w.heap[mb]?=some (.map es ck)
 lo:w0.heap.size<=mb
 nl:∀ o∈L,∀ a,o.A=some a->0<o.n->mb≠a.block
 no:∀ (j:Nat) (q:Rw),O[j]?=some q->q.blk≠some mb
section
variable {w0 w w':World}{L:List Ob}{mb ck:Nat}{es:Array MapEntry}{O:List Rw}
theorem Gm.lt (h:Gm w0 w L mb es ck O):mb<w.heap.size:=(Array.getElem?_eq_some_iff.1 h.mp).1
theorem Gm.go (h:Gm w0 w L mb es ck O)(hb:Below w.heap.size w w'):Gm w0 w' L mb es ck O:=⟨h.ow.go hb,(hb.block mb h.lt).trans h.mp,h.lo,h.nl,h.no⟩
theorem Gm.app (h:Gm w0 w L mb es ck O){r:Rw}(ho:Ow w0 w' none [] L (O++[r]))(hb:Below w.heap.size w w')(hr:∀ b,r.blk=some b->w.heap.size<=b):Gm w0 w' L mb es ck (O++[r]):=
 ⟨ho,(hb.block mb h.lt).trans h.mp,h.lo,h.nl,fun j q hj e=>by
  rcases zqi j O.length with h1|h1
  ·rw [zqn h1] at hj;exact h.no j q hj e
  ·rw [zqo h1] at hj;have h2:j - O.length=0:=by have:=z0d hj;simp at this;omega
   rw [h2] at hj;obtain rfl:r=q:=by simpa using hj
   have:=hr mb e
   have:=h.lt
   omega⟩
theorem Gm.nil (h:Gm w0 w L mb es ck O)(e:TypeId):Gm w0 w L mb es ck (O++[⟨none,0,0,e,[]⟩]):=h.app (h.ow.nil e) (Below.refl _ _) fun b e=>by cases e
theorem Gm.turn (h:Gm w0 w L mb es ck O)(i:Nat){r r':Rw}(hi:O[i]?=some r)(hg:w.grownBy w' r.blk)(ho:w'.ownsRow w0.heap.size r'.e 1 (.slice r'.A r'.n r'.c) r'.n r'.vs)(hb:r'.blk=r.blk∨r'.blk=some w.heap.size):Gm w0 w' L mb es ck (O.set i r'):=
 ⟨h.ow.turn i hi hg ho hb,(hg.block mb h.lt (fun e=>h.no i r hi e.symm)).trans h.mp,h.lo,h.nl,fun j q hj e=>by
  by_cases hji:j=i
  ·subst hji
   rw [List.getElem?_set_self (z0d hi)] at hj
   obtain rfl:r'=q:=by simpa using hj
   rcases hb with e1|e1
   ·exact h.no j r hi (by rw [<- e1];exact e)
   ·rw [e] at e1;have:=zqk e1
    have:=h.lt
    omega
  ·rw [zqf (fun e'=>hji e'.symm)] at hj
   exact h.no j q hj e⟩
theorem Gm.put (h:Gm w0 w L mb es ck O)(i:Nat){gb n c:Nat}{e:TypeId}{vs:List Value}(hi:O[i]?=some ⟨some ⟨gb,0,none⟩,n,c,e,vs⟩)(k:Nat)(v:Value):Gm w0 (w.setCell ⟨gb,k,none⟩ v) L mb es ck (O.set i ⟨some ⟨gb,0,none⟩,n,c,e,vs.set k v⟩):=
 h.turn i hi (r':=⟨some ⟨gb,0,none⟩,n,c,e,vs.set k v⟩) (z0f _ _ _) (z1x (h.ow.own i _ hi) k v) (.inl rfl)
theorem Gm.few {l:List Rw}(h:Gm w0 w L mb es ck (O++l)):Gm w0 w L mb es ck O:=⟨h.ow.fewO,h.mp,h.lo,h.nl,fun j q hj=>h.no j q (by rw [zqn (z0d hj)];exact hj)⟩
theorem Gm.store (h:Gm w0 w L mb es ck O)(es':Array MapEntry)(ck':Nat):Gm w0 (setBlock w mb (.map es' ck')) L mb es' ck' O:=by
 have hg:w.grownBy (setBlock w mb (.map es' ck')) (some mb):=⟨rfl,rfl,rfl,by simp [setBlock],fun k _ hne=>heap_setBlock_other h.mp _ (fun e=>hne (by rw [e]))⟩
 exact ⟨h.ow.off hg fun b e=>by
  obtain rfl:=zqk e
  exact ⟨h.lo,by simp,fun j k v hj=>by simp at hj,h.nl,h.no⟩,heap_setBlock_same h.mp _,h.lo,h.nl,h.no⟩
theorem z6f {P:Program}{t e:TypeId}{z:Value}{bytes:Nat}{ops:Array Oper}{rest:List Oper}{o:Oper}{a:Act}{Q:Exit->Act->World->Prop}(hE:Elem P t e z bytes)(h:Gm w0 w L mb es ck O)(i:Nat)(s x:Operand)(v:Value)(tt:TypeId){A:Option Addr}{n c:Nat}{xs:List Value}(hi:O[i]?=some ⟨A,n,c,e,xs⟩)
  (h1:v.oneCell'=true) (h63:n+1<=maxLen) (hbytes:(n+1)*bytes<=140737488355328)
  (hgd:o.guard=none) (ho:o.op=.call { callee:=.builtin .append,args:=#[s,x],argTypes:=#[t,t] }) (hs:a.eval s=.slice A n c) (hx:a.eval x=.slice (some ⟨w.heap.size,0,none⟩) 1 1)
  (hk:∀ A' c' w',Gm w0 w' L mb es ck (O.set i ⟨A',n+1,c',e,xs++[v]⟩)->wpList P ops Q rest (a.put o.dst (.slice A' (n+1) c')) w'):wpList P ops Q (o :: rest) a (w.alloc (.cells #[v] tt)):=by
 obtain ⟨ht,hzc,inf,hi0,hz,hsz,hby⟩:=hE;have h':=h.go (z0i w (.cells #[v] tt))
 exact z0h _ hgd s x t ho w0.heap.size e inf z bytes ht hi0 hz hsz hby (by rw [hzc];rfl) A n c xs hs (h'.ow.own i _ hi) (w.heap.size+1) (some ⟨w.heap.size,0,none⟩) 1 1 [v] hx rfl (z2c w tt v) (fun u hu=>by rw [List.mem_singleton] at hu;subst hu;exact h1) h63 hbytes h'.ow.size fun A' c' w' h2 h3 h4=>
  hk A' c' w' (h'.turn i hi (r':=⟨A',n+1,c',e,xs++[v]⟩) h3 h2 h4)
end
theorem z0cx:(Tryz.prog.info? 22).map (fun i=>(i.zero,i.size,i.bytes))=some (some (.slice none 0 0),1,24):=by kernel_rfl
theorem z9br:Elem Tryz.prog 62 22 (.slice none 0 0) 24:=by
 obtain ⟨i0,hi,hz0,hz1,hz2⟩:=info_parts z0cx
 exact ⟨Tryz.underlying62,rfl,i0,hi,hz0,hz1,hz2⟩
def GrR (w:World)(gs:List (Sp×List Nat))(en:Ending)(w':World):Prop:=
 ∃ (Ao:Option Addr) (co:Nat) (inn:List Rw),en=.returned (.slice Ao inn.length co)/\inn.map (·.vs)=gs.map (fun p=>z0c p.2)/\(∀ r∈inn,r.e=3)/\Ow w w' none [] [] (z2g Ao co inn :: inn)
end Go.Proofs.YtpmofjomadibmaaGreatDoor
