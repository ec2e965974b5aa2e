/- Wn -/
import Derived.Test.YtpmofjomadibmaaGreatDoorU10
import Derived.BigRegion
namespace Go.Proofs.YtpmofjomadibmaaGreatDoor
set_option maxHeartbeats 4000000
open Go.RowKit
set_option linter.unusedVariables false
set_option maxRecDepth 100000
namespace Wo
set_option maxHeartbeats 4000000
theorem back_limb (u z k s:Nat)(hu:u<18446744073709551616)(hk:k<=64)(hs:s=2 ^ (64 - k)):(u+18446744073709551616*z) / 2 ^ k % 18446744073709551616=u / 2 ^ k+(z*s) % 18446744073709551616/\u / 2 ^ k<s:=by
 have hp:0<2 ^ k:=Nat.pow_pos (by omega)
 have hB:18446744073709551616=s*2 ^ k:=by
  rw [hs,<- Nat.pow_add,Nat.sub_add_cancel hk]
 have h1:u / 2 ^ k<s:=by rw [Nat.div_lt_iff_lt_mul hp,<- hB];exact hu
 have h2:(u+18446744073709551616*z) / 2 ^ k=u / 2 ^ k+s*z:=by
  conv=>lhs;rw [show u+18446744073709551616*z=u+2 ^ k*(s*z) by rw [<- zqs,Nat.mul_comm (2 ^ k) s,<- hB]]
  rw [Nat.add_mul_div_left _ _ hp]
 refine ⟨?_,h1⟩
 rw [h2,Nat.mul_comm z s];have h3:(s*z) % 18446744073709551616=s*(z % 2 ^ k):=by
  conv=>lhs;rw [hB,Nat.mul_mod_mul_left]
 have h4:z % 2 ^ k+1<=2 ^ k:=Nat.mod_lt _ hp
 have h5:s*(z % 2 ^ k+1)<=s*2 ^ k:=Nat.mul_le_mul_left _ h4
 rw [<- hB,zqt,Nat.mul_one] at h5;rw [Nat.add_mod,h3,Nat.mod_eq_of_lt (a:=u / 2 ^ k) (by omega),Nat.mod_eq_of_lt (by omega)]
theorem back_step (U o:List Nat)(i k u d Z:Nat)(ho:o.length=i)(hu:U[i]?=some u)(huB:u<18446744073709551616)(h:val o+18446744073709551616 ^ i*(val (U.drop i) / 2 ^ k)=Z)(hd:d=val (U.drop i) / 2 ^ k % 18446744073709551616):
  val (o++[d])+18446744073709551616 ^ (i+1)*(val (U.drop (i+1)) / 2 ^ k)=Z:=by
 have e:val (U.drop (i+1)) / 2 ^ k=val (U.drop i) / 2 ^ k / 18446744073709551616:=by
  rw [val_drop_cons U i u hu];have e0:(u+18446744073709551616*val (U.drop (i+1))) / 2 ^ k / 18446744073709551616=(u+18446744073709551616*val (U.drop (i+1))) / 18446744073709551616 / 2 ^ k:=by rw [Nat.div_div_eq_div_mul,Nat.div_div_eq_div_mul,Nat.mul_comm (2 ^ k)]
  rw [e0,Nat.add_mul_div_left _ _ (by omega),Nat.div_eq_of_lt huB,Nat.zero_add]
 have h1:=split24 (18446744073709551616 ^ i) (val (U.drop i) / 2 ^ k)
 rw [val_snoc,ho,e,hd,Nat.pow_succ,<- h];omega
theorem back_or (u u1 r k s:Nat)(hu:u<18446744073709551616)(h1:u1<18446744073709551616)(hk:k<=64)(hs:s=2 ^ (64 - k)):((u1+18446744073709551616*r)*s) % 18446744073709551616=(u1*s) % 18446744073709551616/\(u / 2 ^ k ||| (u1*s) % 18446744073709551616)=u / 2 ^ k+(u1*s) % 18446744073709551616:=by
 have hp:0<2 ^ k:=Nat.pow_pos (by omega)
 have hB:18446744073709551616=s*2 ^ k:=by
  rw [hs,<- Nat.pow_add,Nat.sub_add_cancel hk]
 have h2:u / 2 ^ k<s:=by rw [Nat.div_lt_iff_lt_mul hp,<- hB];exact hu
 refine ⟨by rw [Nat.add_mul,zqs,Nat.add_mul_mod_self_left],?_⟩
 have h3:(u1*s) % 18446744073709551616=s*(u1 % 2 ^ k):=by
  rw [Nat.mul_comm u1 s];conv=>lhs;rw [hB,Nat.mul_mod_mul_left]
 rw [h3,Nat.or_comm,hs,<- Nat.two_pow_add_eq_or_of_lt (by rw [<- hs];exact h2),Nat.add_comm]
theorem val_drop (l:List Nat)(hl:Lim l)(d:Nat)(hd:d<=l.length):val (l.drop d)=val l / 2 ^ (64*d):=by
 have e1:=val_split l d hd
 have e2:=val_lt (hl.take d)
 rw [zqw,Nat.min_eq_left hd] at e2;have e3:(18446744073709551616:Nat) ^ d=2 ^ (64*d):=by rw [Nat.pow_mul]
 rw [e3] at e1 e2;rw [e1,Nat.add_mul_div_left _ _ (Nat.pow_pos (by omega)),Nat.div_eq_of_lt e2,Nat.zero_add]
end Wo
theorem z5f {W:World}{base g o n c:Nat}{l:List Nat}(h:Wn W base g o n c l):Wn W base g o (Wo.tl l n) c (Wo.dig (Wo.val l)):=by
 have h1:=h.take (k:=Wo.tl l n) (Wo.tl_le l n)
 have e:=Wo.trim_dig h.lim
 unfold Wo.trim at e;rw [h.len] at e;rwa [e] at h1
def NRi (w:World)(base g o n c r Y:Nat)(l:List Nat)(v:Value)(wr:World):Prop:=
 ∃ (i:Nat) (p:List Nat),i<=n/\v=.int .i64 i/\Hid (p.length=i/\Wo.Lim p/\Wo.val p+18446744073709551616 ^ i*(Wo.val (l.drop i) / 2 ^ r)=Y)/\Wn wr base g o n c (p++l.drop i)/\w.grownBy wr (some g)
theorem z4v (base g o n c:Nat)(l:List Nat)(z:Nat)(w:World)(h:Wn w base g o n c l)(hz:z<64*n):
  Calls Tryz.prog 140 #[.slice (some ⟨g,o,none⟩) n c,.int .i64 z] w fun e w'=>∃ (o' n' c':Nat),e=.returned (.slice (some ⟨g,o',none⟩) n' c')/\Wn w' base g o' n' c' (Wo.dig (Wo.val l / 2 ^ z))/\w.grownBy w' (some g):=by
 have hnc:=h.cap;have hnb:=h.big;have hcb:=h.cbig;obtain ⟨d,hd⟩:∃ d,z / 64=d:=⟨_,rfl⟩
 obtain ⟨r,hr⟩:∃ r,z % 64=r:=⟨_,rfl⟩
 have hdI:(z:Int) / 64=(d:Int):=by omega
 have hrI:(z:Int) % 64=(r:Int):=by omega
 have hdn:d<n:=by omega
 have hr64:r<64:=by omega
 have hz2:z=64*d+r:=by omega
 have HV:Hid (Wo.val (l.drop d) / 2 ^ r=Wo.val l / 2 ^ z):=by
  unfold Hid;rw [Wo.val_drop l h.lim d (by rw [h.len];omega),Nat.div_div_eq_div_mul,<- Nat.pow_add,<- hz2]
 have H:=zh (h.drop (k:=d) (by omega))
 obtain ⟨l1,hl1⟩:∃ l1,l.drop d=l1:=⟨_,rfl⟩
 rw [hl1] at H HV;clear h hl1 hd hr hz2;have hd1:(d:Int)<=(n:Int):=by omega
 have hd2:(d:Int)<c:=by omega
 have HNn:=zh hnc;rcases zqh r with hr0|hr0
 ·have hdr:decide (0<r)=false:=zn (by omega)
  have HV2:Hid (Wo.val l1=Wo.val l / 2 ^ z):=by
   have:=HV.out
   rw [hr0,Nat.pow_zero,Nat.div_one] at this;exact this
  clear hr0;go_enter Tryz.func140,Tryz.ntmps140
  go_wp2_with fail;refine (z3o base g _ _ _ l1 _ H.out).mono ?_
  rintro e w1 ⟨rfl,rfl⟩;go_wp2_with fail;go_ret;refine ⟨_,_,_,rfl,?_,World.grownBy.refl w _⟩
  rw [<- HV2.out];exact z5f H.out
 ·have hdr:decide (0<r)=true:=zt hr0
  go_enter Tryz.func140,Tryz.ntmps140
  go_wp2_with fail;rw [hrI];obtain ⟨n1,hn1⟩:∃ n1,n - d=n1:=⟨_,rfl⟩
  obtain ⟨o1,ho1⟩:∃ o1,o+d=o1:=⟨_,rfl⟩
  obtain ⟨c1,hc1⟩:∃ c1,c - d=c1:=⟨_,rfl⟩
  rw [hn1,ho1,hc1] at H;rw [hn1,ho1,hc1];have hb1:n1<=1000:=by omega
  clear hdI hrI hd1 hd2 hn1 ho1 hc1 hdn hz;go_loopw [16] (fun v wr=>NRi w base g o1 n1 c1 r (Wo.val l / 2 ^ z) l1 v wr) (fun v _=>n1 - (intOf v).toNat)
  case atStart=>exact ⟨0,[],zqr _,rfl,⟨rfl,Wo.Lim.nil,by simp [Wo.val];exact HV.out⟩,by rw [zqc,List.drop_zero];exact H.out,World.grownBy.refl w _⟩
  case round=>
   obtain ⟨i,p,hi,rfl,HP,hW,hg⟩:=hrel;have HW:=zh hW;have HG:=zh hg;rcases zqi i n1 with hin|hin
   ·obtain ⟨x,hx⟩:=z0m l1 i (by rw [H.out.len];exact hin)
    have hxp:=Wo.get_mid p l1 i x HP.out.1 hx
    have hcx:=hW.cel _ _ hxp
    have hfx:=hW.frz i hin
    have hxl:=H.out.lim.at hx
    obtain ⟨xq,hxq⟩:∃ xq,x / 2 ^ r=xq:=⟨_,rfl⟩
    have HXq:Hid ((x:Int) / 2 ^ r=(xq:Int)):=by unfold Hid;rw [<- hxq];simp
    have hxq2:xq<18446744073709551616:=zqu (by rw [<- hxq];exact Nat.div_le_self _ _) hxl
    have HW1:=zh (hW.put i xq hin hxq2)
    have HG1:=zh (z0j hg (z0f wr ⟨g,o1+i,none⟩ (.int .u64 (xq:Int))))
    rcases zqi (i+1) n1 with hin2|hin2
    ·obtain ⟨y,hy⟩:=z0m l1 (i+1) (by rw [H.out.len];exact hin2)
     have hyl:=H.out.lim.at hy
     have hlt:i<(p++l1.drop i).length:=by rw [hW.len];exact hin
     have hc1':=HW1.out.cel i xq (by rw [List.getElem?_set_self hlt])
     have hc2':=HW1.out.cel (i+1) y (by
      rw [zqf (by omega),zqo (by have:=HP.out.1;omega),HP.out.1,show i+1 - i=1 by omega,List.getElem?_drop]
      exact hy)
     have hf1':=HW1.out.frz i hin
     have hxd:=HXq.out;have hsx:(i:Int)+1<(n1:Int):=by omega
     obtain ⟨w2,hw2⟩:∃ w2,wr.setCell ⟨g,o1+i,none⟩ (.int .u64 (xq:Int))=w2:=⟨_,rfl⟩
     have HWq:Hid (wr.setCell ⟨g,o1+i,none⟩ (.int .u64 (xq:Int))=w2):=hw2
     rw [hw2] at HW1 HG1 hc1' hc2' hf1';obtain ⟨dd,hdd⟩:∃ dd,x / 2 ^ r+(y*2 ^ (64 - r)) % 18446744073709551616=dd:=⟨_,rfl⟩
     have hbo:=Wo.back_or x y (Wo.val (l1.drop (i+2))) r _ hxl hyl (by omega) rfl
     have hbl:=Wo.back_limb x (Wo.val (l1.drop (i+1))) r _ hxl (by omega) rfl
     have hvd:Wo.val (l1.drop (i+1))=y+18446744073709551616*Wo.val (l1.drop (i+2)):=Wo.val_drop_cons l1 (i+1) y hy
     have hde:dd=Wo.val (l1.drop i) / 2 ^ r % 18446744073709551616:=by
      rw [Wo.val_drop_cons l1 i x hx,hbl.1,hvd,hbo.1,hdd]
     have HVal:Hid (bits .or .u64 (xq:Int) (IntKind.u64.wrap ((y:Int)*2 ^ (64 - r)))=(dd:Int)):=by
      unfold Hid;have e1:(y:Int)*2 ^ (64 - r)=((y*2 ^ (64 - r):Nat):Int):=by simp
      obtain ⟨pw,hpw⟩:∃ pw,y*2 ^ (64 - r)=pw:=⟨_,rfl⟩
      rw [hpw] at e1 hbo hdd;rw [hxq] at hbo hdd;have e2:(pw:Int) % 18446744073709551616=((pw % 18446744073709551616:Nat):Int):=rfl
      rw [e1,IntKind.wrap_u64,e2,u64_or_nat _ _ hxq2 (Nat.mod_lt _ (by omega)),hbo.2,hdd]
     have hdl:dd<18446744073709551616:=by rw [hde];exact Nat.mod_lt _ (by omega)
     have HST:=zh (Wo.back_step l1 p i r x dd _ HP.out.1 hx hxl HP.out.2.2 hde)
     have HSet:Hid (((p++l1.drop i).set i xq).set i dd=(p++[dd])++l1.drop (i+1)):=by unfold Hid;rw [List.set_set];exact Wo.set_mid p l1 i dd HP.out.1 (by rw [H.out.len];exact hin)
     have HW2:=zh ((HW1.out.put i dd hin hdl).drewN 1)
     have HG2:Hid (w.grownBy (w2.setCell ⟨g,o1+i,none⟩ (.int .u64 (dd:Int))).drew (some g)):=z1z (z0j HG1.out (z0f w2 ⟨g,o1+i,none⟩ (.int .u64 (dd:Int))))
     have HLr:=zh (HP.out.2.1.append (Wo.Lim.one hdl))
     have HLl:Hid ((p++[dd]).length=i+1):=by unfold Hid;rw [zqm,HP.out.1];rfl
     rw [HSet.out] at HW2;clear hW hg hx hxp hy hxq hw2 hlt hdd hbo hbl hvd hde hdl;go_upto_region 8 with (fail)
     rw [HWq.out];clear hcx hfx hxd;go_wp2_with fail;go_region
     all_goals
      rw [HVal.out];clear hc1' hc2' hf1';go_wp2_with fail;go_roundw
      case rel=>exact ⟨i+1,p++[dd],by omega,by go_num,⟨HLl.out,HLr.out,HST.out⟩,HW2.out,HG2.out⟩
      case measure=>simp [intOf];omega
    ·have hin3:i+1=n1:=by omega
     have hz0:Wo.val (l1.drop (i+1))=0:=by rw [List.drop_of_length_le (by rw [H.out.len];omega)];rfl
     have hbl:=Wo.back_limb x (Wo.val (l1.drop (i+1))) r _ hxl (by omega) rfl
     have hde:xq=Wo.val (l1.drop i) / 2 ^ r % 18446744073709551616:=by
      rw [Wo.val_drop_cons l1 i x hx,hbl.1,hz0,Nat.zero_mul,Nat.zero_mod,Nat.add_zero,hxq]
     have HST:=zh (Wo.back_step l1 p i r x xq _ HP.out.1 hx hxl HP.out.2.2 hde)
     have HSet:Hid ((p++l1.drop i).set i xq=(p++[xq])++l1.drop (i+1)):=Wo.set_mid p l1 i xq HP.out.1 (by rw [H.out.len];exact hin)
     have HLr:=zh (HP.out.2.1.append (Wo.Lim.one hxq2))
     have HLl:Hid ((p++[xq]).length=i+1):=by unfold Hid;rw [zqm,HP.out.1];rfl
     rw [HSet.out] at HW1;have hxd:=HXq.out;have hsx:(n1:Int)<=(i:Int)+1:=by omega
     clear hW hg hx hxp hxq hz0 hbl hde hin3;go_wp2_with fail;go_roundw
     case rel=>exact ⟨i+1,p++[xq],by omega,by go_num,⟨HLl.out,HLr.out,HST.out⟩,HW1.out,HG1.out⟩
     case measure=>simp [intOf];omega
   ·have hdk:decide (i<n1)=false:=zn (by omega)
    have hi2:i=n1:=by omega
    have HY:Hid (Wo.val p=Wo.val l / 2 ^ z):=by
     have e:=HP.out.2.2;rw [List.drop_of_length_le (by rw [H.out.len];omega)] at e
     simp [Wo.val] at e
     exact e
    have HW2:Hid (Wn wr base g o1 n1 c1 p):=by
     have e:=HW.out;rw [List.drop_of_length_le (by rw [H.out.len];omega),List.append_nil] at e
     exact e
    clear hW hg HP hi2;go_wp2_with fail;refine (z3o base g _ _ _ p _ HW2.out).mono ?_
    rintro e w1 ⟨rfl,rfl⟩;go_wp2_with fail;go_ret;refine ⟨_,_,_,rfl,?_,HG.out⟩
    rw [<- HY.out];exact z5f HW2.out
namespace Wo
set_option maxHeartbeats 4000000
theorem high_zero (l:List Nat)(q s e:Nat)(hq:l[q]?=some e)(hs:s<=64)(h:val l<18446744073709551616 ^ q*2 ^ s):e<2 ^ s/\val (l.drop (q+1))=0:=by
 have hlen:=z0d hq
 have e1:=val_split l q (by omega)
 rw [val_drop_cons l q e hq] at e1;have hp:0<(18446744073709551616:Nat) ^ q:=Nat.pow_pos (by omega)
 have e2:18446744073709551616 ^ q*(e+18446744073709551616*val (l.drop (q+1)))<18446744073709551616 ^ q*2 ^ s:=by omega
 have e3:=Nat.lt_of_mul_lt_mul_left e2
 have e4:2 ^ s<=2 ^ 64:=Nat.pow_le_pow_right (by omega) hs
 refine ⟨by omega,?_⟩
 rcases zqh (val (l.drop (q+1))) with e5|e5
 ·exact e5
 ·omega
theorem next_zero (l:List Nat)(q f:Nat)(h:val (l.drop q)=0)(hf:l[q]?=some f):f=0:=by
 rw [val_drop_cons l q f hf] at h;omega
theorem or_low (e v s:Nat)(he:e<2 ^ s)(hs:s<=64):(e ||| (v*2 ^ s) % 18446744073709551616)=e+(v*2 ^ s) % 18446744073709551616:=by
 have hB:(18446744073709551616:Nat)=2 ^ s*2 ^ (64 - s):=by rw [<- Nat.pow_add,show s+(64 - s)=64 by omega]
 have h3:(v*2 ^ s) % 18446744073709551616=2 ^ s*(v % 2 ^ (64 - s)):=by
  rw [Nat.mul_comm v];conv=>lhs;rw [hB,Nat.mul_mod_mul_left]
 rw [h3,Nat.or_comm,<- Nat.two_pow_add_eq_or_of_lt he,Nat.add_comm]
theorem div_spill (v s:Nat)(hs:s<=64):v*2 ^ s / 18446744073709551616=v / 2 ^ (64 - s):=by
 have hB:(18446744073709551616:Nat)=2 ^ (64 - s)*2 ^ s:=by rw [<- Nat.pow_add,Nat.sub_add_cancel hs]
 conv=>lhs;rw [hB]
 rw [Nat.mul_div_mul_right _ _ (Nat.pow_pos (by omega))]
theorem put_low (l:List Nat)(q s e v:Nat)(hq:l[q]?=some e):val (l.set q (e+(v*2 ^ s) % 18446744073709551616))=val l+18446744073709551616 ^ q*((v*2 ^ s) % 18446744073709551616):=by
 have h:=val_set l q e (e+(v*2 ^ s) % 18446744073709551616) hq
 rw [zqt] at h;omega
theorem put_high (l:List Nat)(q f:Nat)(hq:l[q]?=some 0):val (l.set q f)=val l+18446744073709551616 ^ q*f:=by
 have h:=val_set l q 0 f hq
 omega
theorem put_both (P t:Nat):P*(t % 18446744073709551616)+P*18446744073709551616*(t / 18446744073709551616)=P*t:=split24 P t
end Wo
theorem z5bf (x s:Nat)(hs:s<=63):x / 2 / 2 ^ (63 - s)=x / 2 ^ (64 - s):=by
 rw [Nat.div_div_eq_div_mul,<- Nat.pow_succ',Nat.succ_eq_add_one,show 63 - s+1=64 - s by omega]
theorem z0ab (w:World)(n:Nat)(hn:n<=1000):Wn (w.alloc (.cells (madeCells #[Value.int .u64 0] n) 139)) w.heap.size w.heap.size 0 n n (List.replicate n 0):=by
 have h:=z4d w 139 (.int .u64 0) n n rfl (zqj _) (by unfold maxLen;omega)
 refine ⟨by simp,zqj _,hn,by omega,⟨zqj _,by simp⟩,fun k x hk=>?_,fun k hk=>by rw [Nat.zero_add];exact h.frozenAt k,Wo.Lim.zeros n⟩
 have hkn:k<n:=by have:=z0d hk;simpa using this
 rw [List.getElem?_replicate,if_pos hkn] at hk;obtain rfl:=zqk hk
 rw [Nat.zero_add];refine (h.cellAt k (by omega)).trans ?_
 rw [List.getElem?_replicate,if_pos hkn];rfl
def NLi (w:World)(base:Nat)(g n N q s:Nat)(l:List Nat)(v:Value)(wr:World):Prop:=
 ∃ (i:Nat) (p:List Nat),i<=n/\v=.int .i64 i/\Hid (Wo.val p=2 ^ (64*q+s)*Wo.val (l.take i))/\Wn wr base g 0 N N p/\Below base w wr
theorem z7bf (l:List Nat)(hl:Wo.Lim l)(i q s V:Nat)(hi:i<=l.length)(hV:V=2 ^ (64*q+s)*Wo.val (l.take i)):V<18446744073709551616 ^ (i+q)*2 ^ s:=by
 have e1:=Wo.val_lt (hl.take i)
 rw [zqw,Nat.min_eq_left hi] at e1;have e2:(18446744073709551616:Nat) ^ q=2 ^ (64*q):=by rw [Nat.pow_mul]
 rw [hV,Nat.pow_add 18446744073709551616,e2,Nat.pow_add,zqs,zqs,Nat.mul_left_comm];refine Nat.lt_of_lt_of_eq (Nat.mul_lt_mul_of_pos_left (Nat.mul_lt_mul_of_pos_left e1 (Nat.pow_pos (by omega))) (Nat.pow_pos (by omega))) ?_
 rw [Nat.mul_left_comm,Nat.mul_comm (2 ^ s),Nat.mul_left_comm,Nat.mul_left_comm]
theorem z0ai (base g o n c:Nat)(l:List Nat)(z:Nat)(w:World)(h:Wn w base g o n c l)(hz:z<=10000)(hn:n<=500):
  Calls Tryz.prog 142 #[.slice (some ⟨g,o,none⟩) n c,.int .i64 z] w fun e w'=>∃ (g' o' n' c':Nat),e=.returned (.slice (some ⟨g',o',none⟩) n' c')/\Wn w' w.heap.size g' o' n' c' (Wo.dig (Wo.val l*2 ^ z))/\Below w.heap.size w w':=by
 obtain ⟨i0,hi,hz0,hz1,hz2⟩:=info_parts z9bi
 obtain ⟨q,hq⟩:∃ q,z / 64=q:=⟨_,rfl⟩
 obtain ⟨s,hs⟩:∃ s,z % 64=s:=⟨_,rfl⟩
 have hqI:(z:Int) / 64=(q:Int):=by omega
 have hsI:(z:Int) % 64=(s:Int):=by omega
 have hs64:s<=63:=by omega
 have HZ:Hid (z=64*q+s):=by unfold Hid;omega
 have hq200:q<=200:=by omega
 obtain ⟨N,hN⟩:∃ N,q+n+1=N:=⟨_,rfl⟩
 have hNI:(q:Int)+(n:Int)+1=(N:Int):=by omega
 have hmk:=z1h (P:=Tryz.prog) 144 139 i0 (.int .u64 0) Tryz.underlying144 hi hz0 hz1 .i64 .i64 (N:Int) (N:Int) N N (by omega) (by omega) (zqj _) (by rw [hz2];omega) (by omega)
 have HW0:=zh (z0ab w N (by omega))
 have HB0:Hid (Below w.heap.size w (w.alloc (.cells (madeCells #[Value.int .u64 0] N) 139))):=z0i _ _
 have H:=zh h;have HNe:=zh hN;have hN1:q+n+1<=N:=by omega
 have hN2:N<=1000:=by omega
 clear h hq hs hz hN;go_enter Tryz.func142,Tryz.ntmps142
 go_wp2_with fail;clear hmk;go_loopw [17] (fun v wr=>NLi w w.heap.size w.heap.size n N q s l v wr) (fun v _=>n - (intOf v).toNat)
 case atStart=>exact ⟨0,List.replicate N 0,zqr _,rfl,by unfold Hid;rw [Wo.val_zeros];simp [Wo.val],HW0.out,HB0.out⟩
 case round=>
  clear HW0 HB0;obtain ⟨i,p,hi',rfl,HP,hW,hb⟩:=hrel;rcases zqi i n with hin|hin
  ·obtain ⟨x,hx⟩:=z0m l i (by rw [H.out.len];exact hin)
   have hcx:=(H.out.below hb).cel _ _ hx
   have hxl:=H.out.lim.at hx
   obtain ⟨e,he⟩:=z0m p (i+q) (by rw [hW.len];omega)
   obtain ⟨f,hf⟩:=z0m p (i+q+1) (by rw [hW.len];omega)
   have hvlt:=z7bf l H.out.lim i q s _ (by rw [H.out.len];omega) HP.out
   obtain ⟨hes,hz⟩:=Wo.high_zero p (i+q) s e he (by omega) hvlt
   have hf0:=Wo.next_zero p (i+q+1) f hz hf
   have hce:=hW.cel _ _ he
   have hcf:=hW.cel _ _ hf
   have hfe:=hW.frz (i+q) (by omega)
   have hff:=hW.frz (i+q+1) (by omega)
   rw [Nat.zero_add] at hce hcf hfe hff;obtain ⟨lo,hlo⟩:∃ lo,(x*2 ^ s) % 18446744073709551616=lo:=⟨_,rfl⟩
   obtain ⟨hi2,hhi⟩:∃ hi,x / 2 ^ (64 - s)=hi:=⟨_,rfl⟩
   have hlo2:lo<18446744073709551616:=by rw [<- hlo];exact Nat.mod_lt _ (by omega)
   have hhi2:hi2<18446744073709551616:=zqu (by rw [<- hhi];exact Nat.div_le_self _ _) hxl
   have hel:e<18446744073709551616:=hW.lim.at he
   have hor:=Wo.or_low e x s hes (by omega)
   rw [hlo] at hor;have helo:e+lo<18446744073709551616:=by
    rw [<- hor];exact Nat.or_lt_two_pow (n:=64) hel hlo2
   have HShl:Hid (IntKind.u64.wrap ((x:Int)*2 ^ s)=(lo:Int)):=by
    unfold Hid;have e1:(x:Int)*2 ^ s=((x*2 ^ s:Nat):Int):=by simp
    rw [e1,IntKind.wrap_u64,<- hlo];rfl
   have HOr1:Hid (bits .or .u64 (e:Int) (lo:Int)=((e+lo:Nat):Int)):=by unfold Hid;rw [u64_or_nat _ _ hel hlo2,hor]
   have HShr:Hid ((x:Int) / 2 / 2 ^ (63 - s)=(hi2:Int)):=by
    unfold Hid;rw [<- hhi,<- z5bf x s hs64];simp
   have HOr2:Hid (bits .or .u64 (f:Int) (hi2:Int)=(hi2:Int)):=by unfold Hid;rw [hf0,u64_or_nat _ _ (by omega) hhi2,Nat.zero_or]
   obtain ⟨e2,he2⟩:∃ e2,e+lo=e2:=⟨_,rfl⟩
   have hW1:=hW.put (i+q) e2 (by omega) (by omega)
   have hW2:=(hW1.drewN 1).put (i+q+1) hi2 (by omega) hhi2
   simp only [Nat.zero_add] at hW1 hW2;rw [he2] at HOr1;have HVn:Hid (Wo.val ((p.set (i+q) e2).set (i+q+1) hi2)=2 ^ (64*q+s)*Wo.val (l.take (i+1))):=by
    unfold Hid;have k1:=Wo.put_low p (i+q) s e x he
    rw [hlo,he2] at k1;have k2:=Wo.put_high (p.set (i+q) e2) (i+q+1) hi2 (by rw [zqf (by omega),hf,hf0])
    have k3:=Wo.put_both (18446744073709551616 ^ (i+q)) (x*2 ^ s)
    rw [hlo,Wo.div_spill x s (by omega),hhi] at k3
    rw [k2,k1,Wo.val_take_succ l i x hx,HP.out,zqt,Nat.pow_succ];have k4:2 ^ (64*q+s)*(18446744073709551616 ^ i*x)=18446744073709551616 ^ (i+q)*(x*2 ^ s):=by
     have e2:(18446744073709551616:Nat) ^ q=2 ^ (64*q):=by rw [Nat.pow_mul]
     rw [Nat.pow_add 18446744073709551616,e2,Nat.pow_add];generalize 2 ^ (64*q)=a1
     generalize 2 ^ s=a2
     generalize 18446744073709551616 ^ i=a3
     rw [zqs,zqs,Nat.mul_left_comm a2,<- zqs a1 a3,Nat.mul_comm a1 a3,zqs a3 a1,Nat.mul_comm a2 x]
    omega
   have hcf2:=hW1.cel (i+q+1) f (by rw [zqf (by omega)];exact hf)
   have hff2:=hW1.frz (i+q+1) (by omega)
   rw [Nat.zero_add] at hcf2 hff2;obtain ⟨w2,hw2⟩:∃ w2,(wr.setCell ⟨w.heap.size,i+q,none⟩ (.int .u64 (e2:Int))).drew=w2:=⟨_,rfl⟩
   have HCf:Hid (w2.cell? ⟨w.heap.size,i+q+1,none⟩=some (.int .u64 (f:Int))/\w2.frozen? ⟨w.heap.size,i+q+1,none⟩=false):=by rw [<- hw2];exact ⟨hcf2,hff2⟩
   have HWq:=zh hw2;have HW2:=zh (hW2.drewN 1)
   have HB2:Hid (Below w.heap.size w ((wr.setCell ⟨w.heap.size,i+q,none⟩ (.int .u64 (e2:Int))).drew.setCell ⟨w.heap.size,i+q+1,none⟩ (.int .u64 (hi2:Int))).drew):=(((hb.setCell (p:=⟨w.heap.size,i+q,none⟩) (zqj _) _).drew).setCell (p:=⟨w.heap.size,i+q+1,none⟩) (zqj _) _).drew
   have HW2':Hid (Wn (w2.setCell ⟨w.heap.size,i+q+1,none⟩ (.int .u64 (hi2:Int))).drew w.heap.size w.heap.size 0 N N ((p.set (i+q) e2).set (i+q+1) hi2)):=by rw [<- hw2];exact HW2.out
   rw [hw2] at HB2;clear hx he hf hvlt hes hz hf0 hlo hhi hor hW1 hW2 hb hW helo he2 hlo2 hhi2 hel hcf2 hff2 hw2 HW2;have hj1:(i:Int)+(q:Int)<N:=by omega
   have hj2:(i:Int)+(q:Int)+1<(N:Int):=by omega
   have hj3:((i:Int)+(q:Int)).toNat=i+q:=by omega
   have hj4:((i:Int)+(q:Int)+1).toNat=i+q+1:=by omega
   go_wp2_with fail;go_region
   all_goals
    rw [HShl.out,HOr1.out,HWq.out];have hcg:=HCf.out.1;have hfg:=HCf.out.2;clear hce hcf hfe hff hcx;go_wp2_with fail;go_region
    all_goals
     rw [HShr.out,HOr2.out];clear hcg hfg;go_wp2_with fail;go_roundw
     case rel=>exact ⟨i+1,_,by omega,by go_num,HVn.out,HW2'.out,HB2.out⟩
     case measure=>simp [intOf];omega
  ·have hdk:decide (i<n)=false:=zn (by omega)
   have HV:Hid (Wo.val p=Wo.val l*2 ^ z):=by
    unfold Hid;rw [HP.out,HZ.out,zqp (by rw [H.out.len];omega),Nat.mul_comm]
   have HW:=zh hW;have HB:=zh hb;clear hW hb hin;go_wp2_with fail;refine (z3o w.heap.size _ _ _ _ p _ HW.out).mono ?_
   rintro e w1 ⟨rfl,rfl⟩;go_wp2_with fail;go_ret;refine ⟨_,_,_,_,rfl,?_,HB.out⟩
   rw [<- HV.out];exact z5f HW.out
def NPk (w:World)(base:Nat)(g n N:Nat)(l:List Nat)(v:Value)(wr:World):Prop:=
 ∃ (i:Nat) (p:List Nat),i<=n/\v=.int .i64 i/\Hid (Wo.val p=Na.val (l.take i))/\Wn wr base g 0 N N p/\Below base w wr
theorem z6bo (l:List Nat)(hl:Na.Lim l)(i q s V:Nat)(hi:i<=l.length)(hqs:24*i=64*q+s)(hV:V=Na.val (l.take i)):V<18446744073709551616 ^ q*2 ^ s:=by
 have e1:=Na.val_lt (hl.take i)
 rw [zqw,Nat.min_eq_left hi,Na.pow24',hqs,Nat.pow_add] at e1;have e2:(18446744073709551616:Nat) ^ q=2 ^ (64*q):=by rw [Nat.pow_mul]
 rw [hV,e2];exact e1
theorem z0ah (A:Option Addr)(n c:Nat)(X:List Nat)(w:World)(hn:X.length=n)(hs:Sl w w.heap.size A (z0c X))(hX:Na.Lim X)(hl:n<=500)(hn0:0<n):
  Calls Tryz.prog 121 #[.slice A n c] w fun e w'=>∃ (g' N:Nat) (p:List Nat),e=.returned (.slice (some ⟨g',0,none⟩) N N)/\Wn w' w.heap.size g' 0 N N p/\Wo.val p=Na.val X/\64*N<=24*n+63/\Below w.heap.size w w':=by
 obtain ⟨i0,hi,hz0,hz1,hz2⟩:=info_parts z9bi
 obtain ⟨N,hN⟩:∃ N,(24*n+63) / 64=N:=⟨_,rfl⟩
 have hNI:((n:Int)*24+63) / 64=(N:Int):=by omega
 have hN1:24*n<=64*N:=by omega
 have hN2:N<=200:=by omega
 have HN3:Hid (64*N<=24*n+63):=by unfold Hid;omega
 have hmk:=z1h (P:=Tryz.prog) 144 139 i0 (.int .u64 0) Tryz.underlying144 hi hz0 hz1 .i64 .i64 (N:Int) (N:Int) N N (by omega) (by omega) (zqj _) (by rw [hz2];omega) (by omega)
 have HW0:=zh (z0ab w N (by omega))
 have HB0:Hid (Below w.heap.size w (w.alloc (.cells (madeCells #[Value.int .u64 0] N) 139))):=z0i _ _
 have HS:=zh hs;have HNx:=zh hn;have HX:=zh hX;clear hs hn hX hN hn0;go_enter Tryz.func121,Tryz.ntmps121
 go_wp2_with fail;clear hmk;go_loopw [15] (fun v wr=>NPk w w.heap.size w.heap.size n N X v wr) (fun v _=>n - (intOf v).toNat)
 case atStart=>exact ⟨0,List.replicate N 0,zqr _,rfl,by unfold Hid;rw [Wo.val_zeros];simp [Na.val],HW0.out,HB0.out⟩
 case round=>
  clear HW0 HB0;obtain ⟨i,p,hi',rfl,HP,hW,hb⟩:=hrel;rcases zqi i n with hin|hin
  ·obtain ⟨x,hx⟩:=z0m X i (by rw [HNx.out];exact hin)
   obtain ⟨ad,rfl,_,hcx⟩:=(HS.out.below hb).nat hx
   have hxl:=HX.out.at hx
   obtain ⟨q,hq⟩:∃ q,24*i / 64=q:=⟨_,rfl⟩
   obtain ⟨s,hs⟩:∃ s,24*i % 64=s:=⟨_,rfl⟩
   have hqs:24*i=64*q+s:=by omega
   have hqI:(i:Int)*24 / 64=(q:Int):=by omega
   have hsI:(i:Int)*24 % 64=(s:Int):=by omega
   have hs63:s<=63:=by omega
   have hqN:q<N:=by omega
   obtain ⟨e,he⟩:=z0m p q (by rw [hW.len];omega)
   have hvlt:=z6bo X HX.out i q s _ (by rw [HNx.out];omega) hqs HP.out
   obtain ⟨hes,hz⟩:=Wo.high_zero p q s e he (by omega) hvlt
   have hce:=hW.cel _ _ he
   have hfe:=hW.frz q hqN
   rw [Nat.zero_add] at hce hfe;obtain ⟨lo,hlo⟩:∃ lo,(x*2 ^ s) % 18446744073709551616=lo:=⟨_,rfl⟩
   have hlo2:lo<18446744073709551616:=by rw [<- hlo];exact Nat.mod_lt _ (by omega)
   have hel:e<18446744073709551616:=hW.lim.at he
   have hor:=Wo.or_low e x s hes (by omega)
   rw [hlo] at hor;have helo:e+lo<18446744073709551616:=by
    rw [<- hor];exact Nat.or_lt_two_pow (n:=64) hel hlo2
   have HShl:Hid (IntKind.u64.wrap ((x:Int)*2 ^ s)=(lo:Int)):=by
    unfold Hid;have e1:(x:Int)*2 ^ s=((x*2 ^ s:Nat):Int):=by simp
    rw [e1,IntKind.wrap_u64,<- hlo];rfl
   have HOr1:Hid (bits .or .u64 (e:Int) (lo:Int)=((e+lo:Nat):Int)):=by unfold Hid;rw [u64_or_nat _ _ hel hlo2,hor]
   obtain ⟨e2,he2⟩:∃ e2,e+lo=e2:=⟨_,rfl⟩
   have hW1:=hW.put q e2 hqN (by omega)
   simp only [Nat.zero_add] at hW1;rw [he2] at HOr1;have k1:=Wo.put_low p q s e x he
   rw [hlo,he2] at k1;have k3:=Wo.put_both (18446744073709551616 ^ q) (x*2 ^ s)
   rw [hlo,Wo.div_spill x s (by omega)] at k3
   have k4:Na.val (X.take (i+1))=Na.val (X.take i)+18446744073709551616 ^ q*(x*2 ^ s):=by
    rw [Na.val_take_succ X i x hx,Na.pow24',hqs,Nat.pow_add];have e2:(18446744073709551616:Nat) ^ q=2 ^ (64*q):=by rw [Nat.pow_mul]
    rw [e2,zqs,Nat.mul_comm (2 ^ s) x]
   have HB1:Hid (Below w.heap.size w (wr.setCell ⟨w.heap.size,q,none⟩ (.int .u64 (e2:Int))).drew):=(hb.setCell (p:=⟨w.heap.size,q,none⟩) (zqj _) _).drew
   have hj1:(q:Int)<N:=by omega
   have HW1:=zh (hW1.drewN 1)
   rcases zqi 40 s with h40|h40
   ·obtain ⟨f,hf⟩:=z0m p (q+1) (by rw [hW.len];omega)
    have hf0:=Wo.next_zero p (q+1) f hz hf
    obtain ⟨hi2,hhi⟩:∃ hi,x / 2 ^ (64 - s)=hi:=⟨_,rfl⟩
    have hhi2:hi2<18446744073709551616:=zqu (by rw [<- hhi];exact Nat.div_le_self _ _) (by omega)
    have HShr:Hid ((x:Int) / 2 ^ (64 - s)=(hi2:Int)):=by unfold Hid;rw [<- hhi];simp
    have HOr2:Hid (bits .or .u64 (f:Int) (hi2:Int)=(hi2:Int)):=by unfold Hid;rw [hf0,u64_or_nat _ _ (by omega) hhi2,Nat.zero_or]
    have hcf2:=hW1.cel (q+1) f (by rw [zqf (by omega)];exact hf)
    have hff2:=hW1.frz (q+1) (by omega)
    have hW2:=(hW1.drewN 1).put (q+1) hi2 (by omega) hhi2
    simp only [Nat.zero_add] at hW2 hcf2 hff2;obtain ⟨w2,hw2⟩:∃ w2,(wr.setCell ⟨w.heap.size,q,none⟩ (.int .u64 (e2:Int))).drew=w2:=⟨_,rfl⟩
    have HCf:Hid (w2.cell? ⟨w.heap.size,q+1,none⟩=some (.int .u64 (f:Int))/\w2.frozen? ⟨w.heap.size,q+1,none⟩=false):=by rw [<- hw2];exact ⟨hcf2,hff2⟩
    have HWq:=zh hw2;have HW2':Hid (Wn (w2.setCell ⟨w.heap.size,q+1,none⟩ (.int .u64 (hi2:Int))).drew w.heap.size w.heap.size 0 N N ((p.set q e2).set (q+1) hi2)):=by rw [<- hw2];exact hW2.drewN 1
    have HVn:Hid (Wo.val ((p.set q e2).set (q+1) hi2)=Na.val (X.take (i+1))):=by
     unfold Hid;have k2:=Wo.put_high (p.set q e2) (q+1) hi2 (by rw [zqf (by omega),hf,hf0])
     rw [hhi] at k3;rw [k2,k1,k4,HP.out,Nat.pow_succ];omega
    rw [hw2] at HB1;have HB2:Hid (Below w.heap.size w (w2.setCell ⟨w.heap.size,q+1,none⟩ (.int .u64 (hi2:Int))).drew):=(HB1.out.setCell (p:=⟨w.heap.size,q+1,none⟩) (zqj _) _).drew
    have hq1:(q:Int)+1<(N:Int):=by omega
    have hss:(64:Int)<s+24:=by omega
    clear hx he hf hvlt hes hz hf0 hlo hhi hor hW1 hW2 hb hW helo he2 hlo2 hhi2 hel hcf2 hff2 hw2 k1 k3 k4 HW1 hq hs hqs;go_wp2_with fail;go_region
    all_goals
     rw [HShl.out,HOr1.out,HWq.out];have hcg:=HCf.out.1;have hfg:=HCf.out.2;clear hce hfe hcx;go_wp2_with fail;go_region
     all_goals
      rw [HShr.out,HOr2.out];clear hcg hfg;go_wp2_with fail;go_roundw
      case rel=>exact ⟨i+1,_,by omega,by go_num,HVn.out,HW2'.out,HB2.out⟩
      case measure=>simp [intOf];omega
   ·have HVn:Hid (Wo.val (p.set q e2)=Na.val (X.take (i+1))):=by
     unfold Hid;have e3:x / 2 ^ (64 - s)=0:=by
      have e4:2 ^ 24<=2 ^ (64 - s):=Nat.pow_le_pow_right (by omega) (by omega)
      exact Nat.div_eq_of_lt (by omega)
     rw [e3,Nat.mul_zero,Nat.add_zero] at k3;rw [k1,k4,HP.out,<- k3]
    have hss:(s:Int)+24<=64:=by omega
    clear hx he hvlt hes hz hlo hor hW1 hb hW helo he2 hlo2 hel k1 k3 k4 hq hs hqs;go_wp2_with fail;go_region
    all_goals
     rw [HShl.out,HOr1.out];clear hce hfe hcx;go_wp2_with fail;go_roundw
     case rel=>exact ⟨i+1,_,by omega,by go_num,HVn.out,HW1.out,HB1.out⟩
     case measure=>simp [intOf];omega
  ·have hdk:decide (i<n)=false:=zn (by omega)
   have HV:Hid (Wo.val p=Na.val X):=by
    unfold Hid;rw [HP.out,zqp (by rw [HNx.out];omega)]
   have HW:=zh hW;have HB:=zh hb;clear hW hb hin;go_wp2_with fail;go_ret;exact ⟨_,N,p,rfl,HW.out,HV.out,HN3.out,HB.out⟩
theorem z0be (n:Nat)(h:n<18446744073709551616):bits .and .u64 (n:Int) 16777215=((n % 16777216:Nat):Int):=by
 have:=u64_and_nat n 16777215 h (by omega)
 rw [show ((16777215:Int))=((16777215:Nat):Int) from rfl,this,show (16777215:Nat)=2 ^ 24 - 1 from rfl,Nat.and_two_pow_sub_one_eq_mod]
namespace Wo
set_option maxHeartbeats 4000000
theorem limb_one (l:List Nat)(hl:Lim l)(q s u i:Nat)(hq:l[q]?=some u)(hi:24*i=64*q+s)(hs:s+24<=64):val l / 2 ^ (24*i) % 16777216=u / 2 ^ s % 16777216:=by
 have hlen:=z0d hq
 rw [hi,Nat.pow_add,<- Nat.div_div_eq_div_mul,<- val_drop l hl q (by omega),val_drop_cons l q u hq]
 obtain ⟨v,hv⟩:∃ v,val (l.drop (q+1))=v:=⟨_,rfl⟩
 rw [hv];have e1:18446744073709551616*v=2 ^ s*(2 ^ (64 - s)*v):=by rw [<- zqs,<- Nat.pow_add,show s+(64 - s)=64 by omega]
 have e2:2 ^ (64 - s)=16777216*2 ^ (40 - s):=by rw [show 64 - s=24+(40 - s) by omega,Nat.pow_add]
 rw [e1,Nat.add_mul_div_left _ _ (Nat.pow_pos (by omega)),e2,zqs,Nat.add_mul_mod_self_left]
theorem limb_two (l:List Nat)(hl:Lim l)(q s u y i:Nat)(hq:l[q]?=some u)(hy:l[q+1]?=some y)(hi:24*i=64*q+s)(hs:s<64):val l / 2 ^ (24*i) % 16777216=(u / 2 ^ s+(y*2 ^ (64 - s)) % 18446744073709551616) % 16777216:=by
 have hlen:=z0d hq
 rw [hi,Nat.pow_add,<- Nat.div_div_eq_div_mul,<- val_drop l hl q (by omega),val_drop_cons l q u hq,val_drop_cons l (q+1) y hy]
 obtain ⟨v,hv⟩:∃ v,val (l.drop (q+1+1))=v:=⟨_,rfl⟩
 rw [hv];have e1:18446744073709551616*(y+18446744073709551616*v)=2 ^ s*(2 ^ (64 - s)*(y+18446744073709551616*v)):=by rw [<- zqs,<- Nat.pow_add,show s+(64 - s)=64 by omega]
 rw [e1,Nat.add_mul_div_left _ _ (Nat.pow_pos (by omega)),zqt,Nat.mul_comm _ y]
 obtain ⟨p,hp⟩:∃ p,y*2 ^ (64 - s)=p:=⟨_,rfl⟩
 rw [hp,Nat.mul_left_comm];generalize 2 ^ (64 - s)*v=a
 generalize u / 2 ^ s=b
 omega
theorem limb_end (l:List Nat)(hl:Lim l)(q s u i:Nat)(hq:l[q]?=some u)(hn:l.length=q+1)(hi:24*i=64*q+s):val l / 2 ^ (24*i) % 16777216=u / 2 ^ s % 16777216:=by
 rw [hi,Nat.pow_add,<- Nat.div_div_eq_div_mul,<- val_drop l hl q (by omega),val_drop_cons l q u hq,List.drop_of_length_le (by omega)]
 rfl
end Wo
def NUn (w:World)(l:List Nat)(n:Nat)(a s:Value)(wr:World):Prop:=
 ∃ (i:Nat) (A:Option Addr) (c:Nat) (o:List Nat),24*i<=64*n+23/\a=.int .i64 ((24*i:Nat):Int)/\s=.slice A i c/\Hid (o.length=i/\Na.Lim o/\Na.val o+16777216 ^ i*(Wo.val l / 2 ^ (24*i))=Wo.val l)/\wr.ownsRow w.heap.size 3 1 (.slice A i c) i (z0c o)/\Below w.heap.size w wr
theorem z1aq (base g o n c:Nat)(l:List Nat)(w:World)(h:Wn w base g o n c l)(hn:n<=300):
  Calls Tryz.prog 119 #[.slice (some ⟨g,o,none⟩) n c] w (z4ao w (Na.dig (Wo.val l))):=by
 obtain ⟨i0,hi,hz0,hz1,hz2⟩:=info_parts z4y
 have hnc:=h.cap;have H:=zh h;clear h;go_enter Tryz.func119,Tryz.ntmps119
 go_wp2_with fail;go_loopw [4,3] (fun a s wr=>NUn w l n a s wr) (fun a _ _=>64*n+24 - (intOf a).toNat)
 case atStart=>exact ⟨0,none,0,[],by omega,rfl,rfl,⟨rfl,Na.Lim.nil,by simp [Na.val]⟩,World.ownsRow_nil _ _ _ _,Below.refl _ _⟩
 case round=>
  obtain ⟨i,A,cc,p,hi2,rfl,rfl,HP,ho,hb⟩:=hrel;obtain ⟨at_,hat⟩:∃ at_,24*i=at_:=⟨_,rfl⟩
  rw [hat] at hi2 ⊢
  rcases zqi at_ (64*n) with hin|hin
  ·obtain ⟨q,hq⟩:∃ q,at_ / 64=q:=⟨_,rfl⟩
   obtain ⟨s,hs⟩:∃ s,at_ % 64=s:=⟨_,rfl⟩
   have hqs:24*i=64*q+s:=by omega
   have hqI:(at_:Int) / 64=(q:Int):=by omega
   have hsI:(at_:Int) % 64=(s:Int):=by omega
   have hs63:s<64:=by omega
   have hqn:q<n:=by omega
   obtain ⟨u,hu⟩:=z0m l q (by rw [H.out.len];exact hqn)
   have hcu:=(H.out.below hb).cel _ _ hu
   have hul:=H.out.lim.at hu
   obtain ⟨x,hx⟩:∃ x,u / 2 ^ s=x:=⟨_,rfl⟩
   have hx2:x<18446744073709551616:=zqu (by rw [<- hx];exact Nat.div_le_self _ _) hul
   have HShr:Hid ((u:Int) / 2 ^ s=(x:Int)):=by unfold Hid;rw [<- hx];simp
   have hlt:(at_:Int)<64*(n:Int):=by omega
   have hqi:(q:Int)<n:=by omega
   have HStep:Hid (∀ d,d=Wo.val l / 2 ^ (24*i) % 16777216->Na.val (p++[d])+16777216 ^ (i+1)*(Wo.val l / 2 ^ (24*(i+1)))=Wo.val l):=fun d hd=>by
    have h1:=Na.split24 (16777216 ^ i) (Wo.val l / 2 ^ (24*i))
    rw [Na.val_snoc,HP.out.1,hd,Nat.pow_succ,show 24*(i+1)=24*i+24 by omega,Nat.pow_add 2,show (2:Nat) ^ 24=16777216 from rfl,<- Nat.div_div_eq_div_mul]
    have h2:=HP.out.2.2;omega
   have HO:=zh ho;have HB:=zh hb;have hrow:∀ y,(Value.slice A i cc).ownBlock=some y->w.heap.size<=y:=z1r ho
   have HBW:Hid (w.heap.size<=wr.heap.size):=hb.size
   have hi900:i<=900:=by omega
   have HAt:Hid (24*(i+1)=at_+24):=by unfold Hid;omega
   have HLim:=HP.out.2.1;have HLm:=zh HLim;clear HLim ho hb hat;rcases zqi 40 s with h40|h40
   ·have hss:decide ((64:Int)<s+24)=true:=zt (by omega)
    rcases zqi (q+1) n with hq1|hq1
    ·obtain ⟨y,hy⟩:=z0m l (q+1) (by rw [H.out.len];exact hq1)
     have hcy:=(H.out.below HB.out).cel _ _ hy
     have hyl:=H.out.lim.at hy
     have hq1i:decide ((q:Int)+1<(n:Int))=true:=zt (by omega)
     have hq1j:(q:Int)+1<(n:Int):=by omega
     obtain ⟨lo,hlo⟩:∃ lo,(y*2 ^ (64 - s)) % 18446744073709551616=lo:=⟨_,rfl⟩
     have hlo2:lo<18446744073709551616:=by rw [<- hlo];exact Nat.mod_lt _ (by omega)
     have hxs:x<2 ^ (64 - s):=by
      rw [<- hx,Nat.div_lt_iff_lt_mul (Nat.pow_pos (by omega)),<- Nat.pow_add,Nat.sub_add_cancel (by omega)]
      exact hul
     have hor:=Wo.or_low x y (64 - s) hxs (by omega)
     rw [hlo] at hor;have hxl:x+lo<18446744073709551616:=by rw [<- hor];exact Nat.or_lt_two_pow (n:=64) hx2 hlo2
     obtain ⟨d,hd⟩:∃ d,(x+lo) % 16777216=d:=⟨_,rfl⟩
     have HShl:Hid (IntKind.u64.wrap ((y:Int)*2 ^ (64 - s))=(lo:Int)):=by
      unfold Hid;have e1:(y:Int)*2 ^ (64 - s)=((y*2 ^ (64 - s):Nat):Int):=by simp
      rw [e1,IntKind.wrap_u64,<- hlo];rfl
     obtain ⟨t,htt⟩:∃ t,x+lo=t:=⟨_,rfl⟩
     have HOr:Hid (bits .or .u64 (x:Int) (lo:Int)=(t:Int)):=by unfold Hid;rw [u64_or_nat _ _ hx2 hlo2,hor,htt]
     have HAnd:Hid (bits .and .u64 (t:Int) 16777215=(d:Int)):=by unfold Hid;rw [z0be _ (by omega),<- htt,hd]
     have HD:=zh (HStep.out d (by rw [Wo.limb_two l H.out.lim q s u y i hu hy hqs hs63,hx,hlo,hd]))
     have hd24:d<16777216:=by omega
     clear hu hy hx hlo hxs hor hd htt hqs hq hs hul hyl hx2 hlo2 hxl;have HLr:=zh (HLm.out.append (Na.Lim.one hd24))
     have HLl:Hid ((p++[d]).length=i+1):=by unfold Hid;rw [zqm,HP.out.1];rfl
     have HO3:Hid ((wr.alloc (.cells #[.int .i64 d] 3)).ownsRow w.heap.size 3 1 (.slice A i cc) i (z0c p)):=z0x HO.out _
     have HSl:=zh (z2c wr 3 (.int .i64 d))
     have HM1:Hid (i+1<=maxLen/\(i+1)*8<=140737488355328):=⟨by unfold maxLen;omega,by omega⟩
     have HM3:Hid (w.heap.size<=(wr.alloc (.cells #[.int .i64 d] 3)).heap.size):=by have:=HBW.out;unfold Hid;simp;omega
     go_upto_region 6 with (fail)
     rw [HShr.out];go_upto_region 8 with (fail)
     rw [HShl.out,HOr.out];have hand:=HAnd.out;clear hcu hcy;go_wp2_with (at_builtin;refine z0h _ rfl (.tmp 45) (.tmp 49) 22 rfl w.heap.size 3 i0 (.int .i64 0) 8 Tryz.underlying22 hi hz0 hz1 hz2 rfl _ _ _ _ rfl HO3.out _ _ 1 _ _ rfl rfl HSl.out (fun u hu=>by simp at hu;subst hu;rfl) HM1.out.1 HM1.out.2 HM3.out ?_;intro A' c' w8 hown hgrow hblk)
     go_roundw
     case rel=>
      rw [z1a] at hown;exact ⟨i+1,A',c',p++[d],by have:=HAt.out;omega,z0q (by have:=HAt.out;omega),rfl,⟨HLl.out,HLr.out,HD.out⟩,hown,(HB.out.alloc HBW.out _).grown hgrow (by have:=HBW.out;simp;omega) hrow⟩
     case measure=>simp [intOf];omega
    ·have hq1i:decide ((q:Int)+1<(n:Int))=false:=zn (by omega)
     obtain ⟨d,hd⟩:∃ d,x % 16777216=d:=⟨_,rfl⟩
     have HAnd:Hid (bits .and .u64 (x:Int) 16777215=(d:Int)):=by unfold Hid;rw [z0be _ hx2,hd]
     have HD:=zh (HStep.out d (by rw [Wo.limb_end l H.out.lim q s u i hu (by rw [H.out.len];omega) hqs,hx,hd]))
     have hd24:d<16777216:=by omega
     have hq1d:decide (q+1<n)=false:=zn (by omega)
     clear hu hx hd hqs hq hs hul hx2;have HLr:=zh (HLm.out.append (Na.Lim.one hd24))
     have HLl:Hid ((p++[d]).length=i+1):=by unfold Hid;rw [zqm,HP.out.1];rfl
     have HO3:Hid ((wr.alloc (.cells #[.int .i64 d] 3)).ownsRow w.heap.size 3 1 (.slice A i cc) i (z0c p)):=z0x HO.out _
     have HSl:=zh (z2c wr 3 (.int .i64 d))
     have HM1:Hid (i+1<=maxLen/\(i+1)*8<=140737488355328):=⟨by unfold maxLen;omega,by omega⟩
     have HM3:Hid (w.heap.size<=(wr.alloc (.cells #[.int .i64 d] 3)).heap.size):=by have:=HBW.out;unfold Hid;simp;omega
     go_upto_region 6 with (fail)
     rw [HShr.out];have hand:=HAnd.out;clear hcu;go_wp2_with (at_builtin;refine z0h _ rfl (.tmp 45) (.tmp 49) 22 rfl w.heap.size 3 i0 (.int .i64 0) 8 Tryz.underlying22 hi hz0 hz1 hz2 rfl _ _ _ _ rfl HO3.out _ _ 1 _ _ rfl rfl HSl.out (fun u hu=>by simp at hu;subst hu;rfl) HM1.out.1 HM1.out.2 HM3.out ?_;intro A' c' w8 hown hgrow hblk)
     go_roundw
     case rel=>
      rw [z1a] at hown;exact ⟨i+1,A',c',p++[d],by have:=HAt.out;omega,z0q (by have:=HAt.out;omega),rfl,⟨HLl.out,HLr.out,HD.out⟩,hown,(HB.out.alloc HBW.out _).grown hgrow (by have:=HBW.out;simp;omega) hrow⟩
     case measure=>simp [intOf];omega
   ·have hss:decide ((64:Int)<s+24)=false:=zn (by omega)
    obtain ⟨d,hd⟩:∃ d,x % 16777216=d:=⟨_,rfl⟩
    have HAnd:Hid (bits .and .u64 (x:Int) 16777215=(d:Int)):=by unfold Hid;rw [z0be _ hx2,hd]
    have HD:=zh (HStep.out d (by rw [Wo.limb_one l H.out.lim q s u i hu hqs (by omega),hx,hd]))
    have hd24:d<16777216:=by omega
    clear hu hx hd hqs hq hs hul hx2;have HLr:=zh (HLm.out.append (Na.Lim.one hd24))
    have HLl:Hid ((p++[d]).length=i+1):=by unfold Hid;rw [zqm,HP.out.1];rfl
    have HO3:Hid ((wr.alloc (.cells #[.int .i64 d] 3)).ownsRow w.heap.size 3 1 (.slice A i cc) i (z0c p)):=z0x HO.out _
    have HSl:=zh (z2c wr 3 (.int .i64 d))
    have HM1:Hid (i+1<=maxLen/\(i+1)*8<=140737488355328):=⟨by unfold maxLen;omega,by omega⟩
    have HM3:Hid (w.heap.size<=(wr.alloc (.cells #[.int .i64 d] 3)).heap.size):=by have:=HBW.out;unfold Hid;simp;omega
    go_upto_region 6 with (fail)
    rw [HShr.out];have hand:=HAnd.out;clear hcu;go_wp2_with (at_builtin;refine z0h _ rfl (.tmp 45) (.tmp 49) 22 rfl w.heap.size 3 i0 (.int .i64 0) 8 Tryz.underlying22 hi hz0 hz1 hz2 rfl _ _ _ _ rfl HO3.out _ _ 1 _ _ rfl rfl HSl.out (fun u hu=>by simp at hu;subst hu;rfl) HM1.out.1 HM1.out.2 HM3.out ?_;intro A' c' w8 hown hgrow hblk)
    go_roundw
    case rel=>
     rw [z1a] at hown;exact ⟨i+1,A',c',p++[d],by have:=HAt.out;omega,z0q (by have:=HAt.out;omega),rfl,⟨HLl.out,HLr.out,HD.out⟩,hown,(HB.out.alloc HBW.out _).grown hgrow (by have:=HBW.out;simp;omega) hrow⟩
    case measure=>simp [intOf];omega
  ·have hlt:64*(n:Int)<=(at_:Int):=by omega
   have HV:Hid (Na.val p=Wo.val l):=by
    have h2:=HP.out.2.2;have e1:=Wo.val_lt H.out.lim
    rw [H.out.len] at e1;have e2:(18446744073709551616:Nat) ^ n=2 ^ (64*n):=by rw [Nat.pow_mul]
    have e3:2 ^ (64*n)<=2 ^ (24*i):=Nat.pow_le_pow_right (by omega) (by omega)
    rw [Nat.div_eq_of_lt (by omega),Nat.mul_zero,Nat.add_zero] at h2
    exact h2
   have HT:=zh (z3w A i cc wr.heap.size p wr HP.out.1 (Sl.of_own ho) (z1j ho).1 (by omega))
   have HO:Hid (Na.tl p i=(Na.dig (Wo.val l)).length/\wr.ownsRow w.heap.size 3 1 (.slice A (Na.tl p i) cc) (Na.tl p i) (z0c (Na.dig (Wo.val l)))):=by
    unfold Hid;rw [<- HV.out];have h1:=HP.out.1;subst h1
    refine ⟨Na.trim_len HP.out.2.1,?_⟩
    have h:=z3j ho (k:=Na.tl p p.length) (Na.tl_le _ _)
    rw [z3f] at h;have e:=Na.trim_dig HP.out.2.1
    unfold Na.trim at e;rwa [e] at h
   have HB:=zh hb;clear ho hb hat;go_wp2_with fail;refine HT.out.mono ?_;rintro e w1 ⟨rfl,rfl⟩;go_wp2_with fail;go_ret;exact ⟨A,_,cc,rfl,HO.out.1.symm,HO.out.2,HB.out⟩
end Go.Proofs.YtpmofjomadibmaaGreatDoor
