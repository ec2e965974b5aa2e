/- Dv Re -/
import Derived.Test.YtpmofjomadibmaaGreatDoorU08
import Derived.Deep.CutBlock
import Derived.Deep.LoopGhost
namespace Go.Proofs.YtpmofjomadibmaaGreatDoor
set_option maxHeartbeats 8000000
set_option linter.unusedVariables false
namespace Na
set_option maxHeartbeats 8000000
theorem z0bs (l:List Nat)(m a b c:Nat)(hl:l.length=m+3)(ha:l[m]?=some a)(hb:l[m+1]?=some b)(hc:l[m+2]?=some c):val l=((c*16777216+b)*16777216+a)*16777216 ^ m+val (l.take m):=by
 rw [val_split l m (by omega),val_drop_cons l m a ha,val_drop_cons l (m+1) b hb,val_drop_cons l (m+2) c hc,List.drop_of_length_le (by omega)]
 simp only [val];rw [Nat.mul_comm (16777216 ^ m)]
 have:a+16777216*(b+16777216*(c+16777216*0))=(c*16777216+b)*16777216+a:=by omega
 rw [this];omega
theorem z0bt (l:List Nat)(m a b:Nat)(hl:l.length=m+2)(ha:l[m]?=some a)(hb:l[m+1]?=some b):val l=(b*16777216+a)*16777216 ^ m+val (l.take m):=by
 rw [val_split l m (by omega),val_drop_cons l m a ha,val_drop_cons l (m+1) b hb,List.drop_of_length_le (by omega)]
 simp only [val];rw [Nat.mul_comm (16777216 ^ m)]
 have:a+16777216*(b+16777216*0)=b*16777216+a:=by omega
 rw [this];omega
theorem rnd_of (W V:List Nat)(m u0 u1 u2 v1 v2:Nat)(hW:W.length=m+3)(hV:V.length=m+2)(hlW:Lim W)(hlV:Lim V)(w2:W[m]?=some u2)(w1:W[m+1]?=some u1)(w0:W[m+2]?=some u0)(z2:V[m]?=some v2)(z1:V[m+1]?=some v1)
  (h8:8388608<=v1) (hlt:val W<16777216*val V):Rnd (val W) (val V) (16777216 ^ m) u0 u1 u2 (val (W.take m)) v1 v2 (val (V.take m)):=by
 have e1:=val_lt (hlW.take m)
 have e2:=val_lt (hlV.take m)
 rw [zqw,Nat.min_eq_left (by omega)] at e1 e2
 exact ⟨z0bs W m u2 u1 u0 hW w2 w1 w0,e1,z0bt V m v2 v1 hV z2 z1,e2,hlW.at w1,hlW.at w2,hlV.at z1,hlV.at z2,h8,hlt⟩
theorem z4bt (U o:List Nat)(j:Nat)(h:j+o.length<=U.length):val (win U o j)=val (U.take j)+16777216 ^ j*(val o+16777216 ^ o.length*val (U.drop (j+o.length))):=by
 unfold win;rw [val_append,val_append,zqw,Nat.min_eq_left (by omega)]
theorem win_all (U V:List Nat)(j N:Nat)(hV:Lim V)(hN:N=V.length+1)(hU:j+N<=U.length)(h:val U<16777216 ^ (j+1)*val V):val ((U.drop j).take N)<16777216*val V/\val (U.drop (j+N))=0/\val U=val (U.take j)+16777216 ^ j*val ((U.drop j).take N):=by
 have h1:=val_split U j (by omega)
 have h2:=val_split (U.drop j) N (by rw [List.length_drop];omega)
 rw [List.drop_drop] at h2;have hp:0<16777216 ^ j:=Nat.pow_pos (by omega)
 have h3:val (U.drop j)<16777216*val V:=by
  rw [Nat.pow_succ,zqs] at h;exact Nat.lt_of_mul_lt_mul_left (zqu (by omega:16777216 ^ j*val (U.drop j)<=val U) h)
 have h4:val (U.drop (j+N))=0:=by
  rcases zqh (val (U.drop (j+N))) with e|e
  ·exact e
  ·exfalso
   have h5:=Nat.mul_le_mul_left (16777216 ^ N) e
   rw [Nat.mul_one] at h5;have h6:=val_lt hV
   have h7:16777216 ^ N=16777216*16777216 ^ V.length:=by rw [hN,Nat.pow_succ,Nat.mul_comm]
   omega
 rw [h4,Nat.mul_zero,Nat.add_zero] at h2;exact ⟨by omega,h4,by rw [<- h2];exact h1⟩
theorem round_end (U V Q o:List Nat)(j N q X:Nat)(hlU:Lim U)(hV:Lim V)(hV0:0<val V)(hN:N=V.length+1)(hU:j+N<=U.length)(ho:o.length=N)(hX:X=val V*val Q+val U)(h:val U<16777216 ^ (j+1)*val V)
  (hq:q=val ((U.drop j).take N) / val V) (hQ:Q[j]?=some 0) (hv:val o=val ((U.drop j).take N) - q*val V):X=val V*val (Q.set j q)+val (win U o j)/\val (win U o j)<16777216 ^ j*val V:=by
 obtain ⟨h1,h2,h3⟩:=win_all U V j N hV hN hU h
 have h4:=z4bt U o j (by omega)
 rw [ho,h2,Nat.mul_zero,Nat.add_zero] at h4;have h5:=val_set Q j 0 q hQ
 rw [Nat.mul_zero,Nat.add_zero] at h5;obtain ⟨W,hW⟩:∃ W,val ((U.drop j).take N)=W:=⟨_,rfl⟩
 rw [hW] at hq hv h1 h3;have h6:q*val V<=W:=by rw [hq];exact Nat.div_mul_le_self W (val V)
 have h7:W<q*val V+val V:=by
  have e1:=Nat.div_add_mod W (val V)
  have e2:=Nat.mod_lt W hV0
  rw [<- hq,Nat.mul_comm] at e1;omega
 refine ⟨?_,?_⟩
 ·rw [h5,h4,hX,h3,zqt,hv];have e:16777216 ^ j*W=16777216 ^ j*(W - q*val V)+16777216 ^ j*(q*val V):=by rw [<- zqt];congr 1;omega
  have e2:val V*(16777216 ^ j*q)=16777216 ^ j*(q*val V):=by rw [Nat.mul_left_comm,Nat.mul_comm (val V) q]
  omega
 ·have e1:=val_lt (hlU.take j)
  rw [zqw,Nat.min_eq_left (by omega)] at e1
  have e2:16777216 ^ j*(val o+1)<=16777216 ^ j*val V:=Nat.mul_le_mul_left _ (by omega)
  rw [zqt,Nat.mul_one] at e2;omega
theorem norm (y m a k:Nat)(hm:(dig y).length=m+1)(ha:(dig y)[m]?=some a)(hk:k=24 - Nbl a):k<24/\(dig (y*2 ^ k)).length=m+1/\∃ b,(dig (y*2 ^ k))[m]?=some b/\8388608<=b:=by
 obtain ⟨h1,h2,h3,h4⟩:=bitlen y m a hm ha
 have ha24:=(dig_lim y).at ha
 have h5:Nbl a<=24:=z3ag (k:=24) (by omega) (by omega)
 have hlo:2 ^ (24*m+23)<=y*2 ^ k:=by
  have e:=Nat.mul_le_mul_right (2 ^ k) h3
  rw [<- Nat.pow_add] at e;rwa [show m*24+Nbl a - 1+k=24*m+23 by omega] at e
 have hhi:y*2 ^ k<16777216 ^ (m+1):=by
  have e:=Nat.mul_lt_mul_of_pos_right h4 (show 0<2 ^ k from Nat.pow_pos (by omega))
  rw [<- Nat.pow_add] at e;rw [pow24'];rwa [show m*24+Nbl a+k=24*(m+1) by omega] at e
 have hlen:(dig (y*2 ^ k)).length=m+1:=by
  have e1:=dig_len_le hhi
  have e2:m<(dig (y*2 ^ k)).length:=dig_len_ge (zqq (by rw [pow24'];exact Nat.pow_le_pow_right (by omega) (by omega)) hlo)
  omega
 refine ⟨by omega,hlen,?_⟩
 have hb:(dig (y*2 ^ k))[m]?=some ((dig (y*2 ^ k))[m]'(by omega)):=zql (by omega)
 refine ⟨_,hb,?_⟩
 obtain ⟨b,hb2⟩:∃ b,(dig (y*2 ^ k))[m]'(by omega)=b:=⟨_,rfl⟩
 rw [hb2] at hb ⊢
 have e1:=val_split (dig (y*2 ^ k)) m (by omega)
 rw [val_drop_cons _ m b hb,List.drop_of_length_le (by omega),val_dig] at e1
 simp only [val,Nat.mul_zero,Nat.add_zero] at e1;have e2:=val_lt ((dig_lim (y*2 ^ k)).take m)
 rw [zqw,Nat.min_eq_left (by omega)] at e2
 rcases zqi b 8388608 with hc|hc
 ·exfalso
  have e3:16777216 ^ m*(b+1)<=16777216 ^ m*8388608:=Nat.mul_le_mul_left _ hc
  rw [zqt,Nat.mul_one] at e3;have e4:2 ^ (24*m+23)=16777216 ^ m*8388608:=by rw [Nat.pow_add,pow24']
  omega
 ·exact hc
theorem back_limb (u z k s:Nat)(hu:u<16777216)(hk:k<=24)(hs:s=2 ^ (24 - k)):(u+16777216*z) / 2 ^ k % 16777216=u / 2 ^ k+(z*s) % 16777216/\u / 2 ^ k<s:=by
 have hp:0<2 ^ k:=Nat.pow_pos (by omega)
 have hB:16777216=s*2 ^ k:=by
  rw [hs,<- Nat.pow_add,Nat.sub_add_cancel hk]
 have h1:u / 2 ^ k<s:=by rw [Nat.div_lt_iff_lt_mul hp,<- hB];exact hu
 have h2:(u+16777216*z) / 2 ^ k=u / 2 ^ k+s*z:=by
  conv=>lhs;rw [show u+16777216*z=u+2 ^ k*(s*z) by rw [<- zqs,Nat.mul_comm (2 ^ k) s,<- hB]]
  rw [Nat.add_mul_div_left _ _ hp]
 refine ⟨?_,h1⟩
 rw [h2,Nat.mul_comm z s];have h3:(s*z) % 16777216=s*(z % 2 ^ k):=by
  conv=>lhs;rw [hB,Nat.mul_mod_mul_left]
 have h4:z % 2 ^ k+1<=2 ^ k:=Nat.mod_lt _ hp
 have h5:s*(z % 2 ^ k+1)<=s*2 ^ k:=Nat.mul_le_mul_left _ h4
 rw [<- hB,zqt,Nat.mul_one] at h5;rw [Nat.add_mod,h3,Nat.mod_eq_of_lt (a:=u / 2 ^ k) (by omega),Nat.mod_eq_of_lt (by omega)]
theorem back_step (U o:List Nat)(i k u d Z:Nat)(ho:o.length=i)(hu:U[i]?=some u)(hu24:u<16777216)(h:val o+16777216 ^ i*(val (U.drop i) / 2 ^ k)=Z)(hd:d=val (U.drop i) / 2 ^ k % 16777216):
  val (o++[d])+16777216 ^ (i+1)*(val (U.drop (i+1)) / 2 ^ k)=Z:=by
 have e:val (U.drop (i+1)) / 2 ^ k=val (U.drop i) / 2 ^ k / 16777216:=by
  rw [val_drop_cons U i u hu];have e0:(u+16777216*val (U.drop (i+1))) / 2 ^ k / 16777216=(u+16777216*val (U.drop (i+1))) / 16777216 / 2 ^ k:=by rw [Nat.div_div_eq_div_mul,Nat.div_div_eq_div_mul,Nat.mul_comm (2 ^ k)]
  rw [e0,Nat.add_mul_div_left _ _ (by omega),Nat.div_eq_of_lt hu24,Nat.zero_add]
 have h1:=split24 (16777216 ^ i) (val (U.drop i) / 2 ^ k)
 rw [val_snoc,ho,e,hd,Nat.pow_succ,<- h];omega
theorem back_or (u u1 r k s:Nat)(hu:u<16777216)(h1:u1<16777216)(hk:k<=24)(hs:s=2 ^ (24 - k)):((u1+16777216*r)*s) % 16777216=(u1*s) % 16777216/\(u / 2 ^ k ||| (u1*s) % 16777216)=u / 2 ^ k+(u1*s) % 16777216:=by
 have hp:0<2 ^ k:=Nat.pow_pos (by omega)
 have hB:16777216=s*2 ^ k:=by
  rw [hs,<- Nat.pow_add,Nat.sub_add_cancel hk]
 have h2:u / 2 ^ k<s:=by rw [Nat.div_lt_iff_lt_mul hp,<- hB];exact hu
 refine ⟨by rw [Nat.add_mul,zqs,Nat.add_mul_mod_self_left],?_⟩
 have h3:(u1*s) % 16777216=s*(u1 % 2 ^ k):=by
  rw [Nat.mul_comm u1 s];conv=>lhs;rw [hB,Nat.mul_mod_mul_left]
 rw [h3,Nat.or_comm,hs,<- Nat.two_pow_add_eq_or_of_lt (by rw [<- hs];exact h2),Nat.add_comm]
end Na
open Go.RowKit
set_option maxRecDepth 100000
def Dvd (w:World)(x y:Nat)(e:Ending)(w':World):Prop:=
 ∃ (A1:Option Addr) (n1 c1:Nat) (Q:List Nat) (A2:Option Addr) (n2 c2:Nat) (R:List Nat),e=.returned (.tuple #[.slice A1 n1 c1,.slice A2 n2 c2])/\(Q.length=n1/\Na.Lim Q/\Na.val Q=x / y/\n1<=1000)/\(R.length=n2/\Na.Lim R/\Na.val R=x % y/\n2<=1000)/\
  w'.ownsRow w.heap.size 3 1 (.slice A1 n1 c1) n1 (z0c Q)/\w'.ownsRow w.heap.size 3 1 (.slice A2 n2 c2) n2 (z0c R)/\Below w.heap.size w w'
structure DK (w W:World)(g gv gq N1 cu m cv nq:Nat)(U V Q:List Nat):Prop where
 ou:W.ownsRow w.heap.size 3 1 (.slice (some ⟨g,0,none⟩) N1 cu) N1 (z0c U)
 ov:W.ownsRow w.heap.size 3 1 (.slice (some ⟨gv,0,none⟩) m cv) m (z0c V)
 oq:W.ownsRow w.heap.size 3 1 (.slice (some ⟨gq,0,none⟩) nq nq) nq (z0c Q)
 n1:g≠gv
 n2:g≠gq
 n3:gv≠gq
 bl:Below w.heap.size w W
 lo:w.heap.size<=g/\w.heap.size<=gv/\w.heap.size<=gq
section
variable {w W W':World}{g gv gq N1 cu m cv nq:Nat}{U V Q U' Q':List Nat}
theorem DK.drewN (h:DK w W g gv gq N1 cu m cv nq U V Q)(k:Nat):DK w (W.drewN k) g gv gq N1 cu m cv nq U V Q:=⟨z4l h.ou k,z4l h.ov k,z4l h.oq k,h.n1,h.n2,h.n3,z0w h.bl k,h.lo⟩
theorem DK.u (h:DK w W g gv gq N1 cu m cv nq U V Q)(hg:W.grownBy W' (some g))(ho:W'.ownsRow w.heap.size 3 1 (.slice (some ⟨g,0,none⟩) N1 cu) N1 (z0c U')):DK w W' g gv gq N1 cu m cv nq U' V Q:=
 ⟨ho,z2d h.ov hg (.inr (fun e=>h.n1 (zqk e).symm)),z2d h.oq hg (.inr (fun e=>h.n2 (zqk e).symm)),h.n1,h.n2,h.n3,h.bl.grown hg h.bl.size (fun r e=>by cases e;exact h.lo.1),h.lo⟩
theorem DK.putU (h:DK w W g gv gq N1 cu m cv nq U V Q)(k d:Nat):DK w (W.setCell ⟨g,k,none⟩ (.int .i64 d)) g gv gq N1 cu m cv nq (U.set k d) V Q:=
 h.u (z0f _ _ _) (by have o1:=z1x h.ou k (.int .i64 d);rwa [z1s] at o1)
theorem DK.putQ (h:DK w W g gv gq N1 cu m cv nq U V Q)(k d:Nat):DK w (W.setCell ⟨gq,k,none⟩ (.int .i64 d)) g gv gq N1 cu m cv nq U V (Q.set k d):=by
 have hg:=z0f W ⟨gq,k,none⟩ (.int .i64 d)
 refine ⟨z2d h.ou hg (.inr (fun e=>h.n2 (zqk e))),z2d h.ov hg (.inr (fun e=>h.n3 (zqk e))),?_,h.n1,h.n2,h.n3,h.bl.setCell (p:=⟨gq,k,none⟩) h.lo.2.2 _,h.lo⟩
 have o1:=z1x h.oq k (.int .i64 d)
 rwa [z1s] at o1
end
def DvM (X Vv nq N1:Nat)(U Q:List Nat)(J:Nat):Prop:=U.length=N1/\Q.length=nq/\Na.Lim U/\Na.Lim Q/\X=Vv*Na.val Q+Na.val U/\Na.val U<16777216 ^ J*Vv/\∀ i,i<J->Q[i]?=some 0
theorem z1ay {U o:List Nat}(hU:Na.Lim U)(ho:Na.Lim o)(j:Nat):Na.Lim (Na.win U o j):=(hU.take j).append (ho.append (hU.drop _))
theorem z2ai {U o:List Nat}{j N:Nat}(hN:o.length=N)(h:j<=U.length):((Na.win U o j).drop j).take N=o:=by
 unfold Na.win;have e:(U.take j).length=j:=by rw [zqw];omega
 rw [List.drop_append,e,Nat.sub_self,List.drop_zero,List.drop_of_length_le (by omega),zqc,<- hN,List.take_left']
 rfl
theorem z6ah {U o o2:List Nat}{j:Nat}(hl:o.length=o2.length)(h:j+o.length<=U.length):Na.win (Na.win U o j) o2 j=Na.win U o2 j:=by
 have e:(U.take j).length=j:=by rw [zqw];omega
 unfold Na.win;rw [List.take_append,e,Nat.sub_self,List.take_zero,List.append_nil,zqp (by omega),<- hl]
 congr 2
 rw [List.drop_append,e,List.drop_of_length_le (l:=U.take j) (by omega),zqc,show j+o.length - j=o.length by omega,List.drop_left']
 rfl
theorem DvM.next {X qn N1 j m q:Nat}{U Q V o:List Nat}(h:DvM X (Na.val V) qn N1 U Q (j+1))(hV:Na.Lim V)(hV0:0<Na.val V)(hm:V.length=m)(hU:j+(m+1)<=N1)(hjq:j<qn)(ho:o.length=m+1)(hol:Na.Lim o)
  (hq:q=Na.val ((U.drop j).take (m+1)) / Na.val V) (hq24:q<16777216) (hv:Na.val o=Na.val ((U.drop j).take (m+1)) - q*Na.val V):DvM X (Na.val V) qn N1 (Na.win U o j) (Q.set j q) j:=by
 obtain ⟨h1,h2,h3,h4,h5,h6,h7⟩:=h;obtain ⟨k1,k2⟩:=Na.round_end U V Q o j (m+1) q X h3 hV hV0 (by rw [hm]) (by rw [h1];exact hU) ho h5 h6 hq (h7 j (by omega)) hv
 refine ⟨by rw [Na.win_length U o j (by omega)];exact h1,by rw [List.length_set];exact h2,z1ay h3 hol j,h4.set j hq24,k1,k2,fun i hi=>?_⟩
 rw [zqf (by omega)]
 exact h7 i (by omega)
def NDv (w:World)(X g gv gq N1 cu m cv nq:Nat)(V:List Nat)(v:Value)(wr:World):Prop:=
 ∃ (J:Nat) (U Q:List Nat),J<=nq/\v=.int .i64 ((J:Int) - 1)/\Hid (DvM X (Na.val V) nq N1 U Q J)/\DK w wr g gv gq N1 cu m cv nq U V Q
theorem z8al (A A2:Option Addr)(n c m c2:Nat)(x y:Nat)(w:World)(hn:(Na.dig x).length=n)(hm:(Na.dig y).length=m)(hs:Sl w w.heap.size A (z0c (Na.dig x)))(hs2:Sl w w.heap.size A2 (z0c (Na.dig y)))(hl:n<=900)(hm2:2<=m)(hyx:y<=x):
  Calls Tryz.prog 147 #[.slice A n c,.slice A2 m c2] w (Dvd w x y):=by
 obtain ⟨i0,hi,hz0,hz1,hz2⟩:=info_parts z4y
 have hmn:m<=n:=by rw [<- hn,<- hm];exact Na.dig_len_mono hyx
 have HCmp:=zh (z3r A A2 n c m c2 w.heap.size x y w hn hm hs hs2 (zqj _) (by omega) (by omega))
 have hsg:decide (Na.sgn x y<0)=false:=zn (by rcases Na.sgn_cases x y with ⟨h1,h⟩|⟨h1,h⟩|⟨h1,h⟩ <;> omega)
 obtain ⟨a,ha⟩:=z0m (Na.dig y) (m - 1) (by omega)
 obtain ⟨k,hk⟩:∃ k,24 - Nbl a=k:=⟨_,rfl⟩
 obtain ⟨hk24,hlenV,b,hb,hb8⟩:=Na.norm y (m - 1) a k (by omega) ha hk.symm
 rw [show m - 1+1=m by omega] at hlenV
 have hbl:=Na.bitlen y (m - 1) a (by omega) ha
 have ha24:=(Na.dig_lim y).at ha
 have hbl24:Nbl a<=24:=z3ag (k:=24) (by omega) (by omega)
 have hkI:(24:Int) - (Nbl a:Int)=(k:Int):=by omega
 have hY0:0<y:=by
  rcases zqh y with e|e
  ·rw [e,Na.dig_zero] at hm;simp at hm;omega
  ·exact e
 obtain ⟨ad,rfl,hbk,hca⟩:=hs2.nat ha
 have HS:=zh hs;have HS2:=zh hs2;have HCA:=zh hca;have HN:=zh hn;have HM:=zh hm;have HB:=zh hb;have HLV:=zh hlenV;have hne1:((m:Int) == 1)=false:=by rw [beq_eq_false_iff_ne];omega
 have hm0:0<=(m:Int) - 1:=by omega
 have hm1:(m:Int) - 1<(m:Int):=by omega
 have hmt:((m:Int) - 1).toNat=m - 1:=by omega
 clear hs hs2 hca hn hm hb hlenV ha hk hbl;go_enter Tryz.func147,Tryz.ntmps147
 go_wp2_with fail;refine HCmp.out.mono ?_;rintro e w1 ⟨rfl,hb1⟩;have hca:=(hb1.cell (p:=ad.add (m - 1)) (by rw [z1d];exact hbk)).trans HCA.out
 have HB1:=zh hb1;clear hb1 HCmp HCA;go_wp2_with fail;refine (z4g a _ rfl _ (by omega)).mono ?_
 rintro e w1' ⟨rfl,rfl⟩;clear hca;go_wp2_with fail;refine (z8h A n c k (Na.dig x) w1 HN.out ((HS.out.below HB1.out).more HB1.out.size) (Na.dig_lim x) (by omega) hk24).mono ?_
 rintro e w2 ⟨A3,c3,U0,rfl,hu1,hu2,hu3,hu4,hu5⟩;rw [Na.val_dig] at hu3;have HU:=zh (And.intro hu1 (And.intro hu2 hu3))
 have HUo:=zh (z1f hu4 HB1.out.size)
 have HB2:=zh (btr HB1.out hu5)
 obtain ⟨g,hg3,hg1,hg2⟩:=z0n hu4 (by omega)
 subst hg3
 have hgl:w.heap.size<=g:=zqq HB1.out.size hg1
 clear hu1 hu2 hu3 hu4 hu5 hg1;go_wp2_with fail;refine (z8h (some ad) m c2 k (Na.dig y) w2 HM.out ((HS2.out.below HB2.out).more HB2.out.size) (Na.dig_lim y) (by omega) hk24).mono ?_
 rintro e w3 ⟨A4,c4,V0,rfl,hv1,hv2,hv3,hv4,hv5⟩;rw [Na.val_dig] at hv3;have HT:=zh (z3w A4 (m+1) c4 w3.heap.size V0 w3 hv1 (Sl.of_own hv4) (z1j hv4).1 (by omega))
 have HTl:Hid (Na.tl V0 (m+1)=m):=by
  unfold Hid;rw [<- hv1,Na.trim_len hv2,hv3];exact HLV.out
 rw [HTl.out] at HT;have HV:Hid (V0.take m=Na.dig (y*2 ^ k)):=by
  unfold Hid;rw [<- HTl.out,<- hv1,<- hv3,<- Na.trim_dig hv2];rfl
 have HVo:Hid (w3.ownsRow w2.heap.size 3 1 (.slice A4 m c4) m (z0c (Na.dig (y*2 ^ k)))):=by
  have h7:=z3j hv4 (k:=m) (by omega)
  rw [z3f,HV.out] at h7;exact h7
 have HB3:=zh (btr HB2.out hv5)
 have HUo3:=zh (z3c HUo.out hv5)
 clear hv1 hv2 hv3 hv4 HTl HV HUo HS2;obtain ⟨gv,hgv,hg5,hg6⟩:=z0n HVo.out (by omega)
 subst hgv
 have hb3:=hv5.size;clear hv5;go_wp2_with fail;refine HT.out.mono ?_;rintro e w3' ⟨rfl,rfl⟩;have hs9:(n:Int)+1 - (m:Int)=((n+1 - m:Nat):Int):=by omega
 obtain ⟨qn,hqn⟩:∃ qn,n+1 - m=qn:=⟨_,rfl⟩
 rw [hqn] at hs9;have hqn2:n+1=qn+m:=by omega
 have hmk:=z1h (P:=Tryz.prog) 22 3 i0 (.int .i64 0) Tryz.underlying22 hi hz0 hz1 .i64 .i64 (qn:Int) (qn:Int) qn qn (by omega) (by omega) (zqj _) (by rw [hz2];omega) (by omega)
 have HD0:Hid (DK w (w3.alloc (.cells (madeCells #[Value.int .i64 0] qn) 3)) g gv w3.heap.size (n+1) c3 m c4 qn U0 (Na.dig (y*2 ^ k)) (List.replicate qn 0)):=by
  have hbox:=z0i w3 (.cells (madeCells #[Value.int .i64 0] qn) 3)
  refine ⟨z3c HUo3.out hbox,z1f (z3c HVo.out hbox) HB2.out.size,?_,by omega,by omega,by omega,btr HB3.out hbox,hgl,zqq HB2.out.size hg5,HB3.out.size⟩
  have h7:=z4d w3 3 (.int .i64 0) qn qn rfl (zqj _) (by unfold maxLen;omega)
  rw [z7l];exact z1f h7 HB3.out.size
 have HM0:Hid (DvM (x*2 ^ k) (Na.val (Na.dig (y*2 ^ k))) qn (n+1) U0 (List.replicate qn 0) qn):=by
  have hp:0<2 ^ k:=Nat.pow_pos (by omega)
  refine ⟨HU.out.1,by simp,HU.out.2.1,Na.Lim.zeros _,by rw [Na.val_zeros,HU.out.2.2,Nat.mul_zero,Nat.zero_add],?_,fun i h=>by rw [List.getElem?_replicate,if_pos h]⟩
  rw [HU.out.2.2,Na.val_dig,<- zqs];refine Nat.mul_lt_mul_of_pos_right ?_ hp
  have e1:=Na.dig_low y (m - 1) (by have:=HM.out;omega)
  have e2:x<16777216 ^ n:=(Na.dig_len_iff x n).1 (by have:=HN.out;omega)
  have e3:16777216 ^ qn*16777216 ^ (m - 1)<=16777216 ^ qn*y:=Nat.mul_le_mul_left _ e1
  rw [<- Nat.pow_add,show qn+(m - 1)=n by omega] at e3
  omega
 have hq1:qn+m<=n+1:=by omega
 have hq2:n+1<=qn+m:=by omega
 have hbv:∃ b,(Na.dig (y*2 ^ k))[m - 1]?=some b/\8388608<=b:=⟨b,HB.out,hb8⟩
 have HBv:=zh hbv;obtain ⟨V,hV⟩:∃ V,Na.dig (y*2 ^ k)=V:=⟨_,rfl⟩
 have HVe:Hid (V.length=m/\Na.Lim V/\Na.val V=y*2 ^ k):=by unfold Hid;rw [<- hV];exact ⟨HLV.out,Na.dig_lim _,Na.val_dig _⟩
 rw [hV] at HD0 HM0 HBv;have HXY:Hid (0<y):=hY0
 obtain ⟨gq,hgq⟩:∃ gq,gq=w3.heap.size:=⟨_,rfl⟩
 rw [<- hgq] at HD0;have HGq:=zh hgq;clear hqn HT HUo3 HVo hqn2 hbv hV HLV HB hb8 hsg hbl24 hkI hgq hb3 hY0 hg2 hg5 hg6 hgl;go_wp2_with fail;rw [<- HGq.out];clear hmk;obtain ⟨X,hX⟩:∃ X,x*2 ^ k=X:=⟨_,rfl⟩
 rw [hX] at HM0;have HX:=zh hX;clear hX;go_loopw [10] (fun v wr=>NDv w X g gv gq (n+1) c3 m c4 qn V v wr) (fun v _=>(intOf v+1).toNat)
 case atStart=>exact ⟨qn,_,_,zqj _,rfl,HM0.out,HD0.out⟩
 case round=>
  clear HM0 HD0 HU HB1 HB2 HB3 HS;obtain ⟨J,U,Q,hJ,rfl,HI,hD⟩:=hrel;rcases zqh J with rfl|hJ0
  ·have e0:((0:Nat):Int) - 1=-1:=rfl
   rw [e0];clear e0;obtain ⟨iU,iQ,iLU,iLQ,iX,iLt,iZ⟩:=HI.out;rw [Nat.pow_zero,Nat.one_mul] at iLt;have hp:0<2 ^ k:=Nat.pow_pos (by omega)
   have hVv:=HVe.out.2.2;rw [<- HX.out,hVv] at iX;rw [hVv] at iLt;have HQv:Hid (Na.val Q=x / y/\Na.val U=(x % y)*2 ^ k):=by
    have e1:x*2 ^ k / (y*2 ^ k)=Na.val Q:=by
     rw [iX,Nat.mul_add_div (zqu (zqr _) iLt),Nat.div_eq_of_lt iLt,Nat.add_zero]
    have e2:x*2 ^ k % (y*2 ^ k)=Na.val U:=by
     rw [iX,Nat.mul_add_mod,Nat.mod_eq_of_lt iLt]
    exact ⟨by rw [<- e1,Nat.mul_div_mul_right _ _ hp],by rw [<- e2,Nat.mul_mod_mul_right]⟩
   have HUl:=zh (And.intro iU iLU)
   have HQl:=zh (And.intro iQ iLQ)
   have HUm:Hid (Na.val (U.drop m)=0):=by
    have e1:=Na.val_split U m (by omega)
    have e2:=Na.val_lt HVe.out.2.1
    rw [HVe.out.1,hVv] at e2;unfold Hid;rcases zqh (Na.val (U.drop m)) with e|e
    ·exact e
    ·exfalso
     have e3:=Nat.mul_le_mul_left (16777216 ^ m) e
     rw [Nat.mul_one] at e3;omega
   have HD:=zh hD;have HZ0:Hid (Na.val U / 2 ^ k=x % y):=by unfold Hid;rw [HQv.out.2,Nat.mul_div_cancel _ hp]
   clear iU iQ iLU iLQ iX iLt iZ hp hVv hD;go_wp2_with fail;go_loopw [153] (fun v wr=>∃ (i:Nat) (o:List Nat),i<=m/\v=.int .i64 i/\Hid (o.length=i/\Na.Lim o/\Na.val o+16777216 ^ i*(Na.val (U.drop i) / 2 ^ k)=x % y)/\DK w wr g gv gq (n+1) c3 m c4 qn (o++U.drop i) V Q) (fun v _=>m - (intOf v).toNat)
   case atStart=>exact ⟨0,[],zqr _,rfl,⟨rfl,Na.Lim.nil,by simp [Na.val];exact HZ0.out⟩,by rw [zqc,List.drop_zero];exact HD.out⟩
   case round=>
    clear HD HZ0;obtain ⟨i,o,hi,rfl,HP,hD⟩:=hrel;rcases zqi i m with him|him
    ·obtain ⟨u,hu⟩:=z0m U i (by have:=HUl.out.1;omega)
     obtain ⟨un,hun⟩:=z0m U (i+1) (by have:=HUl.out.1;omega)
     have f1:=z1b hD.ou (Na.get_mid o U i u HP.out.1 hu)
     have hgn:(o++U.drop i)[i+1]?=some un:=by
      rw [zqo (by have:=HP.out.1;omega),HP.out.1,show i+1 - i=1 by omega,List.getElem?_drop]
      exact hun
     have f2:=z1b hD.ou hgn
     have hfz:=hD.ou.frozenAt i
     have b1:=HUl.out.2.at hu
     have b2:=HUl.out.2.at hun
     have HD:=zh hD;have HU2:=zh (And.intro hu hun)
     obtain ⟨d,hd⟩:∃ d,u / 2 ^ k+(un*2 ^ (24 - k)) % 16777216=d:=⟨_,rfl⟩
     have hbo:=Na.back_or u un (Na.val (U.drop (i+2))) k _ b1 b2 (by omega) rfl
     have hbl:=Na.back_limb u (Na.val (U.drop (i+1))) k _ b1 (by omega) rfl
     have hvd:Na.val (U.drop (i+1))=un+16777216*Na.val (U.drop (i+2)):=Na.val_drop_cons U (i+1) un hun
     have hdd:d=Na.val (U.drop i) / 2 ^ k % 16777216:=by
      rw [Na.val_drop_cons U i u hu,hbl.1,hvd,hbo.1,hd]
     have HVal:Hid (bits .or .i64 ((u:Int) / 2 ^ k) (bits .and .i64 (wrap64 ((un:Int)*2 ^ (24 - k))) 16777215)=(d:Int)):=by
      unfold Hid;have hpw:un*2 ^ (24 - k)<=16777216*16777216:=Nat.mul_le_mul (by omega) (zqq (Nat.pow_le_pow_right (n:=2) (j:=24) (by omega) (by omega)) (by omega))
      have e1:(un:Int)*2 ^ (24 - k)=((un*2 ^ (24 - k):Nat):Int):=by simp
      have e2:(u:Int) / 2 ^ k=((u / 2 ^ k:Nat):Int):=by simp
      have hu2:u / 2 ^ k<=u:=Nat.div_le_self _ _
      obtain ⟨pw,hpw2⟩:∃ pw,un*2 ^ (24 - k)=pw:=⟨_,rfl⟩
      obtain ⟨uq,huq⟩:∃ uq,u / 2 ^ k=uq:=⟨_,rfl⟩
      rw [hpw2] at hpw e1 hbo hd;rw [huq] at e2 hu2 hbo hd;have e3:(pw:Int) % 16777216=((pw % 16777216:Nat):Int):=rfl
      rw [e1,e2,IntWalk.wrap64_in _ ⟨by omega,by omega⟩,z6m,e3,z3bw _ _ (by omega) (by omega),hbo.2,hd]
     have hd24:d<16777216:=by rw [hdd];exact Nat.mod_lt _ (by omega)
     have HST:=zh (Na.back_step U o i k u d (x % y) HP.out.1 hu b1 HP.out.2.2 hdd)
     have HSet:=zh (Na.set_mid o U i d HP.out.1 (by have:=HUl.out.1;omega))
     have HLr:=zh (HP.out.2.1.append (Na.Lim.one hd24))
     have HLl:Hid ((o++[d]).length=i+1):=by unfold Hid;rw [zqm,HP.out.1];rfl
     clear hd hbo hbl hvd hdd hd24;have hin:(i:Int)+1<(n:Int)+1:=by omega
     have hin2:(i:Int)<n+1:=by omega
     clear hgn hD hu hun;go_wp2_with fail;go_region
     all_goals
      rw [HVal.out];clear f1 f2 hfz;go_wp2_with fail;go_roundw
      case rel=>
       have h9:=(HD.out.putU i d).drewN 1
       rw [HSet.out] at h9;exact ⟨i+1,o++[d],by omega,by go_num,⟨HLl.out,HLr.out,HST.out⟩,h9⟩
      case measure=>simp [intOf];omega
    ·obtain rfl:m=i:=by omega
     have HV3:Hid (Na.val o=x % y):=by
      have:=HP.out.2.2
      rw [HUm.out,Nat.zero_div,Nat.mul_zero,Nat.add_zero] at this;exact this
     have HR:Hid (wr.ownsRow w.heap.size 3 1 (.slice (some ⟨g,0,none⟩) m c3) m (z0c o)):=by
      have h7:=z3j hD.ou (k:=m) (by omega)
      rw [z3f,List.take_append_of_le_length (by have:=HP.out.1;omega),zqp (by have:=HP.out.1;omega)] at h7
      exact h7
     have HD:=zh hD;have hcap:=(z1j hD.ou).1
     have hcc:(m:Int)<=(c3:Int):=by omega
     have hdk:decide (m<m)=false:=zn (by omega)
     clear hD him;go_wp2_with fail;go_quiet (fail)
     go_wp2_with fail;go_ret2
     exact ⟨some ⟨gq,0,none⟩,qn,qn,Q,some ⟨g,0,none⟩,m,c3,o,rfl,⟨HQl.out.1,HQl.out.2,HQv.out.1,by omega⟩,⟨HP.out.1,HP.out.2.1,HV3.out,by omega⟩,z4l HD.out.oq _,z4l HR.out _,z0w HD.out.bl _⟩
  ·obtain ⟨j,rfl⟩:∃ j,J=j+1:=⟨J - 1,by omega⟩
   have ej:((j+1:Nat):Int) - 1=(j:Int):=by omega
   rw [ej];clear ej;obtain ⟨iU,iQ,iLU,iLQ,iX,iLt,iZ⟩:=HI.out;obtain ⟨u0,hu0⟩:=z0m U (j+m) (by omega)
   obtain ⟨u1,hu1⟩:=z0m U (j+m - 1) (by omega)
   obtain ⟨u2,hu2⟩:=z0m U (j+m - 2) (by omega)
   obtain ⟨v2,hv2⟩:=z0m V (m - 2) (by have:=HVe.out.1;omega)
   obtain ⟨v1,hv1,hv8⟩:=HBv.out;have c0:=z1b hD.ou hu0
   have c1:=z1b hD.ou hu1
   have c2':=z1b hD.ou hu2
   have d1:=z1b hD.ov hv1
   have d2:=z1b hD.ov hv2
   have b0:=iLU.at hu0
   have b1:=iLU.at hu1
   have b2:=iLU.at hu2
   have b3:=HVe.out.2.1.at hv1
   have b4:=HVe.out.2.1.at hv2
   have HVe1:=HVe.out;have hwin:=Na.win_all U V j (m+1) HVe1.2.1 (by rw [HVe1.1]) (by omega) iLt
   have hWl:((U.drop j).take (m+1)).length=m - 2+3:=by rw [zqw,List.length_drop];omega
   have wget:∀ (i c:Nat),i<m+1->U[j+i]?=some c->((U.drop j).take (m+1))[i]?=some c:=fun i c h1 h2=>by rw [List.getElem?_take,if_pos h1,List.getElem?_drop];exact h2
   have HR:Hid (Na.Rnd (Na.val ((U.drop j).take (m+1))) (Na.val V) (16777216 ^ (m - 2)) u0 u1 u2 (Na.val (((U.drop j).take (m+1)).take (m - 2))) v1 v2 (Na.val (V.take (m - 2)))):=
    Na.rnd_of _ V (m - 2) u0 u1 u2 v1 v2 hWl (by rw [HVe1.1];omega) ((iLU.drop j).take _) HVe1.2.1 (wget _ _ (by omega) (by rw [show j+(m - 2)=j+m - 2 by omega];exact hu2)) (wget _ _ (by omega) (by rw [show j+(m - 2+1)=j+m - 1 by omega];exact hu1)) (wget _ _ (by omega) (by rw [show j+(m - 2+2)=j+m by omega];exact hu0)) (by exact hv2) (by rw [show m - 2+1=m - 1 by omega];exact hv1) hv8 hwin.1
   have HD:=zh hD;have HUs:=zh (And.intro hu0 (And.intro hu1 (And.intro hu2 (And.intro hv1 hv2))))
   clear iU iQ iLU iLQ iX iLt iZ hu0 hu1 hu2 hv1 hv2 hD HVe1 hwin hWl wget;have s1:IntKind.i64.wrap ((j:Int)+(m:Int))=(j:Int)+(m:Int):=IntWalk.i64_in _ (by omega)
   have s2:IntKind.i64.wrap ((j:Int)+(m:Int) - 1)=(j:Int)+(m:Int) - 1:=IntWalk.i64_in _ (by omega)
   have p1:0<=(j:Int)+(m:Int):=by omega
   have p2:0<=(j:Int)+(m:Int) - 1:=by omega
   have p3:(j:Int)+(m:Int)<n+1:=by omega
   have p4:(j:Int)+(m:Int) - 1<(n:Int)+1:=by omega
   have t1:((j:Int)+(m:Int)).toNat=j+m:=by omega
   have t2:((j:Int)+(m:Int) - 1).toNat=j+m - 1:=by omega
   go_wp2_with fail;go_quiet (fail)
   obtain ⟨wa,hwa⟩:∃ wa,wr.drewN nq=wa:=⟨_,rfl⟩
   have HDa:Hid (DK w wa g gv gq (n+1) c3 m c4 qn U V Q):=by rw [<- hwa];exact HD.out.drewN nq
   rw [hwa];clear hwa HD c0 c1 c2' d1 d2;have d1:=z1b HDa.out.ov HUs.out.2.2.2.1
   go_wp2_with fail;obtain ⟨T,hT⟩:∃ T:Nat,u0*16777216+u1=T:=⟨_,rfl⟩
   have hT1:(u0:Int)*16777216+(u1:Int)=(T:Int):=by omega
   have hT2:T<=281474976710655:=by omega
   have HG0:=zh HR.out.start;have HRn:Hid (∀ ge re:Nat,Na.Gue (Na.val ((U.drop j).take (m+1)) / Na.val V) T v1 ge re->re<16777216->(16777216<=ge∨re*16777216+u2<ge*v2)->1<=ge/\Na.Gue (Na.val ((U.drop j).take (m+1)) / Na.val V) T v1 (ge - 1) (re+v1)):=fun ge re h1 h2 h3=>by
    rw [<- hT] at h1 ⊢
    exact HR.out.next h1 h2 h3
   have HRd:Hid (∀ ge re:Nat,Na.Gue (Na.val ((U.drop j).take (m+1)) / Na.val V) T v1 ge re->(16777216<=re∨(ge<16777216/\ge*v2<=re*16777216+u2))->Na.val ((U.drop j).take (m+1)) / Na.val V<=ge/\ge<=Na.val ((U.drop j).take (m+1)) / Na.val V+1/\ge<=16777216):=fun ge re h1 h2=>by
    rw [<- hT] at h1;exact HR.out.done h1 h2
   rw [hT] at HG0;rw [hT1];have HPos:Hid (0<Na.val V):=HR.out.pos
   have HQlt:Hid (Na.val ((U.drop j).take (m+1)) / Na.val V<16777216):=HR.out.qlt
   clear hT1 hT HR;have hv0:1<=(v1:Int):=by omega
   have s3:IntKind.i64.wrap ((m:Int) - 1)=(m:Int) - 1:=IntWalk.i64_in _ (by omega)
   obtain ⟨g0,hg0⟩:∃ g0,T / v1=g0:=⟨_,rfl⟩
   obtain ⟨r0,hr0⟩:∃ r0,T % v1=r0:=⟨_,rfl⟩
   rw [hg0,hr0] at HG0;have hg1:g0<=16777217:=HG0.out.2.2.1
   have hr1:r0<v1:=by rw [<- hr0];exact Nat.mod_lt _ (by omega)
   have HQ0:Hid (wrap64 ((T:Int) / (v1:Int))=(g0:Int)):=by
    unfold Hid;have e:(T:Int) / (v1:Int)=(g0:Int):=by rw [<- hg0];rfl
    rw [e];exact IntWalk.wrap64_in _ ⟨by omega,by omega⟩
   have HR0:Hid ((T:Int) % (v1:Int)=(r0:Int)):=by unfold Hid;rw [<- hr0];rfl
   clear hg0 hr0;go_quiet (fail)
   obtain ⟨wb,hwb⟩:∃ wb,wa.drewN nq=wb:=⟨_,rfl⟩
   have HDb:Hid (DK w wb g gv gq (n+1) c3 m c4 qn U V Q):=by rw [<- hwb];exact HDa.out.drewN nq
   rw [hwb];have hq0:=HQ0.out;have hr0:=HR0.out;clear hwb HDa d1;go_wp2_with fail;clear hq0 hr0;go_loopw [12,13] (fun ve vr wr=>∃ (ge re:Nat),ve=.int .i64 ge/\vr=.int .i64 re/\re<=33554432/\ge<=16777217/\Hid (Na.Gue (Na.val ((U.drop j).take (m+1)) / Na.val V) T v1 ge re)/\Hid (DK w wr g gv gq (n+1) c3 m c4 qn U V Q)) (fun ve _ _=>(intOf ve).toNat)
   case atStart=>exact ⟨g0,r0,by first|rfl|rw [HQ0.out],by first|rfl|rw [HR0.out],by omega,hg1,HG0.out,HDb.out⟩
   case round=>
    clear HG0 HDb hg1 hr1 HQ0 HR0;obtain ⟨ge,re,rfl,rfl,hre,hge,HG,HD⟩:=hrel;have c2':=z1b HD.out.ou HUs.out.2.2.1
    have d2:=z1b HD.out.ov HUs.out.2.2.2.2
    have s4:IntKind.i64.wrap ((m:Int) - 2)=(m:Int) - 2:=IntWalk.i64_in _ (by omega)
    have s5:IntKind.i64.wrap ((j:Int)+(m:Int) - 2)=(j:Int)+(m:Int) - 2:=IntWalk.i64_in _ (by omega)
    have p5:0<=(m:Int) - 2:=by omega
    have p6:(m:Int) - 2<(m:Int):=by omega
    have p7:0<=(j:Int)+(m:Int) - 2:=by omega
    have p8:(j:Int)+(m:Int) - 2<(n:Int)+1:=by omega
    have t3:((m:Int) - 2).toNat=m - 2:=by omega
    have t4:((j:Int)+(m:Int) - 2).toNat=j+m - 2:=by omega
    rcases zqi re 16777216 with hlt|hlt
    ·have hd1:decide ((re:Int)<16777216)=true:=zt (by omega)
     rcases zqi ge 16777216 with hgl|hgl
     ·have hd2:decide (16777216<=(ge:Int))=false:=zn (by omega)
      have hpr:ge*v2<=281474976710656:=by
       have:=Nat.mul_le_mul (Nat.le_of_lt hgl) (Nat.le_of_lt b4)
       omega
      obtain ⟨pr,hp⟩:∃ pr,ge*v2=pr:=⟨_,rfl⟩
      rw [hp] at hpr;have HPr:Hid (IntKind.i64.wrap ((ge:Int)*(v2:Int))=(pr:Int)):=by
       unfold Hid;have e:(ge:Int)*(v2:Int)=(pr:Int):=by rw [<- hp];exact (Int.natCast_mul ge v2).symm
       rw [e];exact IntWalk.i64_in _ (by omega)
      have HPm:Hid ((ge:Int)*(v2:Int)=(pr:Int)):=by unfold Hid;rw [<- hp];exact (Int.natCast_mul ge v2).symm
      have HS7:Hid (IntKind.i64.wrap ((re:Int)*16777216+(u2:Int))=(re:Int)*16777216+(u2:Int)):=IntWalk.i64_in _ (by omega)
      rcases zqi (re*16777216+u2) pr with hc|hc
      ·have hd3:decide ((re:Int)*16777216+(u2:Int)<pr)=true:=zt (by omega)
       have HC:Hid (16777216<=ge∨re*16777216+u2<ge*v2):=.inr (by rw [hp];exact hc)
       clear hp;have hpr1:=HPr.out;have hpr2:=HPm.out;have s7:=HS7.out;go_wp2_with fail;go_quiet (fail)
       clear hpr1 hpr2 s7;obtain ⟨wd,hwd⟩:∃ wd,wr.drewN nq=wd:=⟨_,rfl⟩
       have HD2:Hid (DK w wd g gv gq (n+1) c3 m c4 qn U V Q):=by rw [<- hwd];exact HD.out.drewN nq
       rw [hwd];clear hwd HD c2' d2 HPr HPm;have e1:=(HRn.out ge re HG.out hlt HC.out)
       have HGn:=zh e1.2;have hge1:1<=ge:=e1.1
       clear e1;have d1:=z1b HD2.out.ov HUs.out.2.2.2.1
       go_wp2_with fail;go_roundw
       case rel=>exact ⟨ge - 1,re+v1,z0q (by omega),z0q (by omega),by omega,by omega,HGn.out,HD2.out⟩
       case measure=>simp [intOf];omega
      ·have hd3:decide ((re:Int)*16777216+(u2:Int)<pr)=false:=zn (by omega)
       have HC:Hid (16777216<=re∨(ge<16777216/\ge*v2<=re*16777216+u2)):=.inr ⟨hgl,by rw [hp];exact hc⟩
       clear hp;have hpr1:=HPr.out;have hpr2:=HPm.out;have s7:=HS7.out;go_wp2_with fail;go_quiet (fail)
       clear hpr1 hpr2 s7 HPr HPm HS7;obtain ⟨wd,hwd⟩:∃ wd,wr.drewN nq=wd:=⟨_,rfl⟩
       have HD2:Hid (DK w wd g gv gq (n+1) c3 m c4 qn U V Q):=by rw [<- hwd];exact HD.out.drewN nq
       rw [hwd];have hex:=HRd.out ge re HG.out HC.out
       have HEx:=zh hex;have hge16:ge<=16777216:=hex.2.2
       clear hwd HD c2' d2 hex HRn HRd HG HC hre hge;have hcap:=(z1j HD2.out.ou).1
       have hj1:(j:Int)<=(j:Int)+(m:Int)+1:=by omega
       have hj2:(j:Int)+(m:Int)+1<=(c3:Int):=by omega
       have hw1:j+m+1 - j=m+1:=by omega
       have HW1:=zh hw1;clear hw1;go_wp2_with fail;rw [HW1.out];refine (z0ae g j (m+1) (c3 - j) (n+1) c3 w.heap.size m c4 wd.heap.size (some ⟨gv,0,none⟩) U V ge wd HI.out.1 HVe.out.1 HD2.out.ou (Sl.of_own HD2.out.ov) (fun ad e _=>by cases e;exact fun e=>HD2.out.n1 e.symm) (zqj _) HI.out.2.2.1 HVe.out.2.1 (by omega) (by omega) (by omega) hge16).mono ?_
       rintro e w5 ⟨bw,o,rfl,ho1,ho2,ho3,ho4,ho5⟩;have HD3:=zh (HD2.out.u ho5 ho4)
       have hWW:((U.drop j).take (m+1)).take (m+1)=(U.drop j).take (m+1):=by rw [List.take_take,Nat.min_self]
       have ho3':=ho3
       rw [<- hWW] at ho3';have hWl:((U.drop j).take (m+1)).length<=m+1:=by rw [zqw];omega
       have hte:=Na.take_end ho2 ho1 ho3' hWl (by rw [HVe.out.1];omega)
       obtain ⟨q,hqe⟩:∃ q,Na.val ((U.drop j).take (m+1)) / Na.val V=q:=⟨_,rfl⟩
       rw [hqe] at HEx HQlt;have hqV:q*Na.val V<=Na.val ((U.drop j).take (m+1)):=by rw [<- hqe];exact Nat.div_mul_le_self _ _
       have hqV2:Na.val ((U.drop j).take (m+1))<(q+1)*Na.val V:=by
        have e1:=Nat.div_add_mod (Na.val ((U.drop j).take (m+1))) (Na.val V)
        have e2:=Nat.mod_lt (Na.val ((U.drop j).take (m+1))) HPos.out
        rw [hqe,Nat.mul_comm] at e1;rw [Nat.add_mul,Nat.one_mul];omega
       have hj3:(j:Int)<qn:=by omega
       have hgq:ge=q∨ge=q+1:=by have:=HEx.out;omega
       rcases hgq with rfl|rfl
       ·obtain ⟨rfl,hvo⟩:=hte.2 hqV
        have HNx:=zh (HI.out.next HVe.out.2.1 HPos.out HVe.out.1 (by omega) (by omega) ho1 ho2 hqe.symm HQlt.out hvo)
        obtain ⟨z,hz⟩:=z0m Q j (by have:=HI.out.2.1;omega)
        have hcz:=z1b HD3.out.oq hz
        have hfz:=HD3.out.oq.frozenAt j
        clear ho1 ho2 ho3 ho3' ho4 ho5 hWW hWl hte hqe hqV hqV2 hvo hz HD2;go_wp2_with fail;go_roundw
        case rel=>exact ⟨j,_,_,by omega,rfl,HNx.out,HD3.out.putQ j ge⟩
        case measure=>simp [intOf]
       ·have hbw:=hte.1 hqV2
        have hdb:decide (0<bw)=true:=zt hbw
        have HH:=zh (And.intro ho1 (And.intro ho2 (And.intro ho3' (And.intro hWl (And.intro hqV (And.intro hqV2 (And.intro hqe hbw)))))))
        clear ho1 ho2 ho3 ho3' ho4 ho5 hWW hWl hte hqe hqV hqV2 hbw HD2;go_wp2_with fail;rw [HW1.out];have hq1':((q+1:Nat):Int) - 1=(q:Int):=by omega
        refine (z0aj g j (m+1) (c3 - j) (n+1) c3 w.heap.size m c4 w5.heap.size (some ⟨gv,0,none⟩) (Na.win U o j) V w5 (by rw [Na.win_length U o j (by have:=HI.out.1;have:=HH.out.1;omega)];exact HI.out.1) HVe.out.1 HD3.out.ou (Sl.of_own HD3.out.ov) (fun ad e _=>by cases e;exact fun e=>HD3.out.n1 e.symm) (zqj _) (z1ay HI.out.2.2.1 HH.out.2.1 j) HVe.out.2.1 (by omega) (by omega) (by omega)).mono ?_
        rintro e w6 ⟨b2,o2,rfl,hp1,hp2,hp3,hp4,hp5⟩;have h5:=HI.out.1;have h6:=HH.out.1;rw [z2ai HH.out.1 (by omega),zqp (by have:=HVe.out.1;omega)] at hp3
        rw [z6ah (by omega) (by omega)] at hp4
        have HD4:=zh (HD3.out.u hp5 hp4)
        have hvo:Na.val o2=Na.val ((U.drop j).take (m+1)) - q*Na.val V:=by
         refine Na.give_end HH.out.2.1 HH.out.1 hp2 hp1 HH.out.2.2.1 HH.out.2.2.2.1 (by have:=HVe.out.1;omega) HH.out.2.2.2.2.2.2.2 ?_ HH.out.2.2.2.2.1 HH.out.2.2.2.2.2.1 hp3
         have e1:=Na.val_lt HVe.out.2.1
         rw [HVe.out.1] at e1;rw [Nat.pow_succ];have e2:16777216 ^ m*1<=16777216 ^ m*16777216:=Nat.mul_le_mul_left _ (by omega)
         omega
        have HNx:=zh (HI.out.next HVe.out.2.1 HPos.out HVe.out.1 (by omega) (by omega) hp1 hp2 HH.out.2.2.2.2.2.2.1.symm HQlt.out hvo)
        obtain ⟨z,hz⟩:=z0m Q j (by have:=HI.out.2.1;omega)
        have hcz:=z1b HD4.out.oq hz
        have hfz:=HD4.out.oq.frozenAt j
        clear hp1 hp2 hp3 hp4 hp5 h5 h6 hvo hz HD3 HH;go_wp2_with fail;go_roundw
        case rel=>exact ⟨j,_,_,by omega,rfl,HNx.out,HD4.out.putQ j q⟩
        case measure=>simp [intOf]
     ·have hd2:decide (16777216<=(ge:Int))=true:=zt (by omega)
      have HC:Hid (16777216<=ge∨re*16777216+u2<ge*v2):=.inl hgl
      go_wp2_with fail;go_quiet (fail)
      obtain ⟨wd,hwd⟩:∃ wd,wr.drewN nq=wd:=⟨_,rfl⟩
      have HD2:Hid (DK w wd g gv gq (n+1) c3 m c4 qn U V Q):=by rw [<- hwd];exact HD.out.drewN nq
      rw [hwd];clear hwd HD c2' d2;have e1:=(HRn.out ge re HG.out hlt HC.out)
      have HGn:=zh e1.2;have hge1:1<=ge:=e1.1
      clear e1;have d1:=z1b HD2.out.ov HUs.out.2.2.2.1
      go_wp2_with fail;go_roundw
      case rel=>exact ⟨ge - 1,re+v1,z0q (by omega),z0q (by omega),by omega,by omega,HGn.out,HD2.out⟩
      case measure=>simp [intOf];omega
    ·have hd1:decide ((re:Int)<16777216)=false:=zn (by omega)
     have HC:Hid (16777216<=re∨(ge<16777216/\ge*v2<=re*16777216+u2)):=.inl hlt
     go_wp2_with fail;go_quiet (fail)
     obtain ⟨wd,hwd⟩:∃ wd,wr.drewN nq=wd:=⟨_,rfl⟩
     have HD2:Hid (DK w wd g gv gq (n+1) c3 m c4 qn U V Q):=by rw [<- hwd];exact HD.out.drewN nq
     rw [hwd];have hex:=HRd.out ge re HG.out HC.out
     have HEx:=zh hex;have hge16:ge<=16777216:=hex.2.2
     clear hwd HD c2' d2 hex HRn HRd HG HC hre hge;have hcap:=(z1j HD2.out.ou).1
     have hj1:(j:Int)<=(j:Int)+(m:Int)+1:=by omega
     have hj2:(j:Int)+(m:Int)+1<=(c3:Int):=by omega
     have hw1:j+m+1 - j=m+1:=by omega
     have HW1:=zh hw1;clear hw1;go_wp2_with fail;rw [HW1.out];refine (z0ae g j (m+1) (c3 - j) (n+1) c3 w.heap.size m c4 wd.heap.size (some ⟨gv,0,none⟩) U V ge wd HI.out.1 HVe.out.1 HD2.out.ou (Sl.of_own HD2.out.ov) (fun ad e _=>by cases e;exact fun e=>HD2.out.n1 e.symm) (zqj _) HI.out.2.2.1 HVe.out.2.1 (by omega) (by omega) (by omega) hge16).mono ?_
     rintro e w5 ⟨bw,o,rfl,ho1,ho2,ho3,ho4,ho5⟩;have HD3:=zh (HD2.out.u ho5 ho4)
     have hWW:((U.drop j).take (m+1)).take (m+1)=(U.drop j).take (m+1):=by rw [List.take_take,Nat.min_self]
     have ho3':=ho3
     rw [<- hWW] at ho3';have hWl:((U.drop j).take (m+1)).length<=m+1:=by rw [zqw];omega
     have hte:=Na.take_end ho2 ho1 ho3' hWl (by rw [HVe.out.1];omega)
     obtain ⟨q,hqe⟩:∃ q,Na.val ((U.drop j).take (m+1)) / Na.val V=q:=⟨_,rfl⟩
     rw [hqe] at HEx HQlt;have hqV:q*Na.val V<=Na.val ((U.drop j).take (m+1)):=by rw [<- hqe];exact Nat.div_mul_le_self _ _
     have hqV2:Na.val ((U.drop j).take (m+1))<(q+1)*Na.val V:=by
      have e1:=Nat.div_add_mod (Na.val ((U.drop j).take (m+1))) (Na.val V)
      have e2:=Nat.mod_lt (Na.val ((U.drop j).take (m+1))) HPos.out
      rw [hqe,Nat.mul_comm] at e1;rw [Nat.add_mul,Nat.one_mul];omega
     have hj3:(j:Int)<qn:=by omega
     have hgq:ge=q∨ge=q+1:=by have:=HEx.out;omega
     rcases hgq with rfl|rfl
     ·obtain ⟨rfl,hvo⟩:=hte.2 hqV
      have HNx:=zh (HI.out.next HVe.out.2.1 HPos.out HVe.out.1 (by omega) (by omega) ho1 ho2 hqe.symm HQlt.out hvo)
      obtain ⟨z,hz⟩:=z0m Q j (by have:=HI.out.2.1;omega)
      have hcz:=z1b HD3.out.oq hz
      have hfz:=HD3.out.oq.frozenAt j
      clear ho1 ho2 ho3 ho3' ho4 ho5 hWW hWl hte hqe hqV hqV2 hvo hz HD2;go_wp2_with fail;go_roundw
      case rel=>exact ⟨j,_,_,by omega,rfl,HNx.out,HD3.out.putQ j ge⟩
      case measure=>simp [intOf]
     ·have hbw:=hte.1 hqV2
      have hdb:decide (0<bw)=true:=zt hbw
      have HH:=zh (And.intro ho1 (And.intro ho2 (And.intro ho3' (And.intro hWl (And.intro hqV (And.intro hqV2 (And.intro hqe hbw)))))))
      clear ho1 ho2 ho3 ho3' ho4 ho5 hWW hWl hte hqe hqV hqV2 hbw HD2;go_wp2_with fail;rw [HW1.out];have hq1':((q+1:Nat):Int) - 1=(q:Int):=by omega
      refine (z0aj g j (m+1) (c3 - j) (n+1) c3 w.heap.size m c4 w5.heap.size (some ⟨gv,0,none⟩) (Na.win U o j) V w5 (by rw [Na.win_length U o j (by have:=HI.out.1;have:=HH.out.1;omega)];exact HI.out.1) HVe.out.1 HD3.out.ou (Sl.of_own HD3.out.ov) (fun ad e _=>by cases e;exact fun e=>HD3.out.n1 e.symm) (zqj _) (z1ay HI.out.2.2.1 HH.out.2.1 j) HVe.out.2.1 (by omega) (by omega) (by omega)).mono ?_
      rintro e w6 ⟨b2,o2,rfl,hp1,hp2,hp3,hp4,hp5⟩;have h5:=HI.out.1;have h6:=HH.out.1;rw [z2ai HH.out.1 (by omega),zqp (by have:=HVe.out.1;omega)] at hp3
      rw [z6ah (by omega) (by omega)] at hp4
      have HD4:=zh (HD3.out.u hp5 hp4)
      have hvo:Na.val o2=Na.val ((U.drop j).take (m+1)) - q*Na.val V:=by
       refine Na.give_end HH.out.2.1 HH.out.1 hp2 hp1 HH.out.2.2.1 HH.out.2.2.2.1 (by have:=HVe.out.1;omega) HH.out.2.2.2.2.2.2.2 ?_ HH.out.2.2.2.2.1 HH.out.2.2.2.2.2.1 hp3
       have e1:=Na.val_lt HVe.out.2.1
       rw [HVe.out.1] at e1;rw [Nat.pow_succ];have e2:16777216 ^ m*1<=16777216 ^ m*16777216:=Nat.mul_le_mul_left _ (by omega)
       omega
      have HNx:=zh (HI.out.next HVe.out.2.1 HPos.out HVe.out.1 (by omega) (by omega) hp1 hp2 HH.out.2.2.2.2.2.2.1.symm HQlt.out hvo)
      obtain ⟨z,hz⟩:=z0m Q j (by have:=HI.out.2.1;omega)
      have hcz:=z1b HD4.out.oq hz
      have hfz:=HD4.out.oq.frozenAt j
      clear hp1 hp2 hp3 hp4 hp5 h5 h6 hvo hz HD3 HH;go_wp2_with fail;go_roundw
      case rel=>exact ⟨j,_,_,by omega,rfl,HNx.out,HD4.out.putQ j q⟩
      case measure=>simp [intOf]
theorem z8an (A A2:Option Addr)(n c m c2:Nat)(x y:Nat)(w:World)(hn:(Na.dig x).length=n)(hm:(Na.dig y).length=m)(hs:Sl w w.heap.size A (z0c (Na.dig x)))(hs2:Sl w w.heap.size A2 (z0c (Na.dig y)))(hl:n<=900)(hm2:m<=900)(hyx:x<y):
  Calls Tryz.prog 147 #[.slice A n c,.slice A2 m c2] w (Dvd w x y):=by
 have HCmp:=zh (z3r A A2 n c m c2 w.heap.size x y w hn hm hs hs2 (zqj _) (by omega) (by omega))
 rw [Na.sgn_lt hyx] at HCmp;have HS:=zh hs;have HN:=zh hn;have HE:Hid (0=x / y/\x=x % y):=⟨(Nat.div_eq_of_lt hyx).symm,(Nat.mod_eq_of_lt hyx).symm⟩
 clear hs hs2 hn hm hyx;go_enter Tryz.func147,Tryz.ntmps147
 go_wp2_with fail;refine HCmp.out.mono ?_;rintro e w1 ⟨rfl,hb1⟩;have HB1:=zh hb1;clear hb1 HCmp;go_wp2_with fail;refine (z3x A n c w1.heap.size (Na.dig x) w1 HN.out ((HS.out.below HB1.out).more HB1.out.size) (zqj _) (by omega)).mono ?_
 rintro e w2 ⟨A1,n1,c1,rfl,h1,h2,h3⟩;have HR:=zh (And.intro h1 (And.intro (z1f h2 HB1.out.size) (btr HB1.out h3)))
 clear h1 h2 h3;go_wp2_with fail;go_ret2
 refine ⟨none,0,0,[],A1,n1,c1,Na.dig x,rfl,⟨rfl,Na.Lim.nil,?_,by omega⟩,⟨HR.out.1,Na.dig_lim _,?_,by have:=HN.out;have:=HR.out.1;omega⟩,World.ownsRow_nil _ _ _ _,HR.out.2.1,HR.out.2.2⟩
 ·exact HE.out.1
 ·rw [Na.val_dig];exact HE.out.2
theorem z5ad (w:World)(e:TypeId)(v:Value)(hz:v.cells=#[v]):(w.alloc (.cells #[v] e)).ownsRow w.heap.size e 1 (.slice (some ⟨w.heap.size,0,none⟩) 1 1) 1 [v]:=by
 have h:=z4d w e v 1 1 hz (zqj _) (by unfold maxLen;omega)
 rw [hz] at h;have e1:madeCells #[v] 1=#[v]:=by unfold madeCells;rw [show Array.range 1=#[0] from rfl];simp
 rw [e1] at h;exact h
theorem z8am (A A2:Option Addr)(n c c2:Nat)(x y:Nat)(w:World)(hn:(Na.dig x).length=n)(hm:(Na.dig y).length=1)(hs:Sl w w.heap.size A (z0c (Na.dig x)))(hs2:Sl w w.heap.size A2 (z0c (Na.dig y)))(hl:n<=900)(hyx:y<=x):
  Calls Tryz.prog 147 #[.slice A n c,.slice A2 1 c2] w (Dvd w x y):=by
 have HCmp:=zh (z3r A A2 n c 1 c2 w.heap.size x y w hn hm hs hs2 (zqj _) (by omega) (by omega))
 have hsg:decide (Na.sgn x y<0)=false:=zn (by rcases Na.sgn_cases x y with ⟨h1,h⟩|⟨h1,h⟩|⟨h1,h⟩ <;> omega)
 have hy24:y<16777216:=(Na.dig_len_iff y 1).1 (by omega)
 have hY0:0<y:=by
  rcases zqh y with e|e
  ·rw [e,Na.dig_zero] at hm;simp at hm
  ·exact e
 have hyd:(Na.dig y)[0]?=some y:=by rw [Na.dig_small y hY0 hy24];rfl
 obtain ⟨ad,rfl,hbk,hca⟩:=hs2.nat hyd
 have HS:=zh hs;have HN:=zh hn;have HCA:=zh hca;have HRl:Hid (x % y<16777216):=Nat.lt_trans (Nat.mod_lt x hY0) hy24
 clear hs hs2 hn hm hyx hca hyd;go_enter Tryz.func147,Tryz.ntmps147
 go_wp2_with fail;refine HCmp.out.mono ?_;rintro e w1 ⟨rfl,hb1⟩;have HB1:=zh hb1;clear hb1 HCmp;go_wp2_with fail;refine (z3x A n c w1.heap.size (Na.dig x) w1 HN.out ((HS.out.below HB1.out).more HB1.out.size) (zqj _) (by omega)).mono ?_
 rintro e w2 ⟨A1,n1,c1,rfl,h1,h2,h3⟩;have HB2:=zh (btr HB1.out h3)
 have hc0:=(HB2.out.cell (p:=ad.add 0) (by rw [z1d];exact hbk)).trans HCA.out
 have hc1:w2.cell? ad=some (.int .i64 y):=by
  have:ad.add 0=ad:=by obtain ⟨b,o,s⟩:=ad;cases s <;> simp [Addr.add]
  rw [<- this];exact hc0
 have HSm:=zh (z5aj A1 n1 c1 w1.heap.size (Na.dig x) y (y:Int) rfl w2 h1 h2 (Na.dig_lim _) hY0 (by omega) (by have:=HN.out;omega))
 have hrow:∀ r,(Value.slice A1 n1 c1).ownBlock=some r->w1.heap.size<=r:=z1r h2
 have HRow:=zh hrow;have HN1:=zh h1;clear h1 h2 h3 hc0 hrow;go_wp2_with fail;refine HSm.out.mono ?_;rintro e w3 ⟨Q,rfl,hq1,hq2,hq3,hq4,hq5⟩;rw [Na.val_dig] at hq3 ⊢
 have HB3:Hid (Below w.heap.size w w3):=HB2.out.grown hq5 HB2.out.size (fun r e=>zqq HB1.out.size (HRow.out r e))
 have HQ:=zh (And.intro hq1 (And.intro hq2 (And.intro hq3 (z1f hq4 HB1.out.size))))
 clear hq1 hq2 hq3 hq4 hq5 hsg;go_wp2_with fail;go_ret2
 refine ⟨A1,n1,c1,Q,_,1,1,[x % y],rfl,⟨HQ.out.1,HQ.out.2.1,HQ.out.2.2.1,by have:=HN.out;have:=HN1.out;omega⟩,⟨rfl,Na.Lim.one HRl.out,by simp [Na.val],by omega⟩,z0x HQ.out.2.2.2 _,z1f (z5ad w3 3 (.int .i64 ((x % y:Nat):Int)) rfl) HB3.out.size,bal HB3.out _⟩
theorem z1au (A A2:Option Addr)(n c m c2:Nat)(x y:Nat)(w:World)(hn:(Na.dig x).length=n)(hm:(Na.dig y).length=m)(hs:Sl w w.heap.size A (z0c (Na.dig x)))(hs2:Sl w w.heap.size A2 (z0c (Na.dig y)))(hl:n<=900)(hm2:m<=900)(hy:0<y):
  Calls Tryz.prog 147 #[.slice A n c,.slice A2 m c2] w (Dvd w x y):=by
 rcases zqi x y with h|h
 ·exact z8an A A2 n c m c2 x y w hn hm hs hs2 hl hm2 h
 ·rcases zqi m 2 with h1|h1
  ·have:m=1:=by
    rcases zqh m with e|e
    ·rw [e] at hm;have:=Na.dig_len0.1 hm;omega
    ·omega
   subst this
   exact z8am A A2 n c c2 x y w hn hm hs hs2 hl h
  ·exact z8al A A2 n c m c2 x y w hn hm hs hs2 hl h1 h
def z0cf (w:World)(l1 l2:List Nat)(err:Int)(en:Ending)(w':World):Prop:=
 ∃ (A1:Option Addr) (n1 c1:Nat) (A2:Option Addr) (n2 c2:Nat),en=.returned (.tuple #[.agg #[.slice A1 n1 c1],.agg #[.slice A2 n2 c2],.int .i64 err])/\l1.length=n1/\l2.length=n2/\w'.ownsRow w.heap.size 3 1 (.slice A1 n1 c1) n1 (z0c l1)/\w'.ownsRow w.heap.size 3 1 (.slice A2 n2 c2) n2 (z0c l2)/\Below w.heap.size w w'
theorem z2ak {w:World}{base:Nat}{A:Option Addr}{n c:Nat}{l:List Nat}(ho:w.ownsRow base 3 1 (.slice A n c) n (z0c l))(hn:l.length=n)(hl:Na.Lim l):Na.tl l n=(Na.dig (Na.val l)).length/\w.ownsRow base 3 1 (.slice A (Na.tl l n) c) (Na.tl l n) (z0c (Na.dig (Na.val l))):=by
 subst hn
 refine ⟨Na.trim_len hl,?_⟩
 have h:=z3j ho (k:=Na.tl l l.length) (Na.tl_le _ _)
 rw [z3f] at h;have e:=Na.trim_dig hl
 unfold Na.trim at e;rwa [e] at h
theorem z5as (A A2:Option Addr)(n c m c2:Nat)(x y:Nat)(w:World)(hn:(Na.dig x).length=n)(hm:(Na.dig y).length=m)(hs:Sl w w.heap.size A (z0c (Na.dig x)))(hs2:Sl w w.heap.size A2 (z0c (Na.dig y)))(hx:x<Na.top)(hy:y<Na.top)(hy0:0<y):
  Calls Tryz.prog 127 #[.agg #[.slice A n c],.agg #[.slice A2 m c2]] w (z0cf w (Na.dig (x / y)) (Na.dig (x % y)) 0):=by
 have hn2:n<=200:=by rw [<- hn];exact (Na.dig_200 x).2 hx
 have hm2:m<=200:=by rw [<- hm];exact (Na.dig_200 y).2 hy
 have hm0:((m:Int) == 0)=false:=by
  rw [beq_eq_false_iff_ne];intro e;have:m=0:=by omega
  rw [this] at hm;have:=Na.dig_len0.1 hm
  omega
 obtain ⟨w0,hw0⟩:∃ w0,(((w.alloc (.cells #[.slice A n c] 25)).alloc (.cells #[.slice A2 m c2] 25)).alloc (.cells #[.slice none 0 0] 25)).alloc (.cells #[.slice none 0 0] 25)=w0:=⟨_,rfl⟩
 have HW:Hid ((((w.alloc (.cells #[.slice A n c] 25)).alloc (.cells #[.slice A2 m c2] 25)).alloc (.cells #[.slice none 0 0] 25)).alloc (.cells #[.slice none 0 0] 25)=w0):=hw0
 obtain ⟨b,hb⟩:∃ b,w.heap.size=b:=⟨_,rfl⟩
 have hb0:Below w.heap.size w w0:=by rw [<- hw0];exact bal (bal (bal (bal (Below.refl _ _) _) _) _) _
 have hzw:b+4<=w0.heap.size:=by rw [<- hw0,<- hb];simp
 have k0:w0.cell? ⟨b,0,none⟩=some (.slice A n c):=by rw [<- hw0,<- hb];simp [go_sem]
 have k1:w0.cell? ⟨b+1,0,none⟩=some (.slice A2 m c2):=by rw [<- hw0,<- hb];simp [go_sem]
 have k2:w0.cell? ⟨b+1+1,0,none⟩=some (.slice none 0 0):=by rw [<- hw0,<- hb];simp [go_sem]
 have k3:w0.cell? ⟨b+1+1+1,0,none⟩=some (.slice none 0 0):=by rw [<- hw0,<- hb];simp [go_sem]
 have f2:w0.frozen? ⟨b+1+1,0,none⟩=false:=by rw [<- hw0,<- hb];simp [go_sem]
 have f3:w0.frozen? ⟨b+1+1+1,0,none⟩=false:=by rw [<- hw0,<- hb];simp [go_sem]
 have hvv:(Na.vld (Na.up (Na.dig x)) && Na.vld (Na.up (Na.dig y)))=true:=by rw [Na.vld_dig hx,Na.vld_dig hy];rfl
 have HV:=zh (z1y A A2 n c m c2 w0.heap.size _ _ w0 (by rw [Na.up_length];exact hn) (by rw [Na.up_length];exact hm) (by rw [z0g];exact (hs.below hb0).more hb0.size) (by rw [z0g];exact (hs2.below hb0).more hb0.size) (zqj _) (by omega) (by omega))
 rw [hvv] at HV;have HN:=zh hn;have HM:=zh hm;have HS:=zh hs;have HS2:=zh hs2;have HB0:=zh hb0;have HY:=zh hy0;have HBw:=zh hb;have HK:Hid (∀ W,Below w0.heap.size w0 W->W.cell? ⟨b,0,none⟩=some (.slice A n c)/\W.cell? ⟨b+1,0,none⟩=some (.slice A2 m c2)/\W.cell? ⟨b+1+1,0,none⟩=some (.slice none 0 0)/\W.cell? ⟨b+1+1+1,0,none⟩=some (.slice none 0 0)/\W.frozen? ⟨b+1+1,0,none⟩=false/\W.frozen? ⟨b+1+1+1,0,none⟩=false):=fun W h=>
  ⟨(h.cell (p:=⟨b,0,none⟩) (by simp only;omega)).trans k0,(h.cell (p:=⟨b+1,0,none⟩) (by simp only;omega)).trans k1,(h.cell (p:=⟨b+1+1,0,none⟩) (by simp only;omega)).trans k2,(h.cell (p:=⟨b+1+1+1,0,none⟩) (by simp only;omega)).trans k3,(h.frozen (p:=⟨b+1+1,0,none⟩) (by simp only;omega)).trans f2,(h.frozen (p:=⟨b+1+1+1,0,none⟩) (by simp only;omega)).trans f3⟩
 clear hs hs2 hn hm hw0 hvv hx hy hb k0 k1 k2 k3 f2 f3 hb0 hy0;go_enter Tryz.func127,Tryz.ntmps127
 go_wp2_with fail;rw [HW.out,HBw.out];refine HV.out.mono ?_;rintro e w1 ⟨rfl,hb1⟩;obtain ⟨k0,k1,-,-,-,-⟩:=HK.out w1 hb1
 have HB1:=zh hb1;clear hb1 HV HW;go_wp2_with fail;have HBt:Hid (Below w.heap.size w w1):=btr HB0.out HB1.out
 refine (z1au A A2 n c m c2 x y w1 HN.out HM.out ((HS.out.below HBt.out).more HBt.out.size) ((HS2.out.below HBt.out).more HBt.out.size) (by omega) (by omega) HY.out).mono ?_
 rintro e w2 ⟨A3,n3,c3,Q,A4,n4,c4,R,rfl,⟨q1,q2,q3,q4⟩,⟨r1,r2,r3,r4⟩,ho1,ho2,hb2⟩;obtain ⟨-,-,k2,k3,f2,f3⟩:=HK.out w2 (btr HB1.out hb2)
 have HT1:=zh (z3w A3 n3 c3 w2.heap.size Q w2 q1 (Sl.of_own ho1) (z1j ho1).1 (by omega))
 have HT2:=zh (z3w A4 n4 c4 w2.heap.size R w2 r1 (Sl.of_own ho2) (z1j ho2).1 (by omega))
 obtain ⟨e1,o1⟩:=z2ak ho1 q1 q2
 obtain ⟨e2,o2⟩:=z2ak ho2 r1 r2
 rw [q3] at e1 o1;rw [r3] at e2 o2;have HQ:=zh (And.intro e1 o1)
 have HR:=zh (And.intro e2 o2)
 have HB2:=zh (btr HBt.out hb2)
 obtain ⟨s1,hs1⟩:∃ s,Na.tl Q n3=s:=⟨_,rfl⟩
 obtain ⟨s2,hs2⟩:∃ s,Na.tl R n4=s:=⟨_,rfl⟩
 rw [hs1] at HT1 HQ;rw [hs2] at HT2 HR;clear q1 q2 q3 r1 r2 r3 ho1 ho2 hb2 e1 o1 e2 o2 k0 k1 hs1 hs2 HK;have k3':(w2.setCell ⟨b+1+1,0,none⟩ (.slice A3 s1 c3)).cell? ⟨b+1+1+1,0,none⟩=some (.slice none 0 0):=by rw [World.cell?_setCell_other _ _ _ _ (by simp)];exact k3
 go_wp2_with fail;refine HT1.out.mono ?_;rintro e w2' ⟨rfl,rfl⟩;go_wp2_with fail;refine HT2.out.mono ?_;rintro e w2' ⟨rfl,rfl⟩;go_wp2_with fail;have hc1:((w2.setCell ⟨b+1+1,0,none⟩ (.slice A3 s1 c3)).setCell ⟨b+1+1+1,0,none⟩ (.slice A4 s2 c4)).cell? ⟨b+1+1,0,none⟩=some (.slice A3 s1 c3):=by rw [World.cell?_setCell_other _ _ _ _ (by simp)];exact z0k _ k2
 have hc2:((w2.setCell ⟨b+1+1,0,none⟩ (.slice A3 s1 c3)).setCell ⟨b+1+1+1,0,none⟩ (.slice A4 s2 c4)).cell? ⟨b+1+1+1,0,none⟩=some (.slice A4 s2 c4):=z0k _ k3'
 have hbw:=HBw.out;have h14:b+4<=w1.heap.size:=zqq hzw HB1.out.size
 refine bodyPost_ret (v:=.tuple #[.agg #[.slice A3 s1 c3],.agg #[.slice A4 s2 c4],.int .i64 0]) (by simp [results,Tryz.results127,go_sem,hc1,hc2]) rfl ?_
 exact ⟨A3,s1,c3,A4,s2,c4,rfl,HQ.out.1.symm,HR.out.1.symm,z1f (z2f (z2f HQ.out.2 _ _ (by simp only;omega)) _ _ (by simp only;omega)) HBt.out.size,z1f (z2f (z2f HR.out.2 _ _ (by simp only;omega)) _ _ (by simp only;omega)) HBt.out.size,z4z (z4z HB2.out _ (by simp only;omega) _) _ (by simp only;omega) _⟩
section
variable {w0 w w':World}{g:Option Nat}{M:List (Nat×Value)}{L:List Ob}{A A2:Option Addr}{n c m c2 x y:Nat}
theorem St.push2 (h:St w0 w g M L){B1 B2:Option Addr}{n1 d1 n2 d2:Nat}{us vs:List Value}{e:TypeId}(ho:w'.ownsRow w.heap.size e 1 (.slice B1 n1 d1) n1 us)(ho2:w'.ownsRow w.heap.size e 1 (.slice B2 n2 d2) n2 vs)(hl:n1<=1000)(hl2:n2<=1000)(hb:Below w.heap.size w w'):St w0 w' g M (L++[⟨B1,n1,d1,us⟩]++[⟨B2,n2,d2,vs⟩]):=by
 refine (h.push ho hl hb).add (Sl.of_own ho2) (zqj _) (z1m ho2) (z1j ho2).1 hl2 fun ad e h0=>?_
 obtain ⟨g',hg',h1,_⟩:=z0n ho2 h0
 rw [e] at hg';obtain rfl:=zqk hg'
 exact ⟨fun e2=>by have:=(h.lt _ e2).1;simp only at this;omega,fun i b v hi e2=>by have:=(h.box i b v hi).1;simp only at e2;omega⟩
end
open Go.RowKit Go.Sort
section
variable {P:Program}{w0 w:World}{g:Option Nat}{M:List (Nat×Value)}{L:List Ob}{O:List Rw}{t e:TypeId}{z:Value}{bytes:Nat}
end
theorem Sl.nat_c {w:World}{B:Nat}{ad:Addr}{l:List Nat}(h:Sl w B (some ad) (z0c l)){k b:Nat}(hk:l[k]?=some b):w.cell? (ad.add k)=some (.int .i64 b):=by
 obtain ⟨ad',e,_,hc⟩:=h.nat hk
 obtain rfl:=zqk e
 exact hc
namespace Na
set_option maxHeartbeats 8000000
theorem zeros_set (k q:Nat)(Q:List Nat):(List.replicate (k+1) 0++Q).set k q=List.replicate k 0++(q :: Q):=by
 rw [List.replicate_succ',zqa,List.set_append_right _ _ (by rw [List.length_replicate];exact zqj _),List.length_replicate,Nat.sub_self]
 rfl
theorem half_at {y T lo hi mid:Nat}(h1:y*lo<=T)(h2:T<y*(hi+1))(hm:mid=(lo+hi+1) / 2)(hlt:lo<hi):mid<=hi/\lo<mid/\(sgn (y*mid) T<=0->y*mid<=T)/\(¬ sgn (y*mid) T<=0->T<y*(mid - 1+1)):=by
 refine ⟨by omega,by omega,fun h=>?_,fun h=>?_⟩
 ·rcases sgn_cases (y*mid) T with ⟨h3,e⟩|⟨h3,e⟩|⟨h3,e⟩ <;> omega
 ·rw [show mid - 1+1=mid by omega]
  rcases sgn_cases (y*mid) T with ⟨h3,e⟩|⟨h3,e⟩|⟨h3,e⟩ <;> omega
theorem half_end {y T q:Nat}(h1:y*q<=T)(h2:T<y*(q+1)):T - y*q<y:=by
 rw [zqt,Nat.mul_one] at h2;omega
theorem div_next {X:List Nat}{j a y q R:Nat}{Q:List Nat}(ha:X[j]?=some a)(h:val (X.drop (j+1))=y*val Q+R)(hq:y*q<=a+16777216*R):val (X.drop j)=y*val (q :: Q)+(a+16777216*R - y*q):=by
 rw [val_drop_cons X j a ha,h,val,zqt,zqt];have e:16777216*(y*val Q)=y*(16777216*val Q):=by rw [Nat.mul_left_comm]
 omega
theorem div_start {a y R:Nat}(ha:a<16777216)(hR:R<y):a+16777216*R<y*(16777215+1):=by
 have:=Nat.mul_le_mul_left 16777216 hR
 rw [Nat.mul_comm y];omega
theorem div_end {x y R:Nat}{Q:List Nat}(h:x=y*val Q+R)(hR:R<y):val Q=x / y/\R=x % y:=by
 have hy:0<y:=by omega
 constructor
 ·rw [h,Nat.mul_add_div hy,Nat.div_eq_of_lt hR,Nat.add_zero]
 ·rw [h,Nat.mul_add_mod,Nat.mod_eq_of_lt hR]
end Na
def RDv (w:World)(M:List (Nat×Value))(r0:Nat)(L:List Ob)(QA:Option Addr)(x y n:Nat)(kk:Nat)(i:Value)(wr:World):Prop:=
 ∃ (z:Int) (R:Nat) (Ar:Option Addr) (nr cr:Nat) (Q:List Nat),-1<=z/\z<n/\Hid ((z+1).toNat=kk)/\i=.int .i64 z/\nr<=200/\Hid (R<y/\Q.length+(z+1).toNat=n/\Na.Lim Q/\Na.val ((Na.dig x).drop (z+1).toNat)=y*Na.val Q+R)/\
  Hid (Ow w wr none (M++[(r0,.slice Ar nr cr)]) (L++[⟨Ar,nr,cr,z0c (Na.dig R)⟩]) [⟨QA,n,n,3,z0c (List.replicate (z+1).toNat 0++Q)⟩])
def z1cg (w0:World)(M:List (Nat×Value))(L:List Ob)(O:List Rw)(y T:Nat)(lo hi:Value)(wr:World):Prop:=
 ∃ l h:Nat,l<=h/\h<16777216/\lo=.int .i64 l/\hi=.int .i64 h/\Hid (y*l<=T/\T<y*(h+1))/\Hid (Ow w0 wr none M L O)
theorem z7h (A A2:Option Addr)(n c m c2:Nat)(x y:Nat)(w:World)(hn:(Na.dig x).length=n)(hm:(Na.dig y).length=m)(hnc:n<=c)(hmc:m<=c2)(hs:Sl w w.heap.size A (z0c (Na.dig x)))(hs2:Sl w w.heap.size A2 (z0c (Na.dig y)))(hx:x<Na.top)(hy:y<Na.top)(hy0:0<y):
  Calls Tryz.prog 77 #[.agg #[.slice A n c],.agg #[.slice A2 m c2]] w (z0cf w (Na.dig (x / y)) (Na.dig (x % y)) 0):=by
 have hn2:n<=200:=by rw [<- hn];exact (Na.dig_200 x).2 hx
 have hm2:m<=200:=by rw [<- hm];exact (Na.dig_200 y).2 hy
 have hm0:((m:Int) == 0)=false:=by
  rw [beq_eq_false_iff_ne];intro e;have:m=0:=by omega
  rw [this] at hm;have:=Na.dig_len0.1 hm
  omega
 have HY0:=zh hy0;clear hy0;have H0:=((((((Ow.of (St.refl w)).old hs (by rw [z0e];exact hn) hnc (by omega)).old hs2 (by rw [z0e];exact hm) hmc (by omega)).boxed (.slice A n c) 25).boxed (.slice A2 m c2) 25).boxed (.slice none 0 0) 25).boxed (.slice none 0 0) 25
 simp only [World.size_alloc,zqc,zqb] at H0;have hc0:=H0.cell 0 rfl
 have HH:=zh (z2e H0 0 rfl hx)
 have HX:=zh hx;have HY:=zh hy;have HN:=zh hn;have HM:=zh hm;clear hn hm hs hs2 H0 hx hy;go_enter Tryz.func77,Tryz.ntmps77
 go_wp2_with fail;refine HH.out.mono ?_;rintro e w1 ⟨rfl,H1⟩;have hc1:=H1.cell 1 rfl
 have HK:=zh (z2e H1 1 rfl HY.out)
 clear hc0 HH H1;go_wp2_with fail;refine HK.out.mono ?_;rintro e w2 ⟨rfl,H1⟩;have hc0:=H1.cell 0 rfl
 have hc1:=H1.cell 1 rfl
 clear HK;have hmk:=z4p.make .i64 .i64 (n:Int) (n:Int) n n rfl rfl (zqj _) (by omega) (by omega)
 have H2:=(((H1.made 3 (.int .i64 0) n n rfl (zqj _) (by unfold maxLen;omega)).boxed (.slice none 0 0) 25).old (A:=none) (n:=0) (c:=0) (vs:=[]) (Sl.nil _ _ _) rfl (zqj _) (by omega))
 simp only [World.size_alloc,zqc,zqb] at H2;have hq1:=H2.cell 0 rfl
 obtain ⟨w3,hw3⟩:∃ w3,(w2.alloc (.cells (madeCells #[.int .i64 0] n) 3)).alloc (.cells #[.slice none 0 0] 25)=w3:=⟨_,rfl⟩
 have HW:Hid ((w2.alloc (.cells (madeCells #[.int .i64 0] n) 3)).alloc (.cells #[.slice none 0 0] 25)=w3):=hw3
 rw [hw3] at H2;have hq0:(w2.alloc (.cells (madeCells #[.int .i64 0] n) 3)).cell? ⟨w.heap.size,0,none⟩=some (.slice A n c):=by
  have:=(H1.made 3 (.int .i64 0) n n rfl (zqj _) (by unfold maxLen;omega)).cell 0 rfl
  exact this
 have HH:=zh H2;clear H1 H2 hw3;go_wp2_with fail;obtain ⟨r0,hr0⟩:∃ r,w2.heap.size+1=r:=⟨_,rfl⟩
 obtain ⟨QA,hQA⟩:∃ q,(some (⟨w2.heap.size,0,none⟩:Addr))=q:=⟨_,rfl⟩
 rw [hr0,hQA] at HH;rw [HW.out,hr0,hQA];clear hc0 hc1 hq0 hq1 hmk hm0 hr0 hQA HW;go_loopg [9] n (fun kk i wr=>RDv w [(w.heap.size,.slice A n c),(w.heap.size+1,.slice A2 m c2),(w.heap.size+1+1,.slice none 0 0),(w.heap.size+1+1+1,.slice none 0 0)] r0 [⟨A,n,c,z0c (Na.dig x)⟩,⟨A2,m,c2,z0c (Na.dig y)⟩] QA x y n kk i wr)
 case atStart=>
  refine ⟨(n:Int) - 1,0,none,0,0,[],by omega,by omega,(by unfold Hid;omega),rfl,by omega,⟨HY0.out,by rw [List.length_nil];omega,Na.Lim.nil,?_⟩,?_⟩
  ·rw [List.drop_of_length_le (by rw [HN.out];omega)];rfl
  ·unfold Hid;rw [show ((n:Int) - 1+1).toNat=n by omega,List.append_nil,Na.dig_zero]
   exact (HH.out.same 0 rfl (by unfold z0c;rw [List.map_replicate];rfl))
 case round=>
  obtain ⟨z,R,Ar,nr,cr,Q,hz1,hz2,HKK,rfl,hnr,HP,HO⟩:=hrel;have HO1:=HO.out;simp only [zqc,zqb] at HO1;rcases Int.lt_or_le z 0 with hz|hz
  ·have e0:(z+1).toNat=0:=by omega
   rw [e0,List.replicate_zero,zqc] at HO1;have hd:=HP.out;rw [e0,List.drop_zero,Na.val_dig] at hd;have HE:=zh (Na.div_end hd.2.2.2 hd.1)
   have HF:=zh (z6ay HO1 0 rfl hd.2.2.1 (by omega))
   have ht:x / y<Na.top:=zqu (Nat.div_le_self _ _) HX.out
   rw [HE.out.1,z1t ht,z1u ht] at HF;clear HO HO1 hd ht HP hz1 hz2 HH;go_wp2_with fail;refine HF.out.mono ?_;rintro e w4 ⟨A9,n9,c9,rfl,hn9,H4⟩;have H5:=H4.boxed (.slice A9 n9 c9) 25
   simp only [zqc,zqb] at H5;clear HF H4;have HG:=zh ((H5.nil 3).drew)
   have HRg:=zh (HG.out.sl (i:=2) rfl)
   have hx5:=H5.cell 5 rfl
   have hx4:=H5.cell 4 rfl
   have HN9:=zh hn9;clear H5 hn9;go_upto_region 26 with (fail)
   go_region_held3 (fun W=>W.cell? ⟨w4.heap.size,0,none⟩=some (.slice A9 n9 c9)/\W.cell? ⟨r0,0,none⟩=some (.slice Ar nr cr)) (first|exact ⟨hx5,hx4⟩|exact ⟨how.cell 5 rfl,how.cell 4 rfl⟩|exact ⟨G1.cell 5 rfl,G1.cell 4 rfl⟩|exact ⟨G2.cell 5 rfl,G2.cell 4 rfl⟩) ((rw [if_pos (by rfl)];refine z8g z4p HG.out 2 (.const (.slice none 0 0)) (.tmp 109) rfl HRg.out.1 HRg.out.2.2.2 (z3k _) (by unfold maxLen;omega) (by omega) rfl rfl rfl ?_;intro A' c' w8 how;rw [Nat.zero_add,zqc] at how;have hs2:=how.cell 2 rfl;have hs2f:=how.free 2 rfl;have G1:=how.setv 2 rfl (.slice A9 n9 c9);have hs3:=G1.cell 3 rfl;have hs3f:=G1.free 3 rfl;have G2:=G1.setv 3 rfl (.slice A' nr c')))
   clear hs2 hs2f hs3 hs3f hx5 hx4;go_wp2_with fail;have hc5:=G2.cell 2 rfl
   have hc6:=G2.cell 3 rfl
   have HE2:=HE.out.2;subst HE2
   refine bodyPost_ret (v:=.tuple #[.agg #[.slice A9 n9 c9],.agg #[.slice A' nr c'],.int .i64 0]) (by simp [results,Tryz.results77,go_sem,hc5,hc6]) rfl ?_
   have hl6:=HRg.out.1;rw [z0e] at hl6;exact ⟨A9,n9,c9,A',nr,c',rfl,HN9.out,hl6,G2.row 1 rfl,G2.row 2 rfl,G2.below⟩
  ·obtain ⟨j,rfl⟩:=Int.eq_ofNat_of_zero_le hz
   have hjn:j<n:=by omega
   have e1:((j:Int)+1).toNat=j+1:=by omega
   rw [e1] at HO1;have hd:=HP.out;rw [e1] at hd;have HPj:=zh hd;obtain ⟨a,ha⟩:=z0m (Na.dig x) j (by rw [HN.out];exact hjn)
   have ha24:=(Na.dig_lim x).at ha
   obtain ⟨ad,rfl,_,hca⟩:=(HO1.sl (i:=0) rfl).2.2.2.nat ha
   have hx0:=HO1.cell 0 rfl
   have hx4:=HO1.cell 4 rfl
   have HLt:=zh ((HO1.lit1 (.int .i64 a) 3).drew)
   have HRs:=zh (HLt.out.sl (i:=2) rfl)
   have HHa:=zh ha;have HOj:=zh HO1;clear ha HO HO1 HP hd hz hz1 hz2 e1;go_upto_region 10 with (fail)
   go_region_held3 (fun W=>W.cell? ⟨w.heap.size,0,none⟩=some (.slice (some ad) n c)/\W.cell? ⟨r0,0,none⟩=some (.slice Ar nr cr)/\W.cell? (ad.add j)=some (.int .i64 a)) (first|exact ⟨hx0,hx4,hca⟩|exact ⟨HLt.out.cell 0 rfl,HLt.out.cell 4 rfl,(HLt.out.sl (i:=0) rfl).2.2.2.nat_c HHa.out⟩|exact ⟨how.cell 0 rfl,how.cell 4 rfl,(how.sl (i:=0) rfl).2.2.2.nat_c HHa.out⟩) ((rw [if_pos (by rfl)];refine z8g z4p HLt.out 1 (.tmp 50) (.tmp 52) rfl HRs.out.1 HRs.out.2.2.2 (z3k _) (by unfold maxLen;omega) (by omega) rfl rfl rfl ?_;intro A' c' w8 how))
   obtain ⟨T,hT⟩:∃ T,a+16777216*R=T:=⟨_,rfl⟩
   have H8:=how;simp only [zqb,zqc,zqe,zqd] at H8;have HLv:Hid (Na.val (a :: Na.dig R)=T):=by unfold Hid;rw [Na.val,Na.val_dig];exact hT
   have HLl:Hid (Na.Lim (a :: Na.dig R)):=Na.Lim.cons ha24 (Na.dig_lim R)
   have HLn:Hid ((a :: Na.dig R).length=1+nr):=by have:=HRs.out.1;rw [z0e] at this;unfold Hid;rw [List.length_cons,this];omega
   have HX8:Hid (Ow w w8 none [(w.heap.size,.slice (some ad) n c),(w.heap.size+1,.slice A2 m c2),(w.heap.size+1+1,.slice none 0 0),(w.heap.size+1+1+1,.slice none 0 0),(r0,.slice Ar nr cr)] [⟨some ad,n,c,z0c (Na.dig x)⟩,⟨A2,m,c2,z0c (Na.dig y)⟩,⟨Ar,nr,cr,z0c (Na.dig R)⟩] [⟨QA,n,n,3,z0c (List.replicate (j+1) 0++Q)⟩,⟨A',1+nr,c',3,z0c (a :: Na.dig R)⟩]):=H8
   have H25:=zh hT;obtain ⟨l,hl⟩:∃ l,a :: Na.dig R=l:=⟨_,rfl⟩
   rw [hl] at HLv HLl HLn HX8;clear hT how H8 hl HLt HRs hca hx0 hx4 HOj ha24;go_upto_block 2 with (fail)
   go_cut [11] from 41 to 101 (fun v wx=>v=.int .i64 ((Na.tl l l.length:Nat):Int)/\wx=w8)
   case first=>
    go_wp2_with fail;go_loop [11] (fun v=>∃ i:Nat,i<=1+nr/\v=.int .i64 i/\Hid (Na.tl l i=Na.tl l l.length)) (fun v=>(intOf v).toNat)
    case atStart=>exact ⟨1+nr,zqj _,by simp,by unfold Hid;rw [HLn.out]⟩
    case round=>
     obtain ⟨i,hi,rfl,HT⟩:=hrel;have hown:=Sl.of_own (HX8.out.row 1 rfl)
     rcases Na.tl_case l l.length i (by rw [HLn.out];exact hi) HT.out with ⟨h0,hz,ht⟩|⟨ht,hs⟩
     ·obtain ⟨ad2,rfl,_,hcb⟩:=hown.nat hz
      have HT2:=zh ht;have hd:decide (0<(i:Int))=true:=zt (by omega)
      have hcn:(i:Int)<=(1:Int)+(nr:Int):=by omega
      clear hown hz ht;go_wp2_with fail;go_round
      case rel=>exact ⟨i - 1,by omega,z0q (by omega),HT2⟩
      case measure=>simp [intOf];omega
     ·have HTe:=zh ht;rcases hs with h0|⟨h0,b,hb,hbne⟩
      ·subst h0
       clear hown ht HT;go_wp2_with fail;go_meet;exact ⟨by rw [HTe.out];rfl,rfl⟩
      ·obtain ⟨ad2,rfl,_,hcb⟩:=hown.nat hb
       have hd:decide (0<(i:Int))=true:=zt (by omega)
       have hcn:(i:Int)<=(1:Int)+(nr:Int):=by omega
       clear hown hb ht HT;go_wp2_with fail;go_meet;exact ⟨by rw [HTe.out],rfl⟩
   case rest=>
    obtain ⟨rfl,rfl⟩:=hcut;have hrow:=HX8.out.row 1 rfl
    obtain ⟨gb,rfl,-,-⟩:=z0n hrow (by omega)
    have hcap:=(z1j hrow).1
    obtain ⟨q1,hq1⟩:∃ k,Na.tl l l.length=k:=⟨_,rfl⟩
    have hq2:q1<=1+nr:=by rw [<- hq1,<- HLn.out];exact Na.tl_le _ _
    have hjc:(q1:Int)<=(c':Int):=by omega
    have H9:=((HX8.out.trimmed 1 rfl HLl.out hq1 HLv.out).setv 4 rfl (.slice (some ⟨gb,0,none⟩) q1 c')).keep 1 rfl (by omega)
    simp only [zqb,zqc,zqe,zqd] at H9;have hc8:=HX8.out.cell 4 rfl
    have hf8:=HX8.out.free 4 rfl
    rw [hq1];clear hrow hcap hq1;go_upto_region 16 with (fail)
    obtain ⟨w9,hw9⟩:∃ w9,wc.setCell ⟨r0,0,none⟩ (.slice (some ⟨gb,0,none⟩) q1 c')=w9:=⟨_,rfl⟩
    rw [hw9] at H9 ⊢
    clear hw9 hc8 hf8 hjc;have hc8:=H9.cell 4 rfl
    have hc1:=H9.cell 1 rfl
    have HC:=zh (z7c H9 3 1 rfl rfl)
    clear H9 HX8;go_wp2_with fail;refine HC.out.mono ?_;rintro e w10 ⟨rfl,H10⟩;have HX10:=zh H10;clear HC H10 hc8 hc1;go_upto_if 75 with (fail)
    go_cut [13] from 41 to 101 (fun v wx=>∃ h:Nat,h<16777216/\v=.int .i64 h/\Hid (T<y*(h+1))/\wx=w10)
    case first=>
     rcases zqi T y with hlt|hge
     ·have hs:Na.sgn T y<0:=by rw [Na.sgn_lt hlt];omega
      have HT0:Hid (T<y*(0+1)):=by unfold Hid;omega
      obtain ⟨sg,hsg⟩:∃ s:Int,Na.sgn T y=s:=⟨_,rfl⟩
      rw [hsg] at hs ⊢
      have hs':decide (sg<0)=true:=zt hs
      clear hlt hsg;go_wp2_with fail;go_meet;exact ⟨0,by omega,rfl,HT0,rfl⟩
     ·have hs:0<=Na.sgn T y:=by rcases Na.sgn_cases T y with ⟨h,e⟩|⟨h,e⟩|⟨h,e⟩ <;> omega
      have HT0:Hid (T<y*(16777215+1)):=by unfold Hid;rw [<- H25.out];exact Na.div_start ((Na.dig_lim x).at HHa.out) HPj.out.1
      obtain ⟨sg,hsg⟩:∃ s:Int,Na.sgn T y=s:=⟨_,rfl⟩
      rw [hsg] at hs ⊢
      have hs':decide (sg<0)=false:=zn (by omega)
      clear hge hsg;go_wp2_with fail;go_meet;exact ⟨16777215,by omega,rfl,HT0,rfl⟩
    case rest=>
     obtain ⟨h0,hh0,rfl,HT0,rfl⟩:=hcut;go_wp2_with fail;go_loopw [12,13] (fun lo hi wr=>z1cg w [(w.heap.size,.slice (some ad) n c),(w.heap.size+1,.slice A2 m c2),(w.heap.size+1+1,.slice none 0 0),(w.heap.size+1+1+1,.slice none 0 0),(r0,.slice (some ⟨gb,0,none⟩) q1 c')] [⟨some ad,n,c,z0c (Na.dig x)⟩,⟨A2,m,c2,z0c (Na.dig y)⟩,⟨Ar,nr,cr,z0c (Na.dig R)⟩,⟨some ⟨gb,0,none⟩,q1,c',z0c (Na.dig T)⟩] [⟨QA,n,n,3,z0c (List.replicate (j+1) 0++Q)⟩,⟨none,0,0,3,[]⟩] y T lo hi wr) (fun lo hi _=>(intOf hi - intOf lo).toNat)
     case atStart=>exact ⟨0,h0,zqr _,hh0,rfl,rfl,⟨by rw [Nat.mul_zero];exact zqr _,HT0.out⟩,HX10.out⟩
     case round=>
      obtain ⟨lo,hi,hlh,hh,rfl,rfl,HLH,HOh⟩:=hrel;rcases zqi lo hi with hlt|hge
      ·obtain ⟨mid,hmid⟩:∃ mid,mid=(lo+hi+1) / 2:=⟨_,rfl⟩
       obtain ⟨hm1,hm2',HMt,HMf⟩:=Na.half_at HLH.out.1 HLH.out.2 hmid hlt
       have hmi:((lo:Int)+(hi:Int)+1) / 2=(mid:Int):=by omega
       have hy1:=HOh.out.cell 1 rfl
       have hy4:=HOh.out.cell 4 rfl
       have hmid24:mid<16777216:=by omega
       have HTi:=zh (z9l HOh.out.drew 1 mid rfl (by omega) hmid24)
       clear hmid;by_cases hsle:Na.sgn (y*mid) T<=0
       ·have hle2:=HMt hsle
        have HN2:Hid (y*mid<=T/\T<y*(hi+1)):=⟨hle2,HLH.out.2⟩
        obtain ⟨sg,hsg⟩:∃ s:Int,Na.sgn (y*mid) T=s:=⟨_,rfl⟩
        have HSg:=zh hsg;rw [hsg] at hsle;have hsd:decide (sg<=0)=true:=zt hsle
        clear hsg hle2 HMt HMf HOh HLH;go_upto_region 20 with (fail)
        go_region_held3 (fun W=>W.cell? ⟨w.heap.size+1,0,none⟩=some (.slice A2 m c2)/\W.cell? ⟨r0,0,none⟩=some (.slice (some ⟨gb,0,none⟩) q1 c')) (first|exact ⟨hy1,hy4⟩|exact ⟨how.cell 1 rfl,how.cell 4 rfl⟩|exact ⟨how2.cell 1 rfl,how2.cell 4 rfl⟩) ((first|(go_at_call 103;(with_reducible refine HTi.out.mono ?_);rintro e w11 ⟨A5,n5,c5,rfl,hn5,how⟩)|(go_at_call 47;(with_reducible refine (z7c how 4 3 rfl rfl).mono ?_);rw [HSg.out];rintro e w12 ⟨rfl,how2⟩)))
        have HF:=zh how2;clear hy1 hy4 how how2;go_wp2_with fail;go_roundw
        case rel=>exact ⟨mid,hi,by omega,hh,rfl,rfl,HN2,HF.out.less (fun o ho=>by simp only [List.mem_append];exact .inl ho)⟩
        case measure=>simp [intOf];omega
       ·have hgt2:=HMf hsle
        have HN2:Hid (y*lo<=T/\T<y*(mid - 1+1)):=⟨HLH.out.1,hgt2⟩
        obtain ⟨sg,hsg⟩:∃ s:Int,Na.sgn (y*mid) T=s:=⟨_,rfl⟩
        have HSg:=zh hsg;rw [hsg] at hsle;have hsd:decide (sg<=0)=false:=zn hsle
        have hsle':0<sg:=by omega
        clear hsg hgt2 HMt HMf HOh HLH hsle;go_upto_region 20 with (fail)
        go_region_held3 (fun W=>W.cell? ⟨w.heap.size+1,0,none⟩=some (.slice A2 m c2)/\W.cell? ⟨r0,0,none⟩=some (.slice (some ⟨gb,0,none⟩) q1 c')) (first|exact ⟨hy1,hy4⟩|exact ⟨how.cell 1 rfl,how.cell 4 rfl⟩|exact ⟨how2.cell 1 rfl,how2.cell 4 rfl⟩) ((first|(go_at_call 103;(with_reducible refine HTi.out.mono ?_);rintro e w11 ⟨A5,n5,c5,rfl,hn5,how⟩)|(go_at_call 47;(with_reducible refine (z7c how 4 3 rfl rfl).mono ?_);rw [HSg.out];rintro e w12 ⟨rfl,how2⟩)))
        have HF:=zh how2;clear hy1 hy4 how how2;go_wp2_with fail;go_roundw
        case rel=>exact ⟨lo,mid - 1,by omega,by omega,rfl,z0q (by omega),HN2,HF.out.less (fun o ho=>by simp only [List.mem_append];exact .inl ho)⟩
        case measure=>simp [intOf];omega
      ·obtain rfl:lo=hi:=by omega
       have hqd:T / y=lo/\T % y=T - y*lo:=by
        have h1:=HLH.out;have e:T=y*lo+(T - y*lo):=by omega
        have h3:=Na.half_end h1.1 h1.2
        constructor
        ·rw [e,Nat.mul_add_div HY0.out,Nat.div_eq_of_lt h3,Nat.add_zero]
        ·rw [e,Nat.mul_add_mod,Nat.mod_eq_of_lt h3,Nat.add_sub_cancel_left]
       have hlo24:lo<16777216:=hh
       have HLE:=zh HLH.out.1;have HRl:=zh (Na.half_end HLH.out.1 HLH.out.2)
       have hx8:=HOh.out.cell 4 rfl
       have hx1:=HOh.out.cell 1 rfl
       have hQ0:=HOh.out.row 0 rfl
       obtain ⟨gq,rfl,-,-⟩:=z0n hQ0 (by omega)
       have hcq:=z1b hQ0 (k:=j) (b:=0) (by rw [zqn (by simp),List.getElem?_replicate,if_pos (Nat.lt_succ_self j)])
       have hfq:=hQ0.frozenAt j
       have H11:=HOh.out.put 0 rfl j (.int .i64 lo)
       rw [zqd,z1s,Na.zeros_set] at H11;have hlo0:(lo:Int)=lo:=rfl
       clear hQ0 HLH hqd;go_upto_region 24 with (fail)
       obtain ⟨w13,hw13⟩:∃ w13,wr.setCell ⟨gq,j,none⟩ (.int .i64 lo)=w13:=⟨_,rfl⟩
       rw [hw13] at H11 ⊢
       clear hw13 hcq hfq hx8 hx1;have hx8:=H11.cell 4 rfl
       have hx1:=H11.cell 1 rfl
       have hf8:=H11.free 4 rfl
       have HTi:=zh (z9l H11.drew 1 lo rfl (by omega) hlo24)
       have HTm:=zh hx8;clear HOh H11;go_region_with (first|(go_at_call 103;(with_reducible refine HTi.out.mono ?_);rintro e w11 ⟨A5,n5,c5,rfl,hn5,how⟩;have hy8:=how.cell 4 rfl;have hyf:=how.free 4 rfl;have HHow:=zh how)|(go_at_call 104;(with_reducible refine (z1bc how 3 4 rfl rfl (by omega) (by omega) HLE.out).mono ?_);rintro e w12 ⟨A6,n6,c6,rfl,hn6,how2⟩;have hz8:=how2.cell 4 rfl;have hzf:=how2.free 4 rfl;have HHow2:=zh how2))
       all_goals
        have H12:=(HHow2.out.setv 4 rfl (.slice A6 n6 c6)).less (L':=[⟨some ad,n,c,z0c (Na.dig x)⟩,⟨A2,m,c2,z0c (Na.dig y)⟩,⟨A6,n6,c6,z0c (Na.dig (T - y*lo))⟩]) (fun o ho=>by
         simp only [List.mem_cons,List.not_mem_nil,or_false,List.mem_append] at ho ⊢
         rcases ho with rfl|rfl|rfl <;> simp)
        have hl6:=(HHow2.out.sl (i:=5) rfl).1
        rw [z0e] at hl6;have hn6':n6<=200:=by rw [<- hl6];exact (Na.dig_200 _).2 (Nat.lt_trans HRl.out HY.out)
        have HFin:Hid (T - y*lo<y/\(lo :: Q).length+j=n/\Na.Lim (lo :: Q)/\Na.val ((Na.dig x).drop j)=y*Na.val (lo :: Q)+(T - y*lo)):=by
         refine ⟨HRl.out,?_,Na.Lim.cons hlo24 HPj.out.2.2.1,?_⟩
         ·have:=HPj.out.2.1;rw [List.length_cons];omega
         ·rw [<- H25.out];exact Na.div_next HHa.out HPj.out.2.2.2 (by rw [H25.out];exact HLE.out)
        have HF12:=zh H12;clear H12 hl6 hx8 hx1 hf8 how how2 HHow HHow2;go_wp2_with fail;go_roundg j
        case measure=>have:=HKK.out;omega
        case rel=>
         have ej:((j:Int) - 1+1).toNat=j:=by omega
         refine ⟨(j:Int) - 1,T - y*lo,A6,n6,c6,lo :: Q,by omega,by omega,ej,rfl,hn6',?_,?_⟩
         ·unfold Hid;rw [ej];exact HFin.out
         ·unfold Hid;rw [ej];exact HF12.out.few 1
end Go.Proofs.YtpmofjomadibmaaGreatDoor
