/- NRm Rm -/
import Derived.Test.YtpmofjomadibmaaGreatDoorS04
import Derived.Deep.RegionHeld3
namespace Go.Proofs.YtpmofjomadibmaaGreatDoor
set_option maxHeartbeats 4000000
open Go.RowKit
set_option linter.unusedVariables false
set_option maxRecDepth 100000
namespace Na
set_option maxHeartbeats 4000000
theorem vld_zero (zs:List Int)(h:zs[zs.length - 1]?=some 0):vld zs=false:=by
 unfold vld;rw [List.getLast?_eq_getElem?,h];simp
theorem vld_all (zs:List Int)(h:zs.all lim=true)(h2:zs.length≤200)(h3:zs.length=0∨∃ z,zs[zs.length - 1]?=some z∧z≠0):vld zs=true:=by
 rcases h3 with h3 | ⟨z,h3,h4⟩
 ·have:zs=[]:=List.eq_nil_of_length_eq_zero h3
  rw [this];rfl
 ·rw [vld_end zs z h h2 h3,bne_iff_ne];exact h4
end Na
theorem z2f (A:Option Addr)(n c B:Nat)(zs:List Int)(w:World)(hn:zs.length=n)(hs:Sl w B A (z0q zs))(hB:B≤w.heap.size)(hl:n≤140737488355328):
  Calls Tryz.prog 73 #[.agg #[.slice A n c]] w fun e w'=>e=.returned (.bool (Na.vld zs))∧Below w.heap.size w w':=by
 have HN:=zh hn;have HS:=zh ((hs.more hB).alloc (zqj _) (.cells #[.slice A n c] 25))
 have HB:=zh (z0h w (.cells #[.slice A n c] 25))
 clear hs hn;rcases zqi 200 n with h2 | h2
 ·have HR:=zh (Na.vld_long zs (by rw [HN.out];exact h2))
  go_enter Tryz.func73,Tryz.ntmps73
  go_wp2_with fail;go_ret;exact ⟨z2e HR.out.symm,HB.out⟩
 ·have d1:decide (200<(n:Int))=false:=zn (by omega)
  by_cases hz0:∃ (h3:0<n),zs[n - 1]?=some 0
  ·obtain ⟨h3,hz⟩:=hz0;have HR:=zh (Na.vld_zero zs (by rw [HN.out];exact hz))
   obtain ⟨ad,rfl,hbk,hc⟩:=HS.out.int hz
   have d2:decide (0<(n:Int))=true:=zt (by omega)
   clear hz;go_enter Tryz.func73,Tryz.ntmps73
   go_wp2_with fail;go_ret;exact ⟨z2e HR.out.symm,HB.out⟩
  ·have HL:Hid (zs.length=0∨∃ z,zs[zs.length - 1]?=some z∧z≠0):=by
    rcases zqh n with h3 | h3
    ·exact .inl (by rw [HN.out];exact h3)
    ·obtain ⟨z,hz⟩:=z7n zs (n - 1) (by rw [HN.out];omega)
     exact .inr ⟨z,by rw [HN.out];exact hz,fun e=>hz0 ⟨h3,by rw [hz,e]⟩⟩
   have HLp:Hid (0<n→∃ z ad,zs[n - 1]?=some z∧A=some ad∧(w.alloc (.cells #[.slice A n c] 25)).cell? (ad.add (n - 1))=some (.int .i64 z)∧((z == 0)=false)):=fun h3=>by
    obtain ⟨z,hz⟩:=z7n zs (n - 1) (by rw [HN.out];omega)
    obtain ⟨ad,e,_,hc⟩:=HS.out.int hz
    exact ⟨z,ad,hz,e,hc,by rw [beq_eq_false_iff_ne];intro e;exact hz0 ⟨h3,by rw [hz,e]⟩⟩
   clear hz0;rcases zqh n with h3 | h3
   ·subst h3
    have HR:=zh (Na.vld_all zs (by rw [List.eq_nil_of_length_eq_zero HN.out];rfl) (by rw [HN.out];exact h2) HL.out)
    go_enter Tryz.func73,Tryz.ntmps73
    go_wp2_with fail;refine wp_loop_rounds 1 ?_
    rw [rounds_succ];go_wp2_with fail;go_ret;exact ⟨z2e HR.out.symm,HB.out⟩
   ·obtain ⟨z,ad,hz,rfl,hc,hzne⟩:=HLp.out h3
    have d2:decide (0<(n:Int))=true:=zt (by omega)
    clear hz;go_enter Tryz.func73,Tryz.ntmps73
    go_wp2_with fail;clear hc;go_loop [4] (fun v=>∃ k:Nat,k≤n∧v=.int .i64 (k:Int)∧Hid ((zs.take k).all Na.lim=true)) (fun v=>n - (intOf v).toNat)
    case atStart=>exact ⟨0,zqr _,rfl,rfl⟩
    case round=>
     obtain ⟨k,hk,rfl,HA⟩:=hrel;rcases zqi k n with hkn | hkn
     ·obtain ⟨y,hy⟩:=z7n zs k (by rw [HN.out];exact hkn)
      obtain ⟨ad',e',hbk,hc⟩:=HS.out.int hy
      obtain rfl:=zqk e'
      have HZ:=zh hy;clear hy e';by_cases h0:y<0
      ·have HR:=zh (Na.vld_bad zs k y HZ.out (Na.lim_lo h0))
       go_wp2_with fail;go_ret;exact ⟨z2e HR.out.symm,HB.out⟩
      ·have h0':0≤y:=by omega
       clear h0;by_cases h1:y<16777216
       ·have HA2:=zh (Na.all_take zs k y HZ.out HA.out (Na.lim_ok h0' h1))
        go_wp2_with fail;go_round
        case rel=>exact ⟨k+1,by omega,by go_num,HA2⟩
        case measure=>simp [intOf];omega
       ·have h1':16777216≤y:=by omega
        have HR:=zh (Na.vld_bad zs k y HZ.out (Na.lim_hi h1'))
        clear h1;go_wp2_with fail;go_ret;exact ⟨z2e HR.out.symm,HB.out⟩
     ·have HA2:Hid (zs.all Na.lim=true):=by
       have:=HA.out
       rw [zqp (by rw [HN.out];exact hkn)] at this
       exact this
      have HR:=zh (Na.vld_all zs HA2.out (by rw [HN.out];exact h2) HL.out)
      go_wp2_with fail;go_ret;exact ⟨z2e HR.out.symm,HB.out⟩
theorem z9n (A:Option Addr)(n c B k:Nat)(l:List Nat)(kv:Int)(hkv:kv=(k:Int))(w:World)(hn:l.length=n)(hs:Sl w B A (z0c l))(hB:B≤w.heap.size)(hl:n≤140737488355328):
  Calls Tryz.prog 74 #[.agg #[.slice A n c],.int .i64 kv] w fun e w'=>e=.returned (.int .i64 ((Na.at0 l k:Nat):Int))∧Below w.heap.size w w':=by
 subst hkv
 have HB:=zh (z0h w (.cells #[.slice A n c] 25))
 have HS:=zh ((hs.more hB).alloc (zqj _) (.cells #[.slice A n c] 25))
 rcases zqi k n with hkn | hkn
 ·obtain ⟨a,ha⟩:=z0l l k (by rw [hn];exact hkn)
  obtain ⟨ad,rfl,_,hc⟩:=HS.out.nat ha
  have HR:=zh (Na.at0_some ha)
  clear ha hs hn;go_enter Tryz.func74,Tryz.ntmps74
  go_wp2_with fail;go_ret;exact ⟨by rw [HR.out];rfl,HB.out⟩
 ·have HR:=zh (Na.at0_none (l:=l) (k:=k) (by rw [hn];exact hkn))
  clear hs hn;go_enter Tryz.func74,Tryz.ntmps74
  go_wp2_with fail;go_ret;exact ⟨by rw [HR.out];rfl,HB.out⟩
theorem z2ar (A:Option Addr)(n c:Nat)(l:List Nat)(w:World)(hn:l.length=n)(hs:Sl w w.heap.size A (z0c l))(hl:Na.Lim l)(hnc:n≤c)(h47:n≤140737488355328):
  Calls Tryz.prog 75 #[.slice A n c] w (z4d w (z5c (Na.val l)) (z4p (Na.val l))):=by
 obtain ⟨i0,hi,hz0,hz1,hz2⟩:=info_parts z5h
 have HLn:Hid (Na.tl l n=(Na.dig (Na.val l)).length):=by unfold Hid;rw [← hn];exact Na.trim_len hl
 have HTk:Hid (l.take (Na.tl l n)=Na.dig (Na.val l)):=by unfold Hid;rw [← Na.trim_dig hl];unfold Na.trim;rw [hn]
 have HN:=zh hn;have HS:=zh (hs.alloc (zqj _) (.cells #[.slice none 0 0] 25))
 have HB:=zh (z0h w (.cells #[.slice none 0 0] 25))
 have hcr:(w.alloc (.cells #[.slice none 0 0] 25)).cell? ⟨w.heap.size,0,none⟩=some (.slice none 0 0):=by simp [go_sem]
 have hfr:(w.alloc (.cells #[.slice none 0 0] 25)).frozen? ⟨w.heap.size,0,none⟩=false:=by simp [go_sem]
 have hzw:(w.alloc (.cells #[.slice none 0 0] 25)).heap.size=w.heap.size+1:=by simp
 obtain ⟨w0,hw0⟩:∃ w0,w.alloc (.cells #[.slice none 0 0] 25)=w0:=⟨_,rfl⟩
 have HW:Hid (w.alloc (.cells #[.slice none 0 0] 25)=w0):=hw0
 rw [hw0] at HS HB hcr hfr hzw;clear hs hn hl hw0;go_enter Tryz.func75,Tryz.ntmps75
 go_wp2_with fail;rw [HW.out];go_loop [4] (fun v=>∃ k:Nat,k≤n∧v=.int .i64 (k:Int)∧Hid (Na.tl l k=Na.tl l n)) (fun v=>(intOf v).toNat)
 case atStart=>exact ⟨n,zqj _,rfl,rfl⟩
 case round=>
  obtain ⟨k,hk,rfl,HT⟩:=hrel;by_cases hgo:∃ (h:0<k),l[k - 1]?=some 0
  ·obtain ⟨h0,hb⟩:=hgo;have hd:decide (0<(k:Int))=true:=zt (by omega)
   obtain ⟨ad,rfl,hbk,hc⟩:=HS.out.nat hb
   have ht:Hid (Na.tl l (k - 1)=Na.tl l n):=by
    unfold Hid;rw [← HT.out,← Na.tl_zero l (k - 1) hb,show k - 1+1=k from by omega]
   clear hb;go_wp2_with fail;go_round
   case rel=>exact ⟨k - 1,by omega,z0u (by omega),ht⟩
   case measure=>simp [intOf];omega
  ·have HK:Hid (Na.tl l n=k):=by
    unfold Hid;rw [← HT.out];rcases zqh k with h0 | h0
    ·rw [h0];rfl
    ·have h5:=Na.tl_stop l (k - 1) (fun e=>hgo ⟨h0,e⟩)
     rwa [show k - 1+1=k by omega] at h5
   have HC:Hid (k=0∨∃ (b:Nat) (ad:Addr),0<k∧A=some ad∧w0.cell? (ad.add (k - 1))=some (.int .i64 (b:Int))∧(((b:Int) == 0)=false)):=by
    rcases zqh k with h0 | h0
    ·exact .inl h0
    ·obtain ⟨b,hb⟩:=z0l l (k - 1) (by rw [HN.out];omega)
     obtain ⟨ad,e,_,hc⟩:=HS.out.nat hb
     exact .inr ⟨b,ad,h0,e,hc,by rw [beq_eq_false_iff_ne];intro e;exact hgo ⟨h0,by rw [hb];congr 1;omega⟩⟩
   have HSk:Hid (Sl w0 w.heap.size A (z0c (Na.dig (Na.val l)))):=by
    unfold Hid;rw [← HTk.out,HK.out,← z2p];exact HS.out.take k
   have HDl:Hid ((Na.dig (Na.val l)).length=k):=by unfold Hid;rw [← HLn.out];exact HK.out
   have hO0:Hid (w0.ownsRow (w.heap.size+1) 3 1 (.slice none 0 0) 0 []):=World.ownsRow_nil _ _ _ _
   clear hgo;rcases zqi (Na.val l) Na.top with h | h
   ·have h200:k≤200:=by rw [← HDl.out];exact (Na.dig_200 _).2 h
    have HR:=zh (z3e h)
    have HE:=zh (z3f h)
    have hkc:(k:Int)≤(c:Int):=by omega
    clear h;rcases HC.out with h0 | ⟨b,ad,h0,hA,hc,hbne⟩
    ·subst h0
     go_wp2_with (at_builtin;refine z0i _ rfl (.const (.slice none 0 0)) (.tmp 24) 22 rfl (w.heap.size+1) 3 i0 (.int .i64 0) 8 Tryz.underlying22 hi hz0 hz1 hz2 rfl _ _ _ _ rfl hO0.out _ _ 0 _ _ rfl (by rw [z0f];exact HDl.out) HSk.out (z2y _) (by unfold maxLen;omega) (by omega) (by omega) ?_;intro A' c' w8 hown hgrow hblk;have hb8:=z4s hgrow;have hc8:=(hb8.cell (p:=⟨w.heap.size,0,none⟩) (by simp only [hzw];omega)).trans hcr;have hf8:=(hb8.frozen (p:=⟨w.heap.size,0,none⟩) (by simp only [hzw];omega)).trans hfr)
     refine bodyPost_ret (v:=.tuple #[.agg #[.slice A' 0 c'],.int .i64 0]) (by simp [results,Tryz.results75,go_sem,hc8]) rfl ?_
     rw [HR.out,HE.out];rw [Nat.zero_add] at hown;exact z2d hown HDl.out (Nat.lt_succ_self _) (Nat.le_succ _) (HB.out.trans (hb8.mono (by omega))) (zqj _) _ _
    ·subst hA
     have hd:decide (0<(k:Int))=true:=zt (by omega)
     go_wp2_with (at_builtin;refine z0i _ rfl (.const (.slice none 0 0)) (.tmp 24) 22 rfl (w.heap.size+1) 3 i0 (.int .i64 0) 8 Tryz.underlying22 hi hz0 hz1 hz2 rfl _ _ _ _ rfl hO0.out _ _ k _ _ rfl (by rw [z0f];exact HDl.out) HSk.out (z2y _) (by unfold maxLen;omega) (by omega) (by omega) ?_;intro A' c' w8 hown hgrow hblk;have hb8:=z4s hgrow;have hc8:=(hb8.cell (p:=⟨w.heap.size,0,none⟩) (by simp only [hzw];omega)).trans hcr;have hf8:=(hb8.frozen (p:=⟨w.heap.size,0,none⟩) (by simp only [hzw];omega)).trans hfr)
     refine bodyPost_ret (v:=.tuple #[.agg #[.slice A' k c'],.int .i64 0]) (by simp [results,Tryz.results75,go_sem,hc8]) rfl ?_
     rw [HR.out,HE.out];rw [Nat.zero_add] at hown;exact z2d hown HDl.out (Nat.lt_succ_self _) (Nat.le_succ _) (HB.out.trans (hb8.mono (by omega))) (zqj _) _ _
   ·have h200:200<k:=by rw [← HDl.out];exact Na.dig_len_ge h
    have HR:=zh (z0am h)
    have HE:=zh (z0ao h)
    clear h;rcases HC.out with h0 | ⟨b,ad,h0,hA,hc,hbne⟩
    ·omega
    ·subst hA
     have hd:decide (0<(k:Int))=true:=zt (by omega)
     go_wp2_with fail;refine bodyPost_ret (v:=.tuple #[.agg #[.slice none 0 0],.int .i64 3]) (by simp [results,Tryz.results75,go_sem,hcr]) rfl ?_
     rw [HR.out,HE.out];exact z1r _ _ _ (z4y HB.out _ (zqj _) _)
namespace Na
set_option maxHeartbeats 4000000
end Na
theorem z1bz {wr W W':World}{a b c d:Addr}{u v x y:Value}(h0:W.cell? a=some u)(h1:W.cell? b=some v)(h3:W.cell? c=some x)(h4:W.cell? d=some y)(h2:Below wr.heap.size wr W)(ha:a.block<wr.heap.size)(hb':b.block<wr.heap.size)(hc:c.block<wr.heap.size)(hd:d.block<wr.heap.size)(hb:Below W.heap.size W W'):W'.cell? a=some u∧W'.cell? b=some v∧W'.cell? c=some x∧W'.cell? d=some y∧Below wr.heap.size wr W':=
 ⟨(hb.cell (zqv ha h2.size)).trans h0,(hb.cell (zqv hb' h2.size)).trans h1,(hb.cell (zqv hc h2.size)).trans h3,(hb.cell (zqv hd h2.size)).trans h4,h2.trans (hb.mono h2.size)⟩
namespace Na
set_option maxHeartbeats 4000000
theorem rprod_step (l Y:List Nat)(i k e a c v S:Nat)(he:l[i+k]?=some e)(h:val l+16777216 ^ (i+k)*c=S+16777216 ^ i*(a*val (Y.take k)))(hv:v=e+a*at0 Y k+c):
  val (l.set (i+k) (v % 16777216))+16777216 ^ (i+(k+1))*(v / 16777216)=S+16777216 ^ i*(a*val (Y.take (k+1))):=by
 have h1:=val_set l (i+k) e (v % 16777216) he
 have h2:=split24 (16777216 ^ (i+k)) v
 rw [val_take_at0,zqt,zqt,← Nat.add_assoc S,← h,show i+(k+1)=i+k+1 by omega,Nat.pow_succ]
 have h3:16777216 ^ i*(a*(16777216 ^ k*at0 Y k))=16777216 ^ (i+k)*(a*at0 Y k):=by rw [Nat.pow_add,Nat.mul_left_comm a,zqs]
 have h4:16777216 ^ (i+k)*v=16777216 ^ (i+k)*e+16777216 ^ (i+k)*(a*at0 Y k)+16777216 ^ (i+k)*c:=by rw [hv,zqt,zqt]
 rw [h3];omega
theorem rprod_room (l X Y:List Nat)(i k a c m:Nat)(hX:Lim X)(hY:Lim Y)(hm:Y.length=m)(ha:X[i]?=some a)(hk:m≤k)(h:val l+16777216 ^ (i+k)*c=val (X.take i)*val Y+16777216 ^ i*(a*val (Y.take k)))(hc:0<c):k≤m:=by
 rw [zqp (l:=Y) (by omega),← zqs,← Nat.add_mul,← val_take_succ X i a ha] at h
 have h1:=val_lt (hX.take (i+1))
 have h2:(X.take (i+1)).length≤i+1:=List.length_take_le _ _
 have h3:=zqv h1 (Nat.pow_le_pow_right (show 0<16777216 by omega) h2)
 have h4:=val_lt hY
 rw [hm] at h4;have h5:val (X.take (i+1))*val Y<16777216 ^ (i+1)*16777216 ^ m:=Nat.mul_lt_mul_of_lt_of_lt h3 h4
 rw [← Nat.pow_add] at h5;rcases zqi m k with h6 | h6
 ·exfalso
  have h7:=Nat.mul_le_mul_left (16777216 ^ (i+k)) hc
  rw [Nat.mul_one] at h7;have h8:=Nat.pow_le_pow_right (show 0<16777216 by omega) (show i+1+m≤i+k by omega)
  omega
 ·exact h6
theorem sq24 {e a b c:Nat}(he:e<16777216)(ha:a<16777216)(hb:b<16777216)(hc:c<16777216):e+a*b+c<281474976710656:=by
 have:=Nat.mul_le_mul (show a≤16777215 by omega) (show b≤16777215 by omega)
 omega
end Na
def Muld (w:World)(N V:Nat)(e:Ending)(w':World):Prop:=
 ∃ (A:Option Addr) (c:Nat) (o:List Nat),e=.returned (.slice A N c)∧o.length=N∧Na.Lim o∧Na.val o=V∧w'.ownsRow w.heap.size 3 1 (.slice A N c) N (z0c o)∧Below w.heap.size w w'
def NRmo (w:World)(B g N:Nat)(X Y:List Nat)(n:Nat)(i:Value)(wr:World):Prop:=
 ∃ (k:Nat) (l:List Nat),k≤n∧i=.int .i64 (k:Int)∧Hid (l.length=N∧Na.Lim l∧Na.val l=Na.val (X.take k)*Na.val Y)∧wr.ownsRow B 3 1 (.slice (some ⟨g,0,none⟩) N N) N (z0c l)∧Below B w wr
def NRmi (w:World)(B g N:Nat)(X Y:List Nat)(a i m:Nat)(v cr:Value)(wr:World):Prop:=
 ∃ (k c:Nat) (l:List Nat),k≤m+1∧v=.int .i64 (k:Int)∧cr=.int .i64 (c:Int)∧c<16777216∧Hid (l.length=N∧Na.Lim l∧Na.val l+16777216 ^ (i+k)*c=Na.val (X.take i)*Na.val Y+16777216 ^ i*(a*Na.val (Y.take k)))∧wr.ownsRow B 3 1 (.slice (some ⟨g,0,none⟩) N N) N (z0c l)∧Below B w wr
theorem z6ae (A A2:Option Addr)(n c m c2:Nat)(X Y:List Nat)(w:World)(hn:X.length=n)(hm:Y.length=m)(hs:Sl w w.heap.size A (z0c X))(hs2:Sl w w.heap.size A2 (z0c Y))(hX:Na.Lim X)(hY:Na.Lim Y)(hl:n≤1000)(hl2:m≤1000):
  Calls Tryz.prog 78 #[.agg #[.slice A n c],.agg #[.slice A2 m c2]] w (Muld w (n+m+1) (Na.val X*Na.val Y)):=by
 obtain ⟨i0,hi,hz0,hz1,hz2⟩:=info_parts z5h
 have hmk:=z1d (P:=Tryz.prog) 22 3 i0 (.int .i64 0) Tryz.underlying22 hi hz0 hz1 .i64 .i64 ((n:Int)+(m:Int)+1) ((n:Int)+(m:Int)+1) (n+m+1) (n+m+1) (by omega) (by omega) (zqj _) (by rw [hz2];omega) (by omega)
 have HN:=zh hn;have HM:=zh hm;have HS:=zh hs;have HS2:=zh hs2;obtain ⟨w0,hw0⟩:∃ w0,(w.alloc (.cells #[.slice A n c] 25)).alloc (.cells #[.slice A2 m c2] 25)=w0:=⟨_,rfl⟩
 have HW:Hid ((w.alloc (.cells #[.slice A n c] 25)).alloc (.cells #[.slice A2 m c2] 25)=w0):=hw0
 have hb0:Below w.heap.size w w0:=by rw [← hw0];exact bal (bal (Below.refl _ _) _) _
 have HB0:=zh hb0;have hzw:w.heap.size+2≤w0.heap.size:=by rw [← hw0];simp
 have hc0:w0.cell? ⟨w.heap.size,0,none⟩=some (.slice A n c):=by rw [← hw0];simp [go_sem]
 have hc1:w0.cell? ⟨w.heap.size+1,0,none⟩=some (.slice A2 m c2):=by rw [← hw0];simp [go_sem]
 clear hs hs2 hn hm hb0 hw0;go_enter Tryz.func78,Tryz.ntmps78
 go_upto_region 1 with (fail)
 rw [HW.out];have HO0:Hid ((w0.alloc (.cells (madeCells #[Value.int .i64 0] (n+m+1)) 3)).ownsRow w0.heap.size 3 1 (.slice (some ⟨w0.heap.size,0,none⟩) (n+m+1) (n+m+1)) (n+m+1) (z0c (List.replicate (n+m+1) 0))):=by
  rw [z6u];exact z3v w0 3 (.int .i64 0) (n+m+1) (n+m+1) rfl (zqj _) (by unfold maxLen;omega)
 have HBm:=zh (bal (Below.refl w0.heap.size w0) (.cells (madeCells #[Value.int .i64 0] (n+m+1)) 3))
 go_wp2_with fail;clear hmk;go_loopw [6] (fun i wr=>NRmo w0 w0.heap.size w0.heap.size (n+m+1) X Y n i wr) (fun i _=>n - (intOf i).toNat)
 case atStart=>exact ⟨0,_,zqr _,rfl,⟨List.length_replicate,Na.Lim.zeros _,by rw [Na.val_zeros];simp [Na.val]⟩,HO0.out,HBm.out⟩
 case round=>
  clear HO0 HBm;obtain ⟨i,l,hin,rfl,HP,ho,hb⟩:=hrel;have HO:=zh ho;have HB:=zh hb;have hx0:wr.cell? ⟨w.heap.size,0,none⟩=some (.slice A n c):=(hb.cell (p:=⟨w.heap.size,0,none⟩) (by simp only;omega)).trans hc0
  have hx1:wr.cell? ⟨w.heap.size+1,0,none⟩=some (.slice A2 m c2):=(hb.cell (p:=⟨w.heap.size+1,0,none⟩) (by simp only;omega)).trans hc1
  clear ho hb;rcases zqi i n with hlt | hge
  ·obtain ⟨a,ha⟩:=z0l X i (by rw [HN.out];exact hlt)
   have ha24:=hX.at ha
   have HA:=zh ha;have HRow:=zh (Na.prod_row X Y i a ha)
   clear ha;go_wp2_with fail;clear hx0 hx1;go_loopw [8,7] (fun v cr wr=>NRmi w0 w0.heap.size w0.heap.size (n+m+1) X Y a i m v cr wr) (fun v _ _=>m+2 - (intOf v).toNat)
   case atStart=>exact ⟨0,0,l,zqr _,rfl,rfl,by omega,⟨HP.out.1,HP.out.2.1,by rw [HP.out.2.2];simp [Na.val]⟩,HO.out,HB.out⟩
   case round=>
    clear HP HO HB;obtain ⟨k,cr,l,hk,rfl,rfl,hcr,HP,ho,hb⟩:=hrel;have HO:=zh ho;have HB:=zh hb;have hx0:wr.cell? ⟨w.heap.size,0,none⟩=some (.slice A n c):=(hb.cell (p:=⟨w.heap.size,0,none⟩) (by simp only;omega)).trans hc0
    have hx1:wr.cell? ⟨w.heap.size+1,0,none⟩=some (.slice A2 m c2):=(hb.cell (p:=⟨w.heap.size+1,0,none⟩) (by simp only;omega)).trans hc1
    by_cases hgo:k<m∨0<cr
    ·have hkm:k≤m:=by
      rcases hgo with h | h
      ·omega
      ·rcases zqi k m with h1 | h1
       ·omega
       ·exact Na.rprod_room l X Y i k a cr m hX hY HM.out HA.out h1 HP.out.2.2 h
     obtain ⟨b,heb⟩:∃ b,Na.at0 Y k=b:=⟨_,rfl⟩
     have hb24:b<16777216:=by rw [← heb];exact Na.at0_lt hY k
     obtain ⟨e,he⟩:=z0l l (i+k) (by rw [HP.out.1];omega)
     have he24:=HP.out.2.1.at he
     have hce:=z0v ho he
     have hfz:=ho.frozenAt (i+k)
     obtain ⟨ad,rfl,hbk,hca⟩:=(HS.out.below (HB0.out.trans (hb.mono HB0.out.size))).nat HA.out
     obtain ⟨p,hp⟩:∃ p,a*b=p:=⟨_,rfl⟩
     have hp1:(a:Int)*(b:Int)=(p:Int):=by rw [← hp];rfl
     obtain ⟨v,hv⟩:∃ v,e+p+cr=v:=⟨_,rfl⟩
     have hv48:v<281474976710656:=by rw [← hv,← hp];exact Na.sq24 he24 ha24 hb24 hcr
     obtain ⟨r,hr⟩:∃ r,v % 16777216=r:=⟨_,rfl⟩
     obtain ⟨q,hq⟩:∃ q,v / 16777216=q:=⟨_,rfl⟩
     have HSt:=zh (Na.rprod_step l Y i k e a cr v _ he HP.out.2.2 (by rw [heb,hp];exact hv.symm))
     rw [hr,hq] at HSt;have hmod:((e:Int)+(p:Int)+(cr:Int)) % 16777216=(r:Int):=by omega
     have hdiv:((e:Int)+(p:Int)+(cr:Int)) / 16777216=(q:Int):=by omega
     have hq24:q<16777216:=by omega
     have hr24:r<16777216:=by omega
     have HLr:=zh (HP.out.2.1.set (i+k) hr24)
     have HLm:Hid (∀ W,Below wr.heap.size wr W→Calls Tryz.prog 74 #[.agg #[.slice A2 m c2],.int .i64 (k:Int)] W fun e W'=>e=.returned (.int .i64 (b:Int))∧Below W.heap.size W W'):=fun W hW=>by
      rw [← heb];exact z9n A2 m c2 w.heap.size k Y _ rfl W HM.out (HS2.out.below (HB0.out.trans ((HB.out.mono HB0.out.size).trans (hW.mono (zqq HB0.out.size HB.out.size))))) (zqq HB0.out.size (zqq HB.out.size hW.size)) (by omega)
     have hsz:=HB.out.size;have hza:(⟨w.heap.size,0,none⟩:Addr).block<wr.heap.size:=by simp only;omega
     have hzb:(⟨w.heap.size+1,0,none⟩:Addr).block<wr.heap.size:=by simp only;omega
     have hzg:w0.heap.size<wr.heap.size:=by obtain ⟨g',hg',_,h2⟩:=z0n ho (by omega);cases hg';exact h2
     have hzc:(⟨w0.heap.size,i+k,none⟩:Addr).block<wr.heap.size:=hzg
     have hzd:(ad.add i).block<wr.heap.size:=by rw [z1c];omega
     have s1:IntKind.i64.wrap ((i:Int)+(k:Int))=(i:Int)+(k:Int):=IntWalk.i64_in _ (by omega)
     have s2:0≤(i:Int)+(k:Int):=by omega
     have s3:(i:Int)+(k:Int)<(n:Int)+(m:Int)+1:=by omega
     have s4:((i:Int)+(k:Int)).toNat=i+k:=by omega
     have s5:(i:Int)<(n:Int):=by omega
     clear he heb hp hv hr hq ho hb hsz;have HGo:=zh hgo;have hcond:decide (k<m)=true∨(decide (k<m)=false∧0<(cr:Int)):=by
      by_cases h:k<m
      ·exact .inl (zt h)
      ·exact .inr ⟨zn h,(by have:=HGo.out;omega)⟩
     clear hgo;rcases hcond with hd1 | ⟨hd1,hd2⟩
     ·go_wp2_with fail;go_region_held3 (fun W=>W.cell? ⟨w.heap.size,0,none⟩=some (.slice (some ad) n c)∧W.cell? ⟨w.heap.size+1,0,none⟩=some (.slice A2 m c2)∧W.cell? ⟨w0.heap.size,i+k,none⟩=some (.int .i64 (e:Int))∧W.cell? (ad.add i)=some (.int .i64 (a:Int))∧Below wr.heap.size wr W) (first | exact ⟨hx0,hx1,hce,hca,(Below.refl _ _).drew⟩ | go_keep | (go_split_ands;refine ⟨?_,?_,?_,?_,?_⟩ <;> assumption) | (go_split_ands;refine z1bz ?_ ?_ ?_ ?_ ?_ hza hzb hzc hzd hbE <;> assumption)) ((first | (go_at_call 74;((with_reducible refine (HLm.out _ ?_).mono ?_);(first | assumption | (go_split_ands;assumption));rintro e w' ⟨rfl,hbE⟩))))
      have HSx:=zh (show Below wr.heap.size wr w' from (by assumption:_∧_∧_∧_∧Below wr.heap.size wr w').2.2.2.2)
      have HO5:=zh (z3q HO.out HSx.out)
      have HB5:=zh (HB.out.trans (HSx.out.mono HB.out.size))
      have hce5:w'.cell? ⟨w0.heap.size,i+k,none⟩=some (.int .i64 (e:Int)):=(HSx.out.cell hzc).trans hce
      have hfz5:=HO5.out.frozenAt (i+k)
      clear hx0 hx1 hce hca hfz;go_wp2_with fail;go_roundw
      case rel=>
       have o1:=z1o HO5.out (i+k) (.int .i64 (r:Int))
       rw [z1l] at o1;exact ⟨k+1,q,l.set (i+k) r,by omega,by go_num,(by first | rfl | exact z0u hdiv),hq24,⟨by rw [List.length_set];exact HP.out.1,HLr.out,HSt.out⟩,o1,HB5.out.setCell (p:=⟨w0.heap.size,i+k,none⟩) (zqj _) _⟩
      case measure=>simp [intOf];omega
     ·go_wp2_with fail;go_region_held3 (fun W=>W.cell? ⟨w.heap.size,0,none⟩=some (.slice (some ad) n c)∧W.cell? ⟨w.heap.size+1,0,none⟩=some (.slice A2 m c2)∧W.cell? ⟨w0.heap.size,i+k,none⟩=some (.int .i64 (e:Int))∧W.cell? (ad.add i)=some (.int .i64 (a:Int))∧Below wr.heap.size wr W) (first | exact ⟨hx0,hx1,hce,hca,(Below.refl _ _).drew⟩ | go_keep | (go_split_ands;refine ⟨?_,?_,?_,?_,?_⟩ <;> assumption) | (go_split_ands;refine z1bz ?_ ?_ ?_ ?_ ?_ hza hzb hzc hzd hbE <;> assumption)) ((first | (go_at_call 74;((with_reducible refine (HLm.out _ ?_).mono ?_);(first | assumption | (go_split_ands;assumption));rintro e w' ⟨rfl,hbE⟩))))
      have HSx:=zh (show Below wr.heap.size wr w' from (by assumption:_∧_∧_∧_∧Below wr.heap.size wr w').2.2.2.2)
      have HO5:=zh (z3q HO.out HSx.out)
      have HB5:=zh (HB.out.trans (HSx.out.mono HB.out.size))
      have hce5:w'.cell? ⟨w0.heap.size,i+k,none⟩=some (.int .i64 (e:Int)):=(HSx.out.cell hzc).trans hce
      have hfz5:=HO5.out.frozenAt (i+k)
      clear hx0 hx1 hce hca hfz;go_wp2_with fail;go_roundw
      case rel=>
       have o1:=z1o HO5.out (i+k) (.int .i64 (r:Int))
       rw [z1l] at o1;exact ⟨k+1,q,l.set (i+k) r,by omega,by go_num,(by first | rfl | exact z0u hdiv),hq24,⟨by rw [List.length_set];exact HP.out.1,HLr.out,HSt.out⟩,o1,HB5.out.setCell (p:=⟨w0.heap.size,i+k,none⟩) (zqj _) _⟩
      case measure=>simp [intOf];omega
    ·have hkm:m≤k:=by omega
     have hc0':cr=0:=by omega
     have HP2:Hid (l.length=n+m+1∧Na.Lim l∧Na.val l=Na.val (X.take (i+1))*Na.val Y):=by
      refine ⟨HP.out.1,HP.out.2.1,?_⟩
      have h7:=HP.out.2.2;rw [hc0',Nat.mul_zero,Nat.add_zero,zqp (l:=Y) (by rw [HM.out];exact hkm),HRow.out] at h7
      exact h7
     subst hc0'
     have hd1:decide (k<m)=false:=zn (by omega)
     clear ho hb hgo HP;go_wp2_with fail;go_roundw
     case rel=>exact ⟨i+1,l,by omega,by go_num,HP2,HO.out,HB.out⟩
     case measure=>simp [intOf];omega
  ·have HV:Hid (Na.val l=Na.val X*Na.val Y):=by
    have h7:=HP.out.2.2;rw [zqp (by rw [HN.out];exact hge)] at h7
    exact h7
   go_wp2_with fail;go_ret;exact ⟨_,_,l,rfl,HP.out.1,HP.out.2.1,HV.out,z1e HO.out HB0.out.size,HB0.out.trans (HB.out.mono HB0.out.size)⟩
theorem z4ah (A A2:Option Addr)(n c m c2:Nat)(zs ys:List Int)(w:World)(hn:zs.length=n)(hm:ys.length=m)(hs:Sl w w.heap.size A (z0q zs))(hs2:Sl w w.heap.size A2 (z0q ys))(hl:n≤140737488351232)(hl2:m≤140737488351232)(hv1:Na.vld zs=false)(b2:Bool)(hv2:Na.vld ys=b2):
  Calls Tryz.prog 46 #[.agg #[.slice A n c],.agg #[.slice A2 m c2]] w (z4d w [] 1):=by
 have HN:=zh hn;have HM:=zh hm;have HS:=zh hs;have HS2:=zh hs2;have HV1:Hid (∀ W,Below w.heap.size w W→Calls Tryz.prog 73 #[.agg #[.slice A n c]] W fun e w'=>e=.returned (.bool false)∧Below W.heap.size W w'):=fun W hW=>by
  rw [← hv1];exact z2f A n c w.heap.size _ W HN.out (HS.out.below hW) hW.size (by omega)
 have HV2:Hid (∀ W,Below w.heap.size w W→Calls Tryz.prog 73 #[.agg #[.slice A2 m c2]] W fun e w'=>e=.returned (.bool b2)∧Below W.heap.size W w'):=fun W hW=>by
  rw [← hv2];exact z2f A2 m c2 w.heap.size _ W HM.out (HS2.out.below hW) hW.size (by omega)
 obtain ⟨w0,hw0⟩:∃ w0,((w.alloc (.cells #[.slice A n c] 25)).alloc (.cells #[.slice A2 m c2] 25)).alloc (.cells #[.slice none 0 0] 25)=w0:=⟨_,rfl⟩
 have HW:Hid (((w.alloc (.cells #[.slice A n c] 25)).alloc (.cells #[.slice A2 m c2] 25)).alloc (.cells #[.slice none 0 0] 25)=w0):=hw0
 have hb0:Below w.heap.size w w0:=by rw [← hw0];exact bal (bal (bal (Below.refl _ _) _) _) _
 have HB0:=zh hb0;have hzw:w0.heap.size=w.heap.size+3:=by rw [← hw0];simp
 have hc0:w0.cell? ⟨w.heap.size,0,none⟩=some (.slice A n c):=by rw [← hw0];simp [go_sem]
 have hc1:w0.cell? ⟨w.heap.size+1,0,none⟩=some (.slice A2 m c2):=by rw [← hw0];simp [go_sem]
 have hc2:w0.cell? ⟨w.heap.size+2,0,none⟩=some (.slice none 0 0):=by rw [← hw0];simp [go_sem]
 have hf2:w0.frozen? ⟨w.heap.size+2,0,none⟩=false:=by rw [← hw0];simp [go_sem]
 clear hs hs2 hn hm hb0 hw0 hv1 hv2;go_enter Tryz.func46,Tryz.ntmps46
 go_wp2_with fail;rw [HW.out];refine (HV1.out _ HB0.out).mono ?_
 rintro e w1 ⟨rfl,hb⟩;have HB1:=zh (btr HB0.out hb)
 have hd0:w1.cell? ⟨w.heap.size,0,none⟩=some (.slice A n c):=(hb.cell (p:=⟨w.heap.size,0,none⟩) (by simp [hzw])).trans hc0
 have hd1:w1.cell? ⟨w.heap.size+1,0,none⟩=some (.slice A2 m c2):=(hb.cell (p:=⟨w.heap.size+1,0,none⟩) (by simp [hzw])).trans hc1
 have hd2:w1.cell? ⟨w.heap.size+2,0,none⟩=some (.slice none 0 0):=(hb.cell (p:=⟨w.heap.size+2,0,none⟩) (by simp [hzw])).trans hc2
 have hg2:w1.frozen? ⟨w.heap.size+2,0,none⟩=false:=(hb.frozen (p:=⟨w.heap.size+2,0,none⟩) (by simp [hzw])).trans hf2
 have hsz1:w.heap.size+3≤w1.heap.size:=by rw [← hzw];exact hb.size
 clear hb hc0 hc1 hc2 hf2 HV1 HW hzw HB0;go_wp2_with fail;refine bodyPost_ret (v:=.tuple #[.agg #[.slice none 0 0],.int .i64 1]) (by simp [results,Tryz.results46,go_sem,hd2]) rfl ?_
 exact z1r _ _ _ (z4y HB1.out _ (by show w.heap.size≤w.heap.size+2;omega) _)
theorem z4ag (A A2:Option Addr)(n c m c2:Nat)(zs ys:List Int)(w:World)(hn:zs.length=n)(hm:ys.length=m)(hs:Sl w w.heap.size A (z0q zs))(hs2:Sl w w.heap.size A2 (z0q ys))(hl:n≤140737488351232)(hl2:m≤140737488351232)(hv1:Na.vld zs=true)(hv2:Na.vld ys=false):
  Calls Tryz.prog 46 #[.agg #[.slice A n c],.agg #[.slice A2 m c2]] w (z4d w [] 1):=by
 have HN:=zh hn;have HM:=zh hm;have HS:=zh hs;have HS2:=zh hs2;have HV1:Hid (∀ W,Below w.heap.size w W→Calls Tryz.prog 73 #[.agg #[.slice A n c]] W fun e w'=>e=.returned (.bool true)∧Below W.heap.size W w'):=fun W hW=>by
  rw [← hv1];exact z2f A n c w.heap.size _ W HN.out (HS.out.below hW) hW.size (by omega)
 have HV2:Hid (∀ W,Below w.heap.size w W→Calls Tryz.prog 73 #[.agg #[.slice A2 m c2]] W fun e w'=>e=.returned (.bool false)∧Below W.heap.size W w'):=fun W hW=>by
  rw [← hv2];exact z2f A2 m c2 w.heap.size _ W HM.out (HS2.out.below hW) hW.size (by omega)
 obtain ⟨w0,hw0⟩:∃ w0,((w.alloc (.cells #[.slice A n c] 25)).alloc (.cells #[.slice A2 m c2] 25)).alloc (.cells #[.slice none 0 0] 25)=w0:=⟨_,rfl⟩
 have HW:Hid (((w.alloc (.cells #[.slice A n c] 25)).alloc (.cells #[.slice A2 m c2] 25)).alloc (.cells #[.slice none 0 0] 25)=w0):=hw0
 have hb0:Below w.heap.size w w0:=by rw [← hw0];exact bal (bal (bal (Below.refl _ _) _) _) _
 have HB0:=zh hb0;have hzw:w0.heap.size=w.heap.size+3:=by rw [← hw0];simp
 have hc0:w0.cell? ⟨w.heap.size,0,none⟩=some (.slice A n c):=by rw [← hw0];simp [go_sem]
 have hc1:w0.cell? ⟨w.heap.size+1,0,none⟩=some (.slice A2 m c2):=by rw [← hw0];simp [go_sem]
 have hc2:w0.cell? ⟨w.heap.size+2,0,none⟩=some (.slice none 0 0):=by rw [← hw0];simp [go_sem]
 have hf2:w0.frozen? ⟨w.heap.size+2,0,none⟩=false:=by rw [← hw0];simp [go_sem]
 clear hs hs2 hn hm hb0 hw0 hv1 hv2;go_enter Tryz.func46,Tryz.ntmps46
 go_wp2_with fail;rw [HW.out];refine (HV1.out _ HB0.out).mono ?_
 rintro e w1 ⟨rfl,hb⟩;have HB1:=zh (btr HB0.out hb)
 have hd0:w1.cell? ⟨w.heap.size,0,none⟩=some (.slice A n c):=(hb.cell (p:=⟨w.heap.size,0,none⟩) (by simp [hzw])).trans hc0
 have hd1:w1.cell? ⟨w.heap.size+1,0,none⟩=some (.slice A2 m c2):=(hb.cell (p:=⟨w.heap.size+1,0,none⟩) (by simp [hzw])).trans hc1
 have hd2:w1.cell? ⟨w.heap.size+2,0,none⟩=some (.slice none 0 0):=(hb.cell (p:=⟨w.heap.size+2,0,none⟩) (by simp [hzw])).trans hc2
 have hg2:w1.frozen? ⟨w.heap.size+2,0,none⟩=false:=(hb.frozen (p:=⟨w.heap.size+2,0,none⟩) (by simp [hzw])).trans hf2
 have hsz1:w.heap.size+3≤w1.heap.size:=by rw [← hzw];exact hb.size
 clear hb hc0 hc1 hc2 hf2 HV1 HW hzw HB0;go_wp2_with fail;refine (HV2.out _ HB1.out).mono ?_
 rintro e w2 ⟨rfl,hb⟩;have HBx:=zh (btr HB1.out hb)
 have he0:w2.cell? ⟨w.heap.size,0,none⟩=some (.slice A n c):=(hb.cell (p:=⟨w.heap.size,0,none⟩) (by simp;omega)).trans hd0
 have he1:w2.cell? ⟨w.heap.size+1,0,none⟩=some (.slice A2 m c2):=(hb.cell (p:=⟨w.heap.size+1,0,none⟩) (by simp;omega)).trans hd1
 have he2:w2.cell? ⟨w.heap.size+2,0,none⟩=some (.slice none 0 0):=(hb.cell (p:=⟨w.heap.size+2,0,none⟩) (by simp;omega)).trans hd2
 have hh2:w2.frozen? ⟨w.heap.size+2,0,none⟩=false:=(hb.frozen (p:=⟨w.heap.size+2,0,none⟩) (by simp;omega)).trans hg2
 have hsz2:w.heap.size+3≤w2.heap.size:=zqq hsz1 hb.size
 clear hb hd0 hd1 hd2 hg2;go_wp2_with fail;refine bodyPost_ret (v:=.tuple #[.agg #[.slice none 0 0],.int .i64 1]) (by simp [results,Tryz.results46,go_sem,he2]) rfl ?_
 exact z1r _ _ _ (z4y HBx.out _ (by show w.heap.size≤w.heap.size+2;omega) _)
theorem z9az (A A2:Option Addr)(n c m c2:Nat)(x y:Nat)(w:World)(hn:(Na.dig x).length=n)(hm:(Na.dig y).length=m)(hs:Sl w w.heap.size A (z0c (Na.dig x)))(hs2:Sl w w.heap.size A2 (z0c (Na.dig y)))(hx:x<Na.top)(hy:y<Na.top):
  Calls Tryz.prog 46 #[.agg #[.slice A n c],.agg #[.slice A2 m c2]] w (z4d w (z5c (x*y)) (z4p (x*y))):=by
 obtain ⟨i0,hi,hz0,hz1,hz2⟩:=info_parts z5h
 have hn2:n≤200:=by rw [← hn];exact (Na.dig_200 x).2 hx
 have hm2:m≤200:=by rw [← hm];exact (Na.dig_200 y).2 hy
 have HN:=zh hn;have HM:=zh hm;have HS:=zh hs;have HS2:=zh hs2;have HX:=zh hx;have HY:=zh hy;have HV1:Hid (∀ W,Below w.heap.size w W→Calls Tryz.prog 73 #[.agg #[.slice A n c]] W fun e w'=>e=.returned (.bool true)∧Below W.heap.size W w'):=fun W hW=>by
  rw [← (Na.vld_dig HX.out)]
  exact z2f A n c w.heap.size _ W (by rw [Na.up_length];exact HN.out) (by rw [z0g];exact HS.out.below hW) hW.size (by omega)
 have HV2:Hid (∀ W,Below w.heap.size w W→Calls Tryz.prog 73 #[.agg #[.slice A2 m c2]] W fun e w'=>e=.returned (.bool true)∧Below W.heap.size W w'):=fun W hW=>by
  rw [← (Na.vld_dig HY.out)]
  exact z2f A2 m c2 w.heap.size _ W (by rw [Na.up_length];exact HM.out) (by rw [z0g];exact HS2.out.below hW) hW.size (by omega)
 obtain ⟨w0,hw0⟩:∃ w0,((w.alloc (.cells #[.slice A n c] 25)).alloc (.cells #[.slice A2 m c2] 25)).alloc (.cells #[.slice none 0 0] 25)=w0:=⟨_,rfl⟩
 have HW:Hid (((w.alloc (.cells #[.slice A n c] 25)).alloc (.cells #[.slice A2 m c2] 25)).alloc (.cells #[.slice none 0 0] 25)=w0):=hw0
 have hb0:Below w.heap.size w w0:=by rw [← hw0];exact bal (bal (bal (Below.refl _ _) _) _) _
 have HB0:=zh hb0;have hzw:w0.heap.size=w.heap.size+3:=by rw [← hw0];simp
 have hc0:w0.cell? ⟨w.heap.size,0,none⟩=some (.slice A n c):=by rw [← hw0];simp [go_sem]
 have hc1:w0.cell? ⟨w.heap.size+1,0,none⟩=some (.slice A2 m c2):=by rw [← hw0];simp [go_sem]
 have hc2:w0.cell? ⟨w.heap.size+2,0,none⟩=some (.slice none 0 0):=by rw [← hw0];simp [go_sem]
 have hf2:w0.frozen? ⟨w.heap.size+2,0,none⟩=false:=by rw [← hw0];simp [go_sem]
 clear hs hs2 hn hm hb0 hw0 hx hy;go_enter Tryz.func46,Tryz.ntmps46
 go_wp2_with fail;rw [HW.out];refine (HV1.out _ HB0.out).mono ?_
 rintro e w1 ⟨rfl,hb⟩;have HB1:=zh (btr HB0.out hb)
 have hd0:w1.cell? ⟨w.heap.size,0,none⟩=some (.slice A n c):=(hb.cell (p:=⟨w.heap.size,0,none⟩) (by simp [hzw])).trans hc0
 have hd1:w1.cell? ⟨w.heap.size+1,0,none⟩=some (.slice A2 m c2):=(hb.cell (p:=⟨w.heap.size+1,0,none⟩) (by simp [hzw])).trans hc1
 have hd2:w1.cell? ⟨w.heap.size+2,0,none⟩=some (.slice none 0 0):=(hb.cell (p:=⟨w.heap.size+2,0,none⟩) (by simp [hzw])).trans hc2
 have hg2:w1.frozen? ⟨w.heap.size+2,0,none⟩=false:=(hb.frozen (p:=⟨w.heap.size+2,0,none⟩) (by simp [hzw])).trans hf2
 have hsz1:w.heap.size+3≤w1.heap.size:=by rw [← hzw];exact hb.size
 clear hb hc0 hc1 hc2 hf2 HV1 HW hzw HB0;go_wp2_with fail;refine (HV2.out _ HB1.out).mono ?_
 rintro e w2 ⟨rfl,hb⟩;have HBx:=zh (btr HB1.out hb)
 have he0:w2.cell? ⟨w.heap.size,0,none⟩=some (.slice A n c):=(hb.cell (p:=⟨w.heap.size,0,none⟩) (by simp;omega)).trans hd0
 have he1:w2.cell? ⟨w.heap.size+1,0,none⟩=some (.slice A2 m c2):=(hb.cell (p:=⟨w.heap.size+1,0,none⟩) (by simp;omega)).trans hd1
 have he2:w2.cell? ⟨w.heap.size+2,0,none⟩=some (.slice none 0 0):=(hb.cell (p:=⟨w.heap.size+2,0,none⟩) (by simp;omega)).trans hd2
 have hh2:w2.frozen? ⟨w.heap.size+2,0,none⟩=false:=(hb.frozen (p:=⟨w.heap.size+2,0,none⟩) (by simp;omega)).trans hg2
 have hsz2:w.heap.size+3≤w2.heap.size:=zqq hsz1 hb.size
 clear hb hd0 hd1 hd2 hg2;clear HV2;have HMu:=zh (z6ae A A2 n c m c2 (Na.dig x) (Na.dig y) w2 HN.out HM.out ((HS.out.below HBx.out).more HBx.out.size) ((HS2.out.below HBx.out).more HBx.out.size) (Na.dig_lim x) (Na.dig_lim y) (by omega) (by omega))
 rw [Na.val_dig,Na.val_dig] at HMu;go_wp2_with fail;refine HMu.out.mono ?_;rintro e w3 ⟨A5,c5,o5,rfl,hl5,hL5,hv5,ho5,hb5⟩;have HR:=zh (z2ar A5 (n+m+1) c5 o5 w3 hl5 (Sl.of_own ho5) hL5 (z1i ho5).1 (by omega))
 rw [hv5] at HR;have HB3:=zh hb5;clear hl5 hL5 hv5 ho5 hb5 HMu;go_wp2_with fail;refine HR.out.mono ?_;rintro e w9 ⟨A9,n9,c9,rfl,hn9,ho9,hb9⟩;have HN9:=zh hn9;have HO9:=zh (z1e ho9 HB3.out.size)
 have HB9:=zh (btr HB3.out hb9)
 have hk9:w9.cell? ⟨w.heap.size+2,0,none⟩=some (.slice none 0 0):=(HB9.out.cell (p:=⟨w.heap.size+2,0,none⟩) (by simp only;omega)).trans he2
 have hk9f:w9.frozen? ⟨w.heap.size+2,0,none⟩=false:=(HB9.out.frozen (p:=⟨w.heap.size+2,0,none⟩) (by simp only;omega)).trans hh2
 clear hn9 ho9 hb9;go_wp2_with fail;refine bodyPost_ret (v:=.tuple #[.agg #[.slice A9 n9 c9],.int .i64 (z4p (x*y))]) (by simp [results,Tryz.results46,go_sem,hk9]) rfl ?_
 exact z2d HO9.out HN9.out (by omega) (by omega) (HBx.out.trans (HB9.out.mono HBx.out.size)) (by omega) _ _
theorem z6ag (A A2:Option Addr)(n c m c2:Nat)(zs ys:List Int)(w:World)(hn:zs.length=n)(hm:ys.length=m)(hs:Sl w w.heap.size A (z0q zs))(hs2:Sl w w.heap.size A2 (z0q ys))(hl:n≤140737488351232)(hl2:m≤140737488351232):
  Calls Tryz.prog 46 #[.agg #[.slice A n c],.agg #[.slice A2 m c2]] w (z4d w (mulL zs ys) (mulE zs ys)):=by
 cases hv:(Na.vld zs && Na.vld ys)
 ·have e1:mulL zs ys=[]:=by unfold mulL;rw [hv];rfl
  have e2:mulE zs ys=1:=by unfold mulE;rw [hv];rfl
  rw [e1,e2];cases h1:Na.vld zs
  ·exact z4ah A A2 n c m c2 zs ys w hn hm hs hs2 hl hl2 h1 _ rfl
  ·rw [h1,Bool.true_and] at hv;exact z4ag A A2 n c m c2 zs ys w hn hm hs hs2 hl hl2 h1 hv
 ·obtain ⟨x,y,hx,hy,rfl,rfl⟩:=z3ao hv
  rw [(z4r hx hy).1,(z4r hx hy).2]
  rw [z0g] at hs hs2;rw [Na.up_length] at hn hm;exact z9az A A2 n c m c2 x y w hn hm hs hs2 hx hy
theorem z9k (A A2:Option Addr)(n c m c2:Nat)(x y:Nat)(w:World)(hn:(Na.dig x).length=n)(hm:(Na.dig y).length=m)(hnc:n≤c)(hmc:m≤c2)(hs:Sl w w.heap.size A (z0c (Na.dig x)))(hs2:Sl w w.heap.size A2 (z0c (Na.dig y)))(hl:n≤1000)(hl2:m≤1000):
  Calls Tryz.prog 47 #[.agg #[.slice A n c],.agg #[.slice A2 m c2]] w fun e w'=>e=.returned (.int .i64 (Na.sgn x y))∧Below w.heap.size w w':=by
 have H0:=((((Ow.of (St.refl w)).old hs (by rw [z0f];exact hn) hnc hl).old hs2 (by rw [z0f];exact hm) hmc hl2).boxed (.slice A n c) 25).boxed (.slice A2 m c2) 25
 simp only [World.size_alloc,zqc,zqb] at H0;have hc0:=H0.cell 0 rfl
 have hc1:=H0.cell 1 rfl
 have HN:=zh hn;have HM:=zh hm;have HB:=zh H0.below;obtain ⟨-,-,-,q1⟩:=H0.sl (i:=0) rfl
 obtain ⟨-,-,-,q2⟩:=H0.sl (i:=1) rfl
 have HP:=zh q1;have HQ:=zh q2;clear hn hm hs hs2 q1 q2 H0;rcases Nat.lt_trichotomy n m with hnm | hnm | hnm
 ·have hne:((n:Int) != (m:Int))=true:=by rw [bne_iff_ne];omega
  have HR:Hid (Na.sgn x y=-1):=by unfold Hid;rw [Na.sgn_of_len (by rw [HN.out,HM.out];omega),HN.out,HM.out];exact Na.sgn_lt hnm
  have hd:decide (n<m)=true:=zt hnm
  clear hnm;go_enter Tryz.func47,Tryz.ntmps47
  go_wp2_with fail;go_ret;exact ⟨by rw [HR.out];rfl,HB.out⟩
 ·subst hnm
  have hne:((n:Int) != (n:Int))=false:=by simp
  obtain ⟨w0,hw0⟩:∃ w0,(w.alloc (.cells #[.slice A n c] 25)).alloc (.cells #[.slice A2 n c2] 25)=w0:=⟨_,rfl⟩
  have HW:Hid ((w.alloc (.cells #[.slice A n c] 25)).alloc (.cells #[.slice A2 n c2] 25)=w0):=hw0
  rw [hw0] at HB HP HQ hc0 hc1;clear hw0;go_enter Tryz.func47,Tryz.ntmps47
  go_wp2_with fail;rw [HW.out];go_loopw [5] (fun v wr=>∃ (z:Int) (nq:Nat),-1≤z∧z<n∧v=.int .i64 z∧wr=w0.drewN nq∧Hid ((Na.dig x).drop (z+1).toNat=(Na.dig y).drop (z+1).toNat)) (fun v _=>(intOf v+1).toNat)
  case atStart=>exact ⟨(n:Int) - 1,0,by omega,by omega,by go_num,rfl,by unfold Hid;rw [List.drop_of_length_le (by rw [HN.out];omega),List.drop_of_length_le (by rw [HM.out];omega)]⟩
  case round=>
   obtain ⟨z,nq,hz1,hz2,rfl,rfl,HE⟩:=hrel;rcases Int.lt_or_le z 0 with hz | hz
   ·have HR:Hid (Na.sgn x y=0):=Na.sgn_eq (Na.dig_inj (by have:=HE.out;rw [show (z+1).toNat=0 by omega,List.drop_zero,List.drop_zero] at this;exact this))
    clear hz1;go_wp2_with fail;go_ret;exact ⟨by rw [HR.out];rfl,z0p HB.out _⟩
   ·obtain ⟨k,rfl⟩:=Int.eq_ofNat_of_zero_le hz
    have hkn:k<n:=by omega
    obtain ⟨a,ha⟩:=z0l (Na.dig x) k (by rw [HN.out];exact hkn)
    obtain ⟨b,hb⟩:=z0l (Na.dig y) k (by rw [HM.out];exact hkn)
    obtain ⟨ad,rfl,_,hca⟩:=HP.out.nat ha
    obtain ⟨ad2,rfl,_,hcb⟩:=HQ.out.nat hb
    have HE1:Hid ((Na.dig x).drop (k+1)=(Na.dig y).drop (k+1)):=HE.out
    have HHA:=zh ha;have HHB:=zh hb;clear ha hb hz1 hz HE;rcases Nat.lt_trichotomy a b with hab | hab | hab
    ·have h1:decide (a<b)=true:=zt hab
     have HR:Hid (Na.sgn x y=-1):=by unfold Hid;rw [Na.sgn_at HHA.out HHB.out HE1.out (by omega)];exact Na.sgn_lt hab
     clear hab;go_wp2_with fail;go_quiet (fail)
     go_wp2_with fail;go_ret;exact ⟨by rw [HR.out];rfl,z0p (z0p HB.out _) _⟩
    ·subst hab
     have h1:decide (a<a)=false:=zn (by omega)
     have HE2:Hid ((Na.dig x).drop ((k:Int) - 1+1).toNat=(Na.dig y).drop ((k:Int) - 1+1).toNat):=by
      unfold Hid;rw [show ((k:Int) - 1+1).toNat=k by omega]
      exact Na.drop_same HHA.out HHB.out HE1.out
     go_wp2_with fail;go_quiet (fail)
     go_wp2_with fail;go_quiet (fail)
     go_wp2_with fail;go_roundw
     case rel=>exact ⟨(k:Int) - 1,_,by omega,by omega,rfl,rfl,HE2⟩
     case measure=>simp [intOf]
    ·have h1:decide (a<b)=false:=zn (by omega)
     have h2:decide (b<a)=true:=zt hab
     have HR:Hid (Na.sgn x y=1):=by unfold Hid;rw [Na.sgn_at HHA.out HHB.out HE1.out (by omega)];exact Na.sgn_gt hab
     clear hab;go_wp2_with fail;go_quiet (fail)
     go_wp2_with fail;go_quiet (fail)
     go_wp2_with fail;go_ret;exact ⟨by rw [HR.out];rfl,z0p (z0p (z0p HB.out _) _) _⟩
 ·have hne:((n:Int) != (m:Int))=true:=by rw [bne_iff_ne];omega
  have HR:Hid (Na.sgn x y=1):=by unfold Hid;rw [Na.sgn_of_len (by rw [HN.out,HM.out];omega),HN.out,HM.out];exact Na.sgn_gt hnm
  have hd:decide (n<m)=false:=zn (by omega)
  clear hnm;go_enter Tryz.func47,Tryz.ntmps47
  go_wp2_with fail;go_ret;exact ⟨by rw [HR.out];rfl,HB.out⟩
open Go.RowKit Go.Sort
def z0ac (w:World)(l:List Nat)(en:Ending)(w':World):Prop:=
 ∃ (A:Option Addr) (n c:Nat),en=.returned (.agg #[.slice A n c])∧l.length=n∧n≤c∧w'.ownsRow w.heap.size 3 1 (.slice A n c) n (z0c l)∧Below w.heap.size w w'
theorem z4g {w w':World}{g:Option Nat}{M:List (Nat×Value)}{L:List Ob}{O:List Rw}(h:Ow w w' g M L O)(i:Nat){A:Option Addr}{n c:Nat}{l:List Nat}(hi:O[i]?=some ⟨A,n,c,3,z0c l⟩):z0ac w l (.returned (.agg #[.slice A n c])) w':=by
 have ho:=h.row i hi
 exact ⟨A,n,c,rfl,by have:=z1v ho;rwa [z0f] at this,(z1i ho).1,ho,h.below⟩
theorem Ow.trimmed {w0 w:World}{g:Option Nat}{M:List (Nat×Value)}{L:List Ob}{O:List Rw}(h:Ow w0 w g M L O)(i:Nat){A:Option Addr}{n c:Nat}{l:List Nat}(hi:O[i]?=some ⟨A,n,c,3,z0c l⟩)(hl:Na.Lim l){k x:Nat}(hk:Na.tl l l.length=k)(hx:Na.val l=x):Ow w0 w g M L (O.set i ⟨A,k,c,3,z0c (Na.dig x)⟩):=by
 have hn:=z1v (h.row i hi)
 rw [z0f] at hn;have h1:=h.cut i hi (k:=k) (by rw [← hk,← hn];exact Na.tl_le _ _)
 rw [z2p] at h1;have e:=Na.trim_dig hl
 unfold Na.trim at e;rw [hk,hx] at e;rwa [e] at h1
def RTim (w:World)(M:List (Nat×Value))(L:List Ob)(Y:List Nat)(n m:Nat)(i s cr:Value)(wr:World):Prop:=
 ∃ (k c:Nat) (A:Option Addr) (ca:Nat) (o:List Nat),k≤n∧i=.int .i64 (k:Int)∧s=.slice A k ca∧cr=.int .i64 (c:Int)∧c<16777216∧Hid (o.length=k∧Na.Lim o∧Na.val o+16777216 ^ k*c=Na.val (Y.take k)*m+0)∧Hid (Ow w wr none M L [⟨A,k,ca,3,z0c o⟩])
theorem z1ad (A:Option Addr)(n c y m:Nat)(mv:Int)(hmv:mv=(m:Int))(w:World)(hn:(Na.dig y).length=n)(hnc:n≤c)(hs:Sl w w.heap.size A (z0c (Na.dig y)))(hl:n≤999)(hm:m<16777216):
  Calls Tryz.prog 103 #[.agg #[.slice A n c],.int .i64 mv] w (z0ac w (Na.dig (y*m))):=by
 subst hmv
 have H0:=(((Ow.of (St.refl w)).old hs (by rw [z0f];exact hn) hnc (by omega)).boxed (.slice A n c) 25).boxed (.slice none 0 0) 25
 simp only [World.size_alloc,zqc,zqb] at H0;have hmk:=z5k.make .i64 .i64 0 ((n:Int)+1) 0 (n+1) rfl (by omega) (by omega) (by omega) (by omega)
 have hc0:=H0.cell 0 rfl
 have H1:=H0.made 3 (.int .i64 0) 0 (n+1) rfl (by omega) (by unfold maxLen;omega)
 simp only [World.size_alloc,zqc] at H1;obtain ⟨w1,hw1⟩:∃ w1,((w.alloc (.cells #[.slice A n c] 25)).alloc (.cells #[.slice none 0 0] 25)).alloc (.cells (madeCells #[.int .i64 0] (n+1)) 3)=w1:=⟨_,rfl⟩
 have HW:Hid (((w.alloc (.cells #[.slice A n c] 25)).alloc (.cells #[.slice none 0 0] 25)).alloc (.cells (madeCells #[.int .i64 0] (n+1)) 3)=w1):=hw1
 rw [hw1] at H1;have HH:=zh H1;have HN:=zh hn;clear hn hs H0 H1 hw1;go_enter Tryz.func103,Tryz.ntmps103
 go_wp2_with fail;rw [HW.out];clear hc0 hmk;go_loopw [7,5,6] (fun i s cr wr=>RTim w [(w.heap.size,.slice A n c),(w.heap.size+1,.slice none 0 0)] [⟨A,n,c,z0c (Na.dig y)⟩] (Na.dig y) n m i s cr wr) (fun i _ _ _=>n - (intOf i).toNat)
 case atStart=>exact ⟨0,0,_,_,[],zqr _,rfl,rfl,rfl,by omega,⟨rfl,Na.Lim.nil,by simp [Na.val]⟩,HH.out⟩
 case round=>
  obtain ⟨k,cr,Ao,co,o,hk,rfl,rfl,rfl,hcr,HP,HO⟩:=hrel;have hc0:=HO.out.cell 0 rfl
  have HQ:=HO.out.sl (i:=0) rfl
  rcases zqi k n with hkn | hkn
  ·obtain ⟨a,ha⟩:=z0l (Na.dig y) k (by rw [HN.out];exact hkn)
   have ha24:=(Na.dig_lim y).at ha
   obtain ⟨ad,rfl,_,hca⟩:=HQ.2.2.2.nat ha
   obtain ⟨p,hp⟩:∃ p,a*m=p:=⟨_,rfl⟩
   have hp1:(a:Int)*(m:Int)=(p:Int):=by rw [← hp];rfl
   obtain ⟨v,hv⟩:∃ v,p+cr=v:=⟨_,rfl⟩
   have hv48:v<281474976710656:=by have:=Na.sq24 (e:=0) (by omega) ha24 hm hcr;omega
   obtain ⟨r,hr⟩:∃ r,v % 16777216=r:=⟨_,rfl⟩
   obtain ⟨q,hq⟩:∃ q,v / 16777216=q:=⟨_,rfl⟩
   have HSt:=zh (Na.grow_step (Na.dig y) o k a m cr 0 v HP.out.1 ha HP.out.2.2 (by rw [hp];omega))
   rw [hr,hq] at HSt;have hmod:((p:Int)+(cr:Int)) % 16777216=(r:Int):=by omega
   have hdiv:((p:Int)+(cr:Int)) / 16777216=(q:Int):=by omega
   have hq24:q<16777216:=by omega
   have hr24:r<16777216:=by omega
   have HLr:=zh (HP.out.2.1.append (Na.Lim.one hr24))
   have HLl:Hid ((o++[r]).length=k+1):=by unfold Hid;rw [zqm,HP.out.1];rfl
   clear ha hp hv hr hq;go_wp2_with (at_builtin;refine z3r z5k HO.out 0 (.tmp 31) (.tmp 34) _ _ rfl rfl (by unfold maxLen;omega) (by omega) rfl rfl rfl rfl ?_;intro A' c' w8 how)
   go_roundw
   case rel=>
    rw [z1g] at how;exact ⟨k+1,q,A',c',o++[r],by omega,by go_num,rfl,(by first | rfl | exact z0u hdiv),hq24,⟨HLl.out,HLr.out,HSt.out⟩,how⟩
   case measure=>simp [intOf];omega
  ·obtain rfl:k=n:=by omega
   have HV:Hid (Na.val (o++[cr])=y*m):=by
    unfold Hid;have h7:=HP.out.2.2;rw [zqp (by rw [HN.out];omega),Na.val_dig] at h7
    rw [Na.val_snoc,HP.out.1];omega
   have HL1:=zh (HP.out.2.1.append (Na.Lim.one hcr))
   have HLl:Hid ((o++[cr]).length=k+1):=by unfold Hid;rw [zqm,HP.out.1];rfl
   clear HQ;go_wp2_with (at_builtin;refine z3r z5k HO.out 0 (.tmp 38) (.tmp 40) _ _ rfl rfl (by unfold maxLen;omega) (by omega) rfl rfl rfl rfl ?_;intro A' c' w8 how)
   rw [z1g] at how;obtain ⟨l,hl0⟩:∃ l,o++[cr]=l:=⟨_,rfl⟩
   rw [hl0] at how HV HL1 HLl;have HX:=zh how;clear HO hl0 how hc0;go_loop [9] (fun v=>∃ j:Nat,j≤k+1∧v=.int .i64 (j:Int)∧Hid (Na.tl l j=Na.tl l l.length)) (fun v=>(intOf v).toNat)
   case atStart=>exact ⟨k+1,zqj _,rfl,by unfold Hid;rw [HLl.out]⟩
   case round=>
    obtain ⟨j,hj,rfl,HT⟩:=hrel;have hrw:=HX.out.row 0 rfl
    have hown:=Sl.of_own hrw
    rcases Na.tl_case l l.length j (by rw [HLl.out];exact hj) HT.out with ⟨h0,hz,ht⟩ | ⟨ht,hs⟩
    ·obtain ⟨ad2,rfl,_,hcb⟩:=hown.nat hz
     have HT2:=zh ht;have hd:decide (0<(j:Int))=true:=zt (by omega)
     clear hown hz ht hrw;go_wp2_with fail;go_round
     case rel=>exact ⟨j - 1,by omega,z0u (by omega),HT2⟩
     case measure=>simp [intOf];omega
    ·have hcap:=(z1i hrw).1
     have hjc:(j:Int)≤(c':Int):=by omega
     have HTr:=zh (HX.out.trimmed 0 rfl HL1.out ht HV.out)
     have hc1:=HX.out.cell 1 rfl
     have hf1:=HX.out.free 1 rfl
     clear hrw hcap ht HT;rcases hs with h0 | ⟨h0,b,hb,hbne⟩
     ·subst h0
      clear hown;go_wp2_with fail;have h2:=HTr.out.setv 1 rfl (.slice A' 0 c')
      have hc2:=h2.cell 1 rfl
      refine bodyPost_ret (v:=.agg #[.slice A' 0 c']) (by simp [results,Tryz.results103,go_sem,hc2]) rfl ?_
      exact z4g h2 0 rfl
     ·obtain ⟨ad2,rfl,_,hcb⟩:=hown.nat hb
      have hd:decide (0<(j:Int))=true:=zt (by omega)
      clear hown hb;go_wp2_with fail;have h2:=HTr.out.setv 1 rfl (.slice (some ad2) j c')
      have hc2:=h2.cell 1 rfl
      refine bodyPost_ret (v:=.agg #[.slice (some ad2) j c']) (by simp [results,Tryz.results103,go_sem,hc2]) rfl ?_
      exact z4g h2 0 rfl
namespace Na
set_option maxHeartbeats 4000000
def lent (o:List Nat)(b:Nat):List Nat→List Int
 | []=>up o
 | a :: r=>up o++((a:Int) - b) :: up r
theorem z6h (o r:List Nat):up (o++r)=up o++up r:=by simp [up]
theorem z2bq (a:Nat)(r:List Nat):up (a :: r)=(a:Int) :: up r:=rfl
theorem lent_get (o:List Nat)(b a:Nat)(r:List Nat):(lent o b (a :: r))[o.length]?=some ((a:Int) - b):=by
 rw [lent,zqo (by rw [up_length];exact zqj _),up_length,Nat.sub_self];rfl
theorem lent_set (o:List Nat)(b a:Nat)(r:List Nat)(v:Int):(lent o b (a :: r)).set o.length v=up o++v :: up r:=by
 rw [lent,List.set_append_right _ _ (by rw [up_length];exact zqj _),up_length,Nat.sub_self];rfl
theorem mid_set (o r:List Nat)(u v:Int):(up o++u :: up r).set o.length v=up o++v :: up r:=by
 rw [List.set_append_right _ _ (by rw [up_length];exact zqj _),up_length,Nat.sub_self];rfl
theorem mid_get (o r:List Nat)(u:Int):(up o++u :: up r)[o.length]?=some u:=by
 rw [zqo (by rw [up_length];exact zqj _),up_length,Nat.sub_self];rfl
theorem mid_get1 (o r:List Nat)(u:Int)(a:Nat):(up o++u :: up (a :: r))[o.length+1]?=some (a:Int):=by
 rw [zqo (by rw [up_length];exact Nat.le_succ _),up_length,Nat.add_sub_cancel_left];rfl
theorem lent_zero (o r:List Nat)(d:Nat):up o++(d:Int) :: up r=lent (o++[d]) 0 r:=by
 cases r with
 | nil=>rw [lent,z6h];rfl
 | cons a r=>rw [lent,z6h,zqa];simp [up]
theorem lent_one (o r:List Nat)(d a:Nat):(up o++(d:Int) :: up (a :: r)).set (o.length+1) ((a:Int) - 1)=lent (o++[d]) 1 (a :: r):=by
 rw [List.set_append_right _ _ (by rw [up_length];exact Nat.le_succ _),up_length,Nat.add_sub_cancel_left,lent,z6h,zqa];rfl
theorem lent_nil (o:List Nat)(b:Nat):z0q (lent o b [])=z0c o:=z0g o
theorem lent_start (X:List Nat):z0q (lent [] 0 X)=z0c X:=by
 cases X with
 | nil=>rfl
 | cons a r=>
  rw [← z0g];have:lent [] 0 (a :: r)=up (a :: r):=by rw [lent,z2bq];simp [up]
  rw [this]
end Na
theorem z8h (l:List Int)(k:Nat)(b:Int):(z0q l).set k (.int .i64 b)=z0q (l.set k b):=by unfold z0q;rw [List.map_set];rfl
theorem z0az {w:World}{base n c g:Nat}{e:TypeId}{l:List Int}(h:w.ownsRow base e 1 (.slice (some ⟨g,0,none⟩) n c) n (z0q l)){k:Nat}{b:Int}(hk:l[k]?=some b):w.cell? ⟨g,k,none⟩=some (.int .i64 b):=by
 have hl:=z1v h
 rw [z0t] at hl;rw [h.cellAt k (by have:=z0e hk;omega)]
 unfold z0q;rw [List.getElem?_map,hk];rfl
theorem z9a {P:Program}{f:FuncId}{args:Array Value}{w:World}{v:Value}(h:∀ W,Below w.heap.size w W→Calls P f args W fun e w'=>e=.returned v∧Below W.heap.size W w')(d:Nat)(os:Array Obj):Calls P f args (grow (redrawn w d) os) fun e w''=>e=.returned v∧∃ p:Regrown,w''=grow (redrawn w p.d) p.os:=
 Calls.regrown_of (h _ (below_regrown w d os))
theorem z7s {w W:World}(h:∃ p:Regrown,W=grow (redrawn w p.d) p.os):Below w.heap.size w W:=by
 obtain ⟨p,rfl⟩:=h;exact below_regrown _ _ _
def z8bs (w:World)(M:List (Nat×Value))(L:List Ob)(X Y:List Nat)(n:Nat)(A:Option Addr)(ca:Nat)(i:Value)(wr:World):Prop:=
 ∃ (k b:Nat) (o:List Nat),k≤n∧i=.int .i64 (k:Int)∧b≤1∧Hid (o.length=k∧Na.Lim o∧Na.val o+Na.val (Y.take k)=Na.val (X.take k)+16777216 ^ k*b)∧Hid (Ow w wr none M L [⟨A,n,ca,3,z0q (Na.lent o b (X.drop k))⟩])
theorem z2an {w0 w:World}{g:Option Nat}{M:List (Nat×Value)}{L:List Ob}{gb n c:Nat}{e:TypeId}{vs:List Value}{O:List Rw}(h:Ow w0 w g M L (⟨some ⟨gb,0,none⟩,n,c,e,vs⟩ :: O)):gb<w.heap.size:=(h.lt (i:=0) rfl (b:=gb) rfl).1
theorem z4af (A A2:Option Addr)(n c m c2 x y:Nat)(w:World)(hn:(Na.dig x).length=n)(hm:(Na.dig y).length=m)(hnc:n≤c)(hmc:m≤c2)(hs:Sl w w.heap.size A (z0c (Na.dig x)))(hs2:Sl w w.heap.size A2 (z0c (Na.dig y)))(hl:n≤999)(hl2:m≤999)(hle:y≤x):
  Calls Tryz.prog 104 #[.agg #[.slice A n c],.agg #[.slice A2 m c2]] w (z0ac w (Na.dig (x - y))):=by
 have H0:=(((((Ow.of (St.refl w)).old hs (by rw [z0f];exact hn) hnc (by omega)).old hs2 (by rw [z0f];exact hm) hmc (by omega)).boxed (.slice A n c) 25).boxed (.slice A2 m c2) 25).boxed (.slice none 0 0) 25
 simp only [World.size_alloc,zqc,zqb] at H0;have hc0:=H0.cell 0 rfl
 have H1:=H0.nil 3
 simp only [zqc] at H1;have HH:=zh H1;have HN:=zh hn;have HM:=zh hm;have HS:=zh (H0.sl (i:=0) rfl)
 have HLe:=zh hle;have hmn:m≤n:=by rw [← hn,← hm];exact Na.dig_len_mono hle
 clear hn hm hs hs2 H0 H1 hle;go_enter Tryz.func104,Tryz.ntmps104
 go_wp2_with (at_builtin;refine z5f z5k HH.out 0 (.const (.slice none 0 0)) (.tmp 9) rfl (by rw [z0f];exact HN.out) HS.out.2.2.2 (z2y _) (by unfold maxLen;omega) (by omega) rfl rfl rfl rfl ?_;intro A' c' w1 how)
 rw [zqc,Nat.zero_add] at how;have HX:=zh how;clear how HH hc0;go_loopw [6] (fun i wr=>z8bs w [(w.heap.size,.slice A n c),(w.heap.size+1,.slice A2 m c2),(w.heap.size+1+1,.slice none 0 0)] [⟨A,n,c,z0c (Na.dig x)⟩,⟨A2,m,c2,z0c (Na.dig y)⟩] (Na.dig x) (Na.dig y) n A' c' i wr) (fun i _=>n - (intOf i).toNat)
 case atStart=>exact ⟨0,0,[],zqr _,rfl,zqr _,⟨rfl,Na.Lim.nil,by simp [Na.val]⟩,by unfold Hid;rw [List.drop_zero,Na.lent_start];exact HX.out⟩
 case round=>
  obtain ⟨k,bw,o,hk,rfl,hbw,HP,HO⟩:=hrel;rcases zqi k n with hkn | hkn
  ·obtain ⟨a,ha⟩:=z0l (Na.dig x) k (by rw [HN.out];exact hkn)
   have ha24:=(Na.dig_lim x).at ha
   have hat:=Na.at0_some ha
   obtain ⟨R,hR⟩:∃ R,(Na.dig x).drop (k+1)=R:=⟨_,rfl⟩
   have hdr:(Na.dig x).drop k=a :: R:=by rw [← hR];exact List.drop_eq_getElem?_toList_append ▸ (by rw [ha];rfl)
   have HO1:=HO.out;rw [hdr] at HO1;have HRl:Hid (R.length+(k+1)=n):=by unfold Hid;rw [← hR,List.length_drop,HN.out];omega
   have HRR:=zh hR;have hrow:=HO1.row 0 rfl
   obtain ⟨gb,rfl,-,-⟩:=z0n hrow (by omega)
   obtain ⟨u,hu⟩:∃ u:Int,(a:Int) - (bw:Int)=u:=⟨_,rfl⟩
   have hg0:(Na.lent o bw (a :: R))[k]?=some u:=by rw [← hu];have:=Na.lent_get o bw a R;rwa [HP.out.1] at this
   have hcl:=z0az hrow hg0
   have hfz:=hrow.frozenAt k
   obtain ⟨b,hb⟩:∃ b,Na.at0 (Na.dig y) k=b:=⟨_,rfl⟩
   have hb24:b<16777216:=by rw [← hb];exact Na.at0_lt (Na.dig_lim y) k
   have hc1:=HO1.cell 1 rfl
   have HQ:=zh (HO1.sl (i:=1) rfl)
   have cL:=z9a (P:=Tryz.prog) (w:=wr) (f:=74) (args:=#[.agg #[.slice A2 m c2],.int .i64 (k:Int)]) (v:=.int .i64 (b:Int)) (fun W hW=>by
    rw [← hb];exact z9n A2 m c2 wr.heap.size k (Na.dig y) _ rfl W HM.out (HQ.out.2.2.2.below hW) hW.size (by omega))
   have k1:=cell_regrown hc1
   have k2:=cell_regrown hcl
   have HOw:=zh HO1;obtain ⟨v0,hv0⟩:∃ v0:Int,u - (b:Int)=v0:=⟨_,rfl⟩
   have hset:(z0q (Na.lent o bw (a :: R))).set k (.int .i64 v0)=z0q (Na.up o++v0 :: Na.up R):=by
    rw [z8h];have:=Na.lent_set o bw a R v0;rw [HP.out.1] at this;rw [this]
   have HHu:=zh hu;have HHv:=zh hv0;have HHb:=zh hb;have HHa:=zh hat;have HSt:=zh hset;have hub : -2≤u∧u<16777216:=by omega
   clear ha hat hR hdr hg0 hu hb HO HO1 hrow hset hc1;go_upto_region 5 with (fail)
   refine z5p 9 (by kernel_rfl) (by kernel_rfl) ?_
   simp only [List.take_succ_cons,List.take_zero,List.drop_succ_cons,List.drop_zero]
   repeat (quiet_step (exact cL _ _))
   refine wpQuiet_nil ?_
   intro W hW;have hbl:=z7s hW
   clear hW k1 k2 cL;have hcw:=(hbl.cell (p:=⟨gb,k,none⟩) (z2an HOw.out)).trans hcl
   have hfw:=(hbl.frozen (p:=⟨gb,k,none⟩) (z2an HOw.out)).trans hfz
   have H5:=(HOw.out.go hbl).put 0 rfl k (.int .i64 v0)
   rw [zqd,HSt.out] at H5;clear hcl hfz HOw hbl HSt HQ;go_upto_region 6 with (fail)
   obtain ⟨w5,hw5⟩:∃ w5,W.setCell ⟨gb,k,none⟩ (.int .i64 v0)=w5:=⟨_,rfl⟩
   rw [hw5] at H5 ⊢
   clear hw5 hcw hfw;have hr5:=H5.row 0 rfl
   have hg5:(Na.up o++v0 :: Na.up R)[k]?=some v0:=by have:=Na.mid_get o R v0;rwa [HP.out.1] at this
   have hc5:=z0az hr5 hg5
   have hf5:=hr5.frozenAt k
   have HO5:=zh H5;clear H5 hr5 hg5;by_cases hneg:v0<0
   ·obtain ⟨d,hd⟩:∃ d:Nat,v0+16777216=(d:Int):=⟨(v0+16777216).toNat,by have:=HHv.out;have:=HHu.out;omega⟩
    have hd24:d<16777216:=by omega
    have HSB:=zh (Na.sub_no (Na.dig x) (Na.dig y) o k bw d HP.out.1 HP.out.2.2 (by rw [HHa.out,HHb.out];have:=HHv.out;have:=HHu.out;omega))
    have HLr:=zh (HP.out.2.1.append (Na.Lim.one hd24))
    have HLl:Hid ((o++[d]).length=k+1):=by unfold Hid;rw [zqm,HP.out.1];rfl
    have hkn1:k+1<n:=by
     rcases zqi (k+1) n with h | h
     ·exact h
     ·exfalso
      have h1:=HSB.out;rw [zqp (by have:=HN.out;have:=HM.out;omega),zqp (by have:=HN.out;have:=HM.out;omega),Na.val_dig,Na.val_dig] at h1
      have h2:=Na.val_lt HLr.out
      rw [HLl.out] at h2;have:=HLe.out
      omega
    obtain ⟨a1,ha1⟩:=z0l (Na.dig x) (k+1) (by rw [HN.out];exact hkn1)
    have ha24':=(Na.dig_lim x).at ha1
    obtain ⟨R1,hR1⟩:∃ R1,(Na.dig x).drop (k+2)=R1:=⟨_,rfl⟩
    have hRc:R=a1 :: R1:=by rw [← HRR.out,← hR1];exact List.drop_eq_getElem?_toList_append ▸ (by rw [ha1];rfl)
    subst hRc
    have hn1:(v0+16777216:Int)=d:=hd
    have hs6:(z0q (Na.up o++v0 :: Na.up (a1 :: R1))).set k (.int .i64 (d:Int))=z0q (Na.up o++(d:Int) :: Na.up (a1 :: R1)):=by
     rw [z8h];have:=Na.mid_set o (a1 :: R1) v0 d;rw [HP.out.1] at this;rw [this]
    have H6:=HO5.out.put 0 rfl k (.int .i64 (d:Int))
    rw [zqd,hs6] at H6;clear ha1 hR1 hs6 HO5 hd;go_upto_region 8 with (fail)
    obtain ⟨w6,hw6⟩:∃ w6,w5.setCell ⟨gb,k,none⟩ (.int .i64 (d:Int))=w6:=⟨_,rfl⟩
    rw [hw6] at H6 ⊢
    clear hw6 hc5 hf5 hn1;have hr6:=H6.row 0 rfl
    have hg6:(Na.up o++(d:Int) :: Na.up (a1 :: R1))[k+1]?=some (a1:Int):=by have:=Na.mid_get1 o R1 d a1;rwa [HP.out.1] at this
    have hc6:=z0az hr6 hg6
    have hf6:=hr6.frozenAt (k+1)
    have hs7:(z0q (Na.up o++(d:Int) :: Na.up (a1 :: R1))).set (k+1) (.int .i64 ((a1:Int) - 1))=z0q (Na.lent (o++[d]) 1 (a1 :: R1)):=by
     rw [z8h];have:=Na.lent_one o R1 d a1;rw [HP.out.1] at this;rw [this]
    have H7:=H6.put 0 rfl (k+1) (.int .i64 ((a1:Int) - 1))
    rw [zqd,hs7,← HRR.out] at H7;have HO7:=zh H7;have s4:((k:Int)+1).toNat=k+1:=by omega
    clear H6 H7 hr6 hg6 hs7 hneg;go_wp2_with fail;go_roundw
    case rel=>exact ⟨k+1,1,o++[d],by omega,by go_num,zqj _,⟨HLl.out,HLr.out,HSB.out⟩,HO7.out⟩
    case measure=>simp [intOf];omega
   ·have hpos:0≤v0:=by omega
    obtain ⟨d,rfl⟩:=Int.eq_ofNat_of_zero_le hpos
    have hd24:d<16777216:=by have:=HHv.out;omega
    have HSB:=zh (Na.sub_yes (Na.dig x) (Na.dig y) o k bw d HP.out.1 HP.out.2.2 (by rw [HHa.out,HHb.out];have:=HHv.out;have:=HHu.out;omega))
    have HLr:=zh (HP.out.2.1.append (Na.Lim.one hd24))
    have HLl:Hid ((o++[d]).length=k+1):=by unfold Hid;rw [zqm,HP.out.1];rfl
    have HO7:Hid (Ow w w5 none [(w.heap.size,.slice A n c),(w.heap.size+1,.slice A2 m c2),(w.heap.size+1+1,.slice none 0 0)] [⟨A,n,c,z0c (Na.dig x)⟩,⟨A2,m,c2,z0c (Na.dig y)⟩] [⟨some ⟨gb,0,none⟩,n,c',3,z0q (Na.lent (o++[d]) 0 ((Na.dig x).drop (k+1)))⟩]):=by
     unfold Hid;rw [HRR.out,← Na.lent_zero];exact HO5.out
    clear hneg;go_wp2_with fail;go_roundw
    case rel=>exact ⟨k+1,0,o++[d],by omega,by go_num,zqr _,⟨HLl.out,HLr.out,HSB.out⟩,HO7.out⟩
    case measure=>simp [intOf];omega
  ·obtain rfl:k=n:=by omega
   have HV:Hid (Na.val o=x - y):=by
    unfold Hid;rw [Na.sub_end (Na.dig x) (Na.dig y) o k bw HP.out.2.1 HP.out.1 HP.out.2.2 (by rw [HN.out];exact zqj _) (by rw [HM.out];exact hmn) (by rw [Na.val_dig,Na.val_dig];exact HLe.out),Na.val_dig,Na.val_dig]
   have HL1:=zh HP.out.2.1;have HLl:=zh HP.out.1;have how:=HO.out;rw [List.drop_of_length_le (by rw [HN.out];exact zqj _),Na.lent_nil] at how
   have HY:=zh how;obtain ⟨l,hl0⟩:∃ l,o=l:=⟨_,rfl⟩
   subst hl0
   clear HO how HX HP;go_wp2_with fail;go_loop [7] (fun v=>∃ j:Nat,j≤k∧v=.int .i64 (j:Int)∧Hid (Na.tl o j=Na.tl o o.length)) (fun v=>(intOf v).toNat)
   case atStart=>exact ⟨k,zqj _,rfl,by unfold Hid;rw [HLl.out]⟩
   case round=>
    obtain ⟨j,hj,rfl,HT⟩:=hrel;have hrw:=HY.out.row 0 rfl
    have hown:=Sl.of_own hrw
    rcases Na.tl_case o o.length j (by rw [HLl.out];exact hj) HT.out with ⟨h0,hz,ht⟩ | ⟨ht,hs⟩
    ·obtain ⟨ad2,rfl,_,hcb⟩:=hown.nat hz
     have HT2:=zh ht;have hd:decide (0<(j:Int))=true:=zt (by omega)
     clear hown hz ht hrw;go_wp2_with fail;go_round
     case rel=>exact ⟨j - 1,by omega,z0u (by omega),HT2⟩
     case measure=>simp [intOf];omega
    ·have hcap:=(z1i hrw).1
     have hjc:(j:Int)≤(c':Int):=by omega
     have HTr:=zh (HY.out.trimmed 0 rfl HL1.out ht HV.out)
     have hc1:=HY.out.cell 2 rfl
     have hf1:=HY.out.free 2 rfl
     clear hrw hcap ht HT;rcases hs with h0 | ⟨h0,b,hb,hbne⟩
     ·subst h0
      clear hown;go_wp2_with fail;have h2:=HTr.out.setv 2 rfl (.slice A' 0 c')
      have hc2:=h2.cell 2 rfl
      refine bodyPost_ret (v:=.agg #[.slice A' 0 c']) (by simp [results,Tryz.results104,go_sem,hc2]) rfl ?_
      exact z4g h2 0 rfl
     ·obtain ⟨ad2,rfl,_,hcb⟩:=hown.nat hb
      have hd:decide (0<(j:Int))=true:=zt (by omega)
      clear hown hb;go_wp2_with fail;have h2:=HTr.out.setv 2 rfl (.slice (some ad2) j c')
      have hc2:=h2.cell 2 rfl
      refine bodyPost_ret (v:=.agg #[.slice (some ad2) j c']) (by simp [results,Tryz.results104,go_sem,hc2]) rfl ?_
      exact z4g h2 0 rfl
section
variable {w0 w w':World}{g:Option Nat}{M:List (Nat×Value)}{L:List Ob}{O:List Rw}{A A2:Option Addr}{n c m c2 x y:Nat}
theorem Ow.addN (h:Ow w0 w g M L O){l:List Nat}{e:Int}{en:Ending}(hr:z4d w l e en w'):∃ (A:Option Addr) (n c:Nat),en=.returned (.tuple #[.agg #[.slice A n c],.int .i64 e])∧l.length=n∧Ow w0 w' g M L (O++[⟨A,n,c,3,z0c l⟩]):=by
 obtain ⟨A,n,c,rfl,hn,ho,hb⟩:=hr;exact ⟨A,n,c,rfl,hn,h.add ho hb⟩
theorem Ow.pushN (h:Ow w0 w g M L O){l:List Nat}{e:Int}{en:Ending}(hr:z4d w l e en w')(hl:l.length≤1000):∃ (A:Option Addr) (n c:Nat),en=.returned (.tuple #[.agg #[.slice A n c],.int .i64 e])∧l.length=n∧Ow w0 w' g M (L++[⟨A,n,c,z0c l⟩]) O:=by
 obtain ⟨A,n,c,rfl,hn,ho,hb⟩:=hr;exact ⟨A,n,c,rfl,hn,h.push ho (by omega) hb⟩
theorem Ow.pushS (h:Ow w0 w g M L O){l:List Nat}{en:Ending}(hr:z0ac w l en w')(hl:l.length≤1000):∃ (A:Option Addr) (n c:Nat),en=.returned (.agg #[.slice A n c])∧l.length=n∧Ow w0 w' g M (L++[⟨A,n,c,z0c l⟩]) O:=by
 obtain ⟨A,n,c,rfl,hn,_,ho,hb⟩:=hr;exact ⟨A,n,c,rfl,hn,h.push ho (by omega) hb⟩
theorem z5ad (h:Ow w w' g M L O)(i:Nat){l:List Nat}(hi:O[i]?=some ⟨A,n,c,3,z0c l⟩)(e:Int):z4d w l e (.returned (.tuple #[.agg #[.slice A n c],.int .i64 e])) w':=by
 have ho:=h.row i hi
 exact ⟨A,n,c,rfl,by have:=z1v ho;rwa [z0f] at this,ho,h.below⟩
theorem z7y {zs:List Int}(hs:Sl w w.heap.size A (z0q zs))(e:zs=Na.up (Na.dig x)):Sl w w.heap.size A (z0c (Na.dig x)):=by rw [e,z0g] at hs;exact hs
theorem z1z (h:Ow w0 w g M L O)(i:Nat){zs:List Int}(hi:L[i]?=some ⟨A,n,c,z0q zs⟩):
  Calls Tryz.prog 73 #[.agg #[.slice A n c]] w fun e w'=>e=.returned (.bool (Na.vld zs))∧Ow w0 w' g M L O:=by
 obtain ⟨h1,h2,h3,h4⟩:=h.sl hi
 rw [z0t] at h1;exact (z2f A n c w.heap.size zs w h1 h4 (zqj _) (by omega)).mono fun en w' ⟨he,hb⟩=>⟨he,h.go hb⟩
theorem z3d (h:Ow w0 w g M L O)(i:Nat)(hi:L[i]?=some ⟨A,n,c,z0c (Na.dig x)⟩)(hx:x<Na.top):
  Calls Tryz.prog 73 #[.agg #[.slice A n c]] w fun e w'=>e=.returned (.bool true)∧Ow w0 w' g M L O:=by
 rw [← z0g] at hi;have:=z1z h i hi
 rwa [Na.vld_dig hx] at this
theorem z7t (h:Ow w0 w g M L O)(i j:Nat)(hi:L[i]?=some ⟨A,n,c,z0c (Na.dig x)⟩)(hj:L[j]?=some ⟨A2,m,c2,z0c (Na.dig y)⟩):
  Calls Tryz.prog 47 #[.agg #[.slice A n c],.agg #[.slice A2 m c2]] w fun e w'=>e=.returned (.int .i64 (Na.sgn x y))∧Ow w0 w' g M L O:=by
 obtain ⟨h1,h2,h3,h4⟩:=h.sl hi
 obtain ⟨k1,k2,k3,k4⟩:=h.sl hj
 rw [z0f] at h1 k1;exact (z9k A A2 n c m c2 x y w h1 k1 h2 k2 h4 k4 h3 k3).mono fun en w' ⟨he,hb⟩=>⟨he,h.go hb⟩
theorem z8x (h:Ow w0 w g M L O)(i m:Nat)(hi:L[i]?=some ⟨A,n,c,z0c (Na.dig y)⟩)(hn:n≤998)(hm:m<16777216):
  Calls Tryz.prog 103 #[.agg #[.slice A n c],.int .i64 (m:Int)] w fun e w'=>∃ (A':Option Addr) (n' c':Nat),e=.returned (.agg #[.slice A' n' c'])∧n'≤n+1∧Ow w0 w' g M (L++[⟨A',n',c',z0c (Na.dig (y*m))⟩]) O:=by
 obtain ⟨h1,h2,h3,h4⟩:=h.sl hi
 rw [z0f] at h1;have hle:(Na.dig (y*m)).length≤n+1:=by
  have a1:=Na.dig_len_mul y m
  have a2:=Na.dig_len_le (n:=1) (x:=m) (by omega)
  omega
 exact (z1ad A n c y m _ rfl w h1 h2 h4 (by omega) hm).mono fun en w' hr=>by
  obtain ⟨A',n',c',e,e2,ho⟩:=h.pushS hr (by omega)
  exact ⟨A',n',c',e,by omega,ho⟩
theorem z8az (h:Ow w0 w g M L O)(i j:Nat)(hi:L[i]?=some ⟨A,n,c,z0c (Na.dig x)⟩)(hj:L[j]?=some ⟨A2,m,c2,z0c (Na.dig y)⟩)(hn:n≤999)(hm:m≤999)(hle:y≤x):
  Calls Tryz.prog 104 #[.agg #[.slice A n c],.agg #[.slice A2 m c2]] w fun e w'=>∃ (A':Option Addr) (n' c':Nat),e=.returned (.agg #[.slice A' n' c'])∧n'≤n∧Ow w0 w' g M (L++[⟨A',n',c',z0c (Na.dig (x - y))⟩]) O:=by
 obtain ⟨h1,h2,h3,h4⟩:=h.sl hi
 obtain ⟨k1,k2,k3,k4⟩:=h.sl hj
 rw [z0f] at h1 k1;have hl:=Na.dig_len_mono (Nat.sub_le x y)
 exact (z4af A A2 n c m c2 x y w h1 k1 h2 k2 h4 k4 hn hm hle).mono fun en w' hr=>by
  obtain ⟨A',n',c',e,e2,ho⟩:=h.pushS hr (by omega)
  exact ⟨A',n',c',e,by omega,ho⟩
theorem z3bo (h:Ow w0 w g M L O)(i:Nat){l:List Nat}(hi:O[i]?=some ⟨A,n,c,3,z0c l⟩)(hl:Na.Lim l)(hn1:n≤100000):
  Calls Tryz.prog 75 #[.slice A n c] w fun e w'=>∃ (A':Option Addr) (n' c':Nat),e=.returned (.tuple #[.agg #[.slice A' n' c'],.int .i64 (z4p (Na.val l))])∧(z5c (Na.val l)).length=n'∧Ow w0 w' g M L (O++[⟨A',n',c',3,z0c (z5c (Na.val l))⟩]):=by
 have ho:=h.row i hi
 have hn:=z1v ho
 rw [z0f] at hn;exact (z2ar A n c l w hn (Sl.of_own ho) hl (z1i ho).1 (by omega)).mono fun en w' hr=>h.addN hr
end
end Go.Proofs.YtpmofjomadibmaaGreatDoor
