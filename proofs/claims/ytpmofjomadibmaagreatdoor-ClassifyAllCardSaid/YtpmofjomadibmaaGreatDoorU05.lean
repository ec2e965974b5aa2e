/- NRm -/
import Derived.Test.YtpmofjomadibmaaGreatDoorU03
import Derived.Deep.RegionHeld3
namespace Go.Proofs.YtpmofjomadibmaaGreatDoor
set_option maxHeartbeats 4000000
open Go.RowKit
set_option linter.unusedVariables false
set_option maxRecDepth 100000
namespace Na
set_option maxHeartbeats 4000000
theorem vld_zero (zs:List Int)(h:zs[zs.length - 1]?=some 0):vld zs=false:=by
 unfold vld;rw [List.getLast?_eq_getElem?,h];simp
theorem vld_all (zs:List Int)(h:zs.all lim=true)(h2:zs.length<=200)(h3:zs.length=0∨∃ z,zs[zs.length - 1]?=some z/\z≠0):vld zs=true:=by
 rcases h3 with h3|⟨z,h3,h4⟩
 ·have:zs=[]:=List.eq_nil_of_length_eq_zero h3
  rw [this];rfl
 ·rw [vld_end zs z h h2 h3,bne_iff_ne];exact h4
end Na
theorem z0z (A:Option Addr)(n c B:Nat)(zs:List Int)(w:World)(hn:zs.length=n)(hs:Sl w B A (z0p zs))(hB:B<=w.heap.size)(hl:n<=140737488355328):
  Calls Tryz.prog 73 #[.agg #[.slice A n c]] w fun e w'=>e=.returned (.bool (Na.vld zs))/\Below w.heap.size w w':=by
 have HN:=zh hn;have HS:=zh ((hs.more hB).alloc (zqj _) (.cells #[.slice A n c] 25))
 have HB:=zh (z0i w (.cells #[.slice A n c] 25))
 clear hs hn;rcases zqi 200 n with h2|h2
 ·have HR:=zh (Na.vld_long zs (by rw [HN.out];exact h2))
  go_enter Tryz.func73,Tryz.ntmps73
  go_wp2_with fail;go_ret;exact ⟨z2i HR.out.symm,HB.out⟩
 ·have d1:decide (200<(n:Int))=false:=zn (by omega)
  by_cases hz0:∃ (h3:0<n),zs[n - 1]?=some 0
  ·obtain ⟨h3,hz⟩:=hz0;have HR:=zh (Na.vld_zero zs (by rw [HN.out];exact hz))
   obtain ⟨ad,rfl,hbk,hc⟩:=HS.out.int hz
   have d2:decide (0<(n:Int))=true:=zt (by omega)
   clear hz;go_enter Tryz.func73,Tryz.ntmps73
   go_wp2_with fail;go_ret;exact ⟨z2i HR.out.symm,HB.out⟩
  ·have HL:Hid (zs.length=0∨∃ z,zs[zs.length - 1]?=some z/\z≠0):=by
    rcases zqh n with h3|h3
    ·exact .inl (by rw [HN.out];exact h3)
    ·obtain ⟨z,hz⟩:=z8i zs (n - 1) (by rw [HN.out];omega)
     exact .inr ⟨z,by rw [HN.out];exact hz,fun e=>hz0 ⟨h3,by rw [hz,e]⟩⟩
   have HLp:Hid (0<n->∃ z ad,zs[n - 1]?=some z/\A=some ad/\(w.alloc (.cells #[.slice A n c] 25)).cell? (ad.add (n - 1))=some (.int .i64 z)/\((z == 0)=false)):=fun h3=>by
    obtain ⟨z,hz⟩:=z8i zs (n - 1) (by rw [HN.out];omega)
    obtain ⟨ad,e,_,hc⟩:=HS.out.int hz
    exact ⟨z,ad,hz,e,hc,by rw [beq_eq_false_iff_ne];intro e;exact hz0 ⟨h3,by rw [hz,e]⟩⟩
   clear hz0;rcases zqh n with h3|h3
   ·subst h3
    have HR:=zh (Na.vld_all zs (by rw [List.eq_nil_of_length_eq_zero HN.out];rfl) (by rw [HN.out];exact h2) HL.out)
    go_enter Tryz.func73,Tryz.ntmps73
    go_wp2_with fail;refine wp_loop_rounds 1 ?_
    rw [rounds_succ];go_wp2_with fail;go_ret;exact ⟨z2i HR.out.symm,HB.out⟩
   ·obtain ⟨z,ad,hz,rfl,hc,hzne⟩:=HLp.out h3
    have d2:decide (0<(n:Int))=true:=zt (by omega)
    clear hz;go_enter Tryz.func73,Tryz.ntmps73
    go_wp2_with fail;clear hc;go_loop [4] (fun v=>∃ k:Nat,k<=n/\v=.int .i64 k/\Hid ((zs.take k).all Na.lim=true)) (fun v=>n - (intOf v).toNat)
    case atStart=>exact ⟨0,zqr _,rfl,rfl⟩
    case round=>
     obtain ⟨k,hk,rfl,HA⟩:=hrel;rcases zqi k n with hkn|hkn
     ·obtain ⟨y,hy⟩:=z8i zs k (by rw [HN.out];exact hkn)
      obtain ⟨ad',e',hbk,hc⟩:=HS.out.int hy
      obtain rfl:=zqk e'
      have HZ:=zh hy;clear hy e';by_cases h0:y<0
      ·have HR:=zh (Na.vld_bad zs k y HZ.out (Na.lim_lo h0))
       go_wp2_with fail;go_ret;exact ⟨z2i HR.out.symm,HB.out⟩
      ·have h0':0<=y:=by omega
       clear h0;by_cases h1:y<16777216
       ·have HA2:=zh (Na.all_take zs k y HZ.out HA.out (Na.lim_ok h0' h1))
        go_wp2_with fail;go_round
        case rel=>exact ⟨k+1,by omega,by go_num,HA2⟩
        case measure=>simp [intOf];omega
       ·have h1':16777216<=y:=by omega
        have HR:=zh (Na.vld_bad zs k y HZ.out (Na.lim_hi h1'))
        clear h1;go_wp2_with fail;go_ret;exact ⟨z2i HR.out.symm,HB.out⟩
     ·have HA2:Hid (zs.all Na.lim=true):=by
       have:=HA.out
       rw [zqp (by rw [HN.out];exact hkn)] at this
       exact this
      have HR:=zh (Na.vld_all zs HA2.out (by rw [HN.out];exact h2) HL.out)
      go_wp2_with fail;go_ret;exact ⟨z2i HR.out.symm,HB.out⟩
theorem z3n (A:Option Addr)(n c B k:Nat)(l:List Nat)(kv:Int)(hkv:kv=(k:Int))(w:World)(hn:l.length=n)(hs:Sl w B A (z0c l))(hB:B<=w.heap.size)(hl:n<=140737488355328):
  Calls Tryz.prog 74 #[.agg #[.slice A n c],.int .i64 kv] w fun e w'=>e=.returned (.int .i64 ((Na.at0 l k:Nat):Int))/\Below w.heap.size w w':=by
 subst hkv
 have HB:=zh (z0i w (.cells #[.slice A n c] 25))
 have HS:=zh ((hs.more hB).alloc (zqj _) (.cells #[.slice A n c] 25))
 rcases zqi k n with hkn|hkn
 ·obtain ⟨a,ha⟩:=z0m l k (by rw [hn];exact hkn)
  obtain ⟨ad,rfl,_,hc⟩:=HS.out.nat ha
  have HR:=zh (Na.at0_some ha)
  clear ha hs hn;go_enter Tryz.func74,Tryz.ntmps74
  go_wp2_with fail;go_ret;exact ⟨by rw [HR.out];rfl,HB.out⟩
 ·have HR:=zh (Na.at0_none (l:=l) (k:=k) (by rw [hn];exact hkn))
  clear hs hn;go_enter Tryz.func74,Tryz.ntmps74
  go_wp2_with fail;go_ret;exact ⟨by rw [HR.out];rfl,HB.out⟩
theorem z6r (A:Option Addr)(n c:Nat)(l:List Nat)(w:World)(hn:l.length=n)(hs:Sl w w.heap.size A (z0c l))(hl:Na.Lim l)(hnc:n<=c)(h47:n<=140737488355328):
  Calls Tryz.prog 75 #[.slice A n c] w (z3m w (z4j (Na.val l)) (z3v (Na.val l))):=by
 obtain ⟨i0,hi,hz0,hz1,hz2⟩:=info_parts z4y
 have HLn:Hid (Na.tl l n=(Na.dig (Na.val l)).length):=by unfold Hid;rw [<- hn];exact Na.trim_len hl
 have HTk:Hid (l.take (Na.tl l n)=Na.dig (Na.val l)):=by unfold Hid;rw [<- Na.trim_dig hl];unfold Na.trim;rw [hn]
 have HN:=zh hn;have HS:=zh (hs.alloc (zqj _) (.cells #[.slice none 0 0] 25))
 have HB:=zh (z0i w (.cells #[.slice none 0 0] 25))
 have hcr:(w.alloc (.cells #[.slice none 0 0] 25)).cell? ⟨w.heap.size,0,none⟩=some (.slice none 0 0):=by simp [go_sem]
 have hfr:(w.alloc (.cells #[.slice none 0 0] 25)).frozen? ⟨w.heap.size,0,none⟩=false:=by simp [go_sem]
 have hzw:(w.alloc (.cells #[.slice none 0 0] 25)).heap.size=w.heap.size+1:=by simp
 obtain ⟨w0,hw0⟩:∃ w0,w.alloc (.cells #[.slice none 0 0] 25)=w0:=⟨_,rfl⟩
 have HW:Hid (w.alloc (.cells #[.slice none 0 0] 25)=w0):=hw0
 rw [hw0] at HS HB hcr hfr hzw;clear hs hn hl hw0;go_enter Tryz.func75,Tryz.ntmps75
 go_wp2_with fail;rw [HW.out];go_loop [4] (fun v=>∃ k:Nat,k<=n/\v=.int .i64 k/\Hid (Na.tl l k=Na.tl l n)) (fun v=>(intOf v).toNat)
 case atStart=>exact ⟨n,zqj _,rfl,rfl⟩
 case round=>
  obtain ⟨k,hk,rfl,HT⟩:=hrel;by_cases hgo:∃ (h:0<k),l[k - 1]?=some 0
  ·obtain ⟨h0,hb⟩:=hgo;have hd:decide (0<(k:Int))=true:=zt (by omega)
   obtain ⟨ad,rfl,hbk,hc⟩:=HS.out.nat hb
   have ht:Hid (Na.tl l (k - 1)=Na.tl l n):=by
    unfold Hid;rw [<- HT.out,<- Na.tl_zero l (k - 1) hb,show k - 1+1=k from by omega]
   clear hb;go_wp2_with fail;go_round
   case rel=>exact ⟨k - 1,by omega,z0q (by omega),ht⟩
   case measure=>simp [intOf];omega
  ·have HK:Hid (Na.tl l n=k):=by
    unfold Hid;rw [<- HT.out];rcases zqh k with h0|h0
    ·rw [h0];rfl
    ·have h5:=Na.tl_stop l (k - 1) (fun e=>hgo ⟨h0,e⟩)
     rwa [show k - 1+1=k by omega] at h5
   have HC:Hid (k=0∨∃ (b:Nat) (ad:Addr),0<k/\A=some ad/\w0.cell? (ad.add (k - 1))=some (.int .i64 b)/\(((b:Int) == 0)=false)):=by
    rcases zqh k with h0|h0
    ·exact .inl h0
    ·obtain ⟨b,hb⟩:=z0m l (k - 1) (by rw [HN.out];omega)
     obtain ⟨ad,e,_,hc⟩:=HS.out.nat hb
     exact .inr ⟨b,ad,h0,e,hc,by rw [beq_eq_false_iff_ne];intro e;exact hgo ⟨h0,by rw [hb];congr 1;omega⟩⟩
   have HSk:Hid (Sl w0 w.heap.size A (z0c (Na.dig (Na.val l)))):=by
    unfold Hid;rw [<- HTk.out,HK.out,<- z3f];exact HS.out.take k
   have HDl:Hid ((Na.dig (Na.val l)).length=k):=by unfold Hid;rw [<- HLn.out];exact HK.out
   have hO0:Hid (w0.ownsRow (w.heap.size+1) 3 1 (.slice none 0 0) 0 []):=World.ownsRow_nil _ _ _ _
   clear hgo;rcases zqi (Na.val l) Na.top with h|h
   ·have h200:k<=200:=by rw [<- HDl.out];exact (Na.dig_200 _).2 h
    have HR:=zh (z1t h)
    have HE:=zh (z1u h)
    have hkc:(k:Int)<=(c:Int):=by omega
    clear h;rcases HC.out with h0|⟨b,ad,h0,hA,hc,hbne⟩
    ·subst h0
     go_wp2_with (at_builtin;refine z0h _ rfl (.const (.slice none 0 0)) (.tmp 24) 22 rfl (w.heap.size+1) 3 i0 (.int .i64 0) 8 Tryz.underlying22 hi hz0 hz1 hz2 rfl _ _ _ _ rfl hO0.out _ _ 0 _ _ rfl (by rw [z0e];exact HDl.out) HSk.out (z3k _) (by unfold maxLen;omega) (by omega) (by omega) ?_;intro A' c' w8 hown hgrow hblk;have hb8:=z5d hgrow;have hc8:=(hb8.cell (p:=⟨w.heap.size,0,none⟩) (by simp only [hzw];omega)).trans hcr;have hf8:=(hb8.frozen (p:=⟨w.heap.size,0,none⟩) (by simp only [hzw];omega)).trans hfr)
     refine bodyPost_ret (v:=.tuple #[.agg #[.slice A' 0 c'],.int .i64 0]) (by simp [results,Tryz.results75,go_sem,hc8]) rfl ?_
     rw [HR.out,HE.out];rw [Nat.zero_add] at hown;exact z2b hown HDl.out (Nat.lt_succ_self _) (Nat.le_succ _) (HB.out.trans (hb8.mono (by omega))) (zqj _) _ _
    ·subst hA
     have hd:decide (0<(k:Int))=true:=zt (by omega)
     go_wp2_with (at_builtin;refine z0h _ rfl (.const (.slice none 0 0)) (.tmp 24) 22 rfl (w.heap.size+1) 3 i0 (.int .i64 0) 8 Tryz.underlying22 hi hz0 hz1 hz2 rfl _ _ _ _ rfl hO0.out _ _ k _ _ rfl (by rw [z0e];exact HDl.out) HSk.out (z3k _) (by unfold maxLen;omega) (by omega) (by omega) ?_;intro A' c' w8 hown hgrow hblk;have hb8:=z5d hgrow;have hc8:=(hb8.cell (p:=⟨w.heap.size,0,none⟩) (by simp only [hzw];omega)).trans hcr;have hf8:=(hb8.frozen (p:=⟨w.heap.size,0,none⟩) (by simp only [hzw];omega)).trans hfr)
     refine bodyPost_ret (v:=.tuple #[.agg #[.slice A' k c'],.int .i64 0]) (by simp [results,Tryz.results75,go_sem,hc8]) rfl ?_
     rw [HR.out,HE.out];rw [Nat.zero_add] at hown;exact z2b hown HDl.out (Nat.lt_succ_self _) (Nat.le_succ _) (HB.out.trans (hb8.mono (by omega))) (zqj _) _ _
   ·have h200:200<k:=by rw [<- HDl.out];exact Na.dig_len_ge h
    have HR:=zh (z5h h)
    have HE:=zh (z5i h)
    clear h;rcases HC.out with h0|⟨b,ad,h0,hA,hc,hbne⟩
    ·omega
    ·subst hA
     have hd:decide (0<(k:Int))=true:=zt (by omega)
     go_wp2_with fail;refine bodyPost_ret (v:=.tuple #[.agg #[.slice none 0 0],.int .i64 3]) (by simp [results,Tryz.results75,go_sem,hcr]) rfl ?_
     rw [HR.out,HE.out];exact z0y _ _ _ (z4z HB.out _ (zqj _) _)
theorem z4bb {wr W W':World}{a b:Addr}{u v:Value}(h0:W.cell? a=some u)(h1:W.cell? b=some v)(h2:Below wr.heap.size wr W)(ha:a.block<wr.heap.size)(hb':b.block<wr.heap.size)(hb:Below W.heap.size W W'):W'.cell? a=some u/\W'.cell? b=some v/\Below wr.heap.size wr W':=
 ⟨(hb.cell (zqv ha h2.size)).trans h0,(hb.cell (zqv hb' h2.size)).trans h1,h2.trans (hb.mono h2.size)⟩
namespace Na
set_option maxHeartbeats 4000000
theorem radd_end (x y k cr:Nat)(o:List Nat)(N:Nat)(ho:o.length=k)(hk:k=N+1)(h:val o+16777216 ^ k*cr=val ((dig x).take k)+val ((dig y).take k))(hX:(dig x).length<=N)(hY:(dig y).length<=N):val o=x+y:=by
 have h1:=(dig_len_iff x N).1 hX
 have h2:=(dig_len_iff y N).1 hY
 rw [zqp (by omega),zqp (by omega),val_dig,val_dig,hk,Nat.pow_succ] at h
 generalize 16777216 ^ N=P at h h1 h2
 rcases zqh cr with h3|h3
 ·rw [h3,Nat.mul_zero] at h;exact h
 ·have h4:=Nat.mul_le_mul_left (P*16777216) h3
  rw [Nat.mul_one] at h4;omega
end Na
theorem z5ao (A A2:Option Addr)(n c m c2:Nat)(zs ys:List Int)(w:World)(hn:zs.length=n)(hm:ys.length=m)(hs:Sl w w.heap.size A (z0p zs))(hs2:Sl w w.heap.size A2 (z0p ys))(hl:n<=140737488351232)(hl2:m<=140737488351232)(hv1:Na.vld zs=false)(b2:Bool)(hv2:Na.vld ys=b2):
  Calls Tryz.prog 102 #[.agg #[.slice A n c],.agg #[.slice A2 m c2]] w (z3m w [] 1):=by
 have HN:=zh hn;have HM:=zh hm;have HS:=zh hs;have HS2:=zh hs2;have HV1:Hid (∀ W,Below w.heap.size w W->Calls Tryz.prog 73 #[.agg #[.slice A n c]] W fun e w'=>e=.returned (.bool false)/\Below W.heap.size W w'):=fun W hW=>by
  rw [<- hv1];exact z0z A n c w.heap.size _ W HN.out (HS.out.below hW) hW.size (by omega)
 have HV2:Hid (∀ W,Below w.heap.size w W->Calls Tryz.prog 73 #[.agg #[.slice A2 m c2]] W fun e w'=>e=.returned (.bool b2)/\Below W.heap.size W w'):=fun W hW=>by
  rw [<- hv2];exact z0z A2 m c2 w.heap.size _ W HM.out (HS2.out.below hW) hW.size (by omega)
 obtain ⟨w0,hw0⟩:∃ w0,((w.alloc (.cells #[.slice A n c] 25)).alloc (.cells #[.slice A2 m c2] 25)).alloc (.cells #[.slice none 0 0] 25)=w0:=⟨_,rfl⟩
 have HW:Hid (((w.alloc (.cells #[.slice A n c] 25)).alloc (.cells #[.slice A2 m c2] 25)).alloc (.cells #[.slice none 0 0] 25)=w0):=hw0
 have hb0:Below w.heap.size w w0:=by rw [<- hw0];exact bal (bal (bal (Below.refl _ _) _) _) _
 have HB0:=zh hb0;have hzw:w0.heap.size=w.heap.size+3:=by rw [<- hw0];simp
 have hc0:w0.cell? ⟨w.heap.size,0,none⟩=some (.slice A n c):=by rw [<- hw0];simp [go_sem]
 have hc1:w0.cell? ⟨w.heap.size+1,0,none⟩=some (.slice A2 m c2):=by rw [<- hw0];simp [go_sem]
 have hc2:w0.cell? ⟨w.heap.size+2,0,none⟩=some (.slice none 0 0):=by rw [<- hw0];simp [go_sem]
 have hf2:w0.frozen? ⟨w.heap.size+2,0,none⟩=false:=by rw [<- hw0];simp [go_sem]
 clear hs hs2 hn hm hb0 hw0 hv1 hv2;go_enter Tryz.func102,Tryz.ntmps102
 go_wp2_with fail;rw [HW.out];refine (HV1.out _ HB0.out).mono ?_
 rintro e w1 ⟨rfl,hb⟩;have HB1:=zh (btr HB0.out hb)
 have hd0:w1.cell? ⟨w.heap.size,0,none⟩=some (.slice A n c):=(hb.cell (p:=⟨w.heap.size,0,none⟩) (by simp [hzw])).trans hc0
 have hd1:w1.cell? ⟨w.heap.size+1,0,none⟩=some (.slice A2 m c2):=(hb.cell (p:=⟨w.heap.size+1,0,none⟩) (by simp [hzw])).trans hc1
 have hd2:w1.cell? ⟨w.heap.size+2,0,none⟩=some (.slice none 0 0):=(hb.cell (p:=⟨w.heap.size+2,0,none⟩) (by simp [hzw])).trans hc2
 have hg2:w1.frozen? ⟨w.heap.size+2,0,none⟩=false:=(hb.frozen (p:=⟨w.heap.size+2,0,none⟩) (by simp [hzw])).trans hf2
 have hsz1:w.heap.size+3<=w1.heap.size:=by rw [<- hzw];exact hb.size
 clear hb hc0 hc1 hc2 hf2 HV1 HW hzw HB0;go_wp2_with fail;refine bodyPost_ret (v:=.tuple #[.agg #[.slice none 0 0],.int .i64 1]) (by simp [results,Tryz.results102,go_sem,hd2]) rfl ?_
 exact z0y _ _ _ (z4z HB1.out _ (by show w.heap.size<=w.heap.size+2;omega) _)
theorem z5an (A A2:Option Addr)(n c m c2:Nat)(zs ys:List Int)(w:World)(hn:zs.length=n)(hm:ys.length=m)(hs:Sl w w.heap.size A (z0p zs))(hs2:Sl w w.heap.size A2 (z0p ys))(hl:n<=140737488351232)(hl2:m<=140737488351232)(hv1:Na.vld zs=true)(hv2:Na.vld ys=false):
  Calls Tryz.prog 102 #[.agg #[.slice A n c],.agg #[.slice A2 m c2]] w (z3m w [] 1):=by
 have HN:=zh hn;have HM:=zh hm;have HS:=zh hs;have HS2:=zh hs2;have HV1:Hid (∀ W,Below w.heap.size w W->Calls Tryz.prog 73 #[.agg #[.slice A n c]] W fun e w'=>e=.returned (.bool true)/\Below W.heap.size W w'):=fun W hW=>by
  rw [<- hv1];exact z0z A n c w.heap.size _ W HN.out (HS.out.below hW) hW.size (by omega)
 have HV2:Hid (∀ W,Below w.heap.size w W->Calls Tryz.prog 73 #[.agg #[.slice A2 m c2]] W fun e w'=>e=.returned (.bool false)/\Below W.heap.size W w'):=fun W hW=>by
  rw [<- hv2];exact z0z A2 m c2 w.heap.size _ W HM.out (HS2.out.below hW) hW.size (by omega)
 obtain ⟨w0,hw0⟩:∃ w0,((w.alloc (.cells #[.slice A n c] 25)).alloc (.cells #[.slice A2 m c2] 25)).alloc (.cells #[.slice none 0 0] 25)=w0:=⟨_,rfl⟩
 have HW:Hid (((w.alloc (.cells #[.slice A n c] 25)).alloc (.cells #[.slice A2 m c2] 25)).alloc (.cells #[.slice none 0 0] 25)=w0):=hw0
 have hb0:Below w.heap.size w w0:=by rw [<- hw0];exact bal (bal (bal (Below.refl _ _) _) _) _
 have HB0:=zh hb0;have hzw:w0.heap.size=w.heap.size+3:=by rw [<- hw0];simp
 have hc0:w0.cell? ⟨w.heap.size,0,none⟩=some (.slice A n c):=by rw [<- hw0];simp [go_sem]
 have hc1:w0.cell? ⟨w.heap.size+1,0,none⟩=some (.slice A2 m c2):=by rw [<- hw0];simp [go_sem]
 have hc2:w0.cell? ⟨w.heap.size+2,0,none⟩=some (.slice none 0 0):=by rw [<- hw0];simp [go_sem]
 have hf2:w0.frozen? ⟨w.heap.size+2,0,none⟩=false:=by rw [<- hw0];simp [go_sem]
 clear hs hs2 hn hm hb0 hw0 hv1 hv2;go_enter Tryz.func102,Tryz.ntmps102
 go_wp2_with fail;rw [HW.out];refine (HV1.out _ HB0.out).mono ?_
 rintro e w1 ⟨rfl,hb⟩;have HB1:=zh (btr HB0.out hb)
 have hd0:w1.cell? ⟨w.heap.size,0,none⟩=some (.slice A n c):=(hb.cell (p:=⟨w.heap.size,0,none⟩) (by simp [hzw])).trans hc0
 have hd1:w1.cell? ⟨w.heap.size+1,0,none⟩=some (.slice A2 m c2):=(hb.cell (p:=⟨w.heap.size+1,0,none⟩) (by simp [hzw])).trans hc1
 have hd2:w1.cell? ⟨w.heap.size+2,0,none⟩=some (.slice none 0 0):=(hb.cell (p:=⟨w.heap.size+2,0,none⟩) (by simp [hzw])).trans hc2
 have hg2:w1.frozen? ⟨w.heap.size+2,0,none⟩=false:=(hb.frozen (p:=⟨w.heap.size+2,0,none⟩) (by simp [hzw])).trans hf2
 have hsz1:w.heap.size+3<=w1.heap.size:=by rw [<- hzw];exact hb.size
 clear hb hc0 hc1 hc2 hf2 HV1 HW hzw HB0;go_wp2_with fail;refine (HV2.out _ HB1.out).mono ?_
 rintro e w2 ⟨rfl,hb⟩;have HBx:=zh (btr HB1.out hb)
 have he0:w2.cell? ⟨w.heap.size,0,none⟩=some (.slice A n c):=(hb.cell (p:=⟨w.heap.size,0,none⟩) (by simp;omega)).trans hd0
 have he1:w2.cell? ⟨w.heap.size+1,0,none⟩=some (.slice A2 m c2):=(hb.cell (p:=⟨w.heap.size+1,0,none⟩) (by simp;omega)).trans hd1
 have he2:w2.cell? ⟨w.heap.size+2,0,none⟩=some (.slice none 0 0):=(hb.cell (p:=⟨w.heap.size+2,0,none⟩) (by simp;omega)).trans hd2
 have hh2:w2.frozen? ⟨w.heap.size+2,0,none⟩=false:=(hb.frozen (p:=⟨w.heap.size+2,0,none⟩) (by simp;omega)).trans hg2
 have hsz2:w.heap.size+3<=w2.heap.size:=zqq hsz1 hb.size
 clear hb hd0 hd1 hd2 hg2;go_wp2_with fail;refine bodyPost_ret (v:=.tuple #[.agg #[.slice none 0 0],.int .i64 1]) (by simp [results,Tryz.results102,go_sem,he2]) rfl ?_
 exact z0y _ _ _ (z4z HBx.out _ (by show w.heap.size<=w.heap.size+2;omega) _)
def z0cg (w:World)(B:Nat)(X Y:List Nat)(n:Nat)(i o cr:Value)(wr:World):Prop:=
 ∃ (k c:Nat) (A:Option Addr) (ca:Nat) (l:List Nat),k<=n+1/\i=.int .i64 k/\cr=.int .i64 c/\o=.slice A k ca/\c<=1/\Hid (l.length=k/\Na.Lim l/\Na.val l+16777216 ^ k*c=Na.val (X.take k)+Na.val (Y.take k))/\wr.ownsRow B 3 1 (.slice A k ca) k (z0c l)/\Below B w wr
theorem z2bc (A A2:Option Addr)(n c m c2:Nat)(x y:Nat)(w:World)(hn:(Na.dig x).length=n)(hm:(Na.dig y).length=m)(hs:Sl w w.heap.size A (z0c (Na.dig x)))(hs2:Sl w w.heap.size A2 (z0c (Na.dig y)))(hx:x<Na.top)(hy:y<Na.top)(hcmp:m<=n):
  Calls Tryz.prog 102 #[.agg #[.slice A n c],.agg #[.slice A2 m c2]] w (z3m w (z4j (x+y)) (z3v (x+y))):=by
 obtain ⟨i0,hi,hz0,hz1,hz2⟩:=info_parts z4y
 have hn2:n<=200:=by rw [<- hn];exact (Na.dig_200 x).2 hx
 have hm2:m<=200:=by rw [<- hm];exact (Na.dig_200 y).2 hy
 have HN:=zh hn;have HM:=zh hm;have HS:=zh hs;have HS2:=zh hs2;have HX:=zh hx;have HY:=zh hy;have HV1:Hid (∀ W,Below w.heap.size w W->Calls Tryz.prog 73 #[.agg #[.slice A n c]] W fun e w'=>e=.returned (.bool true)/\Below W.heap.size W w'):=fun W hW=>by
  rw [<- (Na.vld_dig HX.out)]
  exact z0z A n c w.heap.size _ W (by rw [Na.up_length];exact HN.out) (by rw [z0g];exact HS.out.below hW) hW.size (by omega)
 have HV2:Hid (∀ W,Below w.heap.size w W->Calls Tryz.prog 73 #[.agg #[.slice A2 m c2]] W fun e w'=>e=.returned (.bool true)/\Below W.heap.size W w'):=fun W hW=>by
  rw [<- (Na.vld_dig HY.out)]
  exact z0z A2 m c2 w.heap.size _ W (by rw [Na.up_length];exact HM.out) (by rw [z0g];exact HS2.out.below hW) hW.size (by omega)
 obtain ⟨w0,hw0⟩:∃ w0,((w.alloc (.cells #[.slice A n c] 25)).alloc (.cells #[.slice A2 m c2] 25)).alloc (.cells #[.slice none 0 0] 25)=w0:=⟨_,rfl⟩
 have HW:Hid (((w.alloc (.cells #[.slice A n c] 25)).alloc (.cells #[.slice A2 m c2] 25)).alloc (.cells #[.slice none 0 0] 25)=w0):=hw0
 have hb0:Below w.heap.size w w0:=by rw [<- hw0];exact bal (bal (bal (Below.refl _ _) _) _) _
 have HB0:=zh hb0;have hzw:w0.heap.size=w.heap.size+3:=by rw [<- hw0];simp
 have hc0:w0.cell? ⟨w.heap.size,0,none⟩=some (.slice A n c):=by rw [<- hw0];simp [go_sem]
 have hc1:w0.cell? ⟨w.heap.size+1,0,none⟩=some (.slice A2 m c2):=by rw [<- hw0];simp [go_sem]
 have hc2:w0.cell? ⟨w.heap.size+2,0,none⟩=some (.slice none 0 0):=by rw [<- hw0];simp [go_sem]
 have hf2:w0.frozen? ⟨w.heap.size+2,0,none⟩=false:=by rw [<- hw0];simp [go_sem]
 clear hs hs2 hn hm hb0 hw0 hx hy;go_enter Tryz.func102,Tryz.ntmps102
 go_wp2_with fail;rw [HW.out];refine (HV1.out _ HB0.out).mono ?_
 rintro e w1 ⟨rfl,hb⟩;have HB1:=zh (btr HB0.out hb)
 have hd0:w1.cell? ⟨w.heap.size,0,none⟩=some (.slice A n c):=(hb.cell (p:=⟨w.heap.size,0,none⟩) (by simp [hzw])).trans hc0
 have hd1:w1.cell? ⟨w.heap.size+1,0,none⟩=some (.slice A2 m c2):=(hb.cell (p:=⟨w.heap.size+1,0,none⟩) (by simp [hzw])).trans hc1
 have hd2:w1.cell? ⟨w.heap.size+2,0,none⟩=some (.slice none 0 0):=(hb.cell (p:=⟨w.heap.size+2,0,none⟩) (by simp [hzw])).trans hc2
 have hg2:w1.frozen? ⟨w.heap.size+2,0,none⟩=false:=(hb.frozen (p:=⟨w.heap.size+2,0,none⟩) (by simp [hzw])).trans hf2
 have hsz1:w.heap.size+3<=w1.heap.size:=by rw [<- hzw];exact hb.size
 clear hb hc0 hc1 hc2 hf2 HV1 HW hzw HB0;go_wp2_with fail;refine (HV2.out _ HB1.out).mono ?_
 rintro e w2 ⟨rfl,hb⟩;have HBx:=zh (btr HB1.out hb)
 have he0:w2.cell? ⟨w.heap.size,0,none⟩=some (.slice A n c):=(hb.cell (p:=⟨w.heap.size,0,none⟩) (by simp;omega)).trans hd0
 have he1:w2.cell? ⟨w.heap.size+1,0,none⟩=some (.slice A2 m c2):=(hb.cell (p:=⟨w.heap.size+1,0,none⟩) (by simp;omega)).trans hd1
 have he2:w2.cell? ⟨w.heap.size+2,0,none⟩=some (.slice none 0 0):=(hb.cell (p:=⟨w.heap.size+2,0,none⟩) (by simp;omega)).trans hd2
 have hh2:w2.frozen? ⟨w.heap.size+2,0,none⟩=false:=(hb.frozen (p:=⟨w.heap.size+2,0,none⟩) (by simp;omega)).trans hg2
 have hsz2:w.heap.size+3<=w2.heap.size:=zqq hsz1 hb.size
 clear hb hd0 hd1 hd2 hg2;clear HV2;have hdc:decide (n<m)=false:=zn (by omega)
 go_wp2_with fail;go_loopw [9,7,8] (fun i o cr wr=>z0cg w2 w2.heap.size (Na.dig x) (Na.dig y) n i o cr wr) (fun i _ _ _=>n+1 - (intOf i).toNat)
 case atStart=>exact ⟨0,0,none,0,[],by omega,rfl,rfl,rfl,zqr _,⟨rfl,Na.Lim.nil,by simp [Na.val]⟩,World.ownsRow_nil _ _ _ _,Below.refl _ _⟩
 case round=>
  obtain ⟨k,cr,Ao,co,l,hk,rfl,rfl,rfl,hcr,HP,ho,hb⟩:=hrel;have HO:=zh ho;have HB:=zh hb;rcases zqi k (n+1) with hkn|hkn
  ·obtain ⟨a,hea⟩:∃ a,Na.at0 (Na.dig x) k=a:=⟨_,rfl⟩
   obtain ⟨b,heb⟩:∃ b,Na.at0 (Na.dig y) k=b:=⟨_,rfl⟩
   have ha24:a<16777216:=by rw [<- hea];exact Na.at0_lt (Na.dig_lim x) k
   have hb24:b<16777216:=by rw [<- heb];exact Na.at0_lt (Na.dig_lim y) k
   obtain ⟨t,ht⟩:∃ t,cr+a+b=t:=⟨_,rfl⟩
   obtain ⟨r,hr⟩:∃ r,t % 16777216=r:=⟨_,rfl⟩
   obtain ⟨q,hq⟩:∃ q,t / 16777216=q:=⟨_,rfl⟩
   have HST:=zh (Na.add_step (Na.dig x) (Na.dig y) l k cr t HP.out.1 HP.out.2.2 (by rw [hea,heb];omega))
   rw [hr,hq] at HST;have HL1:Hid (∀ W,Below wr.heap.size wr W->Calls Tryz.prog 74 #[.agg #[.slice A n c],.int .i64 k] W fun e W'=>e=.returned (.int .i64 a)/\Below W.heap.size W W'):=fun W hW=>by
    rw [<- hea];exact z3n A n c w.heap.size k (Na.dig x) _ rfl W HN.out (HS.out.below (HBx.out.trans ((HB.out.mono HBx.out.size).trans (hW.mono (zqq HBx.out.size HB.out.size))))) (zqq HBx.out.size (zqq HB.out.size hW.size)) (by omega)
   have HL2:Hid (∀ W,Below wr.heap.size wr W->Calls Tryz.prog 74 #[.agg #[.slice A2 m c2],.int .i64 k] W fun e W'=>e=.returned (.int .i64 b)/\Below W.heap.size W W'):=fun W hW=>by
    rw [<- heb];exact z3n A2 m c2 w.heap.size k (Na.dig y) _ rfl W HM.out (HS2.out.below (HBx.out.trans ((HB.out.mono HBx.out.size).trans (hW.mono (zqq HBx.out.size HB.out.size))))) (zqq HBx.out.size (zqq HB.out.size hW.size)) (by omega)
   have hmod:((a:Int)+(b:Int)+(cr:Int)) % 16777216=(r:Int):=by omega
   have hdiv:((a:Int)+(b:Int)+(cr:Int)) / 16777216=(q:Int):=by omega
   have hq1:q<=1:=by omega
   have hr24:r<16777216:=by omega
   have HLr:=zh (HP.out.2.1.append (Na.Lim.one hr24))
   have HLl:Hid ((l++[r]).length=k+1):=by unfold Hid;rw [zqm,HP.out.1];rfl
   have hx0:wr.cell? ⟨w.heap.size,0,none⟩=some (.slice A n c):=(hb.cell (p:=⟨w.heap.size,0,none⟩) (by simp;omega)).trans he0
   have hx1:wr.cell? ⟨w.heap.size+1,0,none⟩=some (.slice A2 m c2):=(hb.cell (p:=⟨w.heap.size+1,0,none⟩) (by simp;omega)).trans he1
   have hza:(⟨w.heap.size,0,none⟩:Addr).block<wr.heap.size:=by have:=hb.size;simp only;omega
   have hzb:(⟨w.heap.size+1,0,none⟩:Addr).block<wr.heap.size:=by have:=hb.size;simp only;omega
   have hkN:(k:Int)<=(n:Int):=by omega
   clear ht hr hq hea heb ho hb;go_wp2_with fail;go_region_held3 (fun W=>W.cell? ⟨w.heap.size,0,none⟩=some (.slice A n c)/\W.cell? ⟨w.heap.size+1,0,none⟩=some (.slice A2 m c2)/\Below wr.heap.size wr W) (first|exact ⟨hx0,hx1,(Below.refl _ _).drew⟩|go_keep|(go_split_ands;refine ⟨?_,?_,?_⟩ <;> assumption)|(go_split_ands;refine z4bb ?_ ?_ ?_ hza hzb hbE <;> assumption)) ((first|(go_at_call 74;first|((with_reducible refine (HL1.out _ ?_).mono ?_);(first|assumption|(go_split_ands;assumption));rintro e w' ⟨rfl,hbE⟩)|((with_reducible refine (HL2.out _ ?_).mono ?_);(first|assumption|(go_split_ands;assumption));rintro e w' ⟨rfl,hbE⟩))))
   have HSx:=zh (show Below wr.heap.size wr w' from (by assumption:_/\_/\Below wr.heap.size wr w').2.2)
   have HO3:Hid ((w'.alloc (.cells #[.int .i64 r] 3)).ownsRow w2.heap.size 3 1 (.slice Ao k co) k (z0c l)):=z0x (z3c HO.out HSx.out) _
   have HSl:=zh (z2c w' 3 (.int .i64 r))
   have HBW:Hid (w2.heap.size<=w'.heap.size):=zqq HB.out.size HSx.out.size
   have hrow:∀ y,(Value.slice Ao k co).ownBlock=some y->w2.heap.size<=y:=z1r HO.out
   have HB':Hid (Below w2.heap.size w2 w'):=HB.out.trans (HSx.out.mono HB.out.size)
   clear hx0 hx1;go_wp2_with (at_builtin;refine z0h _ rfl (.tmp 45) (.tmp 48) 22 rfl w2.heap.size 3 i0 (.int .i64 0) 8 Tryz.underlying22 hi hz0 hz1 hz2 rfl _ _ _ _ rfl HO3.out _ _ 1 _ _ rfl rfl HSl.out (fun u hu=>by simp at hu;subst hu;rfl) (by unfold maxLen;omega) (by omega) (by have:=HBW.out;simp;omega) ?_;intro A' c' w8 hown hgrow hblk)
   go_roundw
   case rel=>
    rw [z1a] at hown;exact ⟨k+1,q,A',c',l++[r],by omega,by go_num,(by first|rfl|exact z0q hdiv),rfl,hq1,⟨HLl.out,HLr.out,HST.out⟩,hown,(HB'.out.alloc HBW.out _).grown hgrow (by have:=HBW.out;simp;omega) hrow⟩
   case measure=>simp [intOf];omega
  ·have hkn':k=n+1:=by omega
   have HEnd:Hid (Na.val l=x+y):=Na.radd_end x y k cr l n HP.out.1 hkn' HP.out.2.2 (by rw [HN.out];omega) (by rw [HM.out];omega)
   have hkN:(n:Int)<k:=by omega
   have HR:=zh (z6r Ao k co l wr HP.out.1 (Sl.of_own ho) HP.out.2.1 (z1j ho).1 (by omega))
   rw [HEnd.out] at HR;have HBS:Hid (w2.heap.size<=wr.heap.size):=hb.size
   clear hkn' ho hb;go_wp2_with fail;refine HR.out.mono ?_;rintro e w9 ⟨A9,n9,c9,rfl,hn9,ho9,hb9⟩;have HN9:=zh hn9;have HO9:=zh (z1f ho9 HBS.out)
   have HB9:=zh (btr HB.out hb9)
   have hk9:w9.cell? ⟨w.heap.size+2,0,none⟩=some (.slice none 0 0):=(HB9.out.cell (p:=⟨w.heap.size+2,0,none⟩) (by simp;omega)).trans he2
   have hk9f:w9.frozen? ⟨w.heap.size+2,0,none⟩=false:=(HB9.out.frozen (p:=⟨w.heap.size+2,0,none⟩) (by simp;omega)).trans hh2
   clear hn9 ho9 hb9;go_wp2_with fail;refine bodyPost_ret (v:=.tuple #[.agg #[.slice A9 n9 c9],.int .i64 (z3v (x+y))]) (by simp [results,Tryz.results102,go_sem,hk9]) rfl ?_
   exact z2b HO9.out HN9.out (by omega) (by omega) (HBx.out.trans (HB9.out.mono HBx.out.size)) (by omega) _ _
theorem z2bb (A A2:Option Addr)(n c m c2:Nat)(x y:Nat)(w:World)(hn:(Na.dig x).length=n)(hm:(Na.dig y).length=m)(hs:Sl w w.heap.size A (z0c (Na.dig x)))(hs2:Sl w w.heap.size A2 (z0c (Na.dig y)))(hx:x<Na.top)(hy:y<Na.top)(hcmp:n<m):
  Calls Tryz.prog 102 #[.agg #[.slice A n c],.agg #[.slice A2 m c2]] w (z3m w (z4j (x+y)) (z3v (x+y))):=by
 obtain ⟨i0,hi,hz0,hz1,hz2⟩:=info_parts z4y
 have hn2:n<=200:=by rw [<- hn];exact (Na.dig_200 x).2 hx
 have hm2:m<=200:=by rw [<- hm];exact (Na.dig_200 y).2 hy
 have HN:=zh hn;have HM:=zh hm;have HS:=zh hs;have HS2:=zh hs2;have HX:=zh hx;have HY:=zh hy;have HV1:Hid (∀ W,Below w.heap.size w W->Calls Tryz.prog 73 #[.agg #[.slice A n c]] W fun e w'=>e=.returned (.bool true)/\Below W.heap.size W w'):=fun W hW=>by
  rw [<- (Na.vld_dig HX.out)]
  exact z0z A n c w.heap.size _ W (by rw [Na.up_length];exact HN.out) (by rw [z0g];exact HS.out.below hW) hW.size (by omega)
 have HV2:Hid (∀ W,Below w.heap.size w W->Calls Tryz.prog 73 #[.agg #[.slice A2 m c2]] W fun e w'=>e=.returned (.bool true)/\Below W.heap.size W w'):=fun W hW=>by
  rw [<- (Na.vld_dig HY.out)]
  exact z0z A2 m c2 w.heap.size _ W (by rw [Na.up_length];exact HM.out) (by rw [z0g];exact HS2.out.below hW) hW.size (by omega)
 obtain ⟨w0,hw0⟩:∃ w0,((w.alloc (.cells #[.slice A n c] 25)).alloc (.cells #[.slice A2 m c2] 25)).alloc (.cells #[.slice none 0 0] 25)=w0:=⟨_,rfl⟩
 have HW:Hid (((w.alloc (.cells #[.slice A n c] 25)).alloc (.cells #[.slice A2 m c2] 25)).alloc (.cells #[.slice none 0 0] 25)=w0):=hw0
 have hb0:Below w.heap.size w w0:=by rw [<- hw0];exact bal (bal (bal (Below.refl _ _) _) _) _
 have HB0:=zh hb0;have hzw:w0.heap.size=w.heap.size+3:=by rw [<- hw0];simp
 have hc0:w0.cell? ⟨w.heap.size,0,none⟩=some (.slice A n c):=by rw [<- hw0];simp [go_sem]
 have hc1:w0.cell? ⟨w.heap.size+1,0,none⟩=some (.slice A2 m c2):=by rw [<- hw0];simp [go_sem]
 have hc2:w0.cell? ⟨w.heap.size+2,0,none⟩=some (.slice none 0 0):=by rw [<- hw0];simp [go_sem]
 have hf2:w0.frozen? ⟨w.heap.size+2,0,none⟩=false:=by rw [<- hw0];simp [go_sem]
 clear hs hs2 hn hm hb0 hw0 hx hy;go_enter Tryz.func102,Tryz.ntmps102
 go_wp2_with fail;rw [HW.out];refine (HV1.out _ HB0.out).mono ?_
 rintro e w1 ⟨rfl,hb⟩;have HB1:=zh (btr HB0.out hb)
 have hd0:w1.cell? ⟨w.heap.size,0,none⟩=some (.slice A n c):=(hb.cell (p:=⟨w.heap.size,0,none⟩) (by simp [hzw])).trans hc0
 have hd1:w1.cell? ⟨w.heap.size+1,0,none⟩=some (.slice A2 m c2):=(hb.cell (p:=⟨w.heap.size+1,0,none⟩) (by simp [hzw])).trans hc1
 have hd2:w1.cell? ⟨w.heap.size+2,0,none⟩=some (.slice none 0 0):=(hb.cell (p:=⟨w.heap.size+2,0,none⟩) (by simp [hzw])).trans hc2
 have hg2:w1.frozen? ⟨w.heap.size+2,0,none⟩=false:=(hb.frozen (p:=⟨w.heap.size+2,0,none⟩) (by simp [hzw])).trans hf2
 have hsz1:w.heap.size+3<=w1.heap.size:=by rw [<- hzw];exact hb.size
 clear hb hc0 hc1 hc2 hf2 HV1 HW hzw HB0;go_wp2_with fail;refine (HV2.out _ HB1.out).mono ?_
 rintro e w2 ⟨rfl,hb⟩;have HBx:=zh (btr HB1.out hb)
 have he0:w2.cell? ⟨w.heap.size,0,none⟩=some (.slice A n c):=(hb.cell (p:=⟨w.heap.size,0,none⟩) (by simp;omega)).trans hd0
 have he1:w2.cell? ⟨w.heap.size+1,0,none⟩=some (.slice A2 m c2):=(hb.cell (p:=⟨w.heap.size+1,0,none⟩) (by simp;omega)).trans hd1
 have he2:w2.cell? ⟨w.heap.size+2,0,none⟩=some (.slice none 0 0):=(hb.cell (p:=⟨w.heap.size+2,0,none⟩) (by simp;omega)).trans hd2
 have hh2:w2.frozen? ⟨w.heap.size+2,0,none⟩=false:=(hb.frozen (p:=⟨w.heap.size+2,0,none⟩) (by simp;omega)).trans hg2
 have hsz2:w.heap.size+3<=w2.heap.size:=zqq hsz1 hb.size
 clear hb hd0 hd1 hd2 hg2;clear HV2;have hdc:decide (n<m)=true:=zt hcmp
 go_wp2_with fail;go_loopw [9,7,8] (fun i o cr wr=>z0cg w2 w2.heap.size (Na.dig x) (Na.dig y) m i o cr wr) (fun i _ _ _=>m+1 - (intOf i).toNat)
 case atStart=>exact ⟨0,0,none,0,[],by omega,rfl,rfl,rfl,zqr _,⟨rfl,Na.Lim.nil,by simp [Na.val]⟩,World.ownsRow_nil _ _ _ _,Below.refl _ _⟩
 case round=>
  obtain ⟨k,cr,Ao,co,l,hk,rfl,rfl,rfl,hcr,HP,ho,hb⟩:=hrel;have HO:=zh ho;have HB:=zh hb;rcases zqi k (m+1) with hkn|hkn
  ·obtain ⟨a,hea⟩:∃ a,Na.at0 (Na.dig x) k=a:=⟨_,rfl⟩
   obtain ⟨b,heb⟩:∃ b,Na.at0 (Na.dig y) k=b:=⟨_,rfl⟩
   have ha24:a<16777216:=by rw [<- hea];exact Na.at0_lt (Na.dig_lim x) k
   have hb24:b<16777216:=by rw [<- heb];exact Na.at0_lt (Na.dig_lim y) k
   obtain ⟨t,ht⟩:∃ t,cr+a+b=t:=⟨_,rfl⟩
   obtain ⟨r,hr⟩:∃ r,t % 16777216=r:=⟨_,rfl⟩
   obtain ⟨q,hq⟩:∃ q,t / 16777216=q:=⟨_,rfl⟩
   have HST:=zh (Na.add_step (Na.dig x) (Na.dig y) l k cr t HP.out.1 HP.out.2.2 (by rw [hea,heb];omega))
   rw [hr,hq] at HST;have HL1:Hid (∀ W,Below wr.heap.size wr W->Calls Tryz.prog 74 #[.agg #[.slice A n c],.int .i64 k] W fun e W'=>e=.returned (.int .i64 a)/\Below W.heap.size W W'):=fun W hW=>by
    rw [<- hea];exact z3n A n c w.heap.size k (Na.dig x) _ rfl W HN.out (HS.out.below (HBx.out.trans ((HB.out.mono HBx.out.size).trans (hW.mono (zqq HBx.out.size HB.out.size))))) (zqq HBx.out.size (zqq HB.out.size hW.size)) (by omega)
   have HL2:Hid (∀ W,Below wr.heap.size wr W->Calls Tryz.prog 74 #[.agg #[.slice A2 m c2],.int .i64 k] W fun e W'=>e=.returned (.int .i64 b)/\Below W.heap.size W W'):=fun W hW=>by
    rw [<- heb];exact z3n A2 m c2 w.heap.size k (Na.dig y) _ rfl W HM.out (HS2.out.below (HBx.out.trans ((HB.out.mono HBx.out.size).trans (hW.mono (zqq HBx.out.size HB.out.size))))) (zqq HBx.out.size (zqq HB.out.size hW.size)) (by omega)
   have hmod:((a:Int)+(b:Int)+(cr:Int)) % 16777216=(r:Int):=by omega
   have hdiv:((a:Int)+(b:Int)+(cr:Int)) / 16777216=(q:Int):=by omega
   have hq1:q<=1:=by omega
   have hr24:r<16777216:=by omega
   have HLr:=zh (HP.out.2.1.append (Na.Lim.one hr24))
   have HLl:Hid ((l++[r]).length=k+1):=by unfold Hid;rw [zqm,HP.out.1];rfl
   have hx0:wr.cell? ⟨w.heap.size,0,none⟩=some (.slice A n c):=(hb.cell (p:=⟨w.heap.size,0,none⟩) (by simp;omega)).trans he0
   have hx1:wr.cell? ⟨w.heap.size+1,0,none⟩=some (.slice A2 m c2):=(hb.cell (p:=⟨w.heap.size+1,0,none⟩) (by simp;omega)).trans he1
   have hza:(⟨w.heap.size,0,none⟩:Addr).block<wr.heap.size:=by have:=hb.size;simp only;omega
   have hzb:(⟨w.heap.size+1,0,none⟩:Addr).block<wr.heap.size:=by have:=hb.size;simp only;omega
   have hkN:(k:Int)<=(m:Int):=by omega
   clear ht hr hq hea heb ho hb;go_wp2_with fail;go_region_held3 (fun W=>W.cell? ⟨w.heap.size,0,none⟩=some (.slice A n c)/\W.cell? ⟨w.heap.size+1,0,none⟩=some (.slice A2 m c2)/\Below wr.heap.size wr W) (first|exact ⟨hx0,hx1,(Below.refl _ _).drew⟩|go_keep|(go_split_ands;refine ⟨?_,?_,?_⟩ <;> assumption)|(go_split_ands;refine z4bb ?_ ?_ ?_ hza hzb hbE <;> assumption)) ((first|(go_at_call 74;first|((with_reducible refine (HL1.out _ ?_).mono ?_);(first|assumption|(go_split_ands;assumption));rintro e w' ⟨rfl,hbE⟩)|((with_reducible refine (HL2.out _ ?_).mono ?_);(first|assumption|(go_split_ands;assumption));rintro e w' ⟨rfl,hbE⟩))))
   have HSx:=zh (show Below wr.heap.size wr w' from (by assumption:_/\_/\Below wr.heap.size wr w').2.2)
   have HO3:Hid ((w'.alloc (.cells #[.int .i64 r] 3)).ownsRow w2.heap.size 3 1 (.slice Ao k co) k (z0c l)):=z0x (z3c HO.out HSx.out) _
   have HSl:=zh (z2c w' 3 (.int .i64 r))
   have HBW:Hid (w2.heap.size<=w'.heap.size):=zqq HB.out.size HSx.out.size
   have hrow:∀ y,(Value.slice Ao k co).ownBlock=some y->w2.heap.size<=y:=z1r HO.out
   have HB':Hid (Below w2.heap.size w2 w'):=HB.out.trans (HSx.out.mono HB.out.size)
   clear hx0 hx1;go_wp2_with (at_builtin;refine z0h _ rfl (.tmp 45) (.tmp 48) 22 rfl w2.heap.size 3 i0 (.int .i64 0) 8 Tryz.underlying22 hi hz0 hz1 hz2 rfl _ _ _ _ rfl HO3.out _ _ 1 _ _ rfl rfl HSl.out (fun u hu=>by simp at hu;subst hu;rfl) (by unfold maxLen;omega) (by omega) (by have:=HBW.out;simp;omega) ?_;intro A' c' w8 hown hgrow hblk)
   go_roundw
   case rel=>
    rw [z1a] at hown;exact ⟨k+1,q,A',c',l++[r],by omega,by go_num,(by first|rfl|exact z0q hdiv),rfl,hq1,⟨HLl.out,HLr.out,HST.out⟩,hown,(HB'.out.alloc HBW.out _).grown hgrow (by have:=HBW.out;simp;omega) hrow⟩
   case measure=>simp [intOf];omega
  ·have hkn':k=m+1:=by omega
   have HEnd:Hid (Na.val l=x+y):=Na.radd_end x y k cr l m HP.out.1 hkn' HP.out.2.2 (by rw [HN.out];omega) (by rw [HM.out];omega)
   have hkN:(m:Int)<k:=by omega
   have HR:=zh (z6r Ao k co l wr HP.out.1 (Sl.of_own ho) HP.out.2.1 (z1j ho).1 (by omega))
   rw [HEnd.out] at HR;have HBS:Hid (w2.heap.size<=wr.heap.size):=hb.size
   clear hkn' ho hb;go_wp2_with fail;refine HR.out.mono ?_;rintro e w9 ⟨A9,n9,c9,rfl,hn9,ho9,hb9⟩;have HN9:=zh hn9;have HO9:=zh (z1f ho9 HBS.out)
   have HB9:=zh (btr HB.out hb9)
   have hk9:w9.cell? ⟨w.heap.size+2,0,none⟩=some (.slice none 0 0):=(HB9.out.cell (p:=⟨w.heap.size+2,0,none⟩) (by simp;omega)).trans he2
   have hk9f:w9.frozen? ⟨w.heap.size+2,0,none⟩=false:=(HB9.out.frozen (p:=⟨w.heap.size+2,0,none⟩) (by simp;omega)).trans hh2
   clear hn9 ho9 hb9;go_wp2_with fail;refine bodyPost_ret (v:=.tuple #[.agg #[.slice A9 n9 c9],.int .i64 (z3v (x+y))]) (by simp [results,Tryz.results102,go_sem,hk9]) rfl ?_
   exact z2b HO9.out HN9.out (by omega) (by omega) (HBx.out.trans (HB9.out.mono HBx.out.size)) (by omega) _ _
theorem z8ah (A A2:Option Addr)(n c m c2:Nat)(zs ys:List Int)(w:World)(hn:zs.length=n)(hm:ys.length=m)(hs:Sl w w.heap.size A (z0p zs))(hs2:Sl w w.heap.size A2 (z0p ys))(hl:n<=140737488351232)(hl2:m<=140737488351232):
  Calls Tryz.prog 102 #[.agg #[.slice A n c],.agg #[.slice A2 m c2]] w (z3m w (addL zs ys) (addE zs ys)):=by
 cases hv:(Na.vld zs && Na.vld ys)
 ·have e1:addL zs ys=[]:=by unfold addL;rw [hv];rfl
  have e2:addE zs ys=1:=by unfold addE;rw [hv];rfl
  rw [e1,e2];cases h1:Na.vld zs
  ·exact z5ao A A2 n c m c2 zs ys w hn hm hs hs2 hl hl2 h1 _ rfl
  ·rw [h1,Bool.true_and] at hv;exact z5an A A2 n c m c2 zs ys w hn hm hs hs2 hl hl2 h1 hv
 ·obtain ⟨x,y,hx,hy,rfl,rfl⟩:=z9f hv
  rw [(z4ak hx hy).1,(z4ak hx hy).2]
  rw [z0g] at hs hs2;rw [Na.up_length] at hn hm;rcases zqi n m with h|h
  ·exact z2bb A A2 n c m c2 x y w hn hm hs hs2 hx hy h
  ·exact z2bc A A2 n c m c2 x y w hn hm hs hs2 hx hy h
theorem z4ba {wr W W':World}{a b c d:Addr}{u v x y:Value}(h0:W.cell? a=some u)(h1:W.cell? b=some v)(h3:W.cell? c=some x)(h4:W.cell? d=some y)(h2:Below wr.heap.size wr W)(ha:a.block<wr.heap.size)(hb':b.block<wr.heap.size)(hc:c.block<wr.heap.size)(hd:d.block<wr.heap.size)(hb:Below W.heap.size W W'):W'.cell? a=some u/\W'.cell? b=some v/\W'.cell? c=some x/\W'.cell? d=some y/\Below wr.heap.size wr W':=
 ⟨(hb.cell (zqv ha h2.size)).trans h0,(hb.cell (zqv hb' h2.size)).trans h1,(hb.cell (zqv hc h2.size)).trans h3,(hb.cell (zqv hd h2.size)).trans h4,h2.trans (hb.mono h2.size)⟩
namespace Na
set_option maxHeartbeats 4000000
theorem rprod_step (l Y:List Nat)(i k e a c v S:Nat)(he:l[i+k]?=some e)(h:val l+16777216 ^ (i+k)*c=S+16777216 ^ i*(a*val (Y.take k)))(hv:v=e+a*at0 Y k+c):
  val (l.set (i+k) (v % 16777216))+16777216 ^ (i+(k+1))*(v / 16777216)=S+16777216 ^ i*(a*val (Y.take (k+1))):=by
 have h1:=val_set l (i+k) e (v % 16777216) he
 have h2:=split24 (16777216 ^ (i+k)) v
 rw [val_take_at0,zqt,zqt,<- Nat.add_assoc S,<- h,show i+(k+1)=i+k+1 by omega,Nat.pow_succ]
 have h3:16777216 ^ i*(a*(16777216 ^ k*at0 Y k))=16777216 ^ (i+k)*(a*at0 Y k):=by rw [Nat.pow_add,Nat.mul_left_comm a,zqs]
 have h4:16777216 ^ (i+k)*v=16777216 ^ (i+k)*e+16777216 ^ (i+k)*(a*at0 Y k)+16777216 ^ (i+k)*c:=by rw [hv,zqt,zqt]
 rw [h3];omega
theorem rprod_room (l X Y:List Nat)(i k a c m:Nat)(hX:Lim X)(hY:Lim Y)(hm:Y.length=m)(ha:X[i]?=some a)(hk:m<=k)(h:val l+16777216 ^ (i+k)*c=val (X.take i)*val Y+16777216 ^ i*(a*val (Y.take k)))(hc:0<c):k<=m:=by
 rw [zqp (l:=Y) (by omega),<- zqs,<- Nat.add_mul,<- val_take_succ X i a ha] at h
 have h1:=val_lt (hX.take (i+1))
 have h2:(X.take (i+1)).length<=i+1:=List.length_take_le _ _
 have h3:=zqv h1 (Nat.pow_le_pow_right (show 0<16777216 by omega) h2)
 have h4:=val_lt hY
 rw [hm] at h4;have h5:val (X.take (i+1))*val Y<16777216 ^ (i+1)*16777216 ^ m:=Nat.mul_lt_mul_of_lt_of_lt h3 h4
 rw [<- Nat.pow_add] at h5;rcases zqi m k with h6|h6
 ·exfalso
  have h7:=Nat.mul_le_mul_left (16777216 ^ (i+k)) hc
  rw [Nat.mul_one] at h7;have h8:=Nat.pow_le_pow_right (show 0<16777216 by omega) (show i+1+m<=i+k by omega)
  omega
 ·exact h6
theorem sq24 {e a b c:Nat}(he:e<16777216)(ha:a<16777216)(hb:b<16777216)(hc:c<16777216):e+a*b+c<281474976710656:=by
 have:=Nat.mul_le_mul (show a<=16777215 by omega) (show b<=16777215 by omega)
 omega
end Na
def Muld (w:World)(N V:Nat)(e:Ending)(w':World):Prop:=
 ∃ (A:Option Addr) (c:Nat) (o:List Nat),e=.returned (.slice A N c)/\o.length=N/\Na.Lim o/\Na.val o=V/\w'.ownsRow w.heap.size 3 1 (.slice A N c) N (z0c o)/\Below w.heap.size w w'
def NRmo (w:World)(B g N:Nat)(X Y:List Nat)(n:Nat)(i:Value)(wr:World):Prop:=
 ∃ (k:Nat) (l:List Nat),k<=n/\i=.int .i64 k/\Hid (l.length=N/\Na.Lim l/\Na.val l=Na.val (X.take k)*Na.val Y)/\wr.ownsRow B 3 1 (.slice (some ⟨g,0,none⟩) N N) N (z0c l)/\Below B w wr
def NRmi (w:World)(B g N:Nat)(X Y:List Nat)(a i m:Nat)(v cr:Value)(wr:World):Prop:=
 ∃ (k c:Nat) (l:List Nat),k<=m+1/\v=.int .i64 k/\cr=.int .i64 c/\c<16777216/\Hid (l.length=N/\Na.Lim l/\Na.val l+16777216 ^ (i+k)*c=Na.val (X.take i)*Na.val Y+16777216 ^ i*(a*Na.val (Y.take k)))/\wr.ownsRow B 3 1 (.slice (some ⟨g,0,none⟩) N N) N (z0c l)/\Below B w wr
theorem z8af (A A2:Option Addr)(n c m c2:Nat)(X Y:List Nat)(w:World)(hn:X.length=n)(hm:Y.length=m)(hs:Sl w w.heap.size A (z0c X))(hs2:Sl w w.heap.size A2 (z0c Y))(hX:Na.Lim X)(hY:Na.Lim Y)(hl:n<=1000)(hl2:m<=1000):
  Calls Tryz.prog 78 #[.agg #[.slice A n c],.agg #[.slice A2 m c2]] w (Muld w (n+m+1) (Na.val X*Na.val Y)):=by
 obtain ⟨i0,hi,hz0,hz1,hz2⟩:=info_parts z4y
 have hmk:=z1h (P:=Tryz.prog) 22 3 i0 (.int .i64 0) Tryz.underlying22 hi hz0 hz1 .i64 .i64 ((n:Int)+(m:Int)+1) ((n:Int)+(m:Int)+1) (n+m+1) (n+m+1) (by omega) (by omega) (zqj _) (by rw [hz2];omega) (by omega)
 have HN:=zh hn;have HM:=zh hm;have HS:=zh hs;have HS2:=zh hs2;obtain ⟨w0,hw0⟩:∃ w0,(w.alloc (.cells #[.slice A n c] 25)).alloc (.cells #[.slice A2 m c2] 25)=w0:=⟨_,rfl⟩
 have HW:Hid ((w.alloc (.cells #[.slice A n c] 25)).alloc (.cells #[.slice A2 m c2] 25)=w0):=hw0
 have hb0:Below w.heap.size w w0:=by rw [<- hw0];exact bal (bal (Below.refl _ _) _) _
 have HB0:=zh hb0;have hzw:w.heap.size+2<=w0.heap.size:=by rw [<- hw0];simp
 have hc0:w0.cell? ⟨w.heap.size,0,none⟩=some (.slice A n c):=by rw [<- hw0];simp [go_sem]
 have hc1:w0.cell? ⟨w.heap.size+1,0,none⟩=some (.slice A2 m c2):=by rw [<- hw0];simp [go_sem]
 clear hs hs2 hn hm hb0 hw0;go_enter Tryz.func78,Tryz.ntmps78
 go_upto_region 1 with (fail)
 rw [HW.out];have HO0:Hid ((w0.alloc (.cells (madeCells #[Value.int .i64 0] (n+m+1)) 3)).ownsRow w0.heap.size 3 1 (.slice (some ⟨w0.heap.size,0,none⟩) (n+m+1) (n+m+1)) (n+m+1) (z0c (List.replicate (n+m+1) 0))):=by
  rw [z7l];exact z4d w0 3 (.int .i64 0) (n+m+1) (n+m+1) rfl (zqj _) (by unfold maxLen;omega)
 have HBm:=zh (bal (Below.refl w0.heap.size w0) (.cells (madeCells #[Value.int .i64 0] (n+m+1)) 3))
 go_wp2_with fail;clear hmk;go_loopw [6] (fun i wr=>NRmo w0 w0.heap.size w0.heap.size (n+m+1) X Y n i wr) (fun i _=>n - (intOf i).toNat)
 case atStart=>exact ⟨0,_,zqr _,rfl,⟨List.length_replicate,Na.Lim.zeros _,by rw [Na.val_zeros];simp [Na.val]⟩,HO0.out,HBm.out⟩
 case round=>
  clear HO0 HBm;obtain ⟨i,l,hin,rfl,HP,ho,hb⟩:=hrel;have HO:=zh ho;have HB:=zh hb;have hx0:wr.cell? ⟨w.heap.size,0,none⟩=some (.slice A n c):=(hb.cell (p:=⟨w.heap.size,0,none⟩) (by simp only;omega)).trans hc0
  have hx1:wr.cell? ⟨w.heap.size+1,0,none⟩=some (.slice A2 m c2):=(hb.cell (p:=⟨w.heap.size+1,0,none⟩) (by simp only;omega)).trans hc1
  clear ho hb;rcases zqi i n with hlt|hge
  ·obtain ⟨a,ha⟩:=z0m X i (by rw [HN.out];exact hlt)
   have ha24:=hX.at ha
   have HA:=zh ha;have HRow:=zh (Na.prod_row X Y i a ha)
   clear ha;go_wp2_with fail;clear hx0 hx1;go_loopw [8,7] (fun v cr wr=>NRmi w0 w0.heap.size w0.heap.size (n+m+1) X Y a i m v cr wr) (fun v _ _=>m+2 - (intOf v).toNat)
   case atStart=>exact ⟨0,0,l,zqr _,rfl,rfl,by omega,⟨HP.out.1,HP.out.2.1,by rw [HP.out.2.2];simp [Na.val]⟩,HO.out,HB.out⟩
   case round=>
    clear HP HO HB;obtain ⟨k,cr,l,hk,rfl,rfl,hcr,HP,ho,hb⟩:=hrel;have HO:=zh ho;have HB:=zh hb;have hx0:wr.cell? ⟨w.heap.size,0,none⟩=some (.slice A n c):=(hb.cell (p:=⟨w.heap.size,0,none⟩) (by simp only;omega)).trans hc0
    have hx1:wr.cell? ⟨w.heap.size+1,0,none⟩=some (.slice A2 m c2):=(hb.cell (p:=⟨w.heap.size+1,0,none⟩) (by simp only;omega)).trans hc1
    by_cases hgo:k<m∨0<cr
    ·have hkm:k<=m:=by
      rcases hgo with h|h
      ·omega
      ·rcases zqi k m with h1|h1
       ·omega
       ·exact Na.rprod_room l X Y i k a cr m hX hY HM.out HA.out h1 HP.out.2.2 h
     obtain ⟨b,heb⟩:∃ b,Na.at0 Y k=b:=⟨_,rfl⟩
     have hb24:b<16777216:=by rw [<- heb];exact Na.at0_lt hY k
     obtain ⟨e,he⟩:=z0m l (i+k) (by rw [HP.out.1];omega)
     have he24:=HP.out.2.1.at he
     have hce:=z1b ho he
     have hfz:=ho.frozenAt (i+k)
     obtain ⟨ad,rfl,hbk,hca⟩:=(HS.out.below (HB0.out.trans (hb.mono HB0.out.size))).nat HA.out
     obtain ⟨p,hp⟩:∃ p,a*b=p:=⟨_,rfl⟩
     have hp1:(a:Int)*(b:Int)=(p:Int):=by rw [<- hp];rfl
     obtain ⟨v,hv⟩:∃ v,e+p+cr=v:=⟨_,rfl⟩
     have hv48:v<281474976710656:=by rw [<- hv,<- hp];exact Na.sq24 he24 ha24 hb24 hcr
     obtain ⟨r,hr⟩:∃ r,v % 16777216=r:=⟨_,rfl⟩
     obtain ⟨q,hq⟩:∃ q,v / 16777216=q:=⟨_,rfl⟩
     have HSt:=zh (Na.rprod_step l Y i k e a cr v _ he HP.out.2.2 (by rw [heb,hp];exact hv.symm))
     rw [hr,hq] at HSt;have hmod:((e:Int)+(p:Int)+(cr:Int)) % 16777216=(r:Int):=by omega
     have hdiv:((e:Int)+(p:Int)+(cr:Int)) / 16777216=(q:Int):=by omega
     have hq24:q<16777216:=by omega
     have hr24:r<16777216:=by omega
     have HLr:=zh (HP.out.2.1.set (i+k) hr24)
     have HLm:Hid (∀ W,Below wr.heap.size wr W->Calls Tryz.prog 74 #[.agg #[.slice A2 m c2],.int .i64 k] W fun e W'=>e=.returned (.int .i64 b)/\Below W.heap.size W W'):=fun W hW=>by
      rw [<- heb];exact z3n A2 m c2 w.heap.size k Y _ rfl W HM.out (HS2.out.below (HB0.out.trans ((HB.out.mono HB0.out.size).trans (hW.mono (zqq HB0.out.size HB.out.size))))) (zqq HB0.out.size (zqq HB.out.size hW.size)) (by omega)
     have hsz:=HB.out.size;have hza:(⟨w.heap.size,0,none⟩:Addr).block<wr.heap.size:=by simp only;omega
     have hzb:(⟨w.heap.size+1,0,none⟩:Addr).block<wr.heap.size:=by simp only;omega
     have hzg:w0.heap.size<wr.heap.size:=by obtain ⟨g',hg',_,h2⟩:=z0n ho (by omega);cases hg';exact h2
     have hzc:(⟨w0.heap.size,i+k,none⟩:Addr).block<wr.heap.size:=hzg
     have hzd:(ad.add i).block<wr.heap.size:=by rw [z1d];omega
     have s1:IntKind.i64.wrap ((i:Int)+(k:Int))=(i:Int)+(k:Int):=IntWalk.i64_in _ (by omega)
     have s2:0<=(i:Int)+(k:Int):=by omega
     have s3:(i:Int)+(k:Int)<n+(m:Int)+1:=by omega
     have s4:((i:Int)+(k:Int)).toNat=i+k:=by omega
     have s5:(i:Int)<n:=by omega
     clear he heb hp hv hr hq ho hb hsz;have HGo:=zh hgo;have hcond:decide (k<m)=true∨(decide (k<m)=false/\0<(cr:Int)):=by
      by_cases h:k<m
      ·exact .inl (zt h)
      ·exact .inr ⟨zn h,(by have:=HGo.out;omega)⟩
     clear hgo;rcases hcond with hd1|⟨hd1,hd2⟩
     ·go_wp2_with fail;go_region_held3 (fun W=>W.cell? ⟨w.heap.size,0,none⟩=some (.slice (some ad) n c)/\W.cell? ⟨w.heap.size+1,0,none⟩=some (.slice A2 m c2)/\W.cell? ⟨w0.heap.size,i+k,none⟩=some (.int .i64 e)/\W.cell? (ad.add i)=some (.int .i64 a)/\Below wr.heap.size wr W) (first|exact ⟨hx0,hx1,hce,hca,(Below.refl _ _).drew⟩|go_keep|(go_split_ands;refine ⟨?_,?_,?_,?_,?_⟩ <;> assumption)|(go_split_ands;refine z4ba ?_ ?_ ?_ ?_ ?_ hza hzb hzc hzd hbE <;> assumption)) ((first|(go_at_call 74;((with_reducible refine (HLm.out _ ?_).mono ?_);(first|assumption|(go_split_ands;assumption));rintro e w' ⟨rfl,hbE⟩))))
      have HSx:=zh (show Below wr.heap.size wr w' from (by assumption:_/\_/\_/\_/\Below wr.heap.size wr w').2.2.2.2)
      have HO5:=zh (z3c HO.out HSx.out)
      have HB5:=zh (HB.out.trans (HSx.out.mono HB.out.size))
      have hce5:w'.cell? ⟨w0.heap.size,i+k,none⟩=some (.int .i64 e):=(HSx.out.cell hzc).trans hce
      have hfz5:=HO5.out.frozenAt (i+k)
      clear hx0 hx1 hce hca hfz;go_wp2_with fail;go_roundw
      case rel=>
       have o1:=z1x HO5.out (i+k) (.int .i64 r)
       rw [z1s] at o1;exact ⟨k+1,q,l.set (i+k) r,by omega,by go_num,(by first|rfl|exact z0q hdiv),hq24,⟨by rw [List.length_set];exact HP.out.1,HLr.out,HSt.out⟩,o1,HB5.out.setCell (p:=⟨w0.heap.size,i+k,none⟩) (zqj _) _⟩
      case measure=>simp [intOf];omega
     ·go_wp2_with fail;go_region_held3 (fun W=>W.cell? ⟨w.heap.size,0,none⟩=some (.slice (some ad) n c)/\W.cell? ⟨w.heap.size+1,0,none⟩=some (.slice A2 m c2)/\W.cell? ⟨w0.heap.size,i+k,none⟩=some (.int .i64 e)/\W.cell? (ad.add i)=some (.int .i64 a)/\Below wr.heap.size wr W) (first|exact ⟨hx0,hx1,hce,hca,(Below.refl _ _).drew⟩|go_keep|(go_split_ands;refine ⟨?_,?_,?_,?_,?_⟩ <;> assumption)|(go_split_ands;refine z4ba ?_ ?_ ?_ ?_ ?_ hza hzb hzc hzd hbE <;> assumption)) ((first|(go_at_call 74;((with_reducible refine (HLm.out _ ?_).mono ?_);(first|assumption|(go_split_ands;assumption));rintro e w' ⟨rfl,hbE⟩))))
      have HSx:=zh (show Below wr.heap.size wr w' from (by assumption:_/\_/\_/\_/\Below wr.heap.size wr w').2.2.2.2)
      have HO5:=zh (z3c HO.out HSx.out)
      have HB5:=zh (HB.out.trans (HSx.out.mono HB.out.size))
      have hce5:w'.cell? ⟨w0.heap.size,i+k,none⟩=some (.int .i64 e):=(HSx.out.cell hzc).trans hce
      have hfz5:=HO5.out.frozenAt (i+k)
      clear hx0 hx1 hce hca hfz;go_wp2_with fail;go_roundw
      case rel=>
       have o1:=z1x HO5.out (i+k) (.int .i64 r)
       rw [z1s] at o1;exact ⟨k+1,q,l.set (i+k) r,by omega,by go_num,(by first|rfl|exact z0q hdiv),hq24,⟨by rw [List.length_set];exact HP.out.1,HLr.out,HSt.out⟩,o1,HB5.out.setCell (p:=⟨w0.heap.size,i+k,none⟩) (zqj _) _⟩
      case measure=>simp [intOf];omega
    ·have hkm:m<=k:=by omega
     have hc0':cr=0:=by omega
     have HP2:Hid (l.length=n+m+1/\Na.Lim l/\Na.val l=Na.val (X.take (i+1))*Na.val Y):=by
      refine ⟨HP.out.1,HP.out.2.1,?_⟩
      have h7:=HP.out.2.2;rw [hc0',Nat.mul_zero,Nat.add_zero,zqp (l:=Y) (by rw [HM.out];exact hkm),HRow.out] at h7
      exact h7
     subst hc0'
     have hd1:decide (k<m)=false:=zn (by omega)
     clear ho hb hgo HP;go_wp2_with fail;go_roundw
     case rel=>exact ⟨i+1,l,by omega,by go_num,HP2,HO.out,HB.out⟩
     case measure=>simp [intOf];omega
  ·have HV:Hid (Na.val l=Na.val X*Na.val Y):=by
    have h7:=HP.out.2.2;rw [zqp (by rw [HN.out];exact hge)] at h7
    exact h7
   go_wp2_with fail;go_ret;exact ⟨_,_,l,rfl,HP.out.1,HP.out.2.1,HV.out,z1f HO.out HB0.out.size,HB0.out.trans (HB.out.mono HB0.out.size)⟩
theorem z5aq (A A2:Option Addr)(n c m c2:Nat)(zs ys:List Int)(w:World)(hn:zs.length=n)(hm:ys.length=m)(hs:Sl w w.heap.size A (z0p zs))(hs2:Sl w w.heap.size A2 (z0p ys))(hl:n<=140737488351232)(hl2:m<=140737488351232)(hv1:Na.vld zs=false)(b2:Bool)(hv2:Na.vld ys=b2):
  Calls Tryz.prog 46 #[.agg #[.slice A n c],.agg #[.slice A2 m c2]] w (z3m w [] 1):=by
 have HN:=zh hn;have HM:=zh hm;have HS:=zh hs;have HS2:=zh hs2;have HV1:Hid (∀ W,Below w.heap.size w W->Calls Tryz.prog 73 #[.agg #[.slice A n c]] W fun e w'=>e=.returned (.bool false)/\Below W.heap.size W w'):=fun W hW=>by
  rw [<- hv1];exact z0z A n c w.heap.size _ W HN.out (HS.out.below hW) hW.size (by omega)
 have HV2:Hid (∀ W,Below w.heap.size w W->Calls Tryz.prog 73 #[.agg #[.slice A2 m c2]] W fun e w'=>e=.returned (.bool b2)/\Below W.heap.size W w'):=fun W hW=>by
  rw [<- hv2];exact z0z A2 m c2 w.heap.size _ W HM.out (HS2.out.below hW) hW.size (by omega)
 obtain ⟨w0,hw0⟩:∃ w0,((w.alloc (.cells #[.slice A n c] 25)).alloc (.cells #[.slice A2 m c2] 25)).alloc (.cells #[.slice none 0 0] 25)=w0:=⟨_,rfl⟩
 have HW:Hid (((w.alloc (.cells #[.slice A n c] 25)).alloc (.cells #[.slice A2 m c2] 25)).alloc (.cells #[.slice none 0 0] 25)=w0):=hw0
 have hb0:Below w.heap.size w w0:=by rw [<- hw0];exact bal (bal (bal (Below.refl _ _) _) _) _
 have HB0:=zh hb0;have hzw:w0.heap.size=w.heap.size+3:=by rw [<- hw0];simp
 have hc0:w0.cell? ⟨w.heap.size,0,none⟩=some (.slice A n c):=by rw [<- hw0];simp [go_sem]
 have hc1:w0.cell? ⟨w.heap.size+1,0,none⟩=some (.slice A2 m c2):=by rw [<- hw0];simp [go_sem]
 have hc2:w0.cell? ⟨w.heap.size+2,0,none⟩=some (.slice none 0 0):=by rw [<- hw0];simp [go_sem]
 have hf2:w0.frozen? ⟨w.heap.size+2,0,none⟩=false:=by rw [<- hw0];simp [go_sem]
 clear hs hs2 hn hm hb0 hw0 hv1 hv2;go_enter Tryz.func46,Tryz.ntmps46
 go_wp2_with fail;rw [HW.out];refine (HV1.out _ HB0.out).mono ?_
 rintro e w1 ⟨rfl,hb⟩;have HB1:=zh (btr HB0.out hb)
 have hd0:w1.cell? ⟨w.heap.size,0,none⟩=some (.slice A n c):=(hb.cell (p:=⟨w.heap.size,0,none⟩) (by simp [hzw])).trans hc0
 have hd1:w1.cell? ⟨w.heap.size+1,0,none⟩=some (.slice A2 m c2):=(hb.cell (p:=⟨w.heap.size+1,0,none⟩) (by simp [hzw])).trans hc1
 have hd2:w1.cell? ⟨w.heap.size+2,0,none⟩=some (.slice none 0 0):=(hb.cell (p:=⟨w.heap.size+2,0,none⟩) (by simp [hzw])).trans hc2
 have hg2:w1.frozen? ⟨w.heap.size+2,0,none⟩=false:=(hb.frozen (p:=⟨w.heap.size+2,0,none⟩) (by simp [hzw])).trans hf2
 have hsz1:w.heap.size+3<=w1.heap.size:=by rw [<- hzw];exact hb.size
 clear hb hc0 hc1 hc2 hf2 HV1 HW hzw HB0;go_wp2_with fail;refine bodyPost_ret (v:=.tuple #[.agg #[.slice none 0 0],.int .i64 1]) (by simp [results,Tryz.results46,go_sem,hd2]) rfl ?_
 exact z0y _ _ _ (z4z HB1.out _ (by show w.heap.size<=w.heap.size+2;omega) _)
theorem z5ap (A A2:Option Addr)(n c m c2:Nat)(zs ys:List Int)(w:World)(hn:zs.length=n)(hm:ys.length=m)(hs:Sl w w.heap.size A (z0p zs))(hs2:Sl w w.heap.size A2 (z0p ys))(hl:n<=140737488351232)(hl2:m<=140737488351232)(hv1:Na.vld zs=true)(hv2:Na.vld ys=false):
  Calls Tryz.prog 46 #[.agg #[.slice A n c],.agg #[.slice A2 m c2]] w (z3m w [] 1):=by
 have HN:=zh hn;have HM:=zh hm;have HS:=zh hs;have HS2:=zh hs2;have HV1:Hid (∀ W,Below w.heap.size w W->Calls Tryz.prog 73 #[.agg #[.slice A n c]] W fun e w'=>e=.returned (.bool true)/\Below W.heap.size W w'):=fun W hW=>by
  rw [<- hv1];exact z0z A n c w.heap.size _ W HN.out (HS.out.below hW) hW.size (by omega)
 have HV2:Hid (∀ W,Below w.heap.size w W->Calls Tryz.prog 73 #[.agg #[.slice A2 m c2]] W fun e w'=>e=.returned (.bool false)/\Below W.heap.size W w'):=fun W hW=>by
  rw [<- hv2];exact z0z A2 m c2 w.heap.size _ W HM.out (HS2.out.below hW) hW.size (by omega)
 obtain ⟨w0,hw0⟩:∃ w0,((w.alloc (.cells #[.slice A n c] 25)).alloc (.cells #[.slice A2 m c2] 25)).alloc (.cells #[.slice none 0 0] 25)=w0:=⟨_,rfl⟩
 have HW:Hid (((w.alloc (.cells #[.slice A n c] 25)).alloc (.cells #[.slice A2 m c2] 25)).alloc (.cells #[.slice none 0 0] 25)=w0):=hw0
 have hb0:Below w.heap.size w w0:=by rw [<- hw0];exact bal (bal (bal (Below.refl _ _) _) _) _
 have HB0:=zh hb0;have hzw:w0.heap.size=w.heap.size+3:=by rw [<- hw0];simp
 have hc0:w0.cell? ⟨w.heap.size,0,none⟩=some (.slice A n c):=by rw [<- hw0];simp [go_sem]
 have hc1:w0.cell? ⟨w.heap.size+1,0,none⟩=some (.slice A2 m c2):=by rw [<- hw0];simp [go_sem]
 have hc2:w0.cell? ⟨w.heap.size+2,0,none⟩=some (.slice none 0 0):=by rw [<- hw0];simp [go_sem]
 have hf2:w0.frozen? ⟨w.heap.size+2,0,none⟩=false:=by rw [<- hw0];simp [go_sem]
 clear hs hs2 hn hm hb0 hw0 hv1 hv2;go_enter Tryz.func46,Tryz.ntmps46
 go_wp2_with fail;rw [HW.out];refine (HV1.out _ HB0.out).mono ?_
 rintro e w1 ⟨rfl,hb⟩;have HB1:=zh (btr HB0.out hb)
 have hd0:w1.cell? ⟨w.heap.size,0,none⟩=some (.slice A n c):=(hb.cell (p:=⟨w.heap.size,0,none⟩) (by simp [hzw])).trans hc0
 have hd1:w1.cell? ⟨w.heap.size+1,0,none⟩=some (.slice A2 m c2):=(hb.cell (p:=⟨w.heap.size+1,0,none⟩) (by simp [hzw])).trans hc1
 have hd2:w1.cell? ⟨w.heap.size+2,0,none⟩=some (.slice none 0 0):=(hb.cell (p:=⟨w.heap.size+2,0,none⟩) (by simp [hzw])).trans hc2
 have hg2:w1.frozen? ⟨w.heap.size+2,0,none⟩=false:=(hb.frozen (p:=⟨w.heap.size+2,0,none⟩) (by simp [hzw])).trans hf2
 have hsz1:w.heap.size+3<=w1.heap.size:=by rw [<- hzw];exact hb.size
 clear hb hc0 hc1 hc2 hf2 HV1 HW hzw HB0;go_wp2_with fail;refine (HV2.out _ HB1.out).mono ?_
 rintro e w2 ⟨rfl,hb⟩;have HBx:=zh (btr HB1.out hb)
 have he0:w2.cell? ⟨w.heap.size,0,none⟩=some (.slice A n c):=(hb.cell (p:=⟨w.heap.size,0,none⟩) (by simp;omega)).trans hd0
 have he1:w2.cell? ⟨w.heap.size+1,0,none⟩=some (.slice A2 m c2):=(hb.cell (p:=⟨w.heap.size+1,0,none⟩) (by simp;omega)).trans hd1
 have he2:w2.cell? ⟨w.heap.size+2,0,none⟩=some (.slice none 0 0):=(hb.cell (p:=⟨w.heap.size+2,0,none⟩) (by simp;omega)).trans hd2
 have hh2:w2.frozen? ⟨w.heap.size+2,0,none⟩=false:=(hb.frozen (p:=⟨w.heap.size+2,0,none⟩) (by simp;omega)).trans hg2
 have hsz2:w.heap.size+3<=w2.heap.size:=zqq hsz1 hb.size
 clear hb hd0 hd1 hd2 hg2;go_wp2_with fail;refine bodyPost_ret (v:=.tuple #[.agg #[.slice none 0 0],.int .i64 1]) (by simp [results,Tryz.results46,go_sem,he2]) rfl ?_
 exact z0y _ _ _ (z4z HBx.out _ (by show w.heap.size<=w.heap.size+2;omega) _)
theorem z3af (A A2:Option Addr)(n c m c2:Nat)(x y:Nat)(w:World)(hn:(Na.dig x).length=n)(hm:(Na.dig y).length=m)(hs:Sl w w.heap.size A (z0c (Na.dig x)))(hs2:Sl w w.heap.size A2 (z0c (Na.dig y)))(hx:x<Na.top)(hy:y<Na.top):
  Calls Tryz.prog 46 #[.agg #[.slice A n c],.agg #[.slice A2 m c2]] w (z3m w (z4j (x*y)) (z3v (x*y))):=by
 obtain ⟨i0,hi,hz0,hz1,hz2⟩:=info_parts z4y
 have hn2:n<=200:=by rw [<- hn];exact (Na.dig_200 x).2 hx
 have hm2:m<=200:=by rw [<- hm];exact (Na.dig_200 y).2 hy
 have HN:=zh hn;have HM:=zh hm;have HS:=zh hs;have HS2:=zh hs2;have HX:=zh hx;have HY:=zh hy;have HV1:Hid (∀ W,Below w.heap.size w W->Calls Tryz.prog 73 #[.agg #[.slice A n c]] W fun e w'=>e=.returned (.bool true)/\Below W.heap.size W w'):=fun W hW=>by
  rw [<- (Na.vld_dig HX.out)]
  exact z0z A n c w.heap.size _ W (by rw [Na.up_length];exact HN.out) (by rw [z0g];exact HS.out.below hW) hW.size (by omega)
 have HV2:Hid (∀ W,Below w.heap.size w W->Calls Tryz.prog 73 #[.agg #[.slice A2 m c2]] W fun e w'=>e=.returned (.bool true)/\Below W.heap.size W w'):=fun W hW=>by
  rw [<- (Na.vld_dig HY.out)]
  exact z0z A2 m c2 w.heap.size _ W (by rw [Na.up_length];exact HM.out) (by rw [z0g];exact HS2.out.below hW) hW.size (by omega)
 obtain ⟨w0,hw0⟩:∃ w0,((w.alloc (.cells #[.slice A n c] 25)).alloc (.cells #[.slice A2 m c2] 25)).alloc (.cells #[.slice none 0 0] 25)=w0:=⟨_,rfl⟩
 have HW:Hid (((w.alloc (.cells #[.slice A n c] 25)).alloc (.cells #[.slice A2 m c2] 25)).alloc (.cells #[.slice none 0 0] 25)=w0):=hw0
 have hb0:Below w.heap.size w w0:=by rw [<- hw0];exact bal (bal (bal (Below.refl _ _) _) _) _
 have HB0:=zh hb0;have hzw:w0.heap.size=w.heap.size+3:=by rw [<- hw0];simp
 have hc0:w0.cell? ⟨w.heap.size,0,none⟩=some (.slice A n c):=by rw [<- hw0];simp [go_sem]
 have hc1:w0.cell? ⟨w.heap.size+1,0,none⟩=some (.slice A2 m c2):=by rw [<- hw0];simp [go_sem]
 have hc2:w0.cell? ⟨w.heap.size+2,0,none⟩=some (.slice none 0 0):=by rw [<- hw0];simp [go_sem]
 have hf2:w0.frozen? ⟨w.heap.size+2,0,none⟩=false:=by rw [<- hw0];simp [go_sem]
 clear hs hs2 hn hm hb0 hw0 hx hy;go_enter Tryz.func46,Tryz.ntmps46
 go_wp2_with fail;rw [HW.out];refine (HV1.out _ HB0.out).mono ?_
 rintro e w1 ⟨rfl,hb⟩;have HB1:=zh (btr HB0.out hb)
 have hd0:w1.cell? ⟨w.heap.size,0,none⟩=some (.slice A n c):=(hb.cell (p:=⟨w.heap.size,0,none⟩) (by simp [hzw])).trans hc0
 have hd1:w1.cell? ⟨w.heap.size+1,0,none⟩=some (.slice A2 m c2):=(hb.cell (p:=⟨w.heap.size+1,0,none⟩) (by simp [hzw])).trans hc1
 have hd2:w1.cell? ⟨w.heap.size+2,0,none⟩=some (.slice none 0 0):=(hb.cell (p:=⟨w.heap.size+2,0,none⟩) (by simp [hzw])).trans hc2
 have hg2:w1.frozen? ⟨w.heap.size+2,0,none⟩=false:=(hb.frozen (p:=⟨w.heap.size+2,0,none⟩) (by simp [hzw])).trans hf2
 have hsz1:w.heap.size+3<=w1.heap.size:=by rw [<- hzw];exact hb.size
 clear hb hc0 hc1 hc2 hf2 HV1 HW hzw HB0;go_wp2_with fail;refine (HV2.out _ HB1.out).mono ?_
 rintro e w2 ⟨rfl,hb⟩;have HBx:=zh (btr HB1.out hb)
 have he0:w2.cell? ⟨w.heap.size,0,none⟩=some (.slice A n c):=(hb.cell (p:=⟨w.heap.size,0,none⟩) (by simp;omega)).trans hd0
 have he1:w2.cell? ⟨w.heap.size+1,0,none⟩=some (.slice A2 m c2):=(hb.cell (p:=⟨w.heap.size+1,0,none⟩) (by simp;omega)).trans hd1
 have he2:w2.cell? ⟨w.heap.size+2,0,none⟩=some (.slice none 0 0):=(hb.cell (p:=⟨w.heap.size+2,0,none⟩) (by simp;omega)).trans hd2
 have hh2:w2.frozen? ⟨w.heap.size+2,0,none⟩=false:=(hb.frozen (p:=⟨w.heap.size+2,0,none⟩) (by simp;omega)).trans hg2
 have hsz2:w.heap.size+3<=w2.heap.size:=zqq hsz1 hb.size
 clear hb hd0 hd1 hd2 hg2;clear HV2;have HMu:=zh (z8af A A2 n c m c2 (Na.dig x) (Na.dig y) w2 HN.out HM.out ((HS.out.below HBx.out).more HBx.out.size) ((HS2.out.below HBx.out).more HBx.out.size) (Na.dig_lim x) (Na.dig_lim y) (by omega) (by omega))
 rw [Na.val_dig,Na.val_dig] at HMu;go_wp2_with fail;refine HMu.out.mono ?_;rintro e w3 ⟨A5,c5,o5,rfl,hl5,hL5,hv5,ho5,hb5⟩;have HR:=zh (z6r A5 (n+m+1) c5 o5 w3 hl5 (Sl.of_own ho5) hL5 (z1j ho5).1 (by omega))
 rw [hv5] at HR;have HB3:=zh hb5;clear hl5 hL5 hv5 ho5 hb5 HMu;go_wp2_with fail;refine HR.out.mono ?_;rintro e w9 ⟨A9,n9,c9,rfl,hn9,ho9,hb9⟩;have HN9:=zh hn9;have HO9:=zh (z1f ho9 HB3.out.size)
 have HB9:=zh (btr HB3.out hb9)
 have hk9:w9.cell? ⟨w.heap.size+2,0,none⟩=some (.slice none 0 0):=(HB9.out.cell (p:=⟨w.heap.size+2,0,none⟩) (by simp only;omega)).trans he2
 have hk9f:w9.frozen? ⟨w.heap.size+2,0,none⟩=false:=(HB9.out.frozen (p:=⟨w.heap.size+2,0,none⟩) (by simp only;omega)).trans hh2
 clear hn9 ho9 hb9;go_wp2_with fail;refine bodyPost_ret (v:=.tuple #[.agg #[.slice A9 n9 c9],.int .i64 (z3v (x*y))]) (by simp [results,Tryz.results46,go_sem,hk9]) rfl ?_
 exact z2b HO9.out HN9.out (by omega) (by omega) (HBx.out.trans (HB9.out.mono HBx.out.size)) (by omega) _ _
theorem z8ai (A A2:Option Addr)(n c m c2:Nat)(zs ys:List Int)(w:World)(hn:zs.length=n)(hm:ys.length=m)(hs:Sl w w.heap.size A (z0p zs))(hs2:Sl w w.heap.size A2 (z0p ys))(hl:n<=140737488351232)(hl2:m<=140737488351232):
  Calls Tryz.prog 46 #[.agg #[.slice A n c],.agg #[.slice A2 m c2]] w (z3m w (mulL zs ys) (mulE zs ys)):=by
 cases hv:(Na.vld zs && Na.vld ys)
 ·have e1:mulL zs ys=[]:=by unfold mulL;rw [hv];rfl
  have e2:mulE zs ys=1:=by unfold mulE;rw [hv];rfl
  rw [e1,e2];cases h1:Na.vld zs
  ·exact z5aq A A2 n c m c2 zs ys w hn hm hs hs2 hl hl2 h1 _ rfl
  ·rw [h1,Bool.true_and] at hv;exact z5ap A A2 n c m c2 zs ys w hn hm hs hs2 hl hl2 h1 hv
 ·obtain ⟨x,y,hx,hy,rfl,rfl⟩:=z9f hv
  rw [(z5c hx hy).1,(z5c hx hy).2]
  rw [z0g] at hs hs2;rw [Na.up_length] at hn hm;exact z3af A A2 n c m c2 x y w hn hm hs hs2 hx hy
end Go.Proofs.YtpmofjomadibmaaGreatDoor
