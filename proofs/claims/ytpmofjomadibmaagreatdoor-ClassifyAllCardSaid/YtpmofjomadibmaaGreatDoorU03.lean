/- NatF NatS NatH NatJ NatT RegInv NatM -/
import Derived.Test.YtpmofjomadibmaaGreatDoorU02
import Derived.RegionIn
import Derived.Lib.IndexBytes
import Derived.Lib.BufferRead
import Derived.RegionTactic
import Derived.ChangeAlike
import Derived.Deep.RegionWith
namespace Go.Proofs.YtpmofjomadibmaaGreatDoor
set_option maxHeartbeats 4000000
open Go.RowKit
set_option linter.unusedVariables false
set_option maxRecDepth 100000
def NPr (w:World)(B:Nat)(X Y:List Nat)(n N g c:Nat)(i:Value)(wr:World):Prop:=
 ∃ (k:Nat) (out:List Nat),k<=n/\i=.int .i64 k/\Hid (out.length=N/\Na.Cols out 281474976710656 k 0/\Na.val out=Na.val (X.take k)*Na.val Y)/\wr.ownsRow B 3 1 (.slice (some ⟨g,0,none⟩) N c) N (z0c out)/\Below B w wr
def NPi (w:World)(B:Nat)(X Y:List Nat)(a i m N g c:Nat)(v:Value)(wr:World):Prop:=
 ∃ (k:Nat) (out:List Nat),k<=m/\v=.int .i64 k/\Hid (out.length=N/\Na.Cols out 281474976710656 i k/\Na.val out=Na.val (X.take i)*Na.val Y+16777216 ^ i*(a*Na.val (Y.take k)))/\wr.ownsRow B 3 1 (.slice (some ⟨g,0,none⟩) N c) N (z0c out)/\Below B w wr
def NPc (w:World)(B:Nat)(out:List Nat)(V N g c:Nat)(i cr:Value)(wr:World):Prop:=
 ∃ (k r:Nat) (o:List Nat),k<=N/\i=.int .i64 k/\cr=.int .i64 r/\r<=288230376151711744/\Hid (o.length=k/\Na.Lim o/\Na.val o+16777216 ^ k*(r+Na.val (out.drop k))=V)/\wr.ownsRow B 3 1 (.slice (some ⟨g,0,none⟩) N c) N (z0c (o++out.drop k))/\Below B w wr
theorem z7l (n:Nat):z0c (List.replicate n 0)=List.replicate n (.int .i64 0):=by simp [z0c,encN]
theorem z3e (A A2:Option Addr)(n c m c2:Nat)(X Y:List Nat)(w:World)(hn:X.length=n)(hm:Y.length=m)(hs:Sl w w.heap.size A (z0c X))(hs2:Sl w w.heap.size A2 (z0c Y))(hX:Na.Lim X)(hY:Na.Lim Y)(hl:n<=1000)(hl2:m<=1000):
  Calls Tryz.prog 128 #[.slice A n c,.slice A2 m c2] w (z4ao w (Na.dig (Na.val X*Na.val Y))):=by
 obtain ⟨i0,hi,hz0,hz1,hz2⟩:=info_parts z4y
 rcases zqh n with h0|h0
 ·subst h0
  have hx:X=[]:=List.eq_nil_of_length_eq_zero hn
  have HR:Hid (Na.dig (Na.val X*Na.val Y)=[]):=by unfold Hid;rw [hx,Na.val,Nat.zero_mul,Na.dig_zero]
  clear hs hs2 hn hm hx;go_enter Tryz.func128,Tryz.ntmps128
  go_wp2_with fail;go_ret;rw [HR.out];exact ⟨none,0,0,rfl,rfl,World.ownsRow_nil _ _ _ _,Below.refl _ _⟩
 ·have hz:=z8t h0
  rcases zqh m with h1|h1
  ·subst h1
   have hx:Y=[]:=List.eq_nil_of_length_eq_zero hm
   have HR:Hid (Na.dig (Na.val X*Na.val Y)=[]):=by unfold Hid;rw [hx,Na.val,Nat.mul_zero,Na.dig_zero]
   clear hs hs2 hn hm hx;go_enter Tryz.func128,Tryz.ntmps128
   go_wp2_with fail;go_ret;rw [HR.out];exact ⟨none,0,0,rfl,rfl,World.ownsRow_nil _ _ _ _,Below.refl _ _⟩
  ·have hz2':=z8t h1
   have hmk:=z1h (P:=Tryz.prog) 22 3 i0 (.int .i64 0) Tryz.underlying22 hi hz0 hz1 .i64 .i64 ((n:Int)+(m:Int)) ((n:Int)+(m:Int)) (n+m) (n+m) (by omega) (by omega) (zqj _) (by rw [hz2];omega) (by omega)
   have HN:=zh hn;have HM:=zh hm;have HS:=zh hs;have HS2:=zh hs2;have HO0:Hid ((w.alloc (.cells (madeCells #[Value.int .i64 0] (n+m)) 3)).ownsRow w.heap.size 3 1 (.slice (some ⟨w.heap.size,0,none⟩) (n+m) (n+m)) (n+m) (z0c (List.replicate (n+m) 0))):=by
    rw [z7l];exact z4d w 3 (.int .i64 0) (n+m) (n+m) rfl (zqj _) (by unfold maxLen;omega)
   have HB0:=zh (bal (Below.refl w.heap.size w) (.cells (madeCells #[Value.int .i64 0] (n+m)) 3))
   clear hs hs2 hn hm;go_enter Tryz.func128,Tryz.ntmps128
   go_wp2_with fail;clear hmk;go_loopw [28] (fun i wr=>NPr w w.heap.size X Y n (n+m) w.heap.size (n+m) i wr) (fun i _=>n - (intOf i).toNat)
   case atStart=>exact ⟨0,_,zqr _,rfl,⟨List.length_replicate,Na.cols_zero _ _,by rw [Na.val_zeros];simp [Na.val]⟩,HO0.out,HB0.out⟩
   case round=>
    clear HO0 HB0;obtain ⟨i,out,hin,rfl,HP,ho,hb⟩:=hrel;have HO:=zh ho;have HB:=zh hb;clear ho hb;rcases zqi i n with hlt|hge
    ·obtain ⟨a,ha⟩:=z0m X i (by rw [HN.out];exact hlt)
     obtain ⟨ad,rfl,hbk,hca⟩:=(HS.out.below HB.out).nat ha
     have ha24:=hX.at ha
     have HRow:=zh (Na.prod_row X Y i a ha)
     clear ha;go_wp2_with fail;clear hca;go_loopw [35] (fun v wr=>NPi w w.heap.size X Y a i m (n+m) w.heap.size (n+m) v wr) (fun v _=>m - (intOf v).toNat)
     case atStart=>exact ⟨0,out,zqr _,rfl,⟨HP.out.1,HP.out.2.1,by rw [HP.out.2.2];simp [Na.val]⟩,HO.out,HB.out⟩
     case round=>
      clear HP HO HB;obtain ⟨k,out,hk,rfl,HP,ho,hb⟩:=hrel;have HO:=zh ho;have HB:=zh hb;rcases zqi k m with hkm|hkm
      ·obtain ⟨b,hbb⟩:=z0m Y k (by rw [HM.out];exact hkm)
       obtain ⟨e,he⟩:=z0m out (i+k) (by rw [HP.out.1];omega)
       obtain ⟨ad2,rfl,hbk2,hcb⟩:=(HS2.out.below hb).nat hbb
       have hce:=z1b ho he
       have hfz:=ho.frozenAt (i+k)
       have hp:=Na.prod24 ha24 (hY.at hbb)
       obtain ⟨p,hpp⟩:∃ p,a*b=p:=⟨_,rfl⟩
       have hp1:(a:Int)*(b:Int)=(p:Int):=by rw [<- hpp];rfl
       have he2:e<=281474976710656000:=by
        have h7:=(HP.out.2.1 _ _ he).2 (zqj _)
        have h8:=Nat.mul_le_mul_right 281474976710656 (show i<=1000 by omega)
        omega
       have HSt:=zh (Na.prod_step out X Y i k e a b _ he HP.out.2.2 hbb)
       have HCo:=zh (Na.cols_step HP.out.2.1 he hp)
       rw [hpp] at HSt HCo hp;clear ho hb hbb he hpp;have s1:IntKind.i64.wrap ((i:Int)+(k:Int))=(i:Int)+(k:Int):=IntWalk.i64_in _ (by omega)
       have s2:0<=(i:Int)+(k:Int):=by omega
       have s3:(i:Int)+(k:Int)<n+(m:Int):=by omega
       have s4:((i:Int)+(k:Int)).toNat=i+k:=by omega
       go_wp2_with fail;go_roundw
       case rel=>
        have o1:=z1x HO.out (i+k) (.int .i64 ((e+p:Nat):Int))
        rw [z1s] at o1;exact ⟨k+1,out.set (i+k) (e+p),by omega,by go_num,⟨by rw [List.length_set];exact HP.out.1,HCo.out,HSt.out⟩,o1,z4z HB.out ⟨w.heap.size,i+k,none⟩ (zqj _) _⟩
       case measure=>simp [intOf];omega
      ·have hkm':k=m:=by omega
       have HP2:Hid (out.length=n+m/\Na.Cols out 281474976710656 (i+1) 0/\Na.val out=Na.val (X.take (i+1))*Na.val Y):=by
        refine ⟨HP.out.1,Na.cols_row HP.out.2.1,?_⟩
        have h7:=HP.out.2.2;rw [hkm',zqp (l:=Y) (by rw [HM.out];exact zqj _),HRow.out] at h7
        exact h7
       clear hkm' ho hb;go_wp2_with fail;go_roundw
       case rel=>exact ⟨i+1,out,by omega,by go_num,HP2,HO.out,HB.out⟩
       case measure=>simp [intOf];omega
    ·have hin':i=n:=by omega
     have HV:Hid (Na.val out=Na.val X*Na.val Y):=by
      have h7:=HP.out.2.2;rw [zqp (by rw [HN.out];exact hge)] at h7
      exact h7
     have HCol:Hid (∀ j e,out[j]?=some e->e<=281756451687366656):=fun j e he=>by
      have h7:=(HP.out.2.1 j e he).1
      have h8:=Nat.mul_le_mul_right 281474976710656 (show i+1<=1001 by omega)
      omega
     have HLo:Hid (out.length=n+m):=HP.out.1
     clear hin' HP;go_wp2_with fail;go_loopw [55,10] (fun v cr wr=>NPc w w.heap.size out (Na.val X*Na.val Y) (n+m) w.heap.size (n+m) v cr wr) (fun v _ _=>n+m - (intOf v).toNat)
     case atStart=>exact ⟨0,0,[],zqr _,rfl,rfl,zqr _,⟨rfl,Na.Lim.nil,by simp [Na.val,HV.out]⟩,by simpa using HO.out,HB.out⟩
     case round=>
      clear HO HB;obtain ⟨k,r,o,hk,rfl,rfl,hr,HP,ho,hb⟩:=hrel;have HO:=zh ho;have HB:=zh hb;rcases zqi k (n+m) with hkm|hkm
      ·obtain ⟨e,he⟩:=z0m out k (by rw [HLo.out];exact hkm)
       have he2:=HCol.out k e he
       have hce:=z1b ho (Na.get_mid o out k e HP.out.1 he)
       have hfz:=ho.frozenAt k
       obtain ⟨t,ht⟩:∃ t,r+e=t:=⟨_,rfl⟩
       obtain ⟨q,hq⟩:∃ q,t / 16777216=q:=⟨_,rfl⟩
       obtain ⟨d,hd⟩:∃ d,t % 16777216=d:=⟨_,rfl⟩
       have HSt:=zh (Na.carry_step o out k r e t _ HP.out.1 he HP.out.2.2 ht.symm)
       rw [hq,hd] at HSt;have hand:bits .and .i64 ((r:Int)+(e:Int)) 16777215=(d:Int):=by rw [z6m];omega
       have hshr:((r:Int)+(e:Int)) / 16777216=(q:Int):=by omega
       have hq1:q<=288230376151711744:=by omega
       have hd24:d<16777216:=by omega
       have HLr:=zh (HP.out.2.1.append (Na.Lim.one hd24))
       have HLl:Hid ((o++[d]).length=k+1):=by unfold Hid;rw [zqm,HP.out.1];rfl
       have HSet:=zh (Na.set_mid o out k d HP.out.1 (by rw [HLo.out];exact hkm))
       have s3:(k:Int)<n+(m:Int):=by omega
       clear ho hb he ht hq hd;go_wp2_with fail;go_roundw
       case rel=>
        have o1:=z1x HO.out k (.int .i64 d)
        rw [z1s,HSet.out] at o1;exact ⟨k+1,q,o++[d],by omega,by go_num,rfl,hq1,⟨HLl.out,HLr.out,HSt.out⟩,o1,z4z HB.out ⟨w.heap.size,k,none⟩ (zqj _) _⟩
       case measure=>simp [intOf];omega
      ·have hkm':k=n+m:=by omega
       have HLen:Hid (o.length=n+m):=by unfold Hid;rw [<- hkm'];exact HP.out.1
       have HEnd:Hid (Na.val o=Na.val X*Na.val Y):=by
        have h7:=Na.carry_end o out k r _ HP.out.1 (by rw [HLo.out];exact hkm) HP.out.2.2 (by have:=Na.val_mul_lt hX hY;rw [HN.out,HM.out] at this;rw [hkm'];exact this)
        exact h7
       have HOwn:Hid (wr.ownsRow w.heap.size 3 1 (.slice (some ⟨w.heap.size,0,none⟩) (n+m) (n+m)) (n+m) (z0c o)):=by
        have h7:=ho;rw [List.drop_of_length_le (by rw [HLo.out];exact hkm),List.append_nil] at h7
        exact h7
       have HTr:=zh (z3w (some ⟨w.heap.size,0,none⟩) (n+m) (n+m) _ o wr HLen.out (Sl.of_own HOwn.out) (zqj _) (by omega))
       have HT2:=zh (Na.trim_dig HP.out.2.1)
       clear ho hb hkm';go_wp2_with fail;refine HTr.out.mono ?_;rintro e w9 ⟨rfl,rfl⟩;go_wp2_with fail;go_ret;rw [<- HEnd.out,<- HT2.out];refine ⟨_,_,_,rfl,?_,?_,HB.out⟩
       ·rw [Na.trim_length,HLen.out]
       ·unfold Na.trim;rw [HLen.out,<- z3f];exact z3j HOwn.out (Na.tl_le o (n+m))
theorem z2bf (A A2:Option Addr)(n c m c2:Nat)(zs ys:List Int)(w:World)(hn:zs.length=n)(hm:ys.length=m)(hs:Sl w w.heap.size A (z0p zs))(hs2:Sl w w.heap.size A2 (z0p ys))(hl:n<=140737488351232)(hl2:m<=140737488351232)(hv:(Na.vld zs && Na.vld ys)=false):
  Calls Tryz.prog 98 #[.agg #[.slice A n c],.agg #[.slice A2 m c2]] w (z3m w [] 1):=by
 obtain ⟨w0,hw0⟩:∃ w0,((w.alloc (.cells #[.slice A n c] 25)).alloc (.cells #[.slice A2 m c2] 25)).alloc (.cells #[.slice none 0 0] 25)=w0:=⟨_,rfl⟩
 have HW:Hid (((w.alloc (.cells #[.slice A n c] 25)).alloc (.cells #[.slice A2 m c2] 25)).alloc (.cells #[.slice none 0 0] 25)=w0):=hw0
 have hb0:Below w.heap.size w w0:=by rw [<- hw0];exact bal (bal (bal (Below.refl _ _) _) _) _
 have HB0:=zh hb0;have hzw:w0.heap.size=w.heap.size+3:=by rw [<- hw0];simp
 have hc0:w0.cell? ⟨w.heap.size,0,none⟩=some (.slice A n c):=by rw [<- hw0];simp [go_sem]
 have hc1:w0.cell? ⟨w.heap.size+1,0,none⟩=some (.slice A2 m c2):=by rw [<- hw0];simp [go_sem]
 have hc2:w0.cell? ⟨w.heap.size+2,0,none⟩=some (.slice none 0 0):=by rw [<- hw0];simp [go_sem]
 have hf2:w0.frozen? ⟨w.heap.size+2,0,none⟩=false:=by rw [<- hw0];simp [go_sem]
 have HV:=zh (z1y A A2 n c m c2 w0.heap.size zs ys w0 hn hm ((hs.below hb0).more hb0.size) ((hs2.below hb0).more hb0.size) (zqj _) hl hl2)
 rw [hv] at HV;clear hs hs2 hn hm hb0 hw0 hv;go_enter Tryz.func98,Tryz.ntmps98
 go_wp2_with fail;rw [HW.out];refine HV.out.mono ?_;rintro e w1 ⟨rfl,hb⟩;have HB1:=zh (btr HB0.out hb)
 have hd0:w1.cell? ⟨w.heap.size,0,none⟩=some (.slice A n c):=(hb.cell (p:=⟨w.heap.size,0,none⟩) (by simp [hzw])).trans hc0
 have hd1:w1.cell? ⟨w.heap.size+1,0,none⟩=some (.slice A2 m c2):=(hb.cell (p:=⟨w.heap.size+1,0,none⟩) (by simp [hzw])).trans hc1
 have hd2:w1.cell? ⟨w.heap.size+2,0,none⟩=some (.slice none 0 0):=(hb.cell (p:=⟨w.heap.size+2,0,none⟩) (by simp [hzw])).trans hc2
 have hg2:w1.frozen? ⟨w.heap.size+2,0,none⟩=false:=(hb.frozen (p:=⟨w.heap.size+2,0,none⟩) (by simp [hzw])).trans hf2
 have hsz1:w.heap.size+3<=w1.heap.size:=by rw [<- hzw];exact hb.size
 clear hb hc0 hc1 hc2 hf2 HV HW hzw HB0;go_wp2_with fail;refine bodyPost_ret (v:=.tuple #[.agg #[.slice none 0 0],.int .i64 1]) (by simp [results,Tryz.results98,go_sem,hd2]) rfl ?_
 exact z0y _ _ _ (z4z HB1.out _ (by show w.heap.size<=w.heap.size+2;omega) _)
def mulL (zs ys:List Int):List Nat:=if Na.vld zs && Na.vld ys then z4j (num zs*num ys) else []
def mulE (zs ys:List Int):Int:=if Na.vld zs && Na.vld ys then z3v (num zs*num ys) else 1
theorem z5c {x y:Nat}(hx:x<Na.top)(hy:y<Na.top):mulL (Na.up (Na.dig x)) (Na.up (Na.dig y))=z4j (x*y)/\mulE (Na.up (Na.dig x)) (Na.up (Na.dig y))=z3v (x*y):=by
 unfold mulL mulE;rw [Na.vld_dig hx,Na.vld_dig hy,z0l,z0l];exact ⟨rfl,rfl⟩
theorem z6bt (A A2:Option Addr)(n c m c2:Nat)(x y:Nat)(w:World)(hn:(Na.dig x).length=n)(hm:(Na.dig y).length=m)(hs:Sl w w.heap.size A (z0c (Na.dig x)))(hs2:Sl w w.heap.size A2 (z0c (Na.dig y)))(hx:x<Na.top)(hy:y<Na.top):
  Calls Tryz.prog 98 #[.agg #[.slice A n c],.agg #[.slice A2 m c2]] w (z3m w (z4j (x*y)) (z3v (x*y))):=by
 have hn2:n<=200:=by rw [<- hn];exact (Na.dig_200 x).2 hx
 have hm2:m<=200:=by rw [<- hm];exact (Na.dig_200 y).2 hy
 obtain ⟨w0,hw0⟩:∃ w0,((w.alloc (.cells #[.slice A n c] 25)).alloc (.cells #[.slice A2 m c2] 25)).alloc (.cells #[.slice none 0 0] 25)=w0:=⟨_,rfl⟩
 have HW:Hid (((w.alloc (.cells #[.slice A n c] 25)).alloc (.cells #[.slice A2 m c2] 25)).alloc (.cells #[.slice none 0 0] 25)=w0):=hw0
 have hb0:Below w.heap.size w w0:=by rw [<- hw0];exact bal (bal (bal (Below.refl _ _) _) _) _
 have HB0:=zh hb0;have hzw:w0.heap.size=w.heap.size+3:=by rw [<- hw0];simp
 have hc0:w0.cell? ⟨w.heap.size,0,none⟩=some (.slice A n c):=by rw [<- hw0];simp [go_sem]
 have hc1:w0.cell? ⟨w.heap.size+1,0,none⟩=some (.slice A2 m c2):=by rw [<- hw0];simp [go_sem]
 have hc2:w0.cell? ⟨w.heap.size+2,0,none⟩=some (.slice none 0 0):=by rw [<- hw0];simp [go_sem]
 have hf2:w0.frozen? ⟨w.heap.size+2,0,none⟩=false:=by rw [<- hw0];simp [go_sem]
 have hvv:(Na.vld (Na.up (Na.dig x)) && Na.vld (Na.up (Na.dig y)))=true:=by rw [Na.vld_dig hx,Na.vld_dig hy];rfl
 have HV:=zh (z1y A A2 n c m c2 w0.heap.size _ _ w0 (by rw [Na.up_length];exact hn) (by rw [Na.up_length];exact hm) (by rw [z0g];exact (hs.below hb0).more hb0.size) (by rw [z0g];exact (hs2.below hb0).more hb0.size) (zqj _) (by omega) (by omega))
 rw [hvv] at HV;have HN:=zh hn;have HM:=zh hm;have HS:=zh hs;have HS2:=zh hs2;clear hs hs2 hn hm hb0 hw0 hvv hx hy;go_enter Tryz.func98,Tryz.ntmps98
 go_wp2_with fail;rw [HW.out];refine HV.out.mono ?_;rintro e w1 ⟨rfl,hb⟩;have HB1:=zh (btr HB0.out hb)
 have hd0:w1.cell? ⟨w.heap.size,0,none⟩=some (.slice A n c):=(hb.cell (p:=⟨w.heap.size,0,none⟩) (by simp [hzw])).trans hc0
 have hd1:w1.cell? ⟨w.heap.size+1,0,none⟩=some (.slice A2 m c2):=(hb.cell (p:=⟨w.heap.size+1,0,none⟩) (by simp [hzw])).trans hc1
 have hd2:w1.cell? ⟨w.heap.size+2,0,none⟩=some (.slice none 0 0):=(hb.cell (p:=⟨w.heap.size+2,0,none⟩) (by simp [hzw])).trans hc2
 have hg2:w1.frozen? ⟨w.heap.size+2,0,none⟩=false:=(hb.frozen (p:=⟨w.heap.size+2,0,none⟩) (by simp [hzw])).trans hf2
 have hsz1:w.heap.size+3<=w1.heap.size:=by rw [<- hzw];exact hb.size
 clear hb hc0 hc1 hc2 hf2 HV HW hzw HB0;have HPr:=zh (z3e A A2 n c m c2 (Na.dig x) (Na.dig y) w1 HN.out HM.out ((HS.out.below HB1.out).more HB1.out.size) ((HS2.out.below HB1.out).more HB1.out.size) (Na.dig_lim x) (Na.dig_lim y) (by omega) (by omega))
 rw [Na.val_dig,Na.val_dig] at HPr;go_wp2_with fail;refine HPr.out.mono ?_;rintro e w2 ⟨A5,n5,c5,rfl,hn5,ho5,hb5⟩;have hl5:n5<=400:=by
  rw [<- hn5];have h1:=Na.dig_len_mul x y
  rw [HN.out,HM.out] at h1;omega
 have HR:=zh (z2u A5 n5 c5 w1.heap.size (Na.dig (x*y)) w2 hn5 ho5 (Na.dig_lim _) (by omega))
 rw [Na.val_dig] at HR;have HB2:=zh hb5;clear hn5 ho5 hb5;go_wp2_with fail;refine HR.out.mono ?_;rintro e w9 ⟨A9,n9,c9,rfl,hn9,ho9,hb9⟩;have HN9:=zh hn9;have HO9:=zh ho9;have HB9:=zh (btr HB2.out hb9)
 have hk9:w9.cell? ⟨w.heap.size+2,0,none⟩=some (.slice none 0 0):=(HB9.out.cell (p:=⟨w.heap.size+2,0,none⟩) (by simp;omega)).trans hd2
 have hk9f:w9.frozen? ⟨w.heap.size+2,0,none⟩=false:=(HB9.out.frozen (p:=⟨w.heap.size+2,0,none⟩) (by simp;omega)).trans hg2
 clear hn9 ho9 hb9 hd0 hd1 hd2 hg2;go_wp2_with fail;refine bodyPost_ret (v:=.tuple #[.agg #[.slice A9 n9 c9],.int .i64 (z3v (x*y))]) (by simp [results,Tryz.results98,go_sem,hk9]) rfl ?_
 exact z2b HO9.out HN9.out (by omega) (by omega) (HB1.out.trans (HB9.out.mono HB1.out.size)) (by omega) _ _
theorem z2bg (A A2:Option Addr)(n c m c2:Nat)(zs ys:List Int)(w:World)(hn:zs.length=n)(hm:ys.length=m)(hs:Sl w w.heap.size A (z0p zs))(hs2:Sl w w.heap.size A2 (z0p ys))(hl:n<=140737488351232)(hl2:m<=140737488351232):
  Calls Tryz.prog 98 #[.agg #[.slice A n c],.agg #[.slice A2 m c2]] w (z3m w (mulL zs ys) (mulE zs ys)):=by
 cases hv:(Na.vld zs && Na.vld ys)
 ·have e1:mulL zs ys=[]:=by unfold mulL;rw [hv];rfl
  have e2:mulE zs ys=1:=by unfold mulE;rw [hv];rfl
  rw [e1,e2];exact z2bf A A2 n c m c2 zs ys w hn hm hs hs2 hl hl2 hv
 ·obtain ⟨x,y,hx,hy,rfl,rfl⟩:=z9f hv
  rw [(z5c hx hy).1,(z5c hx hy).2]
  rw [z0g] at hs hs2;rw [Na.up_length] at hn hm;exact z6bt A A2 n c m c2 x y w hn hm hs hs2 hx hy
open Go.RowKit Go.Shelf
attribute [local go_sem] Oper.semAt_some
set_option linter.unusedVariables false
set_option maxRecDepth 100000
namespace Na
set_option maxHeartbeats 4000000
theorem small_step (L Q:List Nat)(d k a rest:Nat)(hd:0<d)(ha:L[k]?=some a)(hl:Lim L)(hq:Lim Q)(hv:val (L.drop (k+1))=d*val Q+rest)(hr:rest<d):
  Lim ((16777216*rest+a) / d :: Q)/\val (L.drop k)=d*val ((16777216*rest+a) / d :: Q)+(16777216*rest+a) % d/\(16777216*rest+a) % d<d:=by
 have h1:=hl.at ha
 have h2:(16777216*rest+a) / d<16777216:=by
  rw [Nat.div_lt_iff_lt_mul hd];have:rest+1<=d:=hr
  have h3:=Nat.mul_le_mul_left 16777216 this
  omega
 refine ⟨Lim.cons h2 hq,?_,Nat.mod_lt _ hd⟩
 rw [val_drop_cons L k a ha,hv,val,zqt,zqt];have h4:=Nat.div_add_mod (16777216*rest+a) d
 have h5:d*(16777216*val Q)=16777216*(d*val Q):=Nat.mul_left_comm _ _ _
 omega
theorem small_set (L Q:List Nat)(k q:Nat)(h:k<L.length):(L.take (k+1)++Q).set k q=L.take k++(q :: Q):=by
 have h1:(L.take k).length=k:=by rw [zqw];omega
 rw [List.take_add_one,zql h,Option.toList_some,zqa,List.set_append_right _ _ (by omega),h1,Nat.sub_self]
 rfl
end Na
theorem add_zero (b j:Nat):(⟨b,0,none⟩:Addr).add j=⟨b,j,none⟩:=by
 unfold Addr.add;split
 ·rename_i h
  rw [h]
 ·simp
theorem z1bt {W W':World}{base n c B:Nat}{e:TypeId}{A:Option Addr}{xs:List Value}{row:Option Nat}(h:W.ownsRow base e 1 (.slice A n c) n xs)(hb:∀ g,(Value.slice A n c).ownBlock=some g->g<B)(hg:W.grownBy W' row)(hr:∀ r,row=some r->B<=r/\∃ o:Obj,W.heap[r]?=some o/\o.isCells=false):W'.ownsRow base e 1 (.slice A n c) n xs:=by
 refine z2d h hg ?_
 cases hA:(Value.slice A n c).ownBlock with
 | none=>exact .inl rfl
 | some g=>
  refine .inr fun e=>?_
  have h1:=hb g hA
  have h2:=(hr g e.symm).1
  omega
def SmI (w:World)(base:Nat)(A:Option Addr)(n c:Nat)(L:List Nat)(d:Nat)(k:Nat)(W:World):Prop:=
 ∃ (Q:List Nat) (rest:Nat),(Q.length=k/\Na.Lim Q/\Na.val (L.drop (n - k))=d*Na.val Q+rest/\rest<d)/\W.ownsRow base 3 1 (.slice A n c) n (z0c (L.take (n - k)++Q))/\
  (W.cell? ⟨w.heap.size,0,none⟩=some (.slice A n c)/\W.cell? ⟨w.heap.size+1,0,none⟩=some (.int .i64 d)/\W.cell? ⟨w.heap.size+2,0,none⟩=some (.int .i64 rest)/\W.frozen? ⟨w.heap.size+2,0,none⟩=false/\W.cell? ⟨w.heap.size+3,0,none⟩=some (.slice A n c))/\
  w.grownBy W (Value.slice A n c).ownBlock
theorem z8ac (F:Fence)(N:Nat)(q1:F.fn 152)(q2:F.fn 145)(q3:F.fn 151)(hro:F.round=none)(hN:3<=N)
  (A:Option Addr) (n c base:Nat) (L:List Nat) (d:Nat) (w:World) (hn:L.length=n) (ho:w.ownsRow base 3 1 (.slice A n c) n (z0c L)) (hL:Na.Lim L) (hd:1<=d) (hd2:d<=274877906944) (hl:n<=140737488351232) :
  CallsIn F N Tryz.prog 152 #[.slice A n c,.int .i64 d] w fun e w'=>∃ Q:List Nat,e=.returned (.int .i64 ((Na.val L % d:Nat):Int))/\Q.length=n/\Na.Lim Q/\Na.val Q=Na.val L / d/\w'.ownsRow base 3 1 (.slice A n c) n (z0c Q)/\w.grownBy w' (Value.slice A n c).ownBlock:=by
 have h1:1<=N:=by omega
 refine callsIn_of_wp_marks Tryz.func152 rfl q1 ?_ hro
 simp only [Tryz.ntmps152,List.size_toArray,List.length_cons,List.length_nil,Nat.reduceAdd,Nat.reduceSub,Array.replicate_succ,Array.replicate_zero,List.push_toArray,List.append_toArray,zqc,zqb];gi_wp2_with (gi_at_call 145;refine (z4ag F (N - 1) q2 hro _ _ _ _).mono ?_;rintro e w' ⟨rfl,rfl⟩)
 have bL:=Boxed.new w 22 (.slice A n c)
 have bD:=Boxed.new (w.alloc (.cells #[.slice A n c] 22)) 3 (.int .i64 d)
 have bR:=Boxed.new ((w.alloc (.cells #[.slice A n c] 22)).alloc (.cells #[.int .i64 d] 3)) 3 (.int .i64 0)
 have bS:=Boxed.new (((w.alloc (.cells #[.slice A n c] 22)).alloc (.cells #[.int .i64 d] 3)).alloc (.cells #[.int .i64 0] 3)) 22 (.slice A n c)
 simp only [World.size_alloc] at bD bR bS;have HG0:Hid (w.grownBy ((((w.alloc (.cells #[.slice A n c] 22)).alloc (.cells #[.int .i64 d] 3)).alloc (.cells #[.int .i64 0] 3)).alloc (.cells #[.slice A n c] 22)) (Value.slice A n c).ownBlock):=
  z1q (z1q (z1q (z1q (World.grownBy.refl w _) _) _) _) _
 have HI0:Hid (SmI w base A n c L d 0 ((((w.alloc (.cells #[.slice A n c] 22)).alloc (.cells #[.int .i64 d] 3)).alloc (.cells #[.int .i64 0] 3)).alloc (.cells #[.slice A n c] 22))):=
  ⟨[],0,⟨rfl,Na.Lim.nil,by rw [List.drop_of_length_le (by omega)];rfl,hd⟩,by rw [List.append_nil,Nat.sub_zero,zqp (by omega)];exact z0x (z0x (z0x (z0x ho _) _) _) _,
   ⟨(((bL.alloc _).alloc _).alloc _).cell,((bD.alloc _).alloc _).cell,(bR.alloc _).cell,(bR.alloc _).frozen,bS.cell⟩,HG0.out⟩
 have HBk:Hid (∀ g,(Value.slice A n c).ownBlock=some g->g<w.heap.size):=fun g hg=>(ho.lt g hg).2
 have HN:=zh hn;have HL:=zh hL;clear hn ho hL bL bD bR bS HG0;refine z8d (F:=F) (n:=N) (A:=A) (Bs:=w.heap.size+1+1+1) (len:=n) (cap:=c) q3 hro (by omega) ?hg ?hps hl
  (SmI w base A n c L d) (fun _=>False) ?hI ?hX ?hBx ?hRd HI0.out ?a1 ?assign ?body ?done ?stop
 case hg=>rfl
 case hps=>rfl
 case hI=>
  rintro k W W' row ⟨Q,rest,hp,ho,⟨h1,h2,h3,h4,h5⟩,hg0⟩ hg hr;have hr':∀ r,row=some r->∃ o:Obj,W.heap[r]?=some o/\o.isCells=false:=fun r e=>(hr r e).2
  refine ⟨Q,rest,hp,z1bt ho (fun g e=>zqv (HBk.out g e) (by simp;omega)) hg hr,⟨cell_kept h1 hg hr',cell_kept h2 hg hr',cell_kept h3 hg hr',(frozen_kept h3 hg hr').trans h4,cell_kept h5 hg hr'⟩,?_⟩
  exact z0t hg0 hg (fun x e=>by have:=(hr x e).1;simp at this;omega)
 case hX=>exact fun _ _ _ _ h=>h.elim
 case hBx=>
  rintro k W ⟨Q,rest,hp,ho,hc,hg⟩;exact hc.2.2.2.2
 case hRd=>
  rintro k W ⟨Q,rest,hp,ho,hc,hg⟩ hk;obtain ⟨a,ha⟩:=z0m (L.take (n - k)++Q) (n - 1 - k) (by rw [zqm,zqw,HN.out];omega)
  obtain ⟨g,rfl,_,_⟩:=z0n ho (by omega)
  exact ⟨_,_,rfl,by rw [add_zero];exact z1b ho ha⟩
 case assign=>
  intro l k v W K hK;dsimp only [z4f]
  gi_wp2
  exact hK
 case body=>
  rintro l k v W ⟨Q,rest,⟨p1,p2,p3,p4⟩,ho,⟨h1,h2,h3,h4,h5⟩,hg⟩ hk hR;obtain ⟨j,hj⟩:∃ j,n - 1 - k=j:=⟨_,rfl⟩
  obtain ⟨ad',e1,hv⟩:=hR;rw [hj] at hv ⊢
  obtain ⟨a,ha⟩:=z0m L j (by rw [HN.out];omega)
  obtain ⟨g,rfl,hgb,_⟩:=z0n ho (by omega)
  obtain rfl:=zqk e1
  have ha2:(L.take (n - k)++Q)[j]?=some a:=by
   rw [zqn (by rw [zqw,HN.out];omega),List.getElem?_take,if_pos (by omega)]
   exact ha
  rw [add_zero,z1b ho ha2] at hv;obtain rfl:=zqk hv
  obtain ⟨T,hT⟩:∃ T,16777216*rest+a=T:=⟨_,rfl⟩
  have ha3:=HL.out.at ha
  have hT1:(rest:Int)*16777216+(a:Int)=(T:Int):=by omega
  have hT2:T<4611686018427387904:=by omega
  have HST:=zh (Na.small_step L Q d j a rest hd ha HL.out p2 (by rw [show n - k=j+1 by omega] at p3;exact p3) p4)
  have HSE:=zh (Na.small_set L Q j (T / d) (by rw [HN.out];omega))
  have HO:=zh ho;have HG:=zh hg;have hgw:g<w.heap.size:=HBk.out g rfl
  have hTd:=HST.out.1.head;obtain ⟨qn,hqn⟩:∃ qn,T / d=qn:=⟨_,rfl⟩
  obtain ⟨rn,hrn⟩:∃ rn,T % d=rn:=⟨_,rfl⟩
  rw [hT,hqn] at hTd;have hqb:(qn:Int)<=16777215:=by omega
  have hqb0:0<=(qn:Int):=by omega
  have hq1:(T:Int) / (d:Int)=(qn:Int):=by rw [<- hqn];rfl
  have hr1:(T:Int) % (d:Int)=(rn:Int):=by rw [<- hrn];rfl
  rw [hT,hqn,hrn] at HST;rw [hqn] at HSE;have hHF:Hid (∃ W1,W.setCell ⟨w.heap.size+1+1,0,none⟩ (.int .i64 T)=W1/\W1.cell? ⟨w.heap.size,0,none⟩=some (.slice (some ⟨g,0,none⟩) n c)/\W1.cell? ⟨w.heap.size+1,0,none⟩=some (.int .i64 d)/\W1.cell? ⟨w.heap.size+1+1,0,none⟩=some (.int .i64 T)/\
    W1.frozen? ⟨w.heap.size+1+1,0,none⟩=false/\W1.cell? ⟨w.heap.size+1+1+1,0,none⟩=some (.slice (some ⟨g,0,none⟩) n c)/\W1.ownsRow base 3 1 (.slice (some ⟨g,0,none⟩) n c) n (z0c (L.take (n - k)++Q))/\w.grownBy W1 (some g)/\KeepsFrom (w.heap.size+1+1+1+1) W W1):=
   ⟨_,rfl,by rw [World.cell?_setCell_other _ _ _ _ (by simp)];exact h1,by rw [World.cell?_setCell_other _ _ _ _ (by simp)];exact h2,z0k _ h3,by rw [World.frozen?_setCell];exact h4,by rw [World.cell?_setCell_other _ _ _ _ (by simp)];exact h5,
    z2d ho (z0f _ _ _) (.inr (by simp [Value.ownBlock];omega)),z0t hg (z0f _ _ _) (fun x e=>by cases e;simp;omega),(KeepsOthers.setCell _ _ _).from _⟩
  have hjn:(j:Int)<n:=by omega
  have hj2:j+k+1=n:=by omega
  clear e1 ha hv HI0 ha2 ho hg p3 HBk hT hqn hrn hj;gi_wp2
  clear h1 h2 h3 h4 h5;obtain ⟨W1,hW1,h1,h2,h3,h4,h5,ho,hg,hkf⟩:=hHF.out;rw [hW1];have hfz:=ho.frozenAt j
  have HOs:=zh (ho.drew.stored j (.int .i64 qn))
  have HG1:=zh hg;have HKF:=zh hkf;have HO1:=zh ho;clear hHF hW1 hg hkf ho HO HG;obtain ⟨oldv,hold⟩:∃ u,W1.cell? ⟨g,j,none⟩=some u:=by
   obtain ⟨a9,ha9⟩:=z0m (L.take (n - k)++Q) j (by rw [zqm,zqw,HN.out];omega)
   exact ⟨_,z1b HO1.out ha9⟩
  have hHF2:Hid (∃ W2,(W1.setCell ⟨g,j,none⟩ (.int .i64 qn)).drew=W2/\W2.cell? ⟨w.heap.size,0,none⟩=some (.slice (some ⟨g,0,none⟩) n c)/\W2.cell? ⟨w.heap.size+1,0,none⟩=some (.int .i64 d)/\W2.cell? ⟨w.heap.size+1+1,0,none⟩=some (.int .i64 T)/\
    W2.frozen? ⟨w.heap.size+1+1,0,none⟩=false/\W2.cell? ⟨w.heap.size+1+1+1,0,none⟩=some (.slice (some ⟨g,0,none⟩) n c)/\W2.ownsRow base 3 1 (.slice (some ⟨g,0,none⟩) n c) n (z0c (L.take j++(qn :: Q)))/\w.grownBy W2 (some g)/\KeepsFrom (w.heap.size+1+1+1+1) W W2):=by
   have o1:=HOs.out;have e3:L.take (n - k)++Q=L.take (j+1)++Q:=by rw [show n - k=j+1 by omega]
   rw [z1s,e3,HSE.out] at o1;refine ⟨_,rfl,(World.cell?_setCell_other _ _ _ _ (by intro e;simp at e <;> omega)).trans h1,(World.cell?_setCell_other _ _ _ _ (by intro e;simp at e <;> omega)).trans h2,(World.cell?_setCell_other _ _ _ _ (by intro e;simp at e <;> omega)).trans h3,?_,(World.cell?_setCell_other _ _ _ _ (by intro e;simp at e <;> omega)).trans h5,o1.1,z0j HG1.out ?_,HKF.out.trans (((KeepsOthers.setCell _ _ _).from _).trans ((KeepsOthers.drew _).from _))⟩
   ·show (W1.setCell ⟨g,j,none⟩ (.int .i64 qn)).frozen? _=false
    rw [World.frozen?_setCell];exact h4
   ·exact ⟨rfl,rfl,rfl,by simp [World.setCell],fun i hi hne=>Below.heap_setCell _ _ _ _ (fun e=>hne (by rw [e]))⟩
  clear HOs HKF HSE HO1 HG1;gi_region
  all_goals
   clear h1 h2 h3 h4 h5 hfz hold;obtain ⟨W2,hW2,h1,h2,h3,h4,h5,ho,hg,hkf⟩:=hHF2.out;rw [hW2];have HOf:=zh ho;have HG:=zh hg;have HKF:=zh hkf;clear hHF2 hW2 ho hg hkf;gi_wp2
   refine ⟨?_,qn :: Q,rn,⟨by rw [List.length_cons,p1],HST.out.1,by rw [show n - (k+1)=j by omega];exact HST.out.2.1,HST.out.2.2⟩,?_,⟨?_,?_,z0k _ h3,?_,?_⟩,?_⟩
   ·simp only [World.size_alloc];exact HKF.out.trans ((KeepsOthers.setCell _ _ _).from _)
   ·rw [show n - (k+1)=j by omega]
    exact z2d HOf.out (z0f _ _ _) (.inr (by simp [Value.ownBlock];omega))
   ·rw [World.cell?_setCell_other _ _ _ _ (by simp)];exact h1
   ·rw [World.cell?_setCell_other _ _ _ _ (by simp)];exact h2
   ·rw [World.frozen?_setCell];exact h4
   ·rw [World.cell?_setCell_other _ _ _ _ (by simp)];exact h5
   ·exact z0t HG.out (z0f _ _ _) (fun x e=>by cases e;simp;omega)
 case done=>
  rintro D W hD ⟨Q,rest,⟨p1,p2,p3,p4⟩,ho,⟨h1,h2,h3,h4,h5⟩,hg⟩ hK;have hD2:w.heap.size+4<=D:=by simpa using hD
  rw [Nat.sub_self,List.drop_zero] at p3;rw [Nat.sub_self,List.take_zero,zqc] at ho;have HV1:Hid (rest=Na.val L % d):=by
   unfold Hid;rw [p3,Nat.mul_add_mod,Nat.mod_eq_of_lt p4]
  have HV2:Hid (Na.val Q=Na.val L / d):=by
   unfold Hid;rw [p3,Nat.mul_add_div hd,Nat.div_eq_of_lt p4,Nat.add_zero]
  have HP2:=zh p2;have HO:=zh ho;have HG:=zh hg;clear p3 HI0 p2 ho hg;gi_wp2
  refine ⟨by simp,.inl ⟨_,_,rfl,run_takeDeferred hK,?_⟩⟩
  refine ⟨_,results_tmp rfl _ _ _,Q,by rw [<- HV1.out];rfl,p1,HP2.out,HV2.out,z2d HO.out (grownBy_putObj' _ D _) ?_,z0t HG.out (grownBy_putObj' _ D _) (fun x e=>by cases e;omega)⟩
  cases hA:(Value.slice A n c).ownBlock with
  | none=>exact .inl rfl
  | some g=>
   have:=HBk.out g hA
   exact .inr (fun e=>by cases e;omega)
 case stop=>exact fun _ _ _ h=>h.elim
theorem z5aj (A:Option Addr)(n c base:Nat)(L:List Nat)(d:Nat)(dv:Int)(hdv:dv=(d:Int))(w:World)(hn:L.length=n)(ho:w.ownsRow base 3 1 (.slice A n c) n (z0c L))(hL:Na.Lim L)(hd:1<=d)(hd2:d<=274877906944)(hl:n<=140737488351232):
  Calls Tryz.prog 152 #[.slice A n c,.int .i64 dv] w fun e w'=>∃ Q:List Nat,e=.returned (.int .i64 ((Na.val L % d:Nat):Int))/\Q.length=n/\Na.Lim Q/\Na.val Q=Na.val L / d/\w'.ownsRow base 3 1 (.slice A n c) n (z0c Q)/\w.grownBy w' (Value.slice A n c).ownBlock:=by
 subst hdv
 exact (callsIn_wide (n:=3)).1 (z8ac Fence.wide 3 trivial trivial trivial rfl (zqj _) A n c base L d w hn ho hL hd hd2 hl)
def str (l:List UInt8):ByteArray:=⟨l.toArray⟩
theorem z5r (l:List UInt8):(str l).size=l.length:=by unfold str;simp [ByteArray.size]
theorem z0bx (l:List UInt8):(str l).data.toList=l:=by unfold str;simp
theorem z8a (l:List UInt8):(str l).toList=l:=by rw [ByteArray.toList_eq,z0bx]
theorem z6al {l:List UInt8}(h:l≠[]):(str l).toList.isEmpty=false:=by
 rw [z8a];cases l with
 | nil=>exact absurd rfl h
 | cons b t=>rfl
namespace De
set_option maxHeartbeats 4000000
def rv (l:List UInt8)(k:Nat):List UInt8:=(l.reverse.take k)++((l.drop k).take (l.length - 2*k))++(l.reverse.drop (l.length - k))
end De
namespace De
set_option maxHeartbeats 4000000
theorem z5au {n y x m:Nat}(h:10 ^ n*y<=x)(hy:0<y)(hx:x<16777216 ^ m):n<24*m:=by
 rcases zqi n (24*m) with h1|h1
 ·exact h1
 ·exfalso
  have h2:10 ^ n*1<=10 ^ n*y:=Nat.mul_le_mul_left _ hy
  have h3:2 ^ n<=10 ^ n:=Nat.pow_le_pow_left (by omega) n
  have h4:(2:Nat) ^ (24*m)<=2 ^ n:=Nat.pow_le_pow_right (by omega) h1
  rw [Na.pow24] at hx;omega
theorem len_bound {n y x:Nat}(h:10 ^ n*y<=x)(hy:0<y)(hx:x<Na.top):n<=4800:=by
 have:=z5au h hy (m:=200) hx
 omega
theorem text_pos {x:Nat}(h:0<x):text x=((dig x).map asc).reverse:=by unfold text;rw [if_neg (by omega)]
theorem text_ne {x:Nat}(h:0<x):((dig x).map asc).reverse≠[]:=by
 rw [dig_pos x h];simp
end De
def Apart (a b:Value):Prop:=a.ownBlock=none∨a.ownBlock≠b.ownBlock
theorem Apart.symm {a b:Value}(h:Apart a b):Apart b a:=by
 rcases h with h|h
 ·by_cases hb:b.ownBlock=none
  ·exact .inl hb
  ·exact .inr (by rw [h];exact hb)
 ·exact .inr (fun e=>h e.symm)
theorem Apart.next {w:World}{base n c n1 c1 n2 c2:Nat}{e:TypeId}{A B B':Option Addr}{xs:List Value}(h:Apart (.slice A n c) (.slice B n1 c1))(ho:w.ownsRow base e 1 (.slice A n c) n xs)(hb:(Value.slice B' n2 c2).ownBlock=(Value.slice B n1 c1).ownBlock∨(Value.slice B' n2 c2).ownBlock=some w.heap.size):Apart (.slice A n c) (.slice B' n2 c2):=by
 rcases hb with hb|hb
 ·rcases h with h|h
  ·exact .inl h
  ·exact .inr (by rw [hb];exact h)
 ·by_cases ha:(Value.slice A n c).ownBlock=none
  ·exact .inl ha
  ·refine .inr fun e1=>?_
   rw [hb] at e1;have:=(ho.lt _ e1).2
   omega
structure Ob where
 A:Option Addr
 n:Nat
 c:Nat
 vs:List Value
structure St (w0 w:World)(g:Option Nat)(M:List (Nat×Value))(L:List Ob):Prop where
 below:Below w0.heap.size w0 w
 lt:∀ x,g=some x->x<w.heap.size/\w0.heap.size<=x
 box:∀ (i b:Nat) (v:Value),M[i]?=some (b,v)->b<w.heap.size/\w0.heap.size<=b/\w.cell? ⟨b,0,none⟩=some v/\w.frozen? ⟨b,0,none⟩=false/\g≠some b
 one:∀ (i j b:Nat) (u v:Value),M[i]?=some (b,u)->M[j]?=some (b,v)->i=j
 held:∀ o∈L,o.vs.length=o.n/\o.n<=o.c/\o.n<=1000/\∃ B,B<=w.heap.size/\Sl w B o.A o.vs/\(∀ ad,o.A=some ad->0<o.n->g≠some ad.block/\∀ (i b:Nat) (v:Value),M[i]?=some (b,v)->ad.block≠b)
theorem St.refl (w:World):St w w none [] []:=⟨Below.refl _ _,fun x e=>(by cases e),fun i b v h=>(by simp at h),fun i j b u v h=>(by simp at h),fun o h=>(by cases h)⟩
section
variable {w0 w w':World}{g:Option Nat}{M:List (Nat×Value)}{L:List Ob}
theorem St.size (h:St w0 w g M L):w0.heap.size<=w.heap.size:=h.below.size
theorem St.go (h:St w0 w g M L)(hb:Below w.heap.size w w'):St w0 w' g M L:=
 ⟨h.below.trans (hb.mono h.size),fun x e=>⟨zqv (h.lt x e).1 hb.size,(h.lt x e).2⟩,fun i b v hi=>by
  obtain ⟨h1,h2,h3,h4,h5⟩:=h.box i b v hi
  exact ⟨zqv h1 hb.size,h2,(hb.cell (p:=⟨b,0,none⟩) h1).trans h3,(hb.frozen (p:=⟨b,0,none⟩) h1).trans h4,h5⟩,h.one,fun o ho=>by
  obtain ⟨h1,h2,h3,B,hB,hs,hne⟩:=h.held o ho
  exact ⟨h1,h2,h3,B,zqq hB hb.size,hs.below (hb.mono hB),hne⟩⟩
theorem St.add (h:St w0 w g M L){A:Option Addr}{n c B:Nat}{vs:List Value}(hs:Sl w B A vs)(hB:B<=w.heap.size)(hn:vs.length=n)(hc:n<=c)(hl:n<=1000)
  (hne:∀ ad,A=some ad->0<n->g≠some ad.block/\∀ (i b:Nat) (v:Value),M[i]?=some (b,v)->ad.block≠b):St w0 w g M (L++[⟨A,n,c,vs⟩]):=
 ⟨h.below,h.lt,h.box,h.one,fun o ho=>by
  rcases List.mem_append.1 ho with h1|h1
  ·exact h.held o h1
  ·rw [List.mem_singleton] at h1;subst h1
   exact ⟨hn,hc,hl,B,hB,hs,hne⟩⟩
theorem St.old (h:St w0 w g M L){A:Option Addr}{n c:Nat}{vs:List Value}(hs:Sl w0 w0.heap.size A vs)(hn:vs.length=n)(hc:n<=c)(hl:n<=1000):St w0 w g M (L++[⟨A,n,c,vs⟩]):=by
 refine h.add ((hs.below h.below)) h.size hn hc hl fun ad e h0=>?_
 obtain ⟨ad',e',hb,_⟩:=hs (by omega)
 rw [e] at e';obtain rfl:=zqk e'
 exact ⟨fun e2=>by have:=(h.lt _ e2).2;omega,fun i b v hi e2=>by have:=(h.box i b v hi).2.1;omega⟩
theorem St.push (h:St w0 w g M L){A:Option Addr}{n c:Nat}{vs:List Value}{e:TypeId}(ho:w'.ownsRow w.heap.size e 1 (.slice A n c) n vs)(hl:n<=1000)(hb:Below w.heap.size w w'):St w0 w' g M (L++[⟨A,n,c,vs⟩]):=by
 refine (h.go hb).add (Sl.of_own ho) (zqj _) (z1m ho) (z1j ho).1 hl fun ad e h0=>?_
 obtain ⟨g',hg',h1,_⟩:=z0n ho h0
 rw [e] at hg';obtain rfl:=zqk hg'
 exact ⟨fun e2=>by have:=(h.lt _ e2).1;simp only at this;omega,fun i b v hi e2=>by have:=(h.box i b v hi).1;simp only at e2;omega⟩
theorem St.roll {x:Nat}(h:St w0 w (some x) M L)(hg:w.grownBy w' (some x)):St w0 w' (some x) M L:=by
 have hx:=h.lt x rfl
 refine ⟨h.below.trans (z5az hg h.size hx.2),fun y e=>⟨zqv (h.lt y e).1 hg.size,(h.lt y e).2⟩,fun i b v hi=>?_,h.one,fun o ho=>?_⟩
 ·obtain ⟨h1,h2,h3,h4,h5⟩:=h.box i b v hi
  have e1:=hg.block b h1 (fun e=>h5 e.symm)
  exact ⟨zqv h1 hg.size,h2,(World.cell?_of_block (a:=⟨b,0,none⟩) e1).trans h3,(World.frozen?_of_block (a:=⟨b,0,none⟩) e1).trans h4,h5⟩
 ·obtain ⟨h1,h2,h3,B,hB,hs,hne⟩:=h.held o ho
  refine ⟨h1,h2,h3,B,zqq hB hg.size,fun hn=>?_,hne⟩
  obtain ⟨ad,hA,hbk,hcell⟩:=hs hn
  refine ⟨ad,hA,hbk,fun k u hu=>?_⟩
  rw [World.cell?_of_block (hg.block _ (by rw [z1d];omega) (by rw [z1d];intro e;exact (hne ad hA (by omega)).1 e.symm))]
  exact hcell k u hu
theorem St.boxed (h:St w0 w g M L)(v:Value)(t:TypeId):St w0 (w.alloc (.cells #[v] t)) g (M++[(w.heap.size,v)]) L:=by
 have hb:Below w.heap.size w (w.alloc (.cells #[v] t)):=(Below.refl _ _).alloc (zqj _) _
 have h':=h.go hb
 have bV:=Boxed.new w t v
 have key:∀ (i b:Nat) (u:Value),(M++[(w.heap.size,v)])[i]?=some (b,u)->M[i]?=some (b,u)∨(i=M.length/\b=w.heap.size/\u=v):=fun i b u hi=>by
  rcases zqi i M.length with h1|h1
  ·rw [zqn h1] at hi;exact .inl hi
  ·rw [zqo h1] at hi;have h2:i - M.length=0:=by
    have:=z0d hi
    simp at this
    omega
   rw [h2] at hi;simp at hi
   exact .inr ⟨by omega,hi.1.symm,hi.2.symm⟩
 refine ⟨h'.below,h'.lt,fun i b u hi=>?_,fun i j b u x hi hj=>?_,fun o ho=>?_⟩
 ·rcases key i b u hi with h1|⟨_,rfl,rfl⟩
  ·exact h'.box i b u h1
  ·exact ⟨by simp,h.size,bV.cell,bV.frozen,fun e=>by have:=(h.lt _ e).1;omega⟩
 ·rcases key i b u hi with h1|⟨h1,h2,_⟩ <;> rcases key j b x hj with k1|⟨k1,k2,_⟩
  ·exact h.one i j b u x h1 k1
  ·have:=(h.box i b u h1).1;omega
  ·have:=(h.box j b x k1).1;omega
  ·omega
 ·obtain ⟨h1,h2,h3,B,hB,hs,hne⟩:=h.held o ho
  refine ⟨h1,h2,h3,B,zqq hB hb.size,hs.below (hb.mono hB),fun ad e h0=>⟨(hne ad e h0).1,fun i b u hi=>?_⟩⟩
  rcases key i b u hi with k1|⟨_,rfl,_⟩
  ·exact (hne ad e h0).2 i b u k1
  ·obtain ⟨ad',e',hbk,_⟩:=hs (by omega)
   rw [e] at e';obtain rfl:=zqk e'
   omega
theorem St.put (h:St w0 w g M L)(i:Nat){b:Nat}{v:Value}(hi:M[i]?=some (b,v))(u:Value):St w0 (w.setCell ⟨b,0,none⟩ u) g (M.set i (b,u)) L:=by
 obtain ⟨h1,h2,h3,h4,h5⟩:=h.box i b v hi
 have key:∀ (j c:Nat) (x:Value),(M.set i (b,u))[j]?=some (c,x)->(j=i/\c=b/\x=u)∨(j≠i/\M[j]?=some (c,x)):=fun j c x hj=>by
  by_cases e:j=i
  ·subst e
   rw [List.getElem?_set_self (z0d hi)] at hj
   simp at hj
   exact .inl ⟨rfl,hj.1.symm,hj.2.symm⟩
  ·rw [zqf (fun e'=>e e'.symm)] at hj
   exact .inr ⟨e,hj⟩
 have hsz:(w.setCell ⟨b,0,none⟩ u).heap.size=w.heap.size:=by simp [World.setCell]
 refine ⟨h.below.setCell (p:=⟨b,0,none⟩) h2 _,fun x e=>by rw [hsz];exact h.lt x e,fun j c x hj=>?_,fun j k c x y hj hk=>?_,fun o ho=>?_⟩
 ·rcases key j c x hj with ⟨_,rfl,rfl⟩|⟨hne,hj'⟩
  ·exact ⟨by rw [hsz];exact h1,h2,z0k _ h3,by rw [World.frozen?_setCell];exact h4,h5⟩
  ·obtain ⟨k1,k2,k3,k4,k5⟩:=h.box j c x hj'
   have hcb:c≠b:=fun e=>by subst e;exact hne (h.one j i c x v hj' hi)
   exact ⟨by rw [hsz];exact k1,k2,by rw [World.cell?_setCell_other _ _ _ _ (fun e=>hcb (congrArg Addr.block e).symm)];exact k3,by rw [World.frozen?_setCell];exact k4,k5⟩
 ·rcases key j c x hj with ⟨e1,rfl,rfl⟩|⟨hne,hj'⟩ <;> rcases key k _ y hk with ⟨e2,e3,_⟩|⟨hne2,hk'⟩
  ·omega
  ·exact absurd (h.one k i _ y v hk' hi) hne2
  ·subst e3;exact absurd (h.one j i _ x v hj' hi) hne
  ·exact h.one j k c x y hj' hk'
 ·obtain ⟨k1,k2,k3,B,hB,hs,hne⟩:=h.held o ho
  refine ⟨k1,k2,k3,B,by rw [hsz];exact hB,fun hn=>?_,fun ad e h0=>⟨(hne ad e h0).1,fun j c x hj=>?_⟩⟩
  ·obtain ⟨ad,hA,hbk,hcell⟩:=hs hn
   refine ⟨ad,hA,hbk,fun k x hx=>?_⟩
   rw [World.cell?_of_block (Below.heap_setCell _ _ _ _ (by rw [z1d];exact (hne ad hA (by omega)).2 i b v hi))]
   exact hcell k x hx
  ·rcases key j c x hj with ⟨_,rfl,_⟩|⟨_,hj'⟩
   ·exact (hne ad e h0).2 i c v hi
   ·exact (hne ad e h0).2 j c x hj'
theorem St.sl (h:St w0 w g M L){i:Nat}{A:Option Addr}{n c:Nat}{vs:List Value}(hi:L[i]?=some ⟨A,n,c,vs⟩):vs.length=n/\n<=c/\n<=1000/\Sl w w.heap.size A vs:=by
 obtain ⟨h1,h2,h3,B,hB,hs,_⟩:=h.held _ (List.mem_of_getElem? hi)
 exact ⟨h1,h2,h3,hs.more hB⟩
theorem St.cell (h:St w0 w g M L)(i:Nat){b:Nat}{v:Value}(hi:M[i]?=some (b,v)):w.cell? ⟨b,0,none⟩=some v:=(h.box i b v hi).2.2.1
theorem St.free (h:St w0 w g M L)(i:Nat){b:Nat}{v:Value}(hi:M[i]?=some (b,v)):w.frozen? ⟨b,0,none⟩=false:=(h.box i b v hi).2.2.2.1
theorem St.drewN (h:St w0 w g M L)(k:Nat):St w0 (w.drewN k) g M L:=h.go (z0w (Below.refl _ _) k)
theorem z1be (x:Nat):(z4j x).length<=200:=by
 unfold z4j;split
 ·rename_i h
  exact (Na.dig_200 x).2 h
 ·exact zqr _
end
section
variable {P:Program}{md:Region.Mode}{ops:Array Oper}{Q:Exit->Act->World->Prop}
def z3i (L:Nat->Bool)(j:Nat):Nat->Bool:=fun i=>if i=j then true else L i
def z5y (ops:Array Oper):Bool:=(List.range ops.size).all fun i=>((ops[i]?).map fun o=>o.after.all fun e=>decide (e.on<i)).getD true
theorem mem_ready {l:Array Bool}{j:Nat}(h:j∈Region.ready md ops l):j<ops.size/\l.getD j true=false/\∀ o,ops[j]?=some o->∀ e∈o.after,Region.binds md e=true->l.getD e.on false=true:=by
 unfold Region.ready at h;rw [List.mem_filter] at h;obtain ⟨h1,h2⟩:=h;rw [List.mem_range] at h1;rw [Bool.and_eq_true] at h2;refine ⟨h1,by simpa using h2.1,fun o ho e he hb=>?_⟩
 have h3:=h2.2;rw [ho] at h3;have h3':(o.after.all fun e=>!Region.binds md e || l.getD e.on false)=true:=h3
 have h4:=Array.all_eq_true_iff_forall_mem.1 h3' e he
 rw [hb] at h4;exact h4
theorem z4au {l:Array Bool}(hb:z5y ops=true)(h:Region.ready md ops l=[]):∀ j,j<ops.size->l.getD j true=true:=by
 intro j
 induction j using Nat.strongRecOn with
 | _ j ih=>
  intro hj;cases hl:l.getD j true with
  | true=>rfl
  | false=>
   exfalso
   have:j∈Region.ready md ops l:=by
    unfold Region.ready;rw [List.mem_filter];refine ⟨List.mem_range.2 hj,?_⟩
    rw [hl];have ho:ops[j]?=some ops[j]:=Array.getElem?_eq_getElem hj
    have hbj:=List.all_eq_true.1 hb j (List.mem_range.2 hj)
    rw [ho] at hbj;have hbj':(ops[j].after.all fun e=>decide (e.on<j))=true:=hbj
    rw [ho]
    show (!false && (ops[j].after.all fun e=>!Region.binds md e || l.getD e.on false))=true
    rw [Bool.not_false,Bool.true_and,Array.all_eq_true_iff_forall_mem];intro e he;have h5:=of_decide_eq_true (Array.all_eq_true_iff_forall_mem.1 hbj' e he)
    have h6:=ih e.on h5 (by omega)
    have h7:l.getD e.on false=true:=by
     rw [Array.getD_eq_getD_getElem?] at h6 ⊢
     rcases zqi e.on l.size with h8|h8
     ·rw [Array.getElem?_eq_getElem h8] at h6 ⊢;exact h6
     ·exfalso
      have h9:l.size<=j:=by omega
      rw [Array.getD_eq_getD_getElem?,Array.getElem?_eq_none h9] at hl;cases hl
    rw [h7,Bool.or_true]
   rw [h] at this;cases this
theorem z4at (Inv:(Nat->Bool)->Act->World->Prop)(hb:z5y ops=true)
  (hstep:∀ j L a w,j<ops.size->L j=false->(∀ o,ops[j]?=some o->∀ e∈o.after,Region.binds md e=true->L e.on=true)->Inv L a w->wpOp P ops Q j (Inv (z3i L j)) a w)
  (hend:∀ L a w,(∀ i,i<ops.size->L i=true)->Inv L a w->Q .normal a w):∀ (n:Nat) (l:Array Bool) (a:Act) (w:World),l.size=ops.size->(l.toList.countP (· == false))<=n->
   Inv (fun i=>l.getD i false) a w->wpAny P md ops Q n l a w:=by
 intro n;have fin:∀ (l:Array Bool) (a:Act) (w:World),l.size=ops.size->Inv (fun i=>l.getD i false) a w->Region.ready md ops l=[]->Q .normal a w:=fun l a w hs hi hr=>by
  refine hend _ a w (fun i hi=>?_) hi
  have h1:=z4au hb hr i hi
  rw [Array.getD_eq_getD_getElem?] at h1 ⊢
  rw [Array.getElem?_eq_getElem (by omega)] at h1 ⊢
  exact h1
 induction n with
 | zero=>
  intro l a w hs hc hi;have hr:Region.ready md ops l=[]:=by
   cases e:Region.ready md ops l with
   | nil=>rfl
   | cons j r=>
    exfalso
    obtain ⟨h1,h2,_⟩:=mem_ready (md:=md) (ops:=ops) (l:=l) (j:=j) (by rw [e];exact List.mem_cons_self)
    have h3:l.toList.countP (· == false)=0:=by omega
    rw [List.countP_eq_zero] at h3;rw [Array.getD_eq_getD_getElem?,Array.getElem?_eq_getElem (by omega)] at h2
    have h4:j<l.size:=by omega
    exact h3 _ (Array.mem_toList_iff.2 (Array.getElem_mem h4)) (by simpa using h2)
  exact ⟨hr,fin l a w hs hi hr⟩
 | succ n ih=>
  intro l a w hs hc hi;refine ⟨fin l a w hs hi,fun j hj=>?_⟩
  obtain ⟨h1,h2,h3⟩:=mem_ready hj
  have hjl:j<l.size:=by omega
  have h2':l[j]=false:=by rw [Array.getD_eq_getD_getElem?,Array.getElem?_eq_getElem hjl] at h2;exact h2
  have e1:(fun i=>(l.setIfInBounds j true).getD i false)=z3i (fun i=>l.getD i false) j:=by
   funext i
   unfold z3i;by_cases e:i=j
   ·subst e
    rw [if_pos rfl,Array.getD_eq_getD_getElem?,Array.getElem?_setIfInBounds_self_of_lt hjl];rfl
   ·rw [if_neg e,Array.getD_eq_getD_getElem?,Array.getElem?_setIfInBounds_ne (fun e'=>e e'.symm)]
    exact (Array.getD_eq_getD_getElem? ..).symm
  refine wpOp_mono (fun a' w' h=>ih _ a' w' (by rw [Array.size_setIfInBounds];exact hs) ?_ (by rw [e1];exact h)) (hstep j _ a w h1 (by show l.getD j false=false;rw [Array.getD_eq_getD_getElem?,Array.getElem?_eq_getElem hjl];exact h2') h3 hi)
  have h5:(l.setIfInBounds j true).toList=l.toList.set j true:=by simp
  rw [h5];have key:∀ (xs:List Bool) (j:Nat),xs[j]?=some false->(xs.set j true).countP (· == false)+1=xs.countP (· == false):=by
   intro xs
   induction xs with
   | nil=>intro j h;simp at h
   | cons x xs ih2=>
    intro j h;cases j with
    | zero=>
     simp at h
     subst h
     simp
    | succ j=>
     simp at h
     have:=ih2 j h
     simp only [zqe,List.countP_cons];omega
  have:=key l.toList j (by rw [Array.getElem?_toList,Array.getElem?_eq_getElem hjl,h2'])
  omega
theorem z5bw {id:Nat}{a:Act}{w:World}(Inv:(Nat->Bool)->Act->World->Prop)(hm:P.follows .mixedOrders=true)(hb:z5y ops=true)
  (h0:Inv (fun _=>false) a w.drew)
  (hstep:∀ j L a w,j<ops.size->L j=false->(∀ o,ops[j]?=some o->∀ e∈o.after,Region.binds .any e=true->L e.on=true)->Inv L a w->wpOp P ops Q j (Inv (z3i L j)) a w)
  (hend:∀ L a w,(∀ i,i<ops.size->L i=true)->Inv L a w->Q .normal a w):(Code.region id ops true).wp P Q a w:=by
 refine wp_region_any hm (z4at Inv hb hstep hend _ _ _ _ (by simp) ?_ ?_)
 ·refine zqq List.countP_le_length ?_
  simp
 ·have:(fun i=>(Array.replicate ops.size false).getD i false)=fun _=>false:=by
   funext i
   rw [Array.getD_eq_getD_getElem?];rcases zqi i ops.size with h|h
   ·rw [Array.getElem?_eq_getElem (by simpa using h)];simp
   ·rw [Array.getElem?_eq_none (by simpa using h)];rfl
  rw [this];exact h0
def z9x (md:Region.Mode)(ops:Array Oper)(j:Nat):List Nat:=((ops[j]?).map fun o=>(o.after.toList.filter (Region.binds md ·)).map (·.on)).getD []
theorem z0al {o:Oper}{j:Nat}{L:Nat->Bool}(ho:ops[j]?=some o)(h:∀ e∈o.after,Region.binds md e=true->L e.on=true):∀ i,(z9x md ops j).elem i=true->L i=true:=fun i hi=>by
 have hi:=List.mem_of_elem_eq_true hi
 unfold z9x at hi;rw [ho] at hi;have hi':i∈(o.after.toList.filter (Region.binds md ·)).map (·.on):=hi
 obtain ⟨e,he,rfl⟩:=List.mem_map.1 hi'
 rw [List.mem_filter] at he;exact h e (Array.mem_toList_iff.1 he.1) he.2
theorem z2as {id:Nat}{a:Act}{w:World}(I:Act->(Nat->Bool)->Act->World->Prop)(hm:P.follows .mixedOrders=true)(hb:z5y ops=true)
  (h0:I a (fun _=>false) a w.drew)
  (hstep:∀ j L b v,j<ops.size->L j=false->(∀ i,(z9x .any ops j).elem i=true->L i=true)->I a L b v->wpOp P ops Q j (I a (z3i L j)) b v)
  (hend:∀ L b v,(∀ i,i<ops.size->L i=true)->I a L b v->Q .normal b v):(Code.region id ops true).wp P Q a w:=
 z5bw (I a) hm hb h0 (fun j L b v hj hf hd hi=>hstep j L b v hj hf (z0al (Array.getElem?_eq_getElem hj) (fun e he hb=>hd _ (Array.getElem?_eq_getElem hj) e he hb)) hi) hend
def z0ax (ops:Array Oper)(L:Nat->Bool):Prop:=∀ j i,L j=true->(z9x .any ops j).elem i=true->L i=true
theorem z1bg {id:Nat}{a:Act}{w:World}(I:Act->(Nat->Bool)->Act->World->Prop)(hm:P.follows .mixedOrders=true)(hb:z5y ops=true)
  (h0:I a (fun _=>false) a w.drew)
  (hstep:∀ j L b v,j<ops.size->L j=false->z0ax ops L->(∀ i,(z9x .any ops j).elem i=true->L i=true)->I a L b v->wpOp P ops Q j (I a (z3i L j)) b v)
  (hend:∀ L b v,(∀ i,i<ops.size->L i=true)->I a L b v->Q .normal b v):(Code.region id ops true).wp P Q a w:=by
 refine z2as (fun a L b v=>z0ax ops L/\I a L b v) hm hb ⟨(fun j i h=>nomatch h),h0⟩ (fun j L b v hj hf hp hi=>?_) (fun L b v hl hi=>hend L b v hl hi.2)
 refine wpOp_mono (fun a' w' h=>⟨fun j' i' h1 h2=>?_,h⟩) (hstep j L b v hj hf hi.1 hp hi.2)
 unfold z3i at h1 ⊢
 by_cases e:i'=j
 ·rw [if_pos e]
 ·rw [if_neg e];by_cases e2:j'=j
  ·subst e2
   exact hp i' h2
  ·rw [if_neg e2] at h1;exact hi.1 j' i' h1 h2
end
section
variable {w0 w w':World}{g:Option Nat}{M:List (Nat×Value)}{L:List Ob}
theorem St.sub (h:St w0 w g M L){M':List (Nat×Value)}{L':List Ob}(hM:∀ x∈M',x∈M)(h1:∀ (i j b:Nat) (u v:Value),M'[i]?=some (b,u)->M'[j]?=some (b,v)->i=j)(hL:∀ o∈L',o∈L):St w0 w g M' L':=by
 have key:∀ (i:Nat) (x:Nat×Value),M'[i]?=some x->∃ j,M[j]?=some x:=fun i x hi=>List.mem_iff_getElem?.1 (hM x (List.mem_of_getElem? hi))
 refine ⟨h.below,h.lt,fun i b v hi=>?_,h1,fun o ho=>?_⟩
 ·obtain ⟨j,hj⟩:=key i _ hi
  exact h.box j b v hj
 ·obtain ⟨k1,k2,k3,B,hB,hs,hne⟩:=h.held o (hL o ho)
  refine ⟨k1,k2,k3,B,hB,hs,fun ad e h0=>⟨(hne ad e h0).1,fun i b v hi=>?_⟩⟩
  obtain ⟨j,hj⟩:=key i _ hi
  exact (hne ad e h0).2 j b v hj
theorem St.var (h:St w0 w g M L){b:Nat}{v:Value}(hi:(b,v)∈M):w0.heap.size<=b/\b<w.heap.size/\w.cell? ⟨b,0,none⟩=some v/\w.frozen? ⟨b,0,none⟩=false/\g≠some b:=by
 obtain ⟨i,hi⟩:=List.mem_iff_getElem?.1 hi
 obtain ⟨h1,h2,h3,h4,h5⟩:=h.box i b v hi
 exact ⟨h2,h1,h3,h4,h5⟩
def putV (M:List (Nat×Value))(b:Nat)(u:Value):List (Nat×Value):=M.map fun p=>if p.1=b then (b,u) else p
theorem z8u {b:Nat}{v u:Value}(h:(b,v)∈M):(b,u)∈putV M b u:=List.mem_map.2 ⟨_,h,if_pos rfl⟩
theorem z7x {b c:Nat}{v u:Value}(h:(c,v)∈M)(hne:c≠b):(c,v)∈putV M b u:=List.mem_map.2 ⟨_,h,if_neg hne⟩
theorem St.putM (h:St w0 w g M L){b:Nat}{v:Value}(hi:(b,v)∈M)(u:Value):St w0 (w.setCell ⟨b,0,none⟩ u) g (putV M b u) L:=by
 obtain ⟨i,hi⟩:=List.mem_iff_getElem?.1 hi
 have h1:=h.put i hi u
 have e:M.set i (b,u)=putV M b u:=by
  apply List.ext_getElem?
  intro j;unfold putV;rw [List.getElem?_map];by_cases e:j=i
  ·subst e
   rw [List.getElem?_set_self (z0d hi),hi]
   simp
  ·rw [zqf (fun e'=>e e'.symm)]
   cases hj:M[j]? with
   | none=>rfl
   | some p=>
    obtain ⟨c,x⟩:=p
    show _=some (if c=b then (b,u) else (c,x))
    rw [if_neg (fun e2:c=b=>by subst e2;exact e (h.one j i c x v hj hi))]
 rwa [e] at h1
end
end Go.Proofs.YtpmofjomadibmaaGreatDoor
