/- Xm Xn Xo NRm Rm -/
import Derived.Test.YtpmofjomadibmaaGreatDoorV05
import Derived.Deep.RegionHeld3
namespace Go.Proofs.YtpmofjomadibmaaGreatDoor
set_option maxHeartbeats 4000000
open Go.RowKit Go.Sort
open Go.ChangeMaps (setBlock heap_setBlock_same heap_setBlock_other)
set_option linter.unusedVariables false
set_option maxRecDepth 100000
open Cl
theorem z5ab (s p:Pl)(hs:¬ shV s)(w:World):
  Calls Tryz.prog 83 #[.agg s.vs,.agg p.vs] w fun e w'=>e=.returned (.bool (plV s p))∧Below w.heap.size w w':=by
 have HV:=zh (fun W=>z4l s W)
 rw [zn hs] at HV;rw [z6bq hs];obtain ⟨so,ch,ra,ba,ro,co⟩:=s;obtain ⟨n0,n1,n2,n3,n4,n5⟩:=p;unfold Pl.vs at *
 have H0:=((Ow.of (St.refl w)).arr #[.int .i64 so,.int .i64 ch,.int .i64 ra,.int .i64 ba,.int .i64 ro,.int .i64 co] 6 rfl (by omega) 33).arr #[.int .i64 n0,.int .i64 n1,.int .i64 n2,.int .i64 n3,.int .i64 n4,.int .i64 n5] 6 rfl (by omega) 38
 simp only [zqc,zqb,World.size_alloc] at H0;obtain ⟨a0,a1,a2,a3,a4,a5⟩:=zc6 (H0.row 0 rfl);clear hs;go_enter Tryz.func83,Tryz.ntmps83
 go_wp2_with fail;refine (HV.out _).mono ?_
 rintro e w1 ⟨rfl,hb⟩;have HB:=zh (H0.go hb).below
 clear a0 a1 a2 a3 a4 a5 HV hb H0;go_wp2_with fail;go_ret;exact ⟨rfl,HB.out⟩
theorem z3bt (s p:Pl)(w:World):
  Calls Tryz.prog 83 #[.agg s.vs,.agg p.vs] w fun e w'=>e=.returned (.bool (plV s p))∧Below w.heap.size w w':=by
 by_cases hs:shV s
 ·obtain ⟨so,ch,ra,ba,ro,co,rfl,h12⟩:=z5ai hs
  exact z5aa so ch ra ba ro co h12 p.so p.ch p.ra p.ba p.ro p.co w
 ·exact z5ab s p hs w
theorem z6bf {b:Nat}(h:b≤12):IntKind.i64.wrap ((2:Int) ^ b)=(2:Int) ^ b:=by
 have:b=0∨b=1∨b=2∨b=3∨b=4∨b=5∨b=6∨b=7∨b=8∨b=9∨b=10∨b=11∨b=12:=by omega
 rcases this with rfl | rfl | rfl | rfl | rfl | rfl | rfl | rfl | rfl | rfl | rfl | rfl | rfl <;> decide +kernel
theorem z0a {α:Type}{O:List α}{i:Nat}{r r':α}(h:O[i]?=some r):(O.set i r')[i]?=some r':=List.getElem?_set_self (z0e h)
namespace Cl
set_option maxHeartbeats 4000000
def snV (s:Pl)(x:Sn):Bool:=plV s x.p && decide (0≤x.cp) && decide (x.cp<40) && decide (0≤x.ti) && decide (x.ti≤1099511627776)
end Cl
theorem z3bu (s:Pl)(x:Sn)(w:World):
  Calls Tryz.prog 57 #[.agg s.vs,.agg x.vs] w fun e w'=>e=.returned (.bool (snV s x))∧Below w.heap.size w w':=by
 obtain ⟨⟨x0,x1,x2,x3,x4,x5⟩,x6,x7⟩:=x
 have HV:=zh (fun W=>z3bt s ⟨x0,x1,x2,x3,x4,x5⟩ W)
 have H0:=((Ow.of (St.refl w)).arr s.vs 6 rfl (by omega) 33).arr #[.int .i64 x0,.int .i64 x1,.int .i64 x2,.int .i64 x3,.int .i64 x4,.int .i64 x5,.int .i64 x6,.int .i64 x7] 8 rfl (by omega) 40
 obtain ⟨so,ch,ra,ba,ro,co⟩:=s;unfold Sn.vs;unfold Pl.vs at *
 simp only [zqc,zqb,World.size_alloc] at H0;obtain ⟨a0,a1,a2,a3,a4,a5⟩:=zc6 (H0.row 0 rfl);obtain ⟨b0,b1,b2,b3,b4,b5,b6,b7⟩:=zc8 (H0.row 1 rfl);obtain ⟨q0,h0⟩:∃ q,plV ⟨so,ch,ra,ba,ro,co⟩ ⟨x0,x1,x2,x3,x4,x5⟩=q:=⟨_,rfl⟩
 rw [h0] at HV;obtain ⟨q1,h1⟩:∃ q,decide (0≤x6)=q:=⟨_,rfl⟩
 obtain ⟨q2,h2⟩:∃ q,decide (x6<40)=q:=⟨_,rfl⟩
 obtain ⟨q3,h3⟩:∃ q,decide (0≤x7)=q:=⟨_,rfl⟩
 obtain ⟨q4,h4⟩:∃ q,decide (x7≤1099511627776)=q:=⟨_,rfl⟩
 go_enter Tryz.func57,Tryz.ntmps57
 go_wp2_with fail;refine (HV.out _).mono ?_
 rintro e w1 ⟨rfl,hb⟩;have H1:=H0.go hb
 clear hb H0 HV;clear a0 a1 a2 a3 a4 a5 b0 b1 b2 b3 b4 b5 b6 b7;have c6:=(H1.row 1 rfl).cellAt 6 (by decide)
 have c7:=(H1.row 1 rfl).cellAt 7 (by decide)
 have HB:=zh H1.below;clear H1;have HS:Hid (snV ⟨so,ch,ra,ba,ro,co⟩ ⟨⟨x0,x1,x2,x3,x4,x5⟩,x6,x7⟩=(q0 && q1 && q2 && q3 && q4)):=by unfold Hid snV;rw [h0,h1,h2,h3,h4]
 clear h0;cases q0 with
 | false=>
  go_wp2_with fail;go_ret;exact ⟨by rw [HS.out];rfl,HB.out⟩
 | true=>
  cases q1 with
  | false=>
   go_wp2_with fail;go_ret;exact ⟨by rw [HS.out];rfl,HB.out⟩
  | true=>
   cases q2 with
   | false=>
    go_wp2_with fail;go_ret;exact ⟨by rw [HS.out];rfl,HB.out⟩
   | true=>
    cases q3 with
    | false=>
     go_wp2_with fail;go_ret;exact ⟨by rw [HS.out];rfl,HB.out⟩
    | true=>
     cases q4 with
     | false=>
      go_wp2_with fail;go_ret;exact ⟨by rw [HS.out];rfl,HB.out⟩
     | true=>
      go_wp2_with fail;go_ret;exact ⟨by rw [HS.out];rfl,HB.out⟩
namespace Cl
set_option maxHeartbeats 4000000
def z4n (s:Pl)(l:List Sn):Bool:=l.all (snV s)
theorem z0bz {s:Pl}{l:List Sn}{i:Nat}{x:Sn}(hx:l[i]?=some x)(h:snV s x=false):z4n s l=false:=by
 unfold z4n;rw [Bool.eq_false_iff];intro e;rw [List.all_eq_true.1 e x (List.mem_of_getElem? hx)] at h
 cases h
theorem z2az {s:Pl}{l:List Sn}(h:∀ (j:Nat) (x:Sn),l[j]?=some x→snV s x=true):z4n s l=true:=by
 unfold z4n;refine List.all_eq_true.2 fun x hx=>?_
 obtain ⟨j,hj⟩:=List.getElem?_of_mem hx
 exact h j x hj
def CellsPl (w:World)(b:Nat)(s:Pl):Prop:=
 w.cell? ⟨b,0,none⟩=some (.int .i64 s.so)∧w.cell? ⟨b,1,none⟩=some (.int .i64 s.ch)∧w.cell? ⟨b,2,none⟩=some (.int .i64 s.ra)∧w.cell? ⟨b,3,none⟩=some (.int .i64 s.ba)∧w.cell? ⟨b,4,none⟩=some (.int .i64 s.ro)∧w.cell? ⟨b,5,none⟩=some (.int .i64 s.co)
theorem CellsPl.go {w w':World}{b:Nat}{s:Pl}(h:CellsPl w b s)(hb:Below w.heap.size w w')(hlt:b<w.heap.size):CellsPl w' b s:=by
 obtain ⟨h0,h1,h2,h3,h4,h5⟩:=h;exact ⟨(hb.cell (p:=⟨b,0,none⟩) hlt).trans h0,(hb.cell (p:=⟨b,1,none⟩) hlt).trans h1,(hb.cell (p:=⟨b,2,none⟩) hlt).trans h2,(hb.cell (p:=⟨b,3,none⟩) hlt).trans h3,(hb.cell (p:=⟨b,4,none⟩) hlt).trans h4,(hb.cell (p:=⟨b,5,none⟩) hlt).trans h5⟩
end Cl
theorem z4bm (s:Pl)(x:Sn)(sb:Nat)(w:World)(hs:CellsPl w sb s)(hlt:sb<w.heap.size):
  Calls Tryz.prog 56 #[.agg x.vs,.pointer (some ⟨sb,0,none⟩)] w fun e w'=>e=.returned (.bool (!snV s x))∧Below w.heap.size w w':=by
 obtain ⟨⟨x0,x1,x2,x3,x4,x5⟩,x6,x7⟩:=x
 have HV:=zh (fun W=>z3bu s ⟨⟨x0,x1,x2,x3,x4,x5⟩,x6,x7⟩ W)
 have H0:=(Ow.of (St.refl w)).arr #[.int .i64 x0,.int .i64 x1,.int .i64 x2,.int .i64 x3,.int .i64 x4,.int .i64 x5,.int .i64 x6,.int .i64 x7] 8 rfl (by omega) 40
 obtain ⟨c0,c1,c2,c3,c4,c5⟩:=hs.go H0.below hlt
 obtain ⟨so,ch,ra,ba,ro,co⟩:=s;unfold Sn.vs at *
 unfold Pl.vs at *
 simp only [zqc] at H0 c0 c1 c2 c3 c4 c5;obtain ⟨b0,b1,b2,b3,b4,b5,b6,b7⟩:=zc8 (H0.row 0 rfl);clear hs;go_enter Tryz.func56,Tryz.ntmps56
 go_wp2_with fail;refine (HV.out _).mono ?_
 rintro e w1 ⟨rfl,hb⟩;have HB:=zh (H0.go hb).below
 clear hb H0 HV b0 b1 b2 b3 b4 b5 b6 b7 c0 c1 c2 c3 c4 c5;go_wp2_with fail;go_ret;exact ⟨rfl,HB.out⟩
def RIx (s:Pl)(l:List Sn)(n:Nat)(w:World)(x:Value)(wr:World):Prop:=
 ∃ i:Nat,i≤n∧x=.int .i64 (i:Int)∧Below w.heap.size w wr∧Hid (∀ (j:Nat) (z:Sn),j<i→l[j]?=some z→snV s z=true)
theorem z6aw (s:Pl)(sb:Nat)(A:Option Addr)(n c:Nat)(l:List Sn)(w:World)(hn:l.length=n)(hn2:n≤125)(hl:Sl w w.heap.size A (fl l))(hs:CellsPl w sb s)(hlt:sb<w.heap.size):
  Calls Tryz.prog 89 #[.slice A n c,.func (.func 56) #[] #[.pointer (some ⟨sb,0,none⟩)]] w fun e w'=>∃ r:Int,e=.returned (.int .i64 r)∧decide (0≤r)=!z4n s l∧Below w.heap.size w w':=by
 have eg:∀ args w,(callFunc 56 args).run Tryz.prog w=.ok (.enter 56 args) w:=enters_of Tryz.func56 (by kernel_rfl) rfl
 have HL:=zh hl;have HS:=zh hs;have HN:=zh hn;have HLT:=zh hlt;clear hl hs hn hlt;go_enter Tryz.func89,Tryz.ntmps89
 go_wp2_with fail;go_loopw [8] (fun x wr=>RIx s l n w x wr) (fun x _=>n+1 - (intOf x).toNat)
 case atStart=>exact ⟨0,zqr _,rfl,Below.refl _ _,fun j z hj=>absurd hj (Nat.not_lt_zero _)⟩
 case round=>
  obtain ⟨i,hi,rfl,hbl,hI⟩:=hrel;rcases Nat.eq_or_lt_of_le hi with heq | hlt
  ·have hd:decide ((i:Int)<(n:Int))=false:=zn (by omega)
   have hd2:decide (i<n)=false:=zn (by omega)
   have HF:Hid (z4n s l=true):=z2az fun j z hz=>hI.out j z (by have:=z0e hz;have:=HN.out;omega) hz
   have HB:=zh hbl;clear heq hi hbl;go_wp2_with fail;go_ret;exact ⟨_,rfl,by rw [HF.out];rfl,HB.out⟩
  ·have hd:decide ((i:Int)<(n:Int))=true:=zt (by omega)
   have hd2:decide (i<n)=true:=zt (by omega)
   obtain ⟨x,hx⟩:∃ x,l[i]?=some x:=⟨l[i]'(by rw [HN.out];exact hlt),zql _⟩
   obtain ⟨a,rfl,e0,e1,e2,e3,e4,e5,e6,e7⟩:=z3m (HL.out.below hbl) hx
   have HX:=zh hx;have HC:=zh (z4bm s x sb wr (HS.out.go hbl HLT.out) (zqv HLT.out hbl.size))
   have HB:=zh hbl;have HH:=zh hlt;have hli:(i:Int)<(n:Int):=by omega
   obtain ⟨⟨x0,x1,x2,x3,x4,x5⟩,x6,x7⟩:=x
   unfold Sn.vs at HC;simp only at e0 e1 e2 e3 e4 e5 e6 e7
   clear hi hbl hx;cases hv:snV s ⟨⟨x0,x1,x2,x3,x4,x5⟩,x6,x7⟩ with
   | false=>
    rw [hv] at HC;have HF:Hid (z4n s l=false):=z0bz HX.out hv
    clear hv;go_wp2_with (go_at_fn 56;refine HC.out.mono ?_;rintro e w' ⟨rfl,hb'⟩)
    go_ret;refine ⟨_,rfl,?_,HB.out.trans (hb'.mono HB.out.size)⟩
    rw [HF.out];exact zt (Int.natCast_nonneg i)
   | true=>
    rw [hv] at HC;have HV:=zh hv;clear hv;have hw1:IntKind.i64.wrap ((i:Int)+1)=((i+1:Nat):Int):=by rw [IntWalk.i64_in _ (by omega)];omega
    go_wp2_with (go_at_fn 56;refine HC.out.mono ?_;rintro e w' ⟨rfl,hb'⟩)
    go_roundw
    case rel=>exact ⟨i+1,HH.out,rfl,HB.out.trans (hb'.mono HB.out.size),fun j z hj hz=>by
     rcases zqi j i with h | h
     ·exact hI.out j z h hz
     ·obtain rfl:j=i:=by omega
      have:=HX.out
      rw [hz] at this;obtain rfl:=zqk this
      exact HV.out⟩
    case measure=>
     have:=HH.out
     simp [intOf]
     omega
theorem z9r (s:Pl)(sb:Nat)(A:Option Addr)(n c:Nat)(l:List Sn)(w:World)(hn:l.length=n)(hn2:n≤125)(hl:Sl w w.heap.size A (fl l))(hs:CellsPl w sb s)(hlt:sb<w.heap.size):
  Calls Tryz.prog 59 #[.slice A n c,.func (.func 56) #[] #[.pointer (some ⟨sb,0,none⟩)]] w fun e w'=>e=.returned (.bool (!z4n s l))∧Below w.heap.size w w':=by
 have HC:=zh (z6aw s sb A n c l w hn hn2 hl hs hlt)
 clear hl hs hn hlt;go_enter Tryz.func59,Tryz.ntmps59
 go_wp2_with fail;refine HC.out.mono ?_;rintro e w1 ⟨r,rfl,hr,hb⟩;go_wp2_with fail;go_ret;exact ⟨by rw [← hr];rfl,hb⟩
open Go.RowKit
namespace Na
set_option maxHeartbeats 4000000
theorem vld_zero (zs:List Int)(h:zs[zs.length - 1]?=some 0):vld zs=false:=by
 unfold vld;rw [List.getLast?_eq_getElem?,h];simp
theorem vld_all (zs:List Int)(h:zs.all lim=true)(h2:zs.length≤200)(h3:zs.length=0∨∃ z,zs[zs.length - 1]?=some z∧z≠0):vld zs=true:=by
 rcases h3 with h3 | ⟨z,h3,h4⟩
 ·have:zs=[]:=List.eq_nil_of_length_eq_zero h3
  rw [this];rfl
 ·rw [vld_end zs z h h2 h3,bne_iff_ne];exact h4
end Na
theorem z0aq (A:Option Addr)(n c B:Nat)(zs:List Int)(w:World)(hn:zs.length=n)(hs:Sl w B A (z0t zs))(hB:B≤w.heap.size)(hl:n≤140737488355328):
  Calls Tryz.prog 73 #[.agg #[.slice A n c]] w fun e w'=>e=.returned (.bool (Na.vld zs))∧Below w.heap.size w w':=by
 have HN:=zh hn;have HS:=zh ((hs.more hB).alloc (zqj _) (.cells #[.slice A n c] 25))
 have HB:=zh (z0i w (.cells #[.slice A n c] 25))
 clear hs hn;rcases zqi 200 n with h2 | h2
 ·have HR:=zh (Na.vld_long zs (by rw [HN.out];exact h2))
  go_enter Tryz.func73,Tryz.ntmps73
  go_wp2_with fail;go_ret;exact ⟨z2f HR.out.symm,HB.out⟩
 ·have d1:decide (200<(n:Int))=false:=zn (by omega)
  by_cases hz0:∃ (h3:0<n),zs[n - 1]?=some 0
  ·obtain ⟨h3,hz⟩:=hz0;have HR:=zh (Na.vld_zero zs (by rw [HN.out];exact hz))
   obtain ⟨ad,rfl,hbk,hc⟩:=HS.out.int hz
   have d2:decide (0<(n:Int))=true:=zt (by omega)
   clear hz;go_enter Tryz.func73,Tryz.ntmps73
   go_wp2_with fail;go_ret;exact ⟨z2f HR.out.symm,HB.out⟩
  ·have HL:Hid (zs.length=0∨∃ z,zs[zs.length - 1]?=some z∧z≠0):=by
    rcases zqh n with h3 | h3
    ·exact .inl (by rw [HN.out];exact h3)
    ·obtain ⟨z,hz⟩:=z7m zs (n - 1) (by rw [HN.out];omega)
     exact .inr ⟨z,by rw [HN.out];exact hz,fun e=>hz0 ⟨h3,by rw [hz,e]⟩⟩
   have HLp:Hid (0<n→∃ z ad,zs[n - 1]?=some z∧A=some ad∧(w.alloc (.cells #[.slice A n c] 25)).cell? (ad.add (n - 1))=some (.int .i64 z)∧((z == 0)=false)):=fun h3=>by
    obtain ⟨z,hz⟩:=z7m zs (n - 1) (by rw [HN.out];omega)
    obtain ⟨ad,e,_,hc⟩:=HS.out.int hz
    exact ⟨z,ad,hz,e,hc,by rw [beq_eq_false_iff_ne];intro e;exact hz0 ⟨h3,by rw [hz,e]⟩⟩
   clear hz0;rcases zqh n with h3 | h3
   ·subst h3
    have HR:=zh (Na.vld_all zs (by rw [List.eq_nil_of_length_eq_zero HN.out];rfl) (by rw [HN.out];exact h2) HL.out)
    go_enter Tryz.func73,Tryz.ntmps73
    go_wp2_with fail;refine wp_loop_rounds 1 ?_
    rw [rounds_succ];go_wp2_with fail;go_ret;exact ⟨z2f HR.out.symm,HB.out⟩
   ·obtain ⟨z,ad,hz,rfl,hc,hzne⟩:=HLp.out h3
    have d2:decide (0<(n:Int))=true:=zt (by omega)
    clear hz;go_enter Tryz.func73,Tryz.ntmps73
    go_wp2_with fail;clear hc;go_loop [4] (fun v=>∃ k:Nat,k≤n∧v=.int .i64 (k:Int)∧Hid ((zs.take k).all Na.lim=true)) (fun v=>n - (intOf v).toNat)
    case atStart=>exact ⟨0,zqr _,rfl,rfl⟩
    case round=>
     obtain ⟨k,hk,rfl,HA⟩:=hrel;rcases zqi k n with hkn | hkn
     ·obtain ⟨y,hy⟩:=z7m zs k (by rw [HN.out];exact hkn)
      obtain ⟨ad',e',hbk,hc⟩:=HS.out.int hy
      obtain rfl:=zqk e'
      have HZ:=zh hy;clear hy e';by_cases h0:y<0
      ·have HR:=zh (Na.vld_bad zs k y HZ.out (Na.lim_lo h0))
       go_wp2_with fail;go_ret;exact ⟨z2f HR.out.symm,HB.out⟩
      ·have h0':0≤y:=by omega
       clear h0;by_cases h1:y<16777216
       ·have HA2:=zh (Na.all_take zs k y HZ.out HA.out (Na.lim_ok h0' h1))
        go_wp2_with fail;go_round
        case rel=>exact ⟨k+1,by omega,by go_num,HA2⟩
        case measure=>simp [intOf];omega
       ·have h1':16777216≤y:=by omega
        have HR:=zh (Na.vld_bad zs k y HZ.out (Na.lim_hi h1'))
        clear h1;go_wp2_with fail;go_ret;exact ⟨z2f HR.out.symm,HB.out⟩
     ·have HA2:Hid (zs.all Na.lim=true):=by
       have:=HA.out
       rw [zqp (by rw [HN.out];exact hkn)] at this
       exact this
      have HR:=zh (Na.vld_all zs HA2.out (by rw [HN.out];exact h2) HL.out)
      go_wp2_with fail;go_ret;exact ⟨z2f HR.out.symm,HB.out⟩
theorem z5ax (A:Option Addr)(n c B k:Nat)(l:List Nat)(kv:Int)(hkv:kv=(k:Int))(w:World)(hn:l.length=n)(hs:Sl w B A (z0c l))(hB:B≤w.heap.size)(hl:n≤140737488355328):
  Calls Tryz.prog 74 #[.agg #[.slice A n c],.int .i64 kv] w fun e w'=>e=.returned (.int .i64 ((Na.at0 l k:Nat):Int))∧Below w.heap.size w w':=by
 subst hkv
 have HB:=zh (z0i w (.cells #[.slice A n c] 25))
 have HS:=zh ((hs.more hB).alloc (zqj _) (.cells #[.slice A n c] 25))
 rcases zqi k n with hkn | hkn
 ·obtain ⟨a,ha⟩:=z0l l k (by rw [hn];exact hkn)
  obtain ⟨ad,rfl,_,hc⟩:=HS.out.nat ha
  have HR:=zh (Na.at0_some ha)
  clear ha hs hn;go_enter Tryz.func74,Tryz.ntmps74
  go_wp2_with fail;go_ret;exact ⟨by rw [HR.out];rfl,HB.out⟩
 ·have HR:=zh (Na.at0_none (l:=l) (k:=k) (by rw [hn];exact hkn))
  clear hs hn;go_enter Tryz.func74,Tryz.ntmps74
  go_wp2_with fail;go_ret;exact ⟨by rw [HR.out];rfl,HB.out⟩
theorem z9au (A:Option Addr)(n c:Nat)(l:List Nat)(w:World)(hn:l.length=n)(hs:Sl w w.heap.size A (z0c l))(hl:Na.Lim l)(hnc:n≤c)(h47:n≤140737488355328):
  Calls Tryz.prog 75 #[.slice A n c] w (z4k w (z5i (Na.val l)) (z4s (Na.val l))):=by
 obtain ⟨i0,hi,hz0,hz1,hz2⟩:=info_parts z5x
 have HLn:Hid (Na.tl l n=(Na.dig (Na.val l)).length):=by unfold Hid;rw [← hn];exact Na.trim_len hl
 have HTk:Hid (l.take (Na.tl l n)=Na.dig (Na.val l)):=by unfold Hid;rw [← Na.trim_dig hl];unfold Na.trim;rw [hn]
 have HN:=zh hn;have HS:=zh (hs.alloc (zqj _) (.cells #[.slice none 0 0] 25))
 have HB:=zh (z0i w (.cells #[.slice none 0 0] 25))
 have hcr:(w.alloc (.cells #[.slice none 0 0] 25)).cell? ⟨w.heap.size,0,none⟩=some (.slice none 0 0):=by simp [go_sem]
 have hfr:(w.alloc (.cells #[.slice none 0 0] 25)).frozen? ⟨w.heap.size,0,none⟩=false:=by simp [go_sem]
 have hzw:(w.alloc (.cells #[.slice none 0 0] 25)).heap.size=w.heap.size+1:=by simp
 obtain ⟨w0,hw0⟩:∃ w0,w.alloc (.cells #[.slice none 0 0] 25)=w0:=⟨_,rfl⟩
 have HW:Hid (w.alloc (.cells #[.slice none 0 0] 25)=w0):=hw0
 rw [hw0] at HS HB hcr hfr hzw;clear hs hn hl hw0;go_enter Tryz.func75,Tryz.ntmps75
 go_wp2_with fail;rw [HW.out];go_loop [4] (fun v=>∃ k:Nat,k≤n∧v=.int .i64 (k:Int)∧Hid (Na.tl l k=Na.tl l n)) (fun v=>(intOf v).toNat)
 case atStart=>exact ⟨n,zqj _,rfl,rfl⟩
 case round=>
  obtain ⟨k,hk,rfl,HT⟩:=hrel;by_cases hgo:∃ (h:0<k),l[k - 1]?=some 0
  ·obtain ⟨h0,hb⟩:=hgo;have hd:decide (0<(k:Int))=true:=zt (by omega)
   obtain ⟨ad,rfl,hbk,hc⟩:=HS.out.nat hb
   have ht:Hid (Na.tl l (k - 1)=Na.tl l n):=by
    unfold Hid;rw [← HT.out,← Na.tl_zero l (k - 1) hb,show k - 1+1=k from by omega]
   clear hb;go_wp2_with fail;go_round
   case rel=>exact ⟨k - 1,by omega,z0v (by omega),ht⟩
   case measure=>simp [intOf];omega
  ·have HK:Hid (Na.tl l n=k):=by
    unfold Hid;rw [← HT.out];rcases zqh k with h0 | h0
    ·rw [h0];rfl
    ·have h5:=Na.tl_stop l (k - 1) (fun e=>hgo ⟨h0,e⟩)
     rwa [show k - 1+1=k by omega] at h5
   have HC:Hid (k=0∨∃ (b:Nat) (ad:Addr),0<k∧A=some ad∧w0.cell? (ad.add (k - 1))=some (.int .i64 (b:Int))∧(((b:Int) == 0)=false)):=by
    rcases zqh k with h0 | h0
    ·exact .inl h0
    ·obtain ⟨b,hb⟩:=z0l l (k - 1) (by rw [HN.out];omega)
     obtain ⟨ad,e,_,hc⟩:=HS.out.nat hb
     exact .inr ⟨b,ad,h0,e,hc,by rw [beq_eq_false_iff_ne];intro e;exact hgo ⟨h0,by rw [hb];congr 1;omega⟩⟩
   have HSk:Hid (Sl w0 w.heap.size A (z0c (Na.dig (Na.val l)))):=by
    unfold Hid;rw [← HTk.out,HK.out,← z2n];exact HS.out.take k
   have HDl:Hid ((Na.dig (Na.val l)).length=k):=by unfold Hid;rw [← HLn.out];exact HK.out
   have hO0:Hid (w0.ownsRow (w.heap.size+1) 3 1 (.slice none 0 0) 0 []):=World.ownsRow_nil _ _ _ _
   clear hgo;rcases zqi (Na.val l) Na.top with h | h
   ·have h200:k≤200:=by rw [← HDl.out];exact (Na.dig_200 _).2 h
    have HR:=zh (z3t h)
    have HE:=zh (z3u h)
    have hkc:(k:Int)≤(c:Int):=by omega
    clear h;rcases HC.out with h0 | ⟨b,ad,h0,hA,hc,hbne⟩
    ·subst h0
     go_wp2_with (at_builtin;refine z0h _ rfl (.const (.slice none 0 0)) (.tmp 24) 22 rfl (w.heap.size+1) 3 i0 (.int .i64 0) 8 Tryz.underlying22 hi hz0 hz1 hz2 rfl _ _ _ _ rfl hO0.out _ _ 0 _ _ rfl (by rw [z0f];exact HDl.out) HSk.out (z2u _) (by unfold maxLen;omega) (by omega) (by omega) ?_;intro A' c' w8 hown hgrow hblk;have hb8:=z4m hgrow;have hc8:=(hb8.cell (p:=⟨w.heap.size,0,none⟩) (by simp only [hzw];omega)).trans hcr;have hf8:=(hb8.frozen (p:=⟨w.heap.size,0,none⟩) (by simp only [hzw];omega)).trans hfr)
     refine bodyPost_ret (v:=.tuple #[.agg #[.slice A' 0 c'],.int .i64 0]) (by simp [results,Tryz.results75,go_sem,hc8]) rfl ?_
     rw [HR.out,HE.out];rw [Nat.zero_add] at hown;exact z2i hown HDl.out (Nat.lt_succ_self _) (Nat.le_succ _) (HB.out.trans (hb8.mono (by omega))) (zqj _) _ _
    ·subst hA
     have hd:decide (0<(k:Int))=true:=zt (by omega)
     go_wp2_with (at_builtin;refine z0h _ rfl (.const (.slice none 0 0)) (.tmp 24) 22 rfl (w.heap.size+1) 3 i0 (.int .i64 0) 8 Tryz.underlying22 hi hz0 hz1 hz2 rfl _ _ _ _ rfl hO0.out _ _ k _ _ rfl (by rw [z0f];exact HDl.out) HSk.out (z2u _) (by unfold maxLen;omega) (by omega) (by omega) ?_;intro A' c' w8 hown hgrow hblk;have hb8:=z4m hgrow;have hc8:=(hb8.cell (p:=⟨w.heap.size,0,none⟩) (by simp only [hzw];omega)).trans hcr;have hf8:=(hb8.frozen (p:=⟨w.heap.size,0,none⟩) (by simp only [hzw];omega)).trans hfr)
     refine bodyPost_ret (v:=.tuple #[.agg #[.slice A' k c'],.int .i64 0]) (by simp [results,Tryz.results75,go_sem,hc8]) rfl ?_
     rw [HR.out,HE.out];rw [Nat.zero_add] at hown;exact z2i hown HDl.out (Nat.lt_succ_self _) (Nat.le_succ _) (HB.out.trans (hb8.mono (by omega))) (zqj _) _ _
   ·have h200:200<k:=by rw [← HDl.out];exact Na.dig_len_ge h
    have HR:=zh (z0ac h)
    have HE:=zh (z0ad h)
    clear h;rcases HC.out with h0 | ⟨b,ad,h0,hA,hc,hbne⟩
    ·omega
    ·subst hA
     have hd:decide (0<(k:Int))=true:=zt (by omega)
     go_wp2_with fail;refine bodyPost_ret (v:=.tuple #[.agg #[.slice none 0 0],.int .i64 3]) (by simp [results,Tryz.results75,go_sem,hcr]) rfl ?_
     rw [HR.out,HE.out];exact z2b _ _ _ (z5d HB.out _ (zqj _) _)
namespace Na
set_option maxHeartbeats 4000000
end Na
namespace Na
set_option maxHeartbeats 4000000
theorem sq24 {e a b c:Nat}(he:e<16777216)(ha:a<16777216)(hb:b<16777216)(hc:c<16777216):e+a*b+c<281474976710656:=by
 have:=Nat.mul_le_mul (show a≤16777215 by omega) (show b≤16777215 by omega)
 omega
end Na
theorem z5au (A A2:Option Addr)(n c m c2:Nat)(x y:Nat)(w:World)(hn:(Na.dig x).length=n)(hm:(Na.dig y).length=m)(hnc:n≤c)(hmc:m≤c2)(hs:Sl w w.heap.size A (z0c (Na.dig x)))(hs2:Sl w w.heap.size A2 (z0c (Na.dig y)))(hl:n≤1000)(hl2:m≤1000):
  Calls Tryz.prog 47 #[.agg #[.slice A n c],.agg #[.slice A2 m c2]] w fun e w'=>e=.returned (.int .i64 (Na.sgn x y))∧Below w.heap.size w w':=by
 have H0:=((((Ow.of (St.refl w)).old hs (by rw [z0f];exact hn) hnc hl).old hs2 (by rw [z0f];exact hm) hmc hl2).boxed (.slice A n c) 25).boxed (.slice A2 m c2) 25
 simp only [World.size_alloc,zqc,zqb] at H0;have hc0:=H0.cell 0 rfl
 have hc1:=H0.cell 1 rfl
 have HN:=zh hn;have HM:=zh hm;have HB:=zh H0.below;obtain ⟨-,-,-,q1⟩:=H0.sl (i:=0) rfl
 obtain ⟨-,-,-,q2⟩:=H0.sl (i:=1) rfl
 have HP:=zh q1;have HQ:=zh q2;clear hn hm hs hs2 q1 q2 H0;rcases Nat.lt_trichotomy n m with hnm | hnm | hnm
 ·have hne:((n:Int) != (m:Int))=true:=by rw [bne_iff_ne];omega
  have HR:Hid (Na.sgn x y=-1):=by unfold Hid;rw [Na.sgn_of_len (by rw [HN.out,HM.out];omega),HN.out,HM.out];exact Na.sgn_lt hnm
  have hd:decide (n<m)=true:=zt hnm
  clear hnm;go_enter Tryz.func47,Tryz.ntmps47
  go_wp2_with fail;go_ret;exact ⟨by rw [HR.out];rfl,HB.out⟩
 ·subst hnm
  have hne:((n:Int) != (n:Int))=false:=by simp
  obtain ⟨w0,hw0⟩:∃ w0,(w.alloc (.cells #[.slice A n c] 25)).alloc (.cells #[.slice A2 n c2] 25)=w0:=⟨_,rfl⟩
  have HW:Hid ((w.alloc (.cells #[.slice A n c] 25)).alloc (.cells #[.slice A2 n c2] 25)=w0):=hw0
  rw [hw0] at HB HP HQ hc0 hc1;clear hw0;go_enter Tryz.func47,Tryz.ntmps47
  go_wp2_with fail;rw [HW.out];go_loopw [5] (fun v wr=>∃ (z:Int) (nq:Nat),-1≤z∧z<n∧v=.int .i64 z∧wr=w0.drewN nq∧Hid ((Na.dig x).drop (z+1).toNat=(Na.dig y).drop (z+1).toNat)) (fun v _=>(intOf v+1).toNat)
  case atStart=>exact ⟨(n:Int) - 1,0,by omega,by omega,by go_num,rfl,by unfold Hid;rw [List.drop_of_length_le (by rw [HN.out];omega),List.drop_of_length_le (by rw [HM.out];omega)]⟩
  case round=>
   obtain ⟨z,nq,hz1,hz2,rfl,rfl,HE⟩:=hrel;rcases Int.lt_or_le z 0 with hz | hz
   ·have HR:Hid (Na.sgn x y=0):=Na.sgn_eq (Na.dig_inj (by have:=HE.out;rw [show (z+1).toNat=0 by omega,List.drop_zero,List.drop_zero] at this;exact this))
    clear hz1;go_wp2_with fail;go_ret;exact ⟨by rw [HR.out];rfl,z0p HB.out _⟩
   ·obtain ⟨k,rfl⟩:=Int.eq_ofNat_of_zero_le hz
    have hkn:k<n:=by omega
    obtain ⟨a,ha⟩:=z0l (Na.dig x) k (by rw [HN.out];exact hkn)
    obtain ⟨b,hb⟩:=z0l (Na.dig y) k (by rw [HM.out];exact hkn)
    obtain ⟨ad,rfl,_,hca⟩:=HP.out.nat ha
    obtain ⟨ad2,rfl,_,hcb⟩:=HQ.out.nat hb
    have HE1:Hid ((Na.dig x).drop (k+1)=(Na.dig y).drop (k+1)):=HE.out
    have HHA:=zh ha;have HHB:=zh hb;clear ha hb hz1 hz HE;rcases Nat.lt_trichotomy a b with hab | hab | hab
    ·have h1:decide (a<b)=true:=zt hab
     have HR:Hid (Na.sgn x y=-1):=by unfold Hid;rw [Na.sgn_at HHA.out HHB.out HE1.out (by omega)];exact Na.sgn_lt hab
     clear hab;go_wp2_with fail;go_quiet (fail)
     go_wp2_with fail;go_ret;exact ⟨by rw [HR.out];rfl,z0p (z0p HB.out _) _⟩
    ·subst hab
     have h1:decide (a<a)=false:=zn (by omega)
     have HE2:Hid ((Na.dig x).drop ((k:Int) - 1+1).toNat=(Na.dig y).drop ((k:Int) - 1+1).toNat):=by
      unfold Hid;rw [show ((k:Int) - 1+1).toNat=k by omega]
      exact Na.drop_same HHA.out HHB.out HE1.out
     go_wp2_with fail;go_quiet (fail)
     go_wp2_with fail;go_quiet (fail)
     go_wp2_with fail;go_roundw
     case rel=>exact ⟨(k:Int) - 1,_,by omega,by omega,rfl,rfl,HE2⟩
     case measure=>simp [intOf]
    ·have h1:decide (a<b)=false:=zn (by omega)
     have h2:decide (b<a)=true:=zt hab
     have HR:Hid (Na.sgn x y=1):=by unfold Hid;rw [Na.sgn_at HHA.out HHB.out HE1.out (by omega)];exact Na.sgn_gt hab
     clear hab;go_wp2_with fail;go_quiet (fail)
     go_wp2_with fail;go_quiet (fail)
     go_wp2_with fail;go_ret;exact ⟨by rw [HR.out];rfl,z0p (z0p (z0p HB.out _) _) _⟩
 ·have hne:((n:Int) != (m:Int))=true:=by rw [bne_iff_ne];omega
  have HR:Hid (Na.sgn x y=1):=by unfold Hid;rw [Na.sgn_of_len (by rw [HN.out,HM.out];omega),HN.out,HM.out];exact Na.sgn_gt hnm
  have hd:decide (n<m)=false:=zn (by omega)
  clear hnm;go_enter Tryz.func47,Tryz.ntmps47
  go_wp2_with fail;go_ret;exact ⟨by rw [HR.out];rfl,HB.out⟩
def z9v (w:World)(l:List Nat)(en:Ending)(w':World):Prop:=
 ∃ (A:Option Addr) (n c:Nat),en=.returned (.agg #[.slice A n c])∧l.length=n∧n≤c∧w'.ownsRow w.heap.size 3 1 (.slice A n c) n (z0c l)∧Below w.heap.size w w'
theorem z3y {w w':World}{g:Option Nat}{M:List (Nat×Value)}{L:List Ob}{O:List Rw}(h:Ow w w' g M L O)(i:Nat){A:Option Addr}{n c:Nat}{l:List Nat}(hi:O[i]?=some ⟨A,n,c,3,z0c l⟩):z9v w l (.returned (.agg #[.slice A n c])) w':=by
 have ho:=h.row i hi
 exact ⟨A,n,c,rfl,by have:=z2a ho;rwa [z0f] at this,(z1l ho).1,ho,h.below⟩
theorem Ow.trimmed {w0 w:World}{g:Option Nat}{M:List (Nat×Value)}{L:List Ob}{O:List Rw}(h:Ow w0 w g M L O)(i:Nat){A:Option Addr}{n c:Nat}{l:List Nat}(hi:O[i]?=some ⟨A,n,c,3,z0c l⟩)(hl:Na.Lim l){k x:Nat}(hk:Na.tl l l.length=k)(hx:Na.val l=x):Ow w0 w g M L (O.set i ⟨A,k,c,3,z0c (Na.dig x)⟩):=by
 have hn:=z2a (h.row i hi)
 rw [z0f] at hn;have h1:=h.cut i hi (k:=k) (by rw [← hk,← hn];exact Na.tl_le _ _)
 rw [z2n] at h1;have e:=Na.trim_dig hl
 unfold Na.trim at e;rw [hk,hx] at e;rwa [e] at h1
def RTim (w:World)(M:List (Nat×Value))(L:List Ob)(Y:List Nat)(n m:Nat)(i s cr:Value)(wr:World):Prop:=
 ∃ (k c:Nat) (A:Option Addr) (ca:Nat) (o:List Nat),k≤n∧i=.int .i64 (k:Int)∧s=.slice A k ca∧cr=.int .i64 (c:Int)∧c<16777216∧Hid (o.length=k∧Na.Lim o∧Na.val o+16777216 ^ k*c=Na.val (Y.take k)*m+0)∧Hid (Ow w wr none M L [⟨A,k,ca,3,z0c o⟩])
theorem z0ar (A:Option Addr)(n c y m:Nat)(mv:Int)(hmv:mv=(m:Int))(w:World)(hn:(Na.dig y).length=n)(hnc:n≤c)(hs:Sl w w.heap.size A (z0c (Na.dig y)))(hl:n≤999)(hm:m<16777216):
  Calls Tryz.prog 103 #[.agg #[.slice A n c],.int .i64 mv] w (z9v w (Na.dig (y*m))):=by
 subst hmv
 have H0:=(((Ow.of (St.refl w)).old hs (by rw [z0f];exact hn) hnc (by omega)).boxed (.slice A n c) 25).boxed (.slice none 0 0) 25
 simp only [World.size_alloc,zqc,zqb] at H0;have hmk:=z5p.make .i64 .i64 0 ((n:Int)+1) 0 (n+1) rfl (by omega) (by omega) (by omega) (by omega)
 have hc0:=H0.cell 0 rfl
 have H1:=H0.made 3 (.int .i64 0) 0 (n+1) rfl (by omega) (by unfold maxLen;omega)
 simp only [World.size_alloc,zqc] at H1;obtain ⟨w1,hw1⟩:∃ w1,((w.alloc (.cells #[.slice A n c] 25)).alloc (.cells #[.slice none 0 0] 25)).alloc (.cells (madeCells #[.int .i64 0] (n+1)) 3)=w1:=⟨_,rfl⟩
 have HW:Hid (((w.alloc (.cells #[.slice A n c] 25)).alloc (.cells #[.slice none 0 0] 25)).alloc (.cells (madeCells #[.int .i64 0] (n+1)) 3)=w1):=hw1
 rw [hw1] at H1;have HH:=zh H1;have HN:=zh hn;clear hn hs H0 H1 hw1;go_enter Tryz.func103,Tryz.ntmps103
 go_wp2_with fail;rw [HW.out];clear hc0 hmk;go_loopw [7,5,6] (fun i s cr wr=>RTim w [(w.heap.size,.slice A n c),(w.heap.size+1,.slice none 0 0)] [⟨A,n,c,z0c (Na.dig y)⟩] (Na.dig y) n m i s cr wr) (fun i _ _ _=>n - (intOf i).toNat)
 case atStart=>exact ⟨0,0,_,_,[],zqr _,rfl,rfl,rfl,by omega,⟨rfl,Na.Lim.nil,by simp [Na.val]⟩,HH.out⟩
 case round=>
  obtain ⟨k,cr,Ao,co,o,hk,rfl,rfl,rfl,hcr,HP,HO⟩:=hrel;have hc0:=HO.out.cell 0 rfl
  have HQ:=HO.out.sl (i:=0) rfl
  rcases zqi k n with hkn | hkn
  ·obtain ⟨a,ha⟩:=z0l (Na.dig y) k (by rw [HN.out];exact hkn)
   have ha24:=(Na.dig_lim y).at ha
   obtain ⟨ad,rfl,_,hca⟩:=HQ.2.2.2.nat ha
   obtain ⟨p,hp⟩:∃ p,a*m=p:=⟨_,rfl⟩
   have hp1:(a:Int)*(m:Int)=(p:Int):=by rw [← hp];rfl
   obtain ⟨v,hv⟩:∃ v,p+cr=v:=⟨_,rfl⟩
   have hv48:v<281474976710656:=by have:=Na.sq24 (e:=0) (by omega) ha24 hm hcr;omega
   obtain ⟨r,hr⟩:∃ r,v % 16777216=r:=⟨_,rfl⟩
   obtain ⟨q,hq⟩:∃ q,v / 16777216=q:=⟨_,rfl⟩
   have HSt:=zh (Na.grow_step (Na.dig y) o k a m cr 0 v HP.out.1 ha HP.out.2.2 (by rw [hp];omega))
   rw [hr,hq] at HSt;have hmod:((p:Int)+(cr:Int)) % 16777216=(r:Int):=by omega
   have hdiv:((p:Int)+(cr:Int)) / 16777216=(q:Int):=by omega
   have hq24:q<16777216:=by omega
   have hr24:r<16777216:=by omega
   have HLr:=zh (HP.out.2.1.append (Na.Lim.one hr24))
   have HLl:Hid ((o++[r]).length=k+1):=by unfold Hid;rw [zqm,HP.out.1];rfl
   clear ha hp hv hr hq;go_wp2_with (at_builtin;refine z5m z5p HO.out 0 (.tmp 31) (.tmp 34) _ _ rfl rfl (by unfold maxLen;omega) (by omega) rfl rfl rfl rfl ?_;intro A' c' w8 how)
   go_roundw
   case rel=>
    rw [z1e] at how;exact ⟨k+1,q,A',c',o++[r],by omega,by go_num,rfl,(by first | rfl | exact z0v hdiv),hq24,⟨HLl.out,HLr.out,HSt.out⟩,how⟩
   case measure=>simp [intOf];omega
  ·obtain rfl:k=n:=by omega
   have HV:Hid (Na.val (o++[cr])=y*m):=by
    unfold Hid;have h7:=HP.out.2.2;rw [zqp (by rw [HN.out];omega),Na.val_dig] at h7
    rw [Na.val_snoc,HP.out.1];omega
   have HL1:=zh (HP.out.2.1.append (Na.Lim.one hcr))
   have HLl:Hid ((o++[cr]).length=k+1):=by unfold Hid;rw [zqm,HP.out.1];rfl
   clear HQ;go_wp2_with (at_builtin;refine z5m z5p HO.out 0 (.tmp 38) (.tmp 40) _ _ rfl rfl (by unfold maxLen;omega) (by omega) rfl rfl rfl rfl ?_;intro A' c' w8 how)
   rw [z1e] at how;obtain ⟨l,hl0⟩:∃ l,o++[cr]=l:=⟨_,rfl⟩
   rw [hl0] at how HV HL1 HLl;have HX:=zh how;clear HO hl0 how hc0;go_loop [9] (fun v=>∃ j:Nat,j≤k+1∧v=.int .i64 (j:Int)∧Hid (Na.tl l j=Na.tl l l.length)) (fun v=>(intOf v).toNat)
   case atStart=>exact ⟨k+1,zqj _,rfl,by unfold Hid;rw [HLl.out]⟩
   case round=>
    obtain ⟨j,hj,rfl,HT⟩:=hrel;have hrw:=HX.out.row 0 rfl
    have hown:=Sl.of_own hrw
    rcases Na.tl_case l l.length j (by rw [HLl.out];exact hj) HT.out with ⟨h0,hz,ht⟩ | ⟨ht,hs⟩
    ·obtain ⟨ad2,rfl,_,hcb⟩:=hown.nat hz
     have HT2:=zh ht;have hd:decide (0<(j:Int))=true:=zt (by omega)
     clear hown hz ht hrw;go_wp2_with fail;go_round
     case rel=>exact ⟨j - 1,by omega,z0v (by omega),HT2⟩
     case measure=>simp [intOf];omega
    ·have hcap:=(z1l hrw).1
     have hjc:(j:Int)≤(c':Int):=by omega
     have HTr:=zh (HX.out.trimmed 0 rfl HL1.out ht HV.out)
     have hc1:=HX.out.cell 1 rfl
     have hf1:=HX.out.free 1 rfl
     clear hrw hcap ht HT;rcases hs with h0 | ⟨h0,b,hb,hbne⟩
     ·subst h0
      clear hown;go_wp2_with fail;have h2:=HTr.out.setv 1 rfl (.slice A' 0 c')
      have hc2:=h2.cell 1 rfl
      refine bodyPost_ret (v:=.agg #[.slice A' 0 c']) (by simp [results,Tryz.results103,go_sem,hc2]) rfl ?_
      exact z3y h2 0 rfl
     ·obtain ⟨ad2,rfl,_,hcb⟩:=hown.nat hb
      have hd:decide (0<(j:Int))=true:=zt (by omega)
      clear hown hb;go_wp2_with fail;have h2:=HTr.out.setv 1 rfl (.slice (some ad2) j c')
      have hc2:=h2.cell 1 rfl
      refine bodyPost_ret (v:=.agg #[.slice (some ad2) j c']) (by simp [results,Tryz.results103,go_sem,hc2]) rfl ?_
      exact z3y h2 0 rfl
namespace Na
set_option maxHeartbeats 4000000
def lent (o:List Nat)(b:Nat):List Nat→List Int
 | []=>up o
 | a :: r=>up o++((a:Int) - b) :: up r
theorem z6f (o r:List Nat):up (o++r)=up o++up r:=by simp [up]
theorem z2bo (a:Nat)(r:List Nat):up (a :: r)=(a:Int) :: up r:=rfl
theorem lent_get (o:List Nat)(b a:Nat)(r:List Nat):(lent o b (a :: r))[o.length]?=some ((a:Int) - b):=by
 rw [lent,zqo (by rw [up_length];exact zqj _),up_length,Nat.sub_self];rfl
theorem lent_set (o:List Nat)(b a:Nat)(r:List Nat)(v:Int):(lent o b (a :: r)).set o.length v=up o++v :: up r:=by
 rw [lent,List.set_append_right _ _ (by rw [up_length];exact zqj _),up_length,Nat.sub_self];rfl
theorem mid_set (o r:List Nat)(u v:Int):(up o++u :: up r).set o.length v=up o++v :: up r:=by
 rw [List.set_append_right _ _ (by rw [up_length];exact zqj _),up_length,Nat.sub_self];rfl
theorem mid_get (o r:List Nat)(u:Int):(up o++u :: up r)[o.length]?=some u:=by
 rw [zqo (by rw [up_length];exact zqj _),up_length,Nat.sub_self];rfl
theorem mid_get1 (o r:List Nat)(u:Int)(a:Nat):(up o++u :: up (a :: r))[o.length+1]?=some (a:Int):=by
 rw [zqo (by rw [up_length];exact Nat.le_succ _),up_length,Nat.add_sub_cancel_left];rfl
theorem lent_zero (o r:List Nat)(d:Nat):up o++(d:Int) :: up r=lent (o++[d]) 0 r:=by
 cases r with
 | nil=>rw [lent,z6f];rfl
 | cons a r=>rw [lent,z6f,zqa];simp [up]
theorem lent_one (o r:List Nat)(d a:Nat):(up o++(d:Int) :: up (a :: r)).set (o.length+1) ((a:Int) - 1)=lent (o++[d]) 1 (a :: r):=by
 rw [List.set_append_right _ _ (by rw [up_length];exact Nat.le_succ _),up_length,Nat.add_sub_cancel_left,lent,z6f,zqa];rfl
theorem lent_nil (o:List Nat)(b:Nat):z0t (lent o b [])=z0c o:=z0g o
theorem lent_start (X:List Nat):z0t (lent [] 0 X)=z0c X:=by
 cases X with
 | nil=>rfl
 | cons a r=>
  rw [← z0g];have:lent [] 0 (a :: r)=up (a :: r):=by rw [lent,z2bo];simp [up]
  rw [this]
end Na
theorem z8c (l:List Int)(k:Nat)(b:Int):(z0t l).set k (.int .i64 b)=z0t (l.set k b):=by unfold z0t;rw [List.map_set];rfl
theorem z0an {w:World}{base n c g:Nat}{e:TypeId}{l:List Int}(h:w.ownsRow base e 1 (.slice (some ⟨g,0,none⟩) n c) n (z0t l)){k:Nat}{b:Int}(hk:l[k]?=some b):w.cell? ⟨g,k,none⟩=some (.int .i64 b):=by
 have hl:=z2a h
 rw [z0s] at hl;rw [h.cellAt k (by have:=z0e hk;omega)]
 unfold z0t;rw [List.getElem?_map,hk];rfl
theorem z8v {P:Program}{f:FuncId}{args:Array Value}{w:World}{v:Value}(h:∀ W,Below w.heap.size w W→Calls P f args W fun e w'=>e=.returned v∧Below W.heap.size W w')(d:Nat)(os:Array Obj):Calls P f args (grow (redrawn w d) os) fun e w''=>e=.returned v∧∃ p:Regrown,w''=grow (redrawn w p.d) p.os:=
 Calls.regrown_of (h _ (below_regrown w d os))
theorem z7q {w W:World}(h:∃ p:Regrown,W=grow (redrawn w p.d) p.os):Below w.heap.size w W:=by
 obtain ⟨p,rfl⟩:=h;exact below_regrown _ _ _
def z8bl (w:World)(M:List (Nat×Value))(L:List Ob)(X Y:List Nat)(n:Nat)(A:Option Addr)(ca:Nat)(i:Value)(wr:World):Prop:=
 ∃ (k b:Nat) (o:List Nat),k≤n∧i=.int .i64 (k:Int)∧b≤1∧Hid (o.length=k∧Na.Lim o∧Na.val o+Na.val (Y.take k)=Na.val (X.take k)+16777216 ^ k*b)∧Hid (Ow w wr none M L [⟨A,n,ca,3,z0t (Na.lent o b (X.drop k))⟩])
theorem z1aw {w0 w:World}{g:Option Nat}{M:List (Nat×Value)}{L:List Ob}{gb n c:Nat}{e:TypeId}{vs:List Value}{O:List Rw}(h:Ow w0 w g M L (⟨some ⟨gb,0,none⟩,n,c,e,vs⟩ :: O)):gb<w.heap.size:=(h.lt (i:=0) rfl (b:=gb) rfl).1
theorem z3aw (A A2:Option Addr)(n c m c2 x y:Nat)(w:World)(hn:(Na.dig x).length=n)(hm:(Na.dig y).length=m)(hnc:n≤c)(hmc:m≤c2)(hs:Sl w w.heap.size A (z0c (Na.dig x)))(hs2:Sl w w.heap.size A2 (z0c (Na.dig y)))(hl:n≤999)(hl2:m≤999)(hle:y≤x):
  Calls Tryz.prog 104 #[.agg #[.slice A n c],.agg #[.slice A2 m c2]] w (z9v w (Na.dig (x - y))):=by
 have H0:=(((((Ow.of (St.refl w)).old hs (by rw [z0f];exact hn) hnc (by omega)).old hs2 (by rw [z0f];exact hm) hmc (by omega)).boxed (.slice A n c) 25).boxed (.slice A2 m c2) 25).boxed (.slice none 0 0) 25
 simp only [World.size_alloc,zqc,zqb] at H0;have hc0:=H0.cell 0 rfl
 have H1:=H0.nil 3
 simp only [zqc] at H1;have HH:=zh H1;have HN:=zh hn;have HM:=zh hm;have HS:=zh (H0.sl (i:=0) rfl)
 have HLe:=zh hle;have hmn:m≤n:=by rw [← hn,← hm];exact Na.dig_len_mono hle
 clear hn hm hs hs2 H0 H1 hle;go_enter Tryz.func104,Tryz.ntmps104
 go_wp2_with (at_builtin;refine z4x z5p HH.out 0 (.const (.slice none 0 0)) (.tmp 9) rfl (by rw [z0f];exact HN.out) HS.out.2.2.2 (z2u _) (by unfold maxLen;omega) (by omega) rfl rfl rfl rfl ?_;intro A' c' w1 how)
 rw [zqc,Nat.zero_add] at how;have HX:=zh how;clear how HH hc0;go_loopw [6] (fun i wr=>z8bl w [(w.heap.size,.slice A n c),(w.heap.size+1,.slice A2 m c2),(w.heap.size+1+1,.slice none 0 0)] [⟨A,n,c,z0c (Na.dig x)⟩,⟨A2,m,c2,z0c (Na.dig y)⟩] (Na.dig x) (Na.dig y) n A' c' i wr) (fun i _=>n - (intOf i).toNat)
 case atStart=>exact ⟨0,0,[],zqr _,rfl,zqr _,⟨rfl,Na.Lim.nil,by simp [Na.val]⟩,by unfold Hid;rw [List.drop_zero,Na.lent_start];exact HX.out⟩
 case round=>
  obtain ⟨k,bw,o,hk,rfl,hbw,HP,HO⟩:=hrel;rcases zqi k n with hkn | hkn
  ·obtain ⟨a,ha⟩:=z0l (Na.dig x) k (by rw [HN.out];exact hkn)
   have ha24:=(Na.dig_lim x).at ha
   have hat:=Na.at0_some ha
   obtain ⟨R,hR⟩:∃ R,(Na.dig x).drop (k+1)=R:=⟨_,rfl⟩
   have hdr:(Na.dig x).drop k=a :: R:=by rw [← hR];exact List.drop_eq_getElem?_toList_append ▸ (by rw [ha];rfl)
   have HO1:=HO.out;rw [hdr] at HO1;have HRl:Hid (R.length+(k+1)=n):=by unfold Hid;rw [← hR,List.length_drop,HN.out];omega
   have HRR:=zh hR;have hrow:=HO1.row 0 rfl
   obtain ⟨gb,rfl,-,-⟩:=z0r hrow (by omega)
   obtain ⟨u,hu⟩:∃ u:Int,(a:Int) - (bw:Int)=u:=⟨_,rfl⟩
   have hg0:(Na.lent o bw (a :: R))[k]?=some u:=by rw [← hu];have:=Na.lent_get o bw a R;rwa [HP.out.1] at this
   have hcl:=z0an hrow hg0
   have hfz:=hrow.frozenAt k
   obtain ⟨b,hb⟩:∃ b,Na.at0 (Na.dig y) k=b:=⟨_,rfl⟩
   have hb24:b<16777216:=by rw [← hb];exact Na.at0_lt (Na.dig_lim y) k
   have hc1:=HO1.cell 1 rfl
   have HQ:=zh (HO1.sl (i:=1) rfl)
   have cL:=z8v (P:=Tryz.prog) (w:=wr) (f:=74) (args:=#[.agg #[.slice A2 m c2],.int .i64 (k:Int)]) (v:=.int .i64 (b:Int)) (fun W hW=>by
    rw [← hb];exact z5ax A2 m c2 wr.heap.size k (Na.dig y) _ rfl W HM.out (HQ.out.2.2.2.below hW) hW.size (by omega))
   have k1:=cell_regrown hc1
   have k2:=cell_regrown hcl
   have HOw:=zh HO1;obtain ⟨v0,hv0⟩:∃ v0:Int,u - (b:Int)=v0:=⟨_,rfl⟩
   have hset:(z0t (Na.lent o bw (a :: R))).set k (.int .i64 v0)=z0t (Na.up o++v0 :: Na.up R):=by
    rw [z8c];have:=Na.lent_set o bw a R v0;rw [HP.out.1] at this;rw [this]
   have HHu:=zh hu;have HHv:=zh hv0;have HHb:=zh hb;have HHa:=zh hat;have HSt:=zh hset;have hub : -2≤u∧u<16777216:=by omega
   clear ha hat hR hdr hg0 hu hb HO HO1 hrow hset hc1;go_upto_region 5 with (fail)
   refine z5j 9 (by kernel_rfl) (by kernel_rfl) ?_
   simp only [List.take_succ_cons,List.take_zero,List.drop_succ_cons,List.drop_zero]
   repeat (quiet_step (exact cL _ _))
   refine wpQuiet_nil ?_
   intro W hW;have hbl:=z7q hW
   clear hW k1 k2 cL;have hcw:=(hbl.cell (p:=⟨gb,k,none⟩) (z1aw HOw.out)).trans hcl
   have hfw:=(hbl.frozen (p:=⟨gb,k,none⟩) (z1aw HOw.out)).trans hfz
   have H5:=(HOw.out.go hbl).put 0 rfl k (.int .i64 v0)
   rw [zqd,HSt.out] at H5;clear hcl hfz HOw hbl HSt HQ;go_upto_region 6 with (fail)
   obtain ⟨w5,hw5⟩:∃ w5,W.setCell ⟨gb,k,none⟩ (.int .i64 v0)=w5:=⟨_,rfl⟩
   rw [hw5] at H5 ⊢
   clear hw5 hcw hfw;have hr5:=H5.row 0 rfl
   have hg5:(Na.up o++v0 :: Na.up R)[k]?=some v0:=by have:=Na.mid_get o R v0;rwa [HP.out.1] at this
   have hc5:=z0an hr5 hg5
   have hf5:=hr5.frozenAt k
   have HO5:=zh H5;clear H5 hr5 hg5;by_cases hneg:v0<0
   ·obtain ⟨d,hd⟩:∃ d:Nat,v0+16777216=(d:Int):=⟨(v0+16777216).toNat,by have:=HHv.out;have:=HHu.out;omega⟩
    have hd24:d<16777216:=by omega
    have HSB:=zh (Na.sub_no (Na.dig x) (Na.dig y) o k bw d HP.out.1 HP.out.2.2 (by rw [HHa.out,HHb.out];have:=HHv.out;have:=HHu.out;omega))
    have HLr:=zh (HP.out.2.1.append (Na.Lim.one hd24))
    have HLl:Hid ((o++[d]).length=k+1):=by unfold Hid;rw [zqm,HP.out.1];rfl
    have hkn1:k+1<n:=by
     rcases zqi (k+1) n with h | h
     ·exact h
     ·exfalso
      have h1:=HSB.out;rw [zqp (by have:=HN.out;have:=HM.out;omega),zqp (by have:=HN.out;have:=HM.out;omega),Na.val_dig,Na.val_dig] at h1
      have h2:=Na.val_lt HLr.out
      rw [HLl.out] at h2;have:=HLe.out
      omega
    obtain ⟨a1,ha1⟩:=z0l (Na.dig x) (k+1) (by rw [HN.out];exact hkn1)
    have ha24':=(Na.dig_lim x).at ha1
    obtain ⟨R1,hR1⟩:∃ R1,(Na.dig x).drop (k+2)=R1:=⟨_,rfl⟩
    have hRc:R=a1 :: R1:=by rw [← HRR.out,← hR1];exact List.drop_eq_getElem?_toList_append ▸ (by rw [ha1];rfl)
    subst hRc
    have hn1:(v0+16777216:Int)=d:=hd
    have hs6:(z0t (Na.up o++v0 :: Na.up (a1 :: R1))).set k (.int .i64 (d:Int))=z0t (Na.up o++(d:Int) :: Na.up (a1 :: R1)):=by
     rw [z8c];have:=Na.mid_set o (a1 :: R1) v0 d;rw [HP.out.1] at this;rw [this]
    have H6:=HO5.out.put 0 rfl k (.int .i64 (d:Int))
    rw [zqd,hs6] at H6;clear ha1 hR1 hs6 HO5 hd;go_upto_region 8 with (fail)
    obtain ⟨w6,hw6⟩:∃ w6,w5.setCell ⟨gb,k,none⟩ (.int .i64 (d:Int))=w6:=⟨_,rfl⟩
    rw [hw6] at H6 ⊢
    clear hw6 hc5 hf5 hn1;have hr6:=H6.row 0 rfl
    have hg6:(Na.up o++(d:Int) :: Na.up (a1 :: R1))[k+1]?=some (a1:Int):=by have:=Na.mid_get1 o R1 d a1;rwa [HP.out.1] at this
    have hc6:=z0an hr6 hg6
    have hf6:=hr6.frozenAt (k+1)
    have hs7:(z0t (Na.up o++(d:Int) :: Na.up (a1 :: R1))).set (k+1) (.int .i64 ((a1:Int) - 1))=z0t (Na.lent (o++[d]) 1 (a1 :: R1)):=by
     rw [z8c];have:=Na.lent_one o R1 d a1;rw [HP.out.1] at this;rw [this]
    have H7:=H6.put 0 rfl (k+1) (.int .i64 ((a1:Int) - 1))
    rw [zqd,hs7,← HRR.out] at H7;have HO7:=zh H7;have s4:((k:Int)+1).toNat=k+1:=by omega
    clear H6 H7 hr6 hg6 hs7 hneg;go_wp2_with fail;go_roundw
    case rel=>exact ⟨k+1,1,o++[d],by omega,by go_num,zqj _,⟨HLl.out,HLr.out,HSB.out⟩,HO7.out⟩
    case measure=>simp [intOf];omega
   ·have hpos:0≤v0:=by omega
    obtain ⟨d,rfl⟩:=Int.eq_ofNat_of_zero_le hpos
    have hd24:d<16777216:=by have:=HHv.out;omega
    have HSB:=zh (Na.sub_yes (Na.dig x) (Na.dig y) o k bw d HP.out.1 HP.out.2.2 (by rw [HHa.out,HHb.out];have:=HHv.out;have:=HHu.out;omega))
    have HLr:=zh (HP.out.2.1.append (Na.Lim.one hd24))
    have HLl:Hid ((o++[d]).length=k+1):=by unfold Hid;rw [zqm,HP.out.1];rfl
    have HO7:Hid (Ow w w5 none [(w.heap.size,.slice A n c),(w.heap.size+1,.slice A2 m c2),(w.heap.size+1+1,.slice none 0 0)] [⟨A,n,c,z0c (Na.dig x)⟩,⟨A2,m,c2,z0c (Na.dig y)⟩] [⟨some ⟨gb,0,none⟩,n,c',3,z0t (Na.lent (o++[d]) 0 ((Na.dig x).drop (k+1)))⟩]):=by
     unfold Hid;rw [HRR.out,← Na.lent_zero];exact HO5.out
    clear hneg;go_wp2_with fail;go_roundw
    case rel=>exact ⟨k+1,0,o++[d],by omega,by go_num,zqr _,⟨HLl.out,HLr.out,HSB.out⟩,HO7.out⟩
    case measure=>simp [intOf];omega
  ·obtain rfl:k=n:=by omega
   have HV:Hid (Na.val o=x - y):=by
    unfold Hid;rw [Na.sub_end (Na.dig x) (Na.dig y) o k bw HP.out.2.1 HP.out.1 HP.out.2.2 (by rw [HN.out];exact zqj _) (by rw [HM.out];exact hmn) (by rw [Na.val_dig,Na.val_dig];exact HLe.out),Na.val_dig,Na.val_dig]
   have HL1:=zh HP.out.2.1;have HLl:=zh HP.out.1;have how:=HO.out;rw [List.drop_of_length_le (by rw [HN.out];exact zqj _),Na.lent_nil] at how
   have HY:=zh how;obtain ⟨l,hl0⟩:∃ l,o=l:=⟨_,rfl⟩
   subst hl0
   clear HO how HX HP;go_wp2_with fail;go_loop [7] (fun v=>∃ j:Nat,j≤k∧v=.int .i64 (j:Int)∧Hid (Na.tl o j=Na.tl o o.length)) (fun v=>(intOf v).toNat)
   case atStart=>exact ⟨k,zqj _,rfl,by unfold Hid;rw [HLl.out]⟩
   case round=>
    obtain ⟨j,hj,rfl,HT⟩:=hrel;have hrw:=HY.out.row 0 rfl
    have hown:=Sl.of_own hrw
    rcases Na.tl_case o o.length j (by rw [HLl.out];exact hj) HT.out with ⟨h0,hz,ht⟩ | ⟨ht,hs⟩
    ·obtain ⟨ad2,rfl,_,hcb⟩:=hown.nat hz
     have HT2:=zh ht;have hd:decide (0<(j:Int))=true:=zt (by omega)
     clear hown hz ht hrw;go_wp2_with fail;go_round
     case rel=>exact ⟨j - 1,by omega,z0v (by omega),HT2⟩
     case measure=>simp [intOf];omega
    ·have hcap:=(z1l hrw).1
     have hjc:(j:Int)≤(c':Int):=by omega
     have HTr:=zh (HY.out.trimmed 0 rfl HL1.out ht HV.out)
     have hc1:=HY.out.cell 2 rfl
     have hf1:=HY.out.free 2 rfl
     clear hrw hcap ht HT;rcases hs with h0 | ⟨h0,b,hb,hbne⟩
     ·subst h0
      clear hown;go_wp2_with fail;have h2:=HTr.out.setv 2 rfl (.slice A' 0 c')
      have hc2:=h2.cell 2 rfl
      refine bodyPost_ret (v:=.agg #[.slice A' 0 c']) (by simp [results,Tryz.results104,go_sem,hc2]) rfl ?_
      exact z3y h2 0 rfl
     ·obtain ⟨ad2,rfl,_,hcb⟩:=hown.nat hb
      have hd:decide (0<(j:Int))=true:=zt (by omega)
      clear hown hb;go_wp2_with fail;have h2:=HTr.out.setv 2 rfl (.slice (some ad2) j c')
      have hc2:=h2.cell 2 rfl
      refine bodyPost_ret (v:=.agg #[.slice (some ad2) j c']) (by simp [results,Tryz.results104,go_sem,hc2]) rfl ?_
      exact z3y h2 0 rfl
section
variable {w0 w w':World}{g:Option Nat}{M:List (Nat×Value)}{L:List Ob}{O:List Rw}{A A2:Option Addr}{n c m c2 x y:Nat}
theorem Ow.addN (h:Ow w0 w g M L O){l:List Nat}{e:Int}{en:Ending}(hr:z4k w l e en w'):∃ (A:Option Addr) (n c:Nat),en=.returned (.tuple #[.agg #[.slice A n c],.int .i64 e])∧l.length=n∧Ow w0 w' g M L (O++[⟨A,n,c,3,z0c l⟩]):=by
 obtain ⟨A,n,c,rfl,hn,ho,hb⟩:=hr;exact ⟨A,n,c,rfl,hn,h.add ho hb⟩
theorem Ow.pushN (h:Ow w0 w g M L O){l:List Nat}{e:Int}{en:Ending}(hr:z4k w l e en w')(hl:l.length≤1000):∃ (A:Option Addr) (n c:Nat),en=.returned (.tuple #[.agg #[.slice A n c],.int .i64 e])∧l.length=n∧Ow w0 w' g M (L++[⟨A,n,c,z0c l⟩]) O:=by
 obtain ⟨A,n,c,rfl,hn,ho,hb⟩:=hr;exact ⟨A,n,c,rfl,hn,h.push ho (by omega) hb⟩
theorem Ow.pushS (h:Ow w0 w g M L O){l:List Nat}{en:Ending}(hr:z9v w l en w')(hl:l.length≤1000):∃ (A:Option Addr) (n c:Nat),en=.returned (.agg #[.slice A n c])∧l.length=n∧Ow w0 w' g M (L++[⟨A,n,c,z0c l⟩]) O:=by
 obtain ⟨A,n,c,rfl,hn,_,ho,hb⟩:=hr;exact ⟨A,n,c,rfl,hn,h.push ho (by omega) hb⟩
theorem z4ar (h:Ow w w' g M L O)(i:Nat){l:List Nat}(hi:O[i]?=some ⟨A,n,c,3,z0c l⟩)(e:Int):z4k w l e (.returned (.tuple #[.agg #[.slice A n c],.int .i64 e])) w':=by
 have ho:=h.row i hi
 exact ⟨A,n,c,rfl,by have:=z2a ho;rwa [z0f] at this,ho,h.below⟩
theorem z7w {zs:List Int}(hs:Sl w w.heap.size A (z0t zs))(e:zs=Na.up (Na.dig x)):Sl w w.heap.size A (z0c (Na.dig x)):=by rw [e,z0g] at hs;exact hs
theorem z1z (h:Ow w0 w g M L O)(i:Nat){zs:List Int}(hi:L[i]?=some ⟨A,n,c,z0t zs⟩):
  Calls Tryz.prog 73 #[.agg #[.slice A n c]] w fun e w'=>e=.returned (.bool (Na.vld zs))∧Ow w0 w' g M L O:=by
 obtain ⟨h1,h2,h3,h4⟩:=h.sl hi
 rw [z0s] at h1;exact (z0aq A n c w.heap.size zs w h1 h4 (zqj _) (by omega)).mono fun en w' ⟨he,hb⟩=>⟨he,h.go hb⟩
theorem z2y (h:Ow w0 w g M L O)(i:Nat)(hi:L[i]?=some ⟨A,n,c,z0c (Na.dig x)⟩)(hx:x<Na.top):
  Calls Tryz.prog 73 #[.agg #[.slice A n c]] w fun e w'=>e=.returned (.bool true)∧Ow w0 w' g M L O:=by
 rw [← z0g] at hi;have:=z1z h i hi
 rwa [Na.vld_dig hx] at this
theorem z7r (h:Ow w0 w g M L O)(i j:Nat)(hi:L[i]?=some ⟨A,n,c,z0c (Na.dig x)⟩)(hj:L[j]?=some ⟨A2,m,c2,z0c (Na.dig y)⟩):
  Calls Tryz.prog 47 #[.agg #[.slice A n c],.agg #[.slice A2 m c2]] w fun e w'=>e=.returned (.int .i64 (Na.sgn x y))∧Ow w0 w' g M L O:=by
 obtain ⟨h1,h2,h3,h4⟩:=h.sl hi
 obtain ⟨k1,k2,k3,k4⟩:=h.sl hj
 rw [z0f] at h1 k1;exact (z5au A A2 n c m c2 x y w h1 k1 h2 k2 h4 k4 h3 k3).mono fun en w' ⟨he,hb⟩=>⟨he,h.go hb⟩
theorem z8s (h:Ow w0 w g M L O)(i m:Nat)(hi:L[i]?=some ⟨A,n,c,z0c (Na.dig y)⟩)(hn:n≤998)(hm:m<16777216):
  Calls Tryz.prog 103 #[.agg #[.slice A n c],.int .i64 (m:Int)] w fun e w'=>∃ (A':Option Addr) (n' c':Nat),e=.returned (.agg #[.slice A' n' c'])∧n'≤n+1∧Ow w0 w' g M (L++[⟨A',n',c',z0c (Na.dig (y*m))⟩]) O:=by
 obtain ⟨h1,h2,h3,h4⟩:=h.sl hi
 rw [z0f] at h1;have hle:(Na.dig (y*m)).length≤n+1:=by
  have a1:=Na.dig_len_mul y m
  have a2:=Na.dig_len_le (n:=1) (x:=m) (by omega)
  omega
 exact (z0ar A n c y m _ rfl w h1 h2 h4 (by omega) hm).mono fun en w' hr=>by
  obtain ⟨A',n',c',e,e2,ho⟩:=h.pushS hr (by omega)
  exact ⟨A',n',c',e,by omega,ho⟩
theorem z8as (h:Ow w0 w g M L O)(i j:Nat)(hi:L[i]?=some ⟨A,n,c,z0c (Na.dig x)⟩)(hj:L[j]?=some ⟨A2,m,c2,z0c (Na.dig y)⟩)(hn:n≤999)(hm:m≤999)(hle:y≤x):
  Calls Tryz.prog 104 #[.agg #[.slice A n c],.agg #[.slice A2 m c2]] w fun e w'=>∃ (A':Option Addr) (n' c':Nat),e=.returned (.agg #[.slice A' n' c'])∧n'≤n∧Ow w0 w' g M (L++[⟨A',n',c',z0c (Na.dig (x - y))⟩]) O:=by
 obtain ⟨h1,h2,h3,h4⟩:=h.sl hi
 obtain ⟨k1,k2,k3,k4⟩:=h.sl hj
 rw [z0f] at h1 k1;have hl:=Na.dig_len_mono (Nat.sub_le x y)
 exact (z3aw A A2 n c m c2 x y w h1 k1 h2 k2 h4 k4 hn hm hle).mono fun en w' hr=>by
  obtain ⟨A',n',c',e,e2,ho⟩:=h.pushS hr (by omega)
  exact ⟨A',n',c',e,by omega,ho⟩
theorem z3bl (h:Ow w0 w g M L O)(i:Nat){l:List Nat}(hi:O[i]?=some ⟨A,n,c,3,z0c l⟩)(hl:Na.Lim l)(hn1:n≤100000):
  Calls Tryz.prog 75 #[.slice A n c] w fun e w'=>∃ (A':Option Addr) (n' c':Nat),e=.returned (.tuple #[.agg #[.slice A' n' c'],.int .i64 (z4s (Na.val l))])∧(z5i (Na.val l)).length=n'∧Ow w0 w' g M L (O++[⟨A',n',c',3,z0c (z5i (Na.val l))⟩]):=by
 have ho:=h.row i hi
 have hn:=z2a ho
 rw [z0f] at hn;exact (z9au A n c l w hn (Sl.of_own ho) hl (z1l ho).1 (by omega)).mono fun en w' hr=>h.addN hr
end
end Go.Proofs.YtpmofjomadibmaaGreatDoor
