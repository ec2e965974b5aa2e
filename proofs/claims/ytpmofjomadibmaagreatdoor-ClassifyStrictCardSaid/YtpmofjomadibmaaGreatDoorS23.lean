/- ClassifyStrictW LawSl ClsTab -/
import Derived.Test.YtpmofjomadibmaaGreatDoorS22
import Derived.ProofKit
import Derived.OpenShut
import Derived.Carry
import Derived.Test.YtpmofjomadibmaaGreatDoorRows
import Derived.LaidMore
import Derived.Lay
import Derived.SevenTiedAt
import Derived.Stop.Joined
import Derived.Lib.SmallJoins
namespace Go.Proofs.YtpmofjomadibmaaGreatDoor
set_option maxHeartbeats 16000000
open Go.RowKit Go.Sort
open Go.ChangeMaps (setBlock heap_setBlock_same heap_setBlock_other)
set_option linter.unusedVariables false
set_option maxRecDepth 100000
open Cl
theorem z7bf {x y:Nat}(h:frC x y):FrK x y∧x≤1000∧y≤1000:=by
 obtain ⟨z,den,h1,h2,h3,h4⟩:=h;have ht:(1000:Nat)<Na.top:=by decide +kernel
 obtain ⟨n,d,e,F,_,h5,h6⟩:=FrK.of (x:=z) (y:=den) (by omega) (by omega) h2
 rw [h4] at e;simp only [Prod.mk.injEq] at e;obtain ⟨rfl,rfl,_⟩:=e;exact ⟨F,by omega,by omega⟩
theorem z3k {x:Nat}(h:x≤1000):(Na.up (Na.dig x)).length≤20:=by
 rw [Na.up_length];have:=Na.dig_len_le (x:=x) (n:=1) (by omega)
 omega
theorem z9ar {l:List Sn}:∀ x∈l.map Sn.one,z3b 6 x=(⟨0,0,0,0,0,0⟩,1):=fun x hx=>by
 obtain ⟨y,_,rfl⟩:=List.mem_map.1 hx
 rfl
theorem sw4 {α:Type}{a b c d:α}:∀ o∈[c,d,a,b],o∈[a,b,c,d]:=fun o ho=>by
 simp only [List.mem_cons,List.mem_nil_iff,or_false] at ho ⊢
 rcases ho with h | h | h | h
 ·exact .inr (.inr (.inl h))
 ·exact .inr (.inr (.inr h))
 ·exact .inl h
 ·exact .inr (.inl h)
theorem z7by {w0 w:World}{g B:Nat}{M:List (Nat×Value)}{L:List Ob}{S:Rw}{b d:Nat}{T:TypeId}{x0 x1 y0 y1:Value}(h:Ow w0 w (some g) M L [S,Rw.pair b T x0 x1,Rw.pair d T y0 y1])(hd:Dice w g B)(hB:B≤w0.heap.size):
  Dice ((((w.setCell ⟨b,0,none⟩ y0).setCell ⟨b,1,none⟩ y1).setCell ⟨d,0,none⟩ x0).setCell ⟨d,1,none⟩ x1) g B∧Ow w0 ((((w.setCell ⟨b,0,none⟩ y0).setCell ⟨b,1,none⟩ y1).setCell ⟨d,0,none⟩ x0).setCell ⟨d,1,none⟩ x1) (some g) M L [S,Rw.pair b T y0 y1,Rw.pair d T x0 x1]:=by
 have d1:=hd.turned hB h (i:=1) rfl (z0d w ⟨b,0,none⟩ y0)
 have h1:=h.put 1 rfl 0 y0
 have d2:=d1.turned hB h1 (i:=1) rfl (z0d _ ⟨b,1,none⟩ y1)
 have h2:=h1.put 1 rfl 1 y1
 have d3:=d2.turned hB h2 (i:=2) rfl (z0d _ ⟨d,0,none⟩ x0)
 have h3:=h2.put 2 rfl 0 x0
 have d4:=d3.turned hB h3 (i:=2) rfl (z0d _ ⟨d,1,none⟩ x1)
 exact ⟨d4,h3.put 2 rfl 1 x1⟩
theorem z7bm {s:Pl}{p q:List Int}{l:List Sn}(h1:shV s)(h2:rv p q=true)(h3:z4z s l=true)(h4:l.length≤40)(h5:p.length≤20)(h6:q.length≤20):chk s p q l=0:=by
 rw [z1as (zt h1) h2 h3,zn (by omega),zn (by omega),zn (by omega)]
 rfl
theorem z5bn {s:Pl}{p q:List Int}{l:List Sn}(h:chk s p q l=0):allS s p q l=(lsV s p q l (lns l),Na.up (rstN s p q l),0):=by
 unfold allS;rw [if_pos h]
 show (_,srt (Na.up (lsR s p q l (lns l))),_)=_
 rw [z2by];rfl
def RSo (l:List Sn)(w0:World)(g:Option Nat)(L:List Ob)(O:List Rw)(la:List Nat)(x14 x35:Value)(wr:World):Prop:=
 ∃ (j:Nat) (As:Option Addr) (cs:Nat),j≤la.length∧x35=.int .i64 (j:Int)∧x14=.slice As j cs∧Hid (Ox w0 wr g [] L O [⟨As,j,cs,40,8,fl (pk l (la.take j))⟩])
def RS2 (w0:World)(g:Option Nat)(L:List Ob)(O:List Rw)(gn:Nat)(x:Value)(wr:World):Prop:=
 ∃ i:Nat,i≤gn∧x=.int .i64 (i:Int)∧Hid (Ow w0 wr g [] L O)
theorem z6bw {l:List Sn}{n:Nat}{inn:List Rw}(hn:l.length=n)(hV:inn.map (·.vs)=(z2c 6 l n).map (fun p=>z0c p.2))(hE:∀ r∈inn,r.e=3):Lns ((z2c 6 l n).map (·.2)) inn n:=by
 have hl:=congrArg List.length hV
 rw [List.length_map,List.length_map] at hl;refine ⟨by rw [List.length_map,hl],fun i r hi=>⟨hE r (List.mem_of_getElem? hi),?_⟩,z8i 6 l n,fun ga hga z hz=>?_⟩
 ·have h1:=congrArg (fun t=>t[i]?) hV
  simp only [List.getElem?_map,hi,Option.map_some] at h1;cases hg:(z2c 6 l n)[i]? with
  | none=>rw [hg] at h1;cases h1
  | some pp=>
   rw [hg] at h1;simp only [Option.map_some,Option.some.injEq] at h1;exact ⟨pp.2,by rw [List.getElem?_map,hg];rfl,h1⟩
 ·obtain ⟨pp,hp,rfl⟩:=List.mem_map.1 hga
  rw [← hn] at hp ⊢
  exact z1ak hp z hz
def RSw (w:World)(g:Nat)(b:Nat)(S:Rw)(wr:World):Prop:=
 ∃ (P1:Option Addr) (m1 e1:Nat) (P2:Option Addr) (m2 e2:Nat) (Q1:Option Addr) (l1 f1:Nat) (Q2:Option Addr) (l2 f2:Nat) (x y u v:Nat),Hid (FrK x y∧FrK u v∧(x≤1000∧y≤1000)∧(u≤1000∧v≤1000)∧x*v≤u*y)∧Hid (Dice wr g w.heap.size)∧Hid (Ow w wr (some g) [] [⟨P1,m1,e1,z0c (Na.dig x)⟩,⟨P2,m2,e2,z0c (Na.dig y)⟩,⟨Q1,l1,f1,z0c (Na.dig u)⟩,⟨Q2,l2,f2,z0c (Na.dig v)⟩] [S,Rw.pair (b+1) 27 (.slice P1 m1 e1) (.slice P2 m2 e2),Rw.pair (b+1+1) 27 (.slice Q1 l1 f1) (.slice Q2 l2 f2)])
theorem z5l (A0:Option Addr)(n0 c0:Nat)(ts:List Int)(w:World)(hn0:ts.length=n0)(hl0:n0≤9223372036854775807)(hs0:Sl w w.heap.size A0 (z0q ts))(ht:Tab w):
  Calls Tryz.prog 6 #[.slice A0 n0 c0] w fun e w'=>e=.returned (.bool true)∧Below w.heap.size w w':=by
 have HT:=zh ht;have HAw:=zh (z7b w ht)
 clear ht;rcases zqi 400 n0 with hbig | hsm
 ·have HLi:=zh (z0bm A0 n0 c0 w hbig hl0)
  clear hn0 hs0 hbig;go_enter Tryz.func6,Tryz.ntmps6
  go_wp2_with fail;refine HLi.out.mono ?_;rintro e w1 ⟨rfl,rfl⟩;go_wp2_with fail;refine HAw.out.mono ?_;rintro e w2 ⟨rfl,hb⟩;have HB:=zh hb;clear hb;go_wp2_with fail;go_ret;exact ⟨rfl,HB.out⟩
 have HLi:=zh (z6av A0 n0 c0 w hsm)
 have HR:=zh (z3bj (Ow.of (St.refl w)) A0 n0 c0 w.heap.size ts hn0 (by omega) (zqj _) hs0)
 clear hs0 hn0 hsm hl0;go_enter Tryz.func6,Tryz.ntmps6
 go_wp2_with fail;refine HLi.out.mono ?_;rintro e w1 ⟨rfl,rfl⟩;go_wp2_with fail;refine HR.out.mono ?_;rintro e w1 ⟨g,rfl,hd1,h1⟩;have HBd:Hid (w.heap.size≤w.heap.size):=zqj _
 have HC:=zh (z8ax h1 hd1 HBd.out)
 clear HR HLi hd1 h1;go_wp2_with fail;refine HC.out.mono ?_;rintro e w2 ⟨sh,rfl,hsh,hd2,h2⟩;obtain ⟨so,ch,ra,ba,ro,co,rfl,h12⟩:=z5av (z6bl hsh)
 have HSm:=zh h12;have HSv:=zh (z6bl hsh)
 have HC2:=zh (z9y h2 hd2 HBd.out)
 clear HC hd2 h2 hsh h12;go_wp2_with fail;refine HC2.out.mono ?_;rintro e w3 ⟨X1,k1,f1,X2,k2,f2,x,y,rfl,hfr,hd3,h3⟩;have HFr:=zh (z7bf hfr)
 have HC3:=zh (z9y h3 hd3 HBd.out)
 clear HC2 hd3 h3 hfr;go_wp2_with fail;refine HC3.out.mono ?_;rintro e w4 ⟨Y1,l1,g1,Y2,l2,g2,u,v,rfl,hfr,hd4,h4⟩;have HFs:=zh (z7bf hfr)
 have H4:=((h4.arr #[.int .i64 so,.int .i64 ch,.int .i64 ra,.int .i64 ba,.int .i64 ro,.int .i64 co] 6 rfl (by omega) 33).pair (.slice X1 k1 f1) (.slice X2 k2 f2) 27).pair (.slice Y1 l1 g1) (.slice Y2 l2 g2) 27
 simp only [World.size_alloc,zqb,zqc] at H4;have D4:=((hd4.below (z0h _ (.cells #[.int .i64 so,.int .i64 ch,.int .i64 ra,.int .i64 ba,.int .i64 ro,.int .i64 co] 33))).below (z0h _ (.cells #[.slice X1 k1 f1,.slice X2 k2 f2] 27))).below (z0h _ (.cells #[.slice Y1 l1 g1,.slice Y2 l2 g2] 27))
 obtain ⟨row,hr4,hb4⟩:=H4.diceRow D4 HBd.out
 simp only [zqb,zqc] at hr4;have b0:=hr4.p0 1 rfl
 have b1:=hr4.p1 1 rfl
 have d0:=hr4.p0 2 rfl
 have d1:=hr4.p1 2 rfl
 have HCm:=zh (z5al (p:=Na.up (Na.dig x)) (q:=Na.up (Na.dig y)) (r:=Na.up (Na.dig u)) (s:=Na.up (Na.dig v)) hr4 0 1 2 3 (by rw [z0g];rfl) (by rw [z0g];rfl) (by rw [z0g];rfl) (by rw [z0g];rfl))
 have hcm:=z1aq HFr.out.1 HFs.out.1 (z6i (m:=1) (by have:=Nat.mul_le_mul HFr.out.2.1 HFs.out.2.2;omega) (by omega)) (z6i (m:=1) (by have:=Nat.mul_le_mul HFs.out.2.1 HFr.out.2.2;omega) (by omega))
 rw [hcm.1,hcm.2] at HCm;have HBk:=zh hb4;obtain ⟨cz,hcz⟩:∃ z,Na.sgn (x*v) (u*y)=z:=⟨_,rfl⟩
 rw [hcz] at HCm;have HCz:=zh hcz;clear HC3 H4 D4 hfr hd4 h4 hr4 hb4 hcm hcz;unfold Pl.vs;go_wp2_with fail;refine HCm.out.mono ?_;rintro e w5 ⟨rfl,h5⟩;have HO5:=zh (HBk.out _ _ h5)
 clear b0 b1 d0 d1 HCm h5 HBk;go_upto_if 46 with (fail)
 go_cut [7] from 47 to 48 (fun _ wx=>RSw w g w4.heap.size (⟨some ⟨w4.heap.size,0,none⟩,6,6,33,[.int .i64 so,.int .i64 ch,.int .i64 ra,.int .i64 ba,.int .i64 ro,.int .i64 co]⟩:Rw) wx)
 case first=>
  rcases Int.lt_or_le 0 cz with h | h
  ·have gq:decide (0<cz)=true:=zt h
   have hle:u*y≤x*v:=by
    rcases Na.sgn_cases (x*v) (u*y) with ⟨h1,h2⟩ | ⟨h1,h2⟩ | ⟨h1,h2⟩
    ·have:=HCz.out;omega
    ·omega
    ·omega
   have p0:=HO5.out.2.p0 1 rfl
   have p1:=HO5.out.2.p1 1 rfl
   have q0:=HO5.out.2.p0 2 rfl
   have q1:=HO5.out.2.p1 2 rfl
   have fp0:=(HO5.out.2.row 1 rfl).frozenAt 0
   have fp1:=(HO5.out.2.row 1 rfl).frozenAt 1
   have fq0:=(HO5.out.2.row 2 rfl).frozenAt 0
   have fq1:=(HO5.out.2.row 2 rfl).frozenAt 1
   have HSw:=zh (z7by HO5.out.2 HO5.out.1 HBd.out)
   replace gq:(0<cz)=True:=eq_true h
   go_wp2_with fail;go_meet;exact ⟨Y1,l1,g1,Y2,l2,g2,X1,k1,f1,X2,k2,f2,u,v,x,y,⟨HFs.out.1,HFr.out.1,HFs.out.2,HFr.out.2,hle⟩,HSw.out.1,HSw.out.2.few2 rfl sw4⟩
  ·have gq:decide (0<cz)=false:=zn (by omega)
   have hle:x*v≤u*y:=by
    rcases Na.sgn_cases (x*v) (u*y) with ⟨h1,h2⟩ | ⟨h1,h2⟩ | ⟨h1,h2⟩
    ·omega
    ·omega
    ·have:=HCz.out;omega
   replace gq:(0<cz)=False:=eq_false (by omega)
   go_wp2_with fail;go_meet;exact ⟨X1,k1,f1,X2,k2,f2,Y1,l1,g1,Y2,l2,g2,x,y,u,v,⟨HFr.out.1,HFs.out.1,HFr.out.2,HFs.out.2,hle⟩,HO5.out.1,HO5.out.2⟩
 case rest=>
  obtain ⟨P1,m1,pe1,P2,m2,pe2,Q1,i1,j1,Q2,i2,j2,x,y,u,v,HF,HD,HO⟩:=hcut;clear HO5 HFr HFs HCz;obtain ⟨a0,a1,a2,a3,a4,a5⟩:=zc6 (HO.out.row 0 rfl);have HL:=zh (z5bd HO.out HD.out HBd.out so ch ra ba ro co HSm.out 10 (by omega))
  go_wp2_with fail;refine HL.out.mono ?_;rintro e w6 ⟨A,n,c,l0,rfl,hl,hn,hv,hd6,hx6⟩;have hsp:=z9ar (l:=l0)
  obtain ⟨l,hlz⟩:∃ z,l0.map Sn.one=z:=⟨_,rfl⟩
  rw [hlz] at hl hx6 hv hsp;have HLn:Hid (l.length=n∧n≤12):=⟨hl,by omega⟩
  have H6:=(hx6.keepX 0 rfl (m:=n*8) rfl (by omega) (by omega)).ow
  simp only [zqb,zqc] at H6;obtain ⟨rw6,hr6,hb6⟩:=H6.diceRow hd6 HBd.out
  simp only [zqb,zqc] at hr6;have HJ:=zh (z2am (p:=(Na.up (Na.dig x))) (q:=(Na.up (Na.dig y))) (l:=l) (n3:=n) (c3:=c) ⟨(so:Int),ch,ra,ba,ro,co⟩ hr6 0 1 4 (by rw [z0g];rfl) (by rw [z0g];rfl) rfl HT.out)
  rw [z1aj HSv.out HF.out.1.rv hv (by omega) (z3k HF.out.2.2.1.1) (z3k HF.out.2.2.1.2) (z7w hsp)] at HJ
  have HMn:=zh (z9u (l:=l) HF.out.1 HF.out.2.1 HF.out.2.2.1 HF.out.2.2.2.1 HF.out.2.2.2.2 HSv.out (by omega) 5 1 (by omega) (by omega))
  have HVo:Hid (∀ (W:World) (L2:List Ob) (O2:List Rw) (q:Option Nat) (a b d:Nat),Ow w W q [] L2 O2→L2[a]?=some ⟨Q1,i1,j1,z0c (Na.dig u)⟩→L2[b]?=some ⟨Q2,i2,j2,z0c (Na.dig v)⟩→L2[d]?=some ⟨A,n*8,n*8,fl l⟩→Calls Tryz.prog 15 #[.agg #[.int .i64 so,.int .i64 ch,.int .i64 ra,.int .i64 ba,.int .i64 ro,.int .i64 co],.agg #[.slice Q1 i1 j1,.slice Q2 i2 j2],.slice A n c] W (JdR w q [] L2 O2 (jud ⟨(so:Int),ch,ra,ba,ro,co⟩ (Na.up (Na.dig u)) (Na.up (Na.dig v)) l,0))):=by
   intro W L2 O2 q a b d hW ha hb hd;have h1:=z2am (p:=(Na.up (Na.dig u))) (q:=(Na.up (Na.dig v))) (l:=l) (n3:=n) (c3:=c) ⟨(so:Int),ch,ra,ba,ro,co⟩ hW a b d (by rw [z0g];exact ha) (by rw [z0g];exact hb) hd HT.out
   rw [z1aj HSv.out HF.out.2.1.rv hv (by omega) (z3k HF.out.2.2.2.1.1) (z3k HF.out.2.2.2.1.2) (z7w hsp)] at h1
   exact h1
  obtain ⟨V,hV⟩:∃ V,jud ⟨(so:Int),ch,ra,ba,ro,co⟩ (Na.up (Na.dig x)) (Na.up (Na.dig y)) l=V:=⟨_,rfl⟩
  obtain ⟨U,hU⟩:∃ U,jud ⟨(so:Int),ch,ra,ba,ro,co⟩ (Na.up (Na.dig u)) (Na.up (Na.dig v)) l=U:=⟨_,rfl⟩
  have HMk:Hid (V.k≠0→U.k≠0∧U.k≤V.k):=by
   have h1:=HMn.out;rw [show z4c ⟨(so:Int),ch,ra,ba,ro,co⟩ (Na.up (Na.dig x)) (Na.up (Na.dig y)) l 1 5=V from hV,show z4c ⟨(so:Int),ch,ra,ba,ro,co⟩ (Na.up (Na.dig u)) (Na.up (Na.dig v)) l 1 5=U from hU] at h1
   exact h1
  rw [hV] at HJ;rw [hU] at HVo;obtain ⟨vk,⟨q0,q1,q2,q3,q4,q5⟩,vc,vh,vx,vy⟩:=V
  obtain ⟨uk,⟨r0,r1,r2,r3,r4,r5⟩,uc,uh,ux,uy⟩:=U
  unfold JdR Vd.vs Pl.vs at HJ;simp only [zqb,zqc] at HJ;have e0:=hr6.p0 1 rfl
  have e1:=hr6.p1 1 rfl
  obtain ⟨b0,b1,b2,b3,b4,b5⟩:=zc6 (hr6.row 0 rfl);have HBk:=zh hb6;clear HL hlz hl hn hx6 hv hsp H6 hV hU hd6 hr6 hb6 HMn a0 a1 a2 a3 a4 a5;go_wp2_with fail;refine HJ.out.mono ?_;rintro e w7 ⟨C1,s1,t1,C2,s2,t2,rfl,G⟩;obtain ⟨hd7,h7⟩:=HBk.out _ _ G
  have H8:=h7.arr #[.int .i64 vk,.int .i64 q0,.int .i64 q1,.int .i64 q2,.int .i64 q3,.int .i64 q4,.int .i64 q5,.int .i64 vc,.int .i64 vh,.slice C1 s1 t1,.slice C2 s2 t2] 11 rfl (by omega) 42
  simp only [zqb,zqc] at H8;obtain ⟨rw8,hr8,hb8⟩:=H8.diceRow (hd7.below (z0h _ _)) HBd.out
  simp only [zqb,zqc] at hr8;have HJ2:=zh (HVo.out _ _ _ _ 2 3 4 hr8 rfl rfl rfl)
  unfold JdR Vd.vs at HJ2;simp only [zqb,zqc] at HJ2;clear e0 e1 b0 b1 b2 b3 b4 b5;have e0:=hr8.p0 2 rfl
  have e1:=hr8.p1 2 rfl
  obtain ⟨d0,d1,d2,d3,d4,d5⟩:=zc6 (hr8.row 0 rfl);have HBk8:=zh hb8;clear HJ G hd7 h7 H8 hr8 hb8 HBk HVo;go_wp2_with fail;refine HJ2.out.mono ?_;rintro e w9 ⟨D1,o1,z1,D2,o2,z2,rfl,G⟩;obtain ⟨hd9,h9⟩:=HBk8.out _ _ G
  have H10:=h9.arr #[.int .i64 uk,.int .i64 r0,.int .i64 r1,.int .i64 r2,.int .i64 r3,.int .i64 r4,.int .i64 r5,.int .i64 uc,.int .i64 uh,.slice D1 o1 z1,.slice D2 o2 z2] 11 rfl (by omega) 42
  simp only [zqb,zqc] at H10;have HO10:=zh H10;have HD10:=zh (hd9.below (z0h w9 (.cells #[.int .i64 uk,.int .i64 r0,.int .i64 r1,.int .i64 r2,.int .i64 r3,.int .i64 r4,.int .i64 r5,.int .i64 uc,.int .i64 uh,.slice D1 o1 z1,.slice D2 o2 z2] 42)))
  clear HJ2 G hd9 h9 HBk8 e0 e1 d0 d1 d2 d3 d4 d5;have y0:=(H10.row 3 rfl).cellAt 0 (by decide)
  have z0:=(H10.row 4 rfl).cellAt 0 (by decide)
  clear H10;go_upto_region 11 with (fail)
  go_cut [88] from 66 to 87 (fun v88 wx=>v88=.bool false∧wx=w9.alloc (.cells #[.int .i64 uk,.int .i64 r0,.int .i64 r1,.int .i64 r2,.int .i64 r3,.int .i64 r4,.int .i64 r5,.int .i64 uc,.int .i64 uh,.slice D1 o1 z1,.slice D2 o2 z2] 42))
  case first=>
   by_cases hk:vk=0
   ·subst hk
    go_wp2_with fail;go_meet;exact ⟨rfl,rfl⟩
   ·obtain ⟨hu1,hu2⟩:=HMk.out hk
    have g1:(vk == 0)=false:=z1m hk
    have g2:(vk != 0)=true:=by rw [bne,g1];rfl
    have g3:(uk == 0)=false:=z1m hu1
    have g4:decide (vk<uk)=false:=zn (by omega)
    clear hk hu1 hu2;go_wp2_with fail;go_meet;exact ⟨rfl,rfl⟩
  case rest=>
   obtain ⟨rfl,rfl⟩:=hcut;clear y0 z0;obtain ⟨a0,a1,a2,a3,a4,a5⟩:=zc6 (HO10.out.row 0 rfl);have HSn:=zh (z2aa HO10.out HD10.out HBd.out so ch ra ba ro co HSm.out 12 (by omega))
   go_wp2_with fail;refine HSn.out.mono ?_;rintro e w11 ⟨A3,n3,c3,m3,rfl,hl3,hn3,hv3,-,hx3⟩;have H12:=(hx3.keepX 0 rfl (m:=n3*8) rfl (by omega) (by omega)).ow
   simp only [zqb,zqc] at H12;have hch:chk ⟨(so:Int),ch,ra,ba,ro,co⟩ (Na.up (Na.dig u)) (Na.up (Na.dig v)) m3=0:=z7bm HSv.out HF.out.2.1.rv hv3 (by omega) (z3k HF.out.2.2.2.1.1) (z3k HF.out.2.2.2.1.2)
   have HA:=zh (pAll (p:=Na.up (Na.dig u)) (q:=Na.up (Na.dig v)) (l:=m3) (n3:=n3) (c3:=c3) ⟨(so:Int),ch,ra,ba,ro,co⟩ H12 2 3 9 (by rw [z0g];rfl) (by rw [z0g];rfl) rfl HT.out)
   rw [z5bn hch] at HA;have e0:=H12.p0 2 rfl
   have e1:=H12.p1 2 rfl
   clear a0 a1 a2 a3 a4 a5;obtain ⟨b0,b1,b2,b3,b4,b5⟩:=zc6 (H12.row 0 rfl);have HM3:Hid (m3.length=n3∧n3≤12∧z4z ⟨(so:Int),ch,ra,ba,ro,co⟩ m3=true):=⟨hl3,hn3,hv3⟩
   clear HSn hl3 hn3 hv3 hx3 H12 hch HO10 HD10 HMk;unfold Pl.vs at HA;go_wp2_with fail;refine HA.out.mono ?_;rintro e w13 ⟨Ao,no,oc,Ar,nr,cr,V,-,-,hnr,rfl,h13⟩;have H14:=(h13.few2 (M':=[]) (L':=[⟨Q1,i1,j1,z0c (Na.dig u)⟩,⟨Q2,i2,j2,z0c (Na.dig v)⟩,⟨A3,n3*8,n3*8,fl m3⟩,⟨Ar,nr,cr,z0q (Na.up (rstN ⟨(so:Int),ch,ra,ba,ro,co⟩ (Na.up (Na.dig u)) (Na.up (Na.dig v)) m3))⟩]) rfl (fun o ho=>by
    simp only [List.mem_cons,List.mem_nil_iff,or_false] at ho;simp only [zqb,zqc,List.mem_cons];rcases ho with h | h | h | h
    ·exact .inr (.inr (.inl h))
    ·exact .inr (.inr (.inr (.inl h)))
    ·exact .inr (.inr (.inr (.inr (.inr (.inr (.inr (.inr (.inr (.inl h)))))))))
    ·exact .inr (.inr (.inr (.inr (.inr (.inr (.inr (.inr (.inr (.inr (.inr (.inl h)))))))))))
    )).few 3
   have hrl:=fun (gg:Cl.Sp×List Nat) hg=>@z7bu ⟨(so:Int),ch,ra,ba,ro,co⟩ (Na.up (Na.dig u)) (Na.up (Na.dig v)) m3 gg hg
   have hrm:∀ z∈rstN ⟨(so:Int),ch,ra,ba,ro,co⟩ (Na.up (Na.dig u)) (Na.up (Na.dig v)) m3,z<n3:=fun z hz=>by
    have h1:=List.mem_range.1 (List.mem_filter.1 hz).1
    have h2:=HM3.out.1;omega
   have hrn:(rstN ⟨(so:Int),ch,ra,ba,ro,co⟩ (Na.up (Na.dig u)) (Na.up (Na.dig v)) m3).length≤12:=by
    have h1:=List.length_filter_le (fun i=>decide (i∈lsR ⟨(so:Int),ch,ra,ba,ro,co⟩ (Na.up (Na.dig u)) (Na.up (Na.dig v)) m3 (lns m3))) (List.range m3.length)
    rw [List.length_range] at h1;have h2:=HM3.out.1;have h3:=HM3.out.2.1;unfold rstN;omega
   obtain ⟨rN,hrN⟩:∃ z,rstN ⟨(so:Int),ch,ra,ba,ro,co⟩ (Na.up (Na.dig u)) (Na.up (Na.dig v)) m3=z:=⟨_,rfl⟩
   rw [hrN] at H14 hnr hrl hrm hrn;have hnr2:rN.length=nr:=by rw [← hnr];unfold Na.up;rw [List.length_map]
   have HRn:Hid (rN.length=nr∧nr≤12∧∀ z∈rN,z<n3):=⟨hnr2,by omega,hrm⟩
   have HRl:=zh hrl;have HX:Hid (Ox w w13 (some g) [] [⟨Q1,i1,j1,z0c (Na.dig u)⟩,⟨Q2,i2,j2,z0c (Na.dig v)⟩,⟨A3,n3*8,n3*8,fl m3⟩,⟨Ar,nr,cr,z0q (Na.up rN)⟩] [(⟨some ⟨w4.heap.size,0,none⟩,6,6,33,[.int .i64 so,.int .i64 ch,.int .i64 ra,.int .i64 ba,.int .i64 ro,.int .i64 co]⟩:Rw),Rw.pair (w4.heap.size+1) 27 (.slice P1 m1 pe1) (.slice P2 m2 pe2),Rw.pair (w4.heap.size+1+1) 27 (.slice Q1 i1 j1) (.slice Q2 i2 j2)] [⟨none,0,0,40,8,fl (pk m3 (rN.take 0))⟩]):=(Ox.of H14).nilX _ _
   clear HA h13 H14 hrl hrm hrn hrN hnr hnr2 e0 e1 b0 b1 b2 b3 b4 b5;go_wp2_with fail;go_loopw [17,104] (fun x17 x104 wr=>RSo m3 w (some g) [⟨Q1,i1,j1,z0c (Na.dig u)⟩,⟨Q2,i2,j2,z0c (Na.dig v)⟩,⟨A3,n3*8,n3*8,fl m3⟩,⟨Ar,nr,cr,z0q (Na.up rN)⟩] [(⟨some ⟨w4.heap.size,0,none⟩,6,6,33,[.int .i64 so,.int .i64 ch,.int .i64 ra,.int .i64 ba,.int .i64 ro,.int .i64 co]⟩:Rw),Rw.pair (w4.heap.size+1) 27 (.slice P1 m1 pe1) (.slice P2 m2 pe2),Rw.pair (w4.heap.size+1+1) 27 (.slice Q1 i1 j1) (.slice Q2 i2 j2)] rN x17 x104 wr) (fun _ x104 _=>nr+1 - (intOf x104).toNat)
   case atStart=>exact ⟨0,none,0,zqr _,rfl,rfl,HX.out⟩
   case round=>
    clear HX;obtain ⟨j,As,cs,hj1,rfl,rfl,HX⟩:=hrel;rw [HRn.out.1] at hj1;rcases Nat.eq_or_lt_of_le hj1 with heq | hlt
    ·have hd:decide ((j:Int)<(nr:Int))=false:=zn (by omega)
     have hd2:decide (j<nr)=false:=zn (by omega)
     obtain rfl:nr=j:=heq.symm
     have htl:rN.take nr=rN:=zqp (Nat.le_of_eq HRn.out.1)
     rw [htl] at HX;have hln:(pk m3 rN).length=nr:=by rw [z2al fun z hz=>by have h1:=HRn.out.2.2 z hz;have h2:=HM3.out.1;omega];exact HRn.out.1
     have hlv:z4z ⟨(so:Int),ch,ra,ba,ro,co⟩ (pk m3 rN)=true:=List.all_eq_true.2 fun x hx=>by
      obtain ⟨i,_,hi⟩:=z2ak.1 hx
      exact z8n HM3.out.2.2 hi
     obtain ⟨lf,hlf⟩:∃ z,pk m3 rN=z:=⟨_,rfl⟩
     rw [hlf] at HX HRl hln hlv;have hr12:=HRn.out.2.1;have HLf:Hid (lf.length=nr∧nr≤12∧z4z ⟨(so:Int),ch,ra,ba,ro,co⟩ lf=true):=⟨hln,hr12,hlv⟩
     have HG:=zh (z3bl 6 (by decide) As nr cs lf wr hln (by omega) (z6p (HX.out.row 0 rfl) (by omega)))
     have H15:=zh (HX.out.keepX 0 rfl (m:=nr*8) rfl (by omega) (by omega)).ow
     clear HX hlf hlv htl heq hj1;go_wp2_with fail;refine HG.out.mono ?_;rintro e w15 ⟨Ao2,oc2,inn,rfl,hV,hE,hO⟩;have HLs:=zh (z6bw hln hV hE)
     have H16:=H15.out.merge hO
     simp only [zqb,zqc] at H16;obtain ⟨OO,hOO⟩:∃ z,(⟨some ⟨w4.heap.size,0,none⟩,6,6,33,[.int .i64 so,.int .i64 ch,.int .i64 ra,.int .i64 ba,.int .i64 ro,.int .i64 co]⟩:Rw) :: Rw.pair (w4.heap.size+1) 27 (.slice P1 m1 pe1) (.slice P2 m2 pe2) :: Rw.pair (w4.heap.size+1+1) 27 (.slice Q1 i1 j1) (.slice Q2 i2 j2) :: z2i Ao2 oc2 inn :: inn=z:=⟨_,rfl⟩
     have HO0:Hid (OO[0]?=some (⟨some ⟨w4.heap.size,0,none⟩,6,6,33,[.int .i64 so,.int .i64 ch,.int .i64 ra,.int .i64 ba,.int .i64 ro,.int .i64 co]⟩:Rw)):=by unfold Hid;rw [← hOO];rfl
     have HO2:Hid (OO[2]?=some (Rw.pair (w4.heap.size+1+1) 27 (.slice Q1 i1 j1) (.slice Q2 i2 j2))):=by unfold Hid;rw [← hOO];rfl
     have HO3:Hid (OO[3]?=some (z2i Ao2 oc2 inn)):=by unfold Hid;rw [← hOO];rfl
     have HOi:Hid (∀ (i:Nat) (r:Rw),inn[i]?=some r→OO[i+4]?=some r):=fun i r hi=>by rw [← hOO];exact hi
     rw [hOO] at H16;have HO:=zh H16;obtain ⟨gn,hgn⟩:∃ z,inn.length=z:=⟨_,rfl⟩
     have HGn:Hid (inn.length=gn∧gn≤12):=⟨hgn,by
      have h1:=HLs.out.len;rw [List.length_map] at h1;have h2:=(z2z 6 lf nr).2
      omega⟩
     rw [hgn];clear HG hV hE hO H15 H16 hOO hgn hln hr12 hd hd2;go_wp2_with fail;go_loopw [127] (fun x127 wr=>RS2 w (some g) [⟨Q1,i1,j1,z0c (Na.dig u)⟩,⟨Q2,i2,j2,z0c (Na.dig v)⟩,⟨A3,n3*8,n3*8,fl m3⟩,⟨Ar,nr,cr,z0q (Na.up rN)⟩,⟨As,nr*8,nr*8,fl lf⟩] OO gn x127 wr) (fun x127 _=>gn+1 - (intOf x127).toNat)
     case atStart=>exact ⟨0,zqr _,rfl,HO.out⟩
     case round=>
      clear HO;obtain ⟨i,hi,rfl,HO⟩:=hrel;rcases Nat.eq_or_lt_of_le hi with heq | hlt
      ·have hd:decide ((i:Int)<(gn:Int))=false:=zn (by omega)
       have hd2:decide (i<gn)=false:=zn (by omega)
       have HAw2:=zh (z7b wr (HT.out.below HO.out.below))
       clear heq hi;go_wp2_with fail;refine HAw2.out.mono ?_;rintro e w20 ⟨rfl,hb⟩;have HB:=zh (HO.out.below.trans (hb.mono HO.out.size))
       clear hb HAw2 HO;go_wp2_with fail;go_ret;exact ⟨rfl,HB.out⟩
      ·have hd:decide ((i:Int)<(gn:Int))=true:=zt (by omega)
       have hd2:decide (i<gn)=true:=zt (by omega)
       have hiI:(i:Int)<(gn:Int):=by omega
       have hg12:=HGn.out.2;have hw127:IntKind.i64.wrap ((i:Int)+1)=((i+1:Nat):Int):=by rw [IntWalk.i64_in _ (by omega)];omega
       obtain ⟨r0,hr0⟩:∃ z,inn[i]?=some z:=⟨inn[i]'(by rw [HGn.out.1];exact hlt),zql _⟩
       obtain ⟨hre,ga,hga,hrv⟩:=HLs.out.row i r0 hr0
       have hR:=HO.out.row 3 HO3.out
       obtain ⟨gb,hgb,_,_⟩:=z0n hR (by have:=HGn.out.1;omega)
       obtain rfl:=hgb
       obtain ⟨Al,nl,cl,el,vl⟩:=r0;simp only at hre hrv
       subst hre hrv
       have e0:=hR.cells (g:=gb) rfl i (.slice Al nl cl) (by rw [List.getElem?_map,hr0];rfl)
       rw [z8o] at e0;have HLr:=zh (HOi.out i _ hr0)
       have hgl:ga.length=nl:=by
        have h2:=(HO.out.own (i+4) _ HLr.out).1
        rw [z0f] at h2;simpa using h2
       obtain ⟨pp,hpp,hpe⟩:=List.mem_map.1 (List.mem_of_getElem? hga)
       have hpp2:pp∈z2c 6 lf lf.length:=by rw [HLf.out.1];exact hpp
       have HJu:=zh (HRl.out pp hpp2)
       rw [hpe] at HJu;have HGa:Hid (ga.length=nl∧nl≤12∧∀ z∈ga,z<nr):=⟨hgl,by have h1:=z2ay hga;have h2:=HLs.out.sum;have h3:=HLf.out.2.1;omega,HLs.out.lt ga (List.mem_of_getElem? hga)⟩
       have HX:Hid (Ox w wr (some g) [] [⟨Q1,i1,j1,z0c (Na.dig u)⟩,⟨Q2,i2,j2,z0c (Na.dig v)⟩,⟨A3,n3*8,n3*8,fl m3⟩,⟨Ar,nr,cr,z0q (Na.up rN)⟩,⟨As,nr*8,nr*8,fl lf⟩] OO [⟨none,0,0,40,8,fl (pk lf (ga.take 0))⟩]):=(Ox.of HO.out).nilX _ _
       have HIg:=zh hlt;clear hR hr0 hga hgl hpp hpe hpp2 hlt hi HO hg12;go_wp2_with fail;go_loopw [22,133] (fun x22 x133 wr=>RSo lf w (some g) [⟨Q1,i1,j1,z0c (Na.dig u)⟩,⟨Q2,i2,j2,z0c (Na.dig v)⟩,⟨A3,n3*8,n3*8,fl m3⟩,⟨Ar,nr,cr,z0q (Na.up rN)⟩,⟨As,nr*8,nr*8,fl lf⟩] OO ga x22 x133 wr) (fun _ x133 _=>nl+1 - (intOf x133).toNat)
       case atStart=>exact ⟨0,none,0,zqr _,rfl,rfl,HX.out⟩
       case round=>
        clear HX e0;obtain ⟨j,Ax,cx,hj1,rfl,rfl,HX⟩:=hrel;rw [HGa.out.1] at hj1;rcases Nat.eq_or_lt_of_le hj1 with heq | hlt
        ·have hd:decide ((j:Int)<(nl:Int))=false:=zn (by omega)
         have hd2:decide (j<nl)=false:=zn (by omega)
         obtain rfl:nl=j:=heq.symm
         have htl:ga.take nl=ga:=zqp (Nat.le_of_eq HGa.out.1)
         rw [htl] at HX;have hxl:(pk lf ga).length=nl:=by rw [z2al fun z hz=>by have h1:=HGa.out.2.2 z hz;have h2:=HLf.out.1;omega];exact HGa.out.1
         have hxv:z4z ⟨(so:Int),ch,ra,ba,ro,co⟩ (pk lf ga)=true:=List.all_eq_true.2 fun x hx=>by
          obtain ⟨i,_,hi⟩:=z2ak.1 hx
          exact z8n HLf.out.2.2 hi
         have hn12:=HGa.out.2.1;have H17:=zh (HX.out.keepX 0 rfl (m:=nl*8) rfl (by omega) (by omega)).ow
         have HJ:=zh (z2am (p:=(Na.up (Na.dig u))) (q:=(Na.up (Na.dig v))) (l:=pk lf ga) (n3:=nl) (c3:=cx) ⟨(so:Int),ch,ra,ba,ro,co⟩ H17.out 0 1 5 (by rw [z0g (Na.dig u)];rfl) (by rw [z0g (Na.dig v)];rfl) rfl HT.out)
         rw [z1aj HSv.out HF.out.2.1.rv hxv (by omega) (z3k HF.out.2.2.2.1.1) (z3k HF.out.2.2.2.1.2) (z7w HJu.out.2)] at HJ
         obtain ⟨V,hV⟩:∃ V,jud ⟨(so:Int),ch,ra,ba,ro,co⟩ (Na.up (Na.dig u)) (Na.up (Na.dig v)) (pk lf ga)=V:=⟨_,rfl⟩
         have hk0:=HJu.out.1;rw [hV] at HJ hk0;clear hV;obtain ⟨vk,⟨q0,q1,q2,q3,q4,q5⟩,vc,vh,vx,vy⟩:=V
         obtain rfl:vk=0:=hk0
         unfold JdR Vd.vs Pl.vs at HJ;obtain ⟨a0,a1,a2,a3,a4,a5⟩:=zc6 (H17.out.row 0 HO0.out);have c0:=H17.out.p0 2 HO2.out
         have c1:=H17.out.p1 2 HO2.out
         clear htl hxl hxv hn12 heq hj1 HX H17;go_wp2_with fail;refine HJ.out.mono ?_;rintro e w18 ⟨C1,s1,t1,C2,s2,t2,rfl,G⟩;have H18:=G.arr #[.int .i64 0,.int .i64 q0,.int .i64 q1,.int .i64 q2,.int .i64 q3,.int .i64 q4,.int .i64 q5,.int .i64 vc,.int .i64 vh,.slice C1 s1 t1,.slice C2 s2 t2] 11 rfl (by omega) 42
         have f0:=(H18.row (OO.length+0) (zk rfl)).cellAt 0 (by decide)
         have HE:=zh H18.fewO;clear HJ G H18 a0 a1 a2 a3 a4 a5 c0 c1;go_wp2_with fail;go_roundw
         case rel=>
          refine ⟨i+1,HIg.out,rfl,HE.out.few2 rfl fun o ho=>?_⟩
          rw [zqa,zqa];exact List.mem_append_left _ ho
         case measure=>
          have:=HIg.out
          simp [intOf]
          omega
        ·have hd:decide ((j:Int)<(nl:Int))=true:=zt (by omega)
         have hd2:decide (j<nl)=true:=zt (by omega)
         have hjI:(j:Int)<(nl:Int):=by omega
         have hw133:IntKind.i64.wrap ((j:Int)+1)=((j+1:Nat):Int):=by rw [IntWalk.i64_in _ (by have:=HGa.out.2.1;omega)];omega
         obtain ⟨z,hz⟩:∃ z,ga[j]?=some z:=⟨ga[j]'(by rw [HGa.out.1];exact hlt),zql _⟩
         have hzl:z<nr:=HGa.out.2.2 z (List.mem_of_getElem? hz)
         have hzi:(z:Int)<(nr:Int):=by omega
         obtain ⟨x5,hx⟩:∃ x,lf[z]?=some x:=⟨lf[z]'(by have:=HLf.out.1;omega),zql _⟩
         have HZx:Hid (ga[j]?=some z∧lf[z]?=some x5∧j<nl):=⟨hz,hx,hlt⟩
         have hR:=HX.out.ow.row (i+4) HLr.out
         obtain ⟨gl,hgl,_,_⟩:=z0n hR (by omega)
         obtain rfl:=hgl
         have e0:=hR.cells (g:=gl) rfl j (.int .i64 (z:Int)) (by unfold z0c;rw [List.getElem?_map,hz];rfl)
         rw [z8o] at e0;obtain ⟨a3,rfl,t0,t1,t2,t3,t4,t5,t6,t7⟩:=z2v (HX.out.ow.sl (i:=4) rfl).2.2.2 hx
         obtain ⟨⟨y0,y1,y2,y3,y4,y5⟩,y6,y7⟩:=x5
         simp only at t0 t1 t2 t3 t4 t5 t6 t7
         have HX9:=zh (HX.out.arrO #[.int .i64 y0,.int .i64 y1,.int .i64 y2,.int .i64 y3,.int .i64 y4,.int .i64 y5,.int .i64 y6,.int .i64 y7] 8 rfl (by omega) 40)
         have HJl:j≤12:=by have:=HGa.out.2.1;omega
         clear hz hx hzl hlt hj1 HX hR;go_wp2_with (at_builtin;refine z5e z7am HX9.out 0 (.tmp 137) (.tmp 142) (m:=1) (news:=[.int .i64 y0,.int .i64 y1,.int .i64 y2,.int .i64 y3,.int .i64 y4,.int .i64 y5,.int .i64 y6,.int .i64 y7]) rfl rfl (fun j u hu=>by have:=(HX9.out.ow.row (OO.length+0) (zk rfl)).cells rfl j u hu;exact this) (z8v ⟨⟨y0,y1,y2,y3,y4,y5⟩,y6,y7⟩) (by unfold maxLen;omega) (by omega) rfl rfl rfl rfl ?_;intro A2' c2' w2' how2;have HX2:=zh how2;clear how2)
         go_roundw
         case rel=>
          refine ⟨j+1,A2',c2',by rw [HGa.out.1];exact HZx.out.2.2,rfl,rfl,?_⟩
          unfold Hid;rw [z1n HZx.out.1,z5d,z2aj HZx.out.2.1,z6y];exact HX2.out.fewO
         case measure=>
          have:=HZx.out.2.2
          simp [intOf]
          omega
    ·have hd:decide ((j:Int)<(nr:Int))=true:=zt (by omega)
     have hd2:decide (j<nr)=true:=zt (by omega)
     have hjI:(j:Int)<(nr:Int):=by omega
     have hw104:IntKind.i64.wrap ((j:Int)+1)=((j+1:Nat):Int):=by rw [IntWalk.i64_in _ (by have:=HRn.out.2.1;omega)];omega
     obtain ⟨z,hz⟩:∃ z,rN[j]?=some z:=⟨rN[j]'(by rw [HRn.out.1];exact hlt),zql _⟩
     have hzl:z<n3:=HRn.out.2.2 z (List.mem_of_getElem? hz)
     have hzi:(z:Int)<(n3:Int):=by omega
     have hz0:decide ((z:Int)<0)=false:=zn (by omega)
     have hz1:decide ((n3:Int)≤(z:Int))=false:=zn (by omega)
     have hz2:decide (n3≤z)=false:=zn (by omega)
     obtain ⟨x5,hx⟩:∃ x,m3[z]?=some x:=⟨m3[z]'(by have:=HM3.out.1;omega),zql _⟩
     have HZx:Hid (rN[j]?=some z∧m3[z]?=some x5∧j<nr):=⟨hz,hx,hlt⟩
     obtain ⟨ad,rfl,-,hcl⟩:=(HX.out.ow.sl (i:=3) rfl).2.2.2 (by rw [z0t];unfold Na.up;rw [List.length_map,HRn.out.1];omega)
     have e0:=hcl j (.int .i64 (z:Int)) (by unfold z0q Na.up;rw [List.getElem?_map,List.getElem?_map,hz];rfl)
     obtain ⟨a3,rfl,t0,t1,t2,t3,t4,t5,t6,t7⟩:=z2v (HX.out.ow.sl (i:=2) rfl).2.2.2 hx
     obtain ⟨⟨y0,y1,y2,y3,y4,y5⟩,y6,y7⟩:=x5
     simp only at t0 t1 t2 t3 t4 t5 t6 t7
     have HX9:=zh (HX.out.arrO #[.int .i64 y0,.int .i64 y1,.int .i64 y2,.int .i64 y3,.int .i64 y4,.int .i64 y5,.int .i64 y6,.int .i64 y7] 8 rfl (by omega) 40)
     have HJl:j≤12:=by have:=HRn.out.2.1;omega
     clear hz hx hzl hlt hj1 HX hcl;go_wp2_with (at_builtin;refine z5e z7am HX9.out 0 (.tmp 116) (.tmp 121) (m:=1) (news:=[.int .i64 y0,.int .i64 y1,.int .i64 y2,.int .i64 y3,.int .i64 y4,.int .i64 y5,.int .i64 y6,.int .i64 y7]) rfl rfl (fun j u hu=>by have:=(HX9.out.ow.row 3 rfl).cells rfl j u hu;exact this) (z8v ⟨⟨y0,y1,y2,y3,y4,y5⟩,y6,y7⟩) (by unfold maxLen;omega) (by omega) rfl rfl rfl rfl ?_;intro A2' c2' w2' how2;have HX2:=zh how2;clear how2)
     go_roundw
     case rel=>
      refine ⟨j+1,A2',c2',by rw [HRn.out.1];exact HZx.out.2.2,rfl,rfl,?_⟩
      unfold Hid;rw [z1n HZx.out.1,z5d,z2aj HZx.out.2.1,z6y];exact HX2.out.fewO (O:=[_,_,_])
     case measure=>
      have:=HZx.out.2.2
      simp [intOf]
      omega
open Go.ChangeShapes Go.WideShapes Go.ChangeAt Go.RowKit
section
variable {H:Type}{enc:TypeId×Value→H}{P:Program}
theorem z7az (hl:laidOutB P=true){W W':World}(hb:Below W.heap.size W W'){sp:Nat→Bool}:∀ {ts:List TypeId} {vs:List Value} {ds:List (DataW H)} {ps:List MemPlace},
  (∀ t∈ts,P.readableRec t=true∧t<P.types.size)→DataW.TrodAll enc P W 0 (fun _=>true) true ts vs ds ps→(∀ x∈ps,x.block<W.heap.size)→(∀ p∈ps,sp p.block=true)→
  DataW.TrodAll enc P W' 0 sp true ts vs ds ps:=by
 intro ts
 induction ts with
 | nil=>
  intro vs ds ps _ h _ _;cases vs <;> cases ds <;> simp [DataW.TrodAll] at h ⊢
  exact h
 | cons t ts ih=>
  intro vs ds ps ht h hlt hs;obtain ⟨v,vs',d,ds',p,q,rfl,rfl,rfl,h0,h1⟩:=trodAll_cons h
  refine ⟨p,q,?_,?_,rfl⟩
  ·exact WideElems.Trod_stays hl (ht t (by simp)).1 (ht t (by simp)).2 h0 (fun x hx=>hb.same (hlt x (by simp [hx]))) (fun x hx=>hs x (by simp [hx]))
  ·exact ih (fun u hu=>ht u (by simp [hu])) h1 (fun x hx=>hlt x (by simp [hx])) (fun x hx=>hs x (by simp [hx]))
theorem z9al (hl:laidOutB P=true){f:Func}{s:ChangeSpec}{W W':World}{args:Array Value}{ds gs:List (DataW H)}{before:List MemPlace}{tb:TypeId}(hb:Below W.heap.size W W')
  (hvars:s.vars=[]) (hW:DataW.Whole enc P f.params.toList s.vars false W args.toList ds gs before)
  (hfn:s.fn H (ds++gs)={ results:=[.lit (.bool true)],args:=ds,vars:=[] }) (hres:f.resultTypes=#[tb]) (htb:P.underlying tb=some .bool)
  (hts:∀ t∈f.params.toList,P.readableRec t=true∧t<P.types.size) :
  s.post enc P f false true false false W args (.bool true) W':=by
 have hlt:∀ p∈before,p.block<W.heap.size:=fun p hp=>hW.lt p hp
 have hW':=hW
 obtain ⟨p,q,hA,hV,rfl,hz,hn⟩:=hW;rw [hvars] at hV;have hq:q=[]:=by
  cases gs with
  | nil=>exact hV
  | cons g r=>exact absurd hV (by intro h;cases h)
 subst hq
 refine ⟨ds,gs,_,[],p,[],hW',?_,?_,?_,hb.frame _,fun h=>by cases h⟩
 ·rw [hfn,hres];exact trodAll_mk1 (shut_bool htb true)
 ·rw [hfn];exact z7az hl hb hts hA (fun x hx=>hlt x (by simp [hx])) (fun x hx=>by simpa using hlt x (by simp [hx]))
 ·rw [hfn,hvars];rfl
end
set_option linter.unusedVariables false
theorem z0bz {W:World}{a:Addr}{v:Value}(h:W.cell? a=some v):a.block<W.heap.size:=by
 rcases zqi a.block W.heap.size with h1 | h1
 ·exact h1
 ·have h2:W.heap[a.block]?=none:=Array.getElem?_eq_none h1
  simp [World.cell?,h2] at h
section
variable {H:Type}{enc:TypeId×Value→H}{P:Program}{W:World}
theorem z4bj {t e:TypeId}{k:IntKind}(ht:P.underlying t=some (.slice e))(he:P.underlying e=some (.int k))(hc:P.cellsOf e=1){r:Reach}{b0:Nat}{v:Value}{d:DataW H}{ps:List MemPlace}
  (hval:Value.okWide P W r b0 t v) (h:DataW.Trod enc P W 0 (fun _=>true) true t v d ps) :
  ∃ (A:Option Addr) (n c:Nat) (zs:List Int),v=.slice A n c∧zs.length=n∧n≤c∧c≤maxLen∧Sl W W.heap.size A (zs.map (Value.int k))∧∀ z∈zs,(Lit.int k z).wf=true:=by
 obtain ⟨a0,n,c,rfl⟩:=okWide_slice ht hval
 obtain ⟨fuel,hf⟩:=h;rcases Go.ChangeShapes.open_ints ht he hc hf with ⟨hcs,_⟩ | ⟨a,len,cap,zs,hcs,_,hle,hmx,hall,_,hcell,hwf⟩
 ·have e1:(Value.slice a0 n c)=.slice none 0 0:=(List.cons.inj (show [Value.slice a0 n c]=_ from hcs)).1
  injection e1 with h1 h2 h3
  subst h1 h2 h3
  exact ⟨none,0,0,[],rfl,rfl,zqj _,zqr _,Sl.nil _ _ _,fun z hz=>by cases hz⟩
 ·have e1:(Value.slice a0 n c)=.slice (some a) len cap:=(List.cons.inj (show [Value.slice a0 n c]=_ from hcs)).1
  injection e1 with h1 h2 h3
  subst h1 h2 h3
  have hz:zs.length=c:=by simpa using hall
  refine ⟨some a,n,c,zs.take n,rfl,by rw [zqw];omega,hle,hmx,fun hn=>?_,fun z hz=>hwf z (List.mem_of_mem_take hz)⟩
  rw [List.length_map,zqw] at hn;refine ⟨a,rfl,?_,fun j u hu=>?_⟩
  ·have h0:=hcell 0 (by omega)
   have:=z0bz h0
   rwa [z1c] at this
  ·rw [List.getElem?_map,List.getElem?_take] at hu;by_cases hj:j<n
   ·rw [if_pos hj,zql (by omega)] at hu
    rw [hcell j (by omega),List.getD_eq_getElem?_getD,zql (by omega)]
    exact hu
   ·rw [if_neg hj] at hu;cases hu
end
set_option maxRecDepth 100000
theorem z6bi {W:World}(h:laidMetH Tryz.prog Rows.classifyJudgesRow.laid W):Tab W:=by
 rw [MakeChecks.laidMetH_plain _ _ _ (by kernel_rfl)] at h
 obtain ⟨ps,⟨g,t,cs,fuel,p,q,hg,ht,hv,hd,_,_⟩,_⟩:=h
 obtain rfl := zqk ((show Tryz.prog.globalNamed "math/bits.deBruijn64tab" = some 0 by kernel_rfl).symm.trans hg)
 obtain rfl:=zqk ((show (Tryz.prog.globals[0]?).map (·.type)=some 180 by kernel_rfl).symm.trans ht)
 obtain ⟨xs,m,_,ex,_,hl,hel⟩:=DataW.trod_array Tryz.underlying180 hd
 have c5:Tryz.prog.cellsOf 5=1:=by kernel_rfl
 have hlen:Lib.deBruijn64tab.length=64:=by kernel_rfl
 have e3:(xs.map (·.1))=Lib.deBruijn64tab.map fun n:Nat=>.lit (.int .u8 (n:Int)):=(DataW.agg.inj (Prod.mk.inj ex).1).symm
 have hcell:∀ k v:Nat,Lib.deBruijn64tab[k]?=some v→W.cell? ⟨0,k,none⟩=some (.int .u8 (v:Int)):=by
  intro r v hr;have hr64:r<64:=by
   rcases zqi r 64 with h | h
   ·exact h
   ·rw [List.getElem?_eq_none (by omega)] at hr;cases hr
  have hE:=hel r hr64
  rw [c5,Nat.mul_one,zql (by omega)] at hE
  obtain ⟨z,e1,e2,_⟩:=DataW.trod_int Tryz.underlying5 hE
  have e4:(xs.map (·.1))[r]?=(Lib.deBruijn64tab.map fun n:Nat=>(DataW.lit (.int .u8 (n:Int)):DataW Unit))[r]?:=by rw [e3]
  rw [List.getElem?_map,List.getElem?_map,zql (by omega:r<xs.length),hr,e2] at e4
  have hz:z=(v:Int):=by
   simp only [Option.map_some,Option.some.injEq,DataW.lit.injEq,Lit.int.injEq,true_and] at e4;exact e4
  rw [World.var?_cell hg hv r,← hz];have:cs.toList[r]?=some (.int .u8 z):=by
   have h0:((cs.toList.drop r).take 1)[0]?=some (.int .u8 z):=by rw [e1];rfl
   simpa using h0
  simpa using this
 refine ⟨?_,hcell⟩
 have h0:=hcell 0 0 (by kernel_rfl)
 rcases zqh W.heap.size with h | h
 ·exfalso
  unfold World.cell? at h0
  rw [Array.getElem?_eq_none (by simp only;omega)] at h0
  cases h0
 ·exact h
end Go.Proofs.YtpmofjomadibmaaGreatDoor
