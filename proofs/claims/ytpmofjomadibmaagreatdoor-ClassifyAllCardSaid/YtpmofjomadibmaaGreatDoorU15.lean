/- Num Qmd NatV NatQ NPasA NatR Odd Qmf Qx Qyz Ta Tb -/
import Derived.Test.YtpmofjomadibmaaGreatDoorU14
namespace Go.Proofs.YtpmofjomadibmaaGreatDoor
set_option maxHeartbeats 8000000
open Go.RowKit Go.Sort
set_option linter.unusedVariables false
set_option maxRecDepth 100000
section
variable {w0 w w':World}{g:Option Nat}{M:List (Nat×Value)}{L:List Ob}{O:List Rw}{A A2:Option Addr}{n c m c2 x y:Nat}
theorem z0br (h:Ow w0 w g M L O)(i:Nat)(hi:L[i]?=some ⟨A,n,c,z0c (Na.dig x)⟩)(hx:x<Na.top):
  Calls Tryz.prog 84 #[.agg #[.slice A n c]] w fun e w'=>e=.returned (.bool true)/\Ow w0 w' g M L O:=by
 rw [<- z0g] at hi;have:=z5e h i hi
 rwa [Na.vld_dig hx] at this
end
theorem z0ag (A:Option Addr)(n c x:Nat)(v:Int)(w:World)(hn:(Na.dig x).length=n)(hnc:n<=c)(hs:Sl w w.heap.size A (z0c (Na.dig x)))(hx:x<Na.top)(hv:v<0∨4800<v):
  Calls Tryz.prog 125 #[.agg #[.slice A n c],.int .i64 v] w (z3m w [] 2):=by
 have hn2:n<=200:=by rw [<- hn];exact (Na.dig_200 x).2 hx
 have H0:=(((Ow.of (St.refl w)).old hs (by rw [z0e];exact hn) hnc (by omega)).boxed (.slice A n c) 25).boxed (.slice none 0 0) 25
 simp only [World.size_alloc,zqc,zqb] at H0;have hc0:=H0.cell 0 rfl
 have HH:=zh (z0br H0 0 rfl hx)
 clear hn hs H0 hx;rcases hv with hv|hv
 ·have hd:decide (v<0)=true:=zt hv
  go_enter Tryz.func125,Tryz.ntmps125
  go_wp2_with fail;refine HH.out.mono ?_;rintro e w1 ⟨rfl,H1⟩;have hs1:=H1.cell 1 rfl
  have hf1:=H1.free 1 rfl
  clear hc0 HH;go_wp2_with fail;have G:=H1.setv 1 rfl (.slice none 0 0)
  have hz:=G.cell 1 rfl
  refine bodyPost_ret (v:=.tuple #[.agg #[.slice none 0 0],.int .i64 2]) (by simp [results,Tryz.results125,go_sem,hz]) rfl ?_
  exact z0y _ _ _ G.below
 ·have hd:decide (v<0)=false:=zn (by omega)
  have hd2:decide (4800<v)=true:=zt hv
  go_enter Tryz.func125,Tryz.ntmps125
  go_wp2_with fail;refine HH.out.mono ?_;rintro e w1 ⟨rfl,H1⟩;have hs1:=H1.cell 1 rfl
  have hf1:=H1.free 1 rfl
  clear hc0 HH;go_wp2_with fail;have G:=H1.setv 1 rfl (.slice none 0 0)
  have hz:=G.cell 1 rfl
  refine bodyPost_ret (v:=.tuple #[.agg #[.slice none 0 0],.int .i64 2]) (by simp [results,Tryz.results125,go_sem,hz]) rfl ?_
  exact z0y _ _ _ G.below
theorem z8q (A:Option Addr)(n c x:Nat)(v:Int)(w:World)(hn:(Na.dig x).length=n)(hnc:n<=c)(hs:Sl w w.heap.size A (z0c (Na.dig x)))(hx:x<Na.top)(hv:v<0∨4800<v):
  Calls Tryz.prog 72 #[.agg #[.slice A n c],.int .i64 v] w (z3m w [] 2):=by
 have hn2:n<=200:=by rw [<- hn];exact (Na.dig_200 x).2 hx
 have H0:=(((Ow.of (St.refl w)).old hs (by rw [z0e];exact hn) hnc (by omega)).boxed (.slice A n c) 25).boxed (.slice none 0 0) 25
 simp only [World.size_alloc,zqc,zqb] at H0;have hc0:=H0.cell 0 rfl
 have HH:=zh (z2e H0 0 rfl hx)
 clear hn hs H0 hx;rcases hv with hv|hv
 ·have hd:decide (v<0)=true:=zt hv
  go_enter Tryz.func72,Tryz.ntmps72
  go_wp2_with fail;refine HH.out.mono ?_;rintro e w1 ⟨rfl,H1⟩;have hs1:=H1.cell 1 rfl
  have hf1:=H1.free 1 rfl
  clear hc0 HH;go_wp2_with fail;have G:=H1.setv 1 rfl (.slice none 0 0)
  have hz:=G.cell 1 rfl
  refine bodyPost_ret (v:=.tuple #[.agg #[.slice none 0 0],.int .i64 2]) (by simp [results,Tryz.results72,go_sem,hz]) rfl ?_
  exact z0y _ _ _ G.below
 ·have hd:decide (v<0)=false:=zn (by omega)
  have hd2:decide (4800<v)=true:=zt hv
  go_enter Tryz.func72,Tryz.ntmps72
  go_wp2_with fail;refine HH.out.mono ?_;rintro e w1 ⟨rfl,H1⟩;have hs1:=H1.cell 1 rfl
  have hf1:=H1.free 1 rfl
  clear hc0 HH;go_wp2_with fail;have G:=H1.setv 1 rfl (.slice none 0 0)
  have hz:=G.cell 1 rfl
  refine bodyPost_ret (v:=.tuple #[.agg #[.slice none 0 0],.int .i64 2]) (by simp [results,Tryz.results72,go_sem,hz]) rfl ?_
  exact z0y _ _ _ G.below
def powL (x:Nat)(v:Int):List Nat:=if v<0∨4800<v then [] else z4j (x ^ v.toNat)
def powE (x:Nat)(v:Int):Int:=if v<0∨4800<v then 2 else z3v (x ^ v.toNat)
theorem z9y (x:Nat)(v:Int):(powL x v).length<=1000:=by
 unfold powL;split
 ·exact zqr _
 ·exact z7b _
theorem z3ac {v:Int}(h:v<=9223372036854775807):(ofL v).length<=1000:=by
 unfold ofL;split
 ·exact zqr _
 ·exact zqq (Na.dig_len_le (n:=3) (zqu (show v.toNat<=9223372036854775807 by omega) (by decide))) (by omega)
section
variable {w0 w w':World}{g:Option Nat}{M:List (Nat×Value)}{L:List Ob}{O:List Rw}{A A2:Option Addr}{n c m c2 x y:Nat}
theorem z0cc (h:Ow w0 w g M L O)(i:Nat)(hi:L[i]?=some ⟨A,n,c,z0c (Na.dig x)⟩)(hx:x<Na.top)(v:Int):
  Calls Tryz.prog 125 #[.agg #[.slice A n c],.int .i64 v] w (z7v w0 g M L O (powL x v) (powE x v)):=by
 obtain ⟨h1,h2,h3,h4⟩:=h.sl hi
 rw [z0e] at h1;have key:Calls Tryz.prog 125 #[.agg #[.slice A n c],.int .i64 v] w (z3m w (powL x v) (powE x v)):=by
  by_cases hv:v<0∨4800<v
  ·have e1:powL x v=[]:=if_pos hv
   have e2:powE x v=2:=if_pos hv
   rw [e1,e2];exact z0ag A n c x v w h1 h2 h4 hx hv
  ·have e1:powL x v=z4j (x ^ v.toNat):=if_neg hv
   have e2:powE x v=z3v (x ^ v.toNat):=if_neg hv
   rw [e1,e2];have h0:0<=v:=by omega
   obtain ⟨k,rfl⟩:=Int.eq_ofNat_of_zero_le h0
   exact z8aj A n c x k w h1 h4 hx (by omega)
 exact key.mono fun en w' hr=>z5v h (z9y x v) hr
theorem z7bt (h:Ow w0 w g M L O)(i:Nat)(hi:L[i]?=some ⟨A,n,c,z0c (Na.dig x)⟩)(hx:x<Na.top)(v:Int):
  Calls Tryz.prog 72 #[.agg #[.slice A n c],.int .i64 v] w (z7v w0 g M L O (powL x v) (powE x v)):=by
 obtain ⟨h1,h2,h3,h4⟩:=h.sl hi
 rw [z0e] at h1;have key:Calls Tryz.prog 72 #[.agg #[.slice A n c],.int .i64 v] w (z3m w (powL x v) (powE x v)):=by
  by_cases hv:v<0∨4800<v
  ·have e1:powL x v=[]:=if_pos hv
   have e2:powE x v=2:=if_pos hv
   rw [e1,e2];exact z8q A n c x v w h1 h2 h4 hx hv
  ·have e1:powL x v=z4j (x ^ v.toNat):=if_neg hv
   have e2:powE x v=z3v (x ^ v.toNat):=if_neg hv
   rw [e1,e2];have h0:0<=v:=by omega
   obtain ⟨k,rfl⟩:=Int.eq_ofNat_of_zero_le h0
   exact z5al A n c x k w h1 h2 h4 hx (by omega)
 exact key.mono fun en w' hr=>z5v h (z9y x v) hr
theorem z1ce (h:Ow w0 w g M L O)(v:Int)(hv:v<=9223372036854775807):Calls Tryz.prog 99 #[.int .i64 v] w (z7v w0 g M L O (ofL v) (ofE v)):=
 (z8ak v w hv).mono fun en w' hr=>z5v h (z3ac hv) hr
theorem z0cb (h:Ow w0 w g M L O)(v:Int)(hv:v<=9223372036854775807):Calls Tryz.prog 55 #[.int .i64 v] w (z7v w0 g M L O (ofL v) (ofE v)):=
 (z6q v w hv).mono fun en w' hr=>z5v h (z3ac hv) hr
end
theorem z7ay (L l:List Ob)(x y:Ob):∀ o∈L++[x]++[y],o∈L++l++[x]++[y]:=fun o ho=>by
 simp only [List.mem_append] at ho ⊢
 rcases ho with (h|h)|h
 ·exact .inl (.inl (.inl h))
 ·exact .inl (.inr h)
 ·exact .inr h
def ofF (a b:Int):Nat×Nat×Int:=if a<0∨b<0 then frE 2 else frM a.toNat b.toNat
theorem z3h {a:Int}(h:a<=9223372036854775807):a.toNat<Na.top:=by
 have h1:(9223372036854775807:Nat)<Na.top:=by decide +kernel
 omega
theorem z2h {a:Int}(h:0<=a):ofL a=Na.dig a.toNat/\ofE a=0:=⟨if_neg (by omega),if_neg (by omega)⟩
theorem z6d {a:Int}(h:a<0):ofL a=[]/\ofE a=2:=⟨if_pos h,if_pos h⟩
section
variable {w0 w w':World}{g:Option Nat}{M:List (Nat×Value)}{L:List Ob}{O:List Rw}
theorem z8by (h:Ow w0 w g M L O)(a:Int)(ha:a<=9223372036854775807):Calls Tryz.prog 99 #[.int .i64 a] w (z7v w0 g M L O (ofL a) (ofE a)):=
 (z8ak a w ha).mono fun e w' hr=>z5v h (by
  rcases Int.lt_or_le a 0 with h0|h0
  ·rw [(z6d h0).1];decide
  ·rw [(z2h h0).1];exact z3a (z3h ha)) hr
theorem z8bx (h:Ow w0 w g M L O)(a b:Int)(ha:a<=9223372036854775807)(hb:b<=9223372036854775807)(ht:Tab w0):
  Calls Tryz.prog 65 #[.int .i64 a,.int .i64 b] w (GotF w0 g M L O (ofF a b)):=by
 have H0:=h.pair (.slice none 0 0) (.slice none 0 0) 27
 have HC:=zh (z8by H0 a ha)
 have HB:=zh hb;have HA:=zh ha;have HT:=zh ht;obtain ⟨l1,h1⟩:∃ l,ofL a=l:=⟨_,rfl⟩
 obtain ⟨e1,he1⟩:∃ l,ofE a=l:=⟨_,rfl⟩
 obtain ⟨l2,h2⟩:∃ l,ofL b=l:=⟨_,rfl⟩
 obtain ⟨e2,he2⟩:∃ l,ofE b=l:=⟨_,rfl⟩
 rw [h1,he1] at HC;have HL:=zh (And.intro h1 (And.intro h2 he2))
 have key:((e1 != 0)=true/\ofF a b=frE 2)∨((e1 != 0)=false/\(e2 != 0)=true/\ofF a b=frE 2)∨((e1 != 0)=false/\(e2 != 0)=false/\0<=a/\0<=b/\ofF a b=frM a.toNat b.toNat):=by
  unfold ofF;rcases Int.lt_or_le a 0 with h0|h0
  ·exact .inl ⟨by rw [<- he1,(z6d h0).2];rfl,if_pos (.inl h0)⟩
  ·rcases Int.lt_or_le b 0 with h3|h3
   ·exact .inr (.inl ⟨by rw [<- he1,(z2h h0).2];rfl,by rw [<- he2,(z6d h3).2];rfl,if_pos (.inr h3)⟩)
   ·exact .inr (.inr ⟨by rw [<- he1,(z2h h0).2];rfl,by rw [<- he2,(z2h h3).2];rfl,h0,h3,if_neg (by omega)⟩)
 clear h H0 ha hb h1 he1 h2 he2 ht;go_enter Tryz.func65,Tryz.ntmps65
 go_wp2_with fail;refine HC.out.mono ?_;rintro e w1 ⟨B1,m1,d1,rfl,H1⟩;have H2:=H1.boxed (.slice B1 m1 d1) 25
 have HD:=zh (z8by H2 b HB.out)
 rw [HL.out.2.1,HL.out.2.2] at HD;clear HC H1 H2;rcases key with ⟨k1,k2⟩|⟨k1,k2,k3⟩|⟨k1,k2,ka,kb,k3⟩
 ·have HK:=zh k2;clear k2;go_wp2_with fail;refine HD.out.mono ?_;rintro e w2 ⟨B2,m2,d2,rfl,H3⟩;have H4:=H3.boxed (.slice B2 m2 d2) 25
  simp only [zqa,zqb,zqc] at H4;have x0:=H4.p0 (O.length+0) (zk rfl)
  have x1:=H4.p1 (O.length+0) (zk rfl)
  have f0:=H4.pf (O.length+0) (zk rfl) 0
  have f1:=H4.pf (O.length+0) (zk rfl) 1
  have H5:=H4.set0 (O.length+0) (zk rfl) (.slice none 0 0)
  rw [z0o,zqd] at H5;have H6:=H5.set1 (O.length+0) (zk rfl) (.slice none 0 0)
  rw [z0o,zqd] at H6;have s0:=H6.p0 (O.length+0) (zk rfl)
  have s1:=H6.p1 (O.length+0) (zk rfl)
  have HF:=zh (H6.fewM.fewO.less (L':=L) (fun o ho=>List.mem_append_left _ ho))
  clear HD H3 H4 H5 H6;go_wp2_with fail;refine bodyPost_ret (v:=.tuple #[.agg #[.slice none 0 0,.slice none 0 0],.int .i64 2]) (by simp [results,Tryz.results65,go_sem,s0,s1]) rfl ?_
  rw [HK.out];exact z6v HF.out 2
 ·have HK:=zh k3;clear k3;go_wp2_with fail;refine HD.out.mono ?_;rintro e w2 ⟨B2,m2,d2,rfl,H3⟩;have H4:=H3.boxed (.slice B2 m2 d2) 25
  simp only [zqa,zqb,zqc] at H4;have x0:=H4.p0 (O.length+0) (zk rfl)
  have x1:=H4.p1 (O.length+0) (zk rfl)
  have f0:=H4.pf (O.length+0) (zk rfl) 0
  have f1:=H4.pf (O.length+0) (zk rfl) 1
  have H5:=H4.set0 (O.length+0) (zk rfl) (.slice none 0 0)
  rw [z0o,zqd] at H5;have H6:=H5.set1 (O.length+0) (zk rfl) (.slice none 0 0)
  rw [z0o,zqd] at H6;have s0:=H6.p0 (O.length+0) (zk rfl)
  have s1:=H6.p1 (O.length+0) (zk rfl)
  have HF:=zh (H6.fewM.fewO.less (L':=L) (fun o ho=>List.mem_append_left _ ho))
  clear HD H3 H4 H5 H6;go_wp2_with fail;refine bodyPost_ret (v:=.tuple #[.agg #[.slice none 0 0,.slice none 0 0],.int .i64 2]) (by simp [results,Tryz.results65,go_sem,s0,s1]) rfl ?_
  rw [HK.out];exact z6v HF.out 2
 ·have HK:=zh k3;have HX:=zh (And.intro ka kb)
  obtain ⟨t,hmk⟩:∃ t,frM a.toNat b.toNat=t:=⟨_,rfl⟩
  have HMk:=zh hmk;clear k3 ka kb hmk;go_wp2_with fail;refine HD.out.mono ?_;rintro e w2 ⟨B2,m2,d2,rfl,H3⟩;have H4:=H3.boxed (.slice B2 m2 d2) 25
  simp only [zqa,zqb,zqc] at H4;rw [<- HL.out.1,<- HL.out.2.1,(z2h HX.out.1).1,(z2h HX.out.2).1] at H4
  have y0:=H4.cell (M.length+0) (zk rfl)
  have y1:=H4.cell (M.length+1) (zk rfl)
  have HE:=zh (z6bb H4 (L.length+0) (L.length+1) (zk rfl) (zk rfl) (z3h HA.out) (z3h HB.out) HT.out)
  rw [HMk.out] at HE;have HG:=zh H4;clear HD H3 H4;go_wp2_with fail;refine HE.out.mono ?_;intro e w3 hr;have ht1:t.1<Na.top/\t.2.1<Na.top:=by rw [<- HMk.out];exact z5o (z3h HA.out) (z3h HB.out)
  obtain ⟨C1,p1,q1,C2,p2,q2,rfl,how3⟩:=z2bu HG.out ht1.1 ht1.2 hr
  have x0:=how3.p0 (O.length+0) (zk rfl)
  have x1:=how3.p1 (O.length+0) (zk rfl)
  have f0:=how3.pf (O.length+0) (zk rfl) 0
  have f1:=how3.pf (O.length+0) (zk rfl) 1
  have H5:=how3.set0 (O.length+0) (zk rfl) (.slice C1 p1 q1)
  rw [z0o,zqd] at H5;have H6:=H5.set1 (O.length+0) (zk rfl) (.slice C2 p2 q2)
  rw [z0o,zqd] at H6;have s0:=H6.p0 (O.length+0) (zk rfl)
  have s1:=H6.p1 (O.length+0) (zk rfl)
  have HF:=zh (H6.fewM.fewO.less (L':=L++[⟨C1,p1,q1,_⟩]++[⟨C2,p2,q2,_⟩]) (z7ay L _ _ _))
  clear HE HG hr how3 H5 H6 y0 y1 ht1;go_wp2_with fail;refine bodyPost_ret (v:=.tuple #[.agg #[.slice C1 p1 q1,.slice C2 p2 q2],.int .i64 t.2.2]) (by simp [results,Tryz.results65,go_sem,s0,s1]) rfl ?_
  rw [HK.out,HMk.out];exact ⟨C1,p1,q1,C2,p2,q2,rfl,HF.out⟩
theorem z2av (h:Ow w0 w g M L O)(a:Int)(ha:a<=9223372036854775807):Calls Tryz.prog 55 #[.int .i64 a] w (z7v w0 g M L O (ofL a) (ofE a)):=
 (z6q a w ha).mono fun e w' hr=>z5v h (by
  rcases Int.lt_or_le a 0 with h0|h0
  ·rw [(z6d h0).1];decide
  ·rw [(z2h h0).1];exact z3a (z3h ha)) hr
theorem z7ag (h:Ow w0 w g M L O)(a b:Int)(ha:a<=9223372036854775807)(hb:b<=9223372036854775807):
  Calls Tryz.prog 31 #[.int .i64 a,.int .i64 b] w (GotF w0 g M L O (ofF a b)):=by
 have H0:=h.pair (.slice none 0 0) (.slice none 0 0) 27
 have HC:=zh (z2av H0 a ha)
 have HB:=zh hb;have HA:=zh ha;obtain ⟨l1,h1⟩:∃ l,ofL a=l:=⟨_,rfl⟩
 obtain ⟨e1,he1⟩:∃ l,ofE a=l:=⟨_,rfl⟩
 obtain ⟨l2,h2⟩:∃ l,ofL b=l:=⟨_,rfl⟩
 obtain ⟨e2,he2⟩:∃ l,ofE b=l:=⟨_,rfl⟩
 rw [h1,he1] at HC;have HL:=zh (And.intro h1 (And.intro h2 he2))
 have key:((e1 != 0)=true/\ofF a b=frE 2)∨((e1 != 0)=false/\(e2 != 0)=true/\ofF a b=frE 2)∨((e1 != 0)=false/\(e2 != 0)=false/\0<=a/\0<=b/\ofF a b=frM a.toNat b.toNat):=by
  unfold ofF;rcases Int.lt_or_le a 0 with h0|h0
  ·exact .inl ⟨by rw [<- he1,(z6d h0).2];rfl,if_pos (.inl h0)⟩
  ·rcases Int.lt_or_le b 0 with h3|h3
   ·exact .inr (.inl ⟨by rw [<- he1,(z2h h0).2];rfl,by rw [<- he2,(z6d h3).2];rfl,if_pos (.inr h3)⟩)
   ·exact .inr (.inr ⟨by rw [<- he1,(z2h h0).2];rfl,by rw [<- he2,(z2h h3).2];rfl,h0,h3,if_neg (by omega)⟩)
 clear h H0 ha hb h1 he1 h2 he2;go_enter Tryz.func31,Tryz.ntmps31
 go_wp2_with fail;refine HC.out.mono ?_;rintro e w1 ⟨B1,m1,d1,rfl,H1⟩;have H2:=H1.boxed (.slice B1 m1 d1) 25
 have HD:=zh (z2av H2 b HB.out)
 rw [HL.out.2.1,HL.out.2.2] at HD;clear HC H1 H2;rcases key with ⟨k1,k2⟩|⟨k1,k2,k3⟩|⟨k1,k2,ka,kb,k3⟩
 ·have HK:=zh k2;clear k2;go_wp2_with fail;refine HD.out.mono ?_;rintro e w2 ⟨B2,m2,d2,rfl,H3⟩;have H4:=H3.boxed (.slice B2 m2 d2) 25
  simp only [zqa,zqb,zqc] at H4;have x0:=H4.p0 (O.length+0) (zk rfl)
  have x1:=H4.p1 (O.length+0) (zk rfl)
  have f0:=H4.pf (O.length+0) (zk rfl) 0
  have f1:=H4.pf (O.length+0) (zk rfl) 1
  have H5:=H4.set0 (O.length+0) (zk rfl) (.slice none 0 0)
  rw [z0o,zqd] at H5;have H6:=H5.set1 (O.length+0) (zk rfl) (.slice none 0 0)
  rw [z0o,zqd] at H6;have s0:=H6.p0 (O.length+0) (zk rfl)
  have s1:=H6.p1 (O.length+0) (zk rfl)
  have HF:=zh (H6.fewM.fewO.less (L':=L) (fun o ho=>List.mem_append_left _ ho))
  clear HD H3 H4 H5 H6;go_wp2_with fail;refine bodyPost_ret (v:=.tuple #[.agg #[.slice none 0 0,.slice none 0 0],.int .i64 2]) (by simp [results,Tryz.results31,go_sem,s0,s1]) rfl ?_
  rw [HK.out];exact z6v HF.out 2
 ·have HK:=zh k3;clear k3;go_wp2_with fail;refine HD.out.mono ?_;rintro e w2 ⟨B2,m2,d2,rfl,H3⟩;have H4:=H3.boxed (.slice B2 m2 d2) 25
  simp only [zqa,zqb,zqc] at H4;have x0:=H4.p0 (O.length+0) (zk rfl)
  have x1:=H4.p1 (O.length+0) (zk rfl)
  have f0:=H4.pf (O.length+0) (zk rfl) 0
  have f1:=H4.pf (O.length+0) (zk rfl) 1
  have H5:=H4.set0 (O.length+0) (zk rfl) (.slice none 0 0)
  rw [z0o,zqd] at H5;have H6:=H5.set1 (O.length+0) (zk rfl) (.slice none 0 0)
  rw [z0o,zqd] at H6;have s0:=H6.p0 (O.length+0) (zk rfl)
  have s1:=H6.p1 (O.length+0) (zk rfl)
  have HF:=zh (H6.fewM.fewO.less (L':=L) (fun o ho=>List.mem_append_left _ ho))
  clear HD H3 H4 H5 H6;go_wp2_with fail;refine bodyPost_ret (v:=.tuple #[.agg #[.slice none 0 0,.slice none 0 0],.int .i64 2]) (by simp [results,Tryz.results31,go_sem,s0,s1]) rfl ?_
  rw [HK.out];exact z6v HF.out 2
 ·have HK:=zh k3;have HX:=zh (And.intro ka kb)
  obtain ⟨t,hmk⟩:∃ t,frM a.toNat b.toNat=t:=⟨_,rfl⟩
  have HMk:=zh hmk;clear k3 ka kb hmk;go_wp2_with fail;refine HD.out.mono ?_;rintro e w2 ⟨B2,m2,d2,rfl,H3⟩;have H4:=H3.boxed (.slice B2 m2 d2) 25
  simp only [zqa,zqb,zqc] at H4;rw [<- HL.out.1,<- HL.out.2.1,(z2h HX.out.1).1,(z2h HX.out.2).1] at H4
  have y0:=H4.cell (M.length+0) (zk rfl)
  have y1:=H4.cell (M.length+1) (zk rfl)
  have HE:=zh (z2ax H4 (L.length+0) (L.length+1) (zk rfl) (zk rfl) (z3h HA.out) (z3h HB.out))
  rw [HMk.out] at HE;have HG:=zh H4;clear HD H3 H4;go_wp2_with fail;refine HE.out.mono ?_;intro e w3 hr;have ht1:t.1<Na.top/\t.2.1<Na.top:=by rw [<- HMk.out];exact z5o (z3h HA.out) (z3h HB.out)
  obtain ⟨C1,p1,q1,C2,p2,q2,rfl,how3⟩:=z2bu HG.out ht1.1 ht1.2 hr
  have x0:=how3.p0 (O.length+0) (zk rfl)
  have x1:=how3.p1 (O.length+0) (zk rfl)
  have f0:=how3.pf (O.length+0) (zk rfl) 0
  have f1:=how3.pf (O.length+0) (zk rfl) 1
  have H5:=how3.set0 (O.length+0) (zk rfl) (.slice C1 p1 q1)
  rw [z0o,zqd] at H5;have H6:=H5.set1 (O.length+0) (zk rfl) (.slice C2 p2 q2)
  rw [z0o,zqd] at H6;have s0:=H6.p0 (O.length+0) (zk rfl)
  have s1:=H6.p1 (O.length+0) (zk rfl)
  have HF:=zh (H6.fewM.fewO.less (L':=L++[⟨C1,p1,q1,_⟩]++[⟨C2,p2,q2,_⟩]) (z7ay L _ _ _))
  clear HE HG hr how3 H5 H6 y0 y1 ht1;go_wp2_with fail;refine bodyPost_ret (v:=.tuple #[.agg #[.slice C1 p1 q1,.slice C2 p2 q2],.int .i64 t.2.2]) (by simp [results,Tryz.results31,go_sem,s0,s1]) rfl ?_
  rw [HK.out,HMk.out];exact ⟨C1,p1,q1,C2,p2,q2,rfl,HF.out⟩
end
open Go.RowKit
theorem z7bq {W:World}{a:Addr}{v:Value}(h:W.cell? a=some v):a.block<W.heap.size:=by
 rcases zqi a.block W.heap.size with h1|h1
 ·exact h1
 ·have h2:W.heap[a.block]?=none:=Array.getElem?_eq_none h1
  simp [World.cell?,h2] at h
theorem z9aa (A:Option Addr)(n c:Nat)(w:World)(h:n<=400):Calls Tryz.prog 8 #[.slice A n c] w fun e w'=>e=.returned (.bool true)/\w=w':=by
 have:=z0am A n c w (by omega)
 rwa [zt (show (n:Int)<=400 by omega)] at this
theorem z2bp (A:Option Addr)(n c:Nat)(w:World)(h:400<n)(hl:n<=9223372036854775807):Calls Tryz.prog 8 #[.slice A n c] w fun e w'=>e=.returned (.bool false)/\w=w':=by
 have:=z0am A n c w hl
 rwa [zn (show ¬ (n:Int)<=400 by omega)] at this
section
variable {w0 w w':World}{g:Nat}{M:List (Nat×Value)}{L:List Ob}
theorem St.made (h:St w0 w (some g) M L){A:Option Addr}{n c:Nat}{vs:List Value}{e:TypeId}(ho:w'.ownsRow w.heap.size e 1 (.slice A n c) n vs)(hg:w.grownBy w' (some g))(hl:n<=1000):St w0 w' (some g) M (L++[⟨A,n,c,vs⟩]):=by
 refine (h.roll hg).add (Sl.of_own ho) (zqj _) (z1m ho) (z1j ho).1 hl fun ad e h0=>?_
 obtain ⟨g',hg',h1,_⟩:=z0n ho h0
 rw [e] at hg';obtain rfl:=zqk hg'
 exact ⟨fun e2=>by have:=(h.lt _ rfl).1;have e3:=zqk e2;simp only at e3;omega,fun i b v hi e2=>by have:=(h.box i b v hi).1;simp only at e2;omega⟩
end
theorem St.drew {w0 w:World}{g:Option Nat}{M:List (Nat×Value)}{L:List Ob}(h:St w0 w g M L):St w0 w.drew g M L:=h.go (Below.refl _ _).drew
structure Lay (k:Nat)(c a s:Nat->Nat):Prop where
 cc:∀ i j,i<k->j<k->c i=c j->i=j
 aa:∀ i j,i<k->j<k->a i=a j->i=j
 ss:∀ i j,i<k->j<k->s i=s j->i=j
 ca:∀ i j,i<k->j<k->c i≠a j
 cs:∀ i j,i<k->j<k->c i≠s j
 sa:∀ i j,i<k->j<k->a i≠s j
def GotV (P:Nat->Nat->Prop)(i:Nat)(r:Value)(Ls:List Ob):Prop:=∃ (A:Option Addr) (n c x:Nat),r=.agg #[.slice A n c]/\(⟨A,n,c,z0c (Na.dig x)⟩:Ob)∈Ls/\P i x
theorem z7r {L:Nat->Bool}{j:Nat}:z3i L j j=true:=if_pos rfl
theorem z0u {L:Nat->Bool}{i j:Nat}(h:i≠j):z3i L j i=L i:=if_neg h
structure VInv (w0:World)(g B k:Nat)(c a s:Nat->Nat)(P:Nat->Nat->Prop)(L:Nat->Bool)(res ptr:List Value)(W:World)(M:List (Nat×Value))(Ls:List Ob):Prop where
 st:St w0 W (some g) M Ls
 dice:Dice W g B
 low:B<=w0.heap.size
 rk:res.length=k
 pk:ptr.length=k
 got:∀ i r,res[i]?=some r->L (c i)=true->GotV P i r Ls
 var:∀ i p r,ptr[i]?=some p->res[i]?=some r->L (a i)=true->∃ b v,p=.pointer (some ⟨b,0,none⟩)/\(b,v)∈M/\(L (s i)=false->v=.slice none 0 0)/\(L (s i)=true->r=.agg #[v])
 ne:∀ i j p,i≠j->ptr[i]?=some p->ptr[j]?=some p->L (a i)=true->L (a j)=true->False
 ord:∀ i,i<k->L (s i)=true->L (c i)=true/\L (a i)=true
section
variable {w0 W W':World}{g B k:Nat}{c a s:Nat->Nat}{P:Nat->Nat->Prop}{L:Nat->Bool}{res ptr:List Value}{M:List (Nat×Value)}{Ls:List Ob}
theorem VInv.other (h:VInv w0 g B k c a s P L res ptr W M Ls)(j:Nat)(hc:∀ i,i<k->c i≠j)(ha:∀ i,i<k->a i≠j)(hs:∀ i,i<k->s i≠j):VInv w0 g B k c a s P (z3i L j) res ptr W M Ls:=by
 have l1:∀ i r,res[i]?=some r->i<k:=fun i r hr=>by have:=z0d hr;rw [h.rk] at this;exact this
 have l2:∀ i r,ptr[i]?=some r->i<k:=fun i r hr=>by have:=z0d hr;rw [h.pk] at this;exact this
 refine ⟨h.st,h.dice,h.low,h.rk,h.pk,fun i r hr hl=>?_,fun i p r hp hr hl=>?_,fun i i' p hne hp hp' hl hl'=>?_,fun i hi hl=>?_⟩
 ·rw [z0u (hc i (l1 i r hr))] at hl;exact h.got i r hr hl
 ·rw [z0u (ha i (l1 i r hr))] at hl
  rw [z0u (hs i (l1 i r hr))]
  exact h.var i p r hp hr hl
 ·rw [z0u (ha i (l2 i p hp))] at hl
  rw [z0u (ha i' (l2 i' p hp'))] at hl'
  exact h.ne i i' p hne hp hp' hl hl'
 ·rw [z0u (hs i hi)] at hl
  rw [z0u (hc i hi),z0u (ha i hi)]
  exact h.ord i hi hl
theorem VInv.call (h:VInv w0 g B k c a s P L res ptr W M Ls)(hl:Lay k c a s)(i:Nat)(hi:i<k)(hf:L (c i)=false){A:Option Addr}{n cc x:Nat}(hn:(Na.dig x).length=n)(hx:P i x)(h1:n<=1000)
  (ho:W'.ownsRow W.heap.size 3 1 (.slice A n cc) n (z0c (Na.dig x))) (hd:Dice W' g B) (hg:W.grownBy W' (some g)) :
  VInv w0 g B k c a s P (z3i L (c i)) (res.set i (.agg #[.slice A n cc])) ptr W' M (Ls++[⟨A,n,cc,z0c (Na.dig x)⟩]):=by
 have l1:∀ i r,res[i]?=some r->i<k:=fun i r hr=>by have:=z0d hr;rw [h.rk] at this;exact this
 have l2:∀ i r,ptr[i]?=some r->i<k:=fun i r hr=>by have:=z0d hr;rw [h.pk] at this;exact this
 refine ⟨h.st.made ho hg h1,hd,h.low,by rw [List.length_set];exact h.rk,h.pk,fun j r hr hl'=>?_,fun j p r hp hr hl'=>?_,fun j j' p hne hp hp' hl1 hl2=>?_,fun j hj hl'=>?_⟩
 ·by_cases e:j=i
  ·subst e
   rw [List.getElem?_set_self (by rw [h.rk];exact hi)] at hr
   obtain rfl:=zqk hr
   exact ⟨A,n,cc,x,rfl,List.mem_append_right _ List.mem_cons_self,hx⟩
  ·rw [zqf (fun e'=>e e'.symm)] at hr
   rw [z0u (fun e'=>e (hl.cc _ _ (l1 _ _ hr) hi e'))] at hl'
   obtain ⟨A',n',c',x',k1,k2,k3⟩:=h.got j r hr hl'
   exact ⟨A',n',c',x',k1,List.mem_append_left _ k2,k3⟩
 ·have hjk:=l2 j p hp
  rw [z0u (fun e'=>hl.ca _ _ hi hjk e'.symm)] at hl'
  rw [z0u (fun e'=>hl.cs _ _ hi hjk e'.symm)]
  by_cases e:j=i
  ·subst e
   have hres:j<res.length:=by rw [h.rk];exact hi
   obtain ⟨b,v,k1,k2,k3,k4⟩:=h.var j p res[j] hp (zql hres) hl'
   refine ⟨b,v,k1,k2,k3,fun e2=>?_⟩
   have:=(h.ord j hi e2).1
   rw [hf] at this;cases this
  ·rw [zqf (fun e'=>e e'.symm)] at hr
   exact h.var j p r hp hr hl'
 ·rw [z0u (fun e'=>hl.ca _ _ hi (l2 _ _ hp) e'.symm)] at hl1
  rw [z0u (fun e'=>hl.ca _ _ hi (l2 _ _ hp') e'.symm)] at hl2
  exact h.ne j j' p hne hp hp' hl1 hl2
 ·rw [z0u (fun e'=>hl.cs _ _ hi hj e'.symm)] at hl'
  rw [z0u (i:=a j) (fun e'=>hl.ca _ _ hi hj e'.symm)]
  by_cases e:j=i
  ·subst e;exact ⟨z7r,(h.ord j hj hl').2⟩
  ·rw [z0u (fun e'=>e (hl.cc _ _ hj hi e'))];exact h.ord j hj hl'
theorem VInv.alloc (h:VInv w0 g B k c a s P L res ptr W M Ls)(hl:Lay k c a s)(i:Nat)(hi:i<k)(hf:L (a i)=false)(hs0:L (s i)=false)(t:TypeId):
  VInv w0 g B k c a s P (z3i L (a i)) res (ptr.set i (.pointer (some ⟨W.heap.size,0,none⟩))) (W.alloc (.cells #[.slice none 0 0] t)) (M++[(W.heap.size,.slice none 0 0)]) Ls:=by
 have l1:∀ i r,res[i]?=some r->i<k:=fun i r hr=>by have:=z0d hr;rw [h.rk] at this;exact this
 have l2:∀ i r,ptr[i]?=some r->i<k:=fun i r hr=>by have:=z0d hr;rw [h.pk] at this;exact this
 refine ⟨h.st.boxed _ _,h.dice.grown (row:=none) (World.grownBy_alloc W _ none) (fun _ e=>by cases e),h.low,h.rk,by rw [List.length_set];exact h.pk,fun j r hr hl'=>?_,fun j p r hp hr hl'=>?_,fun j j' p hne hp hp' hl1 hl2=>?_,fun j hj hl'=>?_⟩
 ·rw [z0u (hl.ca _ _ (l1 _ _ hr) hi)] at hl'
  exact h.got j r hr hl'
 ·have hjk:=l1 j r hr
  rw [z0u (fun e'=>hl.sa _ _ hi hjk e'.symm)]
  by_cases e:j=i
  ·subst e
   rw [List.getElem?_set_self (by rw [h.pk];exact hi)] at hp
   obtain rfl:=zqk hp
   exact ⟨_,_,rfl,List.mem_append_right _ List.mem_cons_self,fun _=>rfl,fun e2=>by rw [hs0] at e2;cases e2⟩
  ·rw [zqf (fun e'=>e e'.symm)] at hp
   rw [z0u (fun e'=>e (hl.aa _ _ hjk hi e'))] at hl'
   obtain ⟨b,v,k1,k2,k3,k4⟩:=h.var j p r hp hr hl'
   exact ⟨b,v,k1,List.mem_append_left _ k2,k3,k4⟩
 ·have key:∀ (j:Nat) (p:Value),ptr[j]?=some p->L (a j)=true->p≠.pointer (some ⟨W.heap.size,0,none⟩):=fun j p hp hlj e=>by
   have hres:j<res.length:=by rw [h.rk];exact l2 j p hp
   obtain ⟨b,v,k1,k2,_⟩:=h.var j p res[j] hp (zql hres) hlj
   have:=(h.st.var k2).2.1
   rw [k1] at e;injection e with e
   injection e with e
   injection e with e
   omega
  by_cases e:j=i <;> by_cases e':j'=i
  ·omega
  ·subst e
   rw [List.getElem?_set_self (by rw [h.pk];exact hi)] at hp
   obtain rfl:=zqk hp
   rw [zqf (fun e2=>e' e2.symm)] at hp'
   rw [z0u (fun e2=>e' (hl.aa _ _ (l2 _ _ hp') hi e2))] at hl2
   exact key j' _ hp' hl2 rfl
  ·subst e'
   rw [List.getElem?_set_self (by rw [h.pk];exact hi)] at hp'
   obtain rfl:=zqk hp'
   rw [zqf (fun e2=>e e2.symm)] at hp
   rw [z0u (fun e2=>e (hl.aa _ _ (l2 _ _ hp) hi e2))] at hl1
   exact key j _ hp hl1 rfl
  ·rw [zqf (fun e2=>e e2.symm)] at hp
   rw [zqf (fun e2=>e' e2.symm)] at hp'
   rw [z0u (fun e2=>e (hl.aa _ _ (l2 _ _ hp) hi e2))] at hl1
   rw [z0u (fun e2=>e' (hl.aa _ _ (l2 _ _ hp') hi e2))] at hl2
   exact h.ne j j' p hne hp hp' hl1 hl2
 ·rw [z0u (fun e'=>hl.sa _ _ hi hj e'.symm)] at hl'
  rw [z0u (hl.ca _ _ hj hi)]
  by_cases e:j=i
  ·subst e;exact ⟨(h.ord j hj hl').1,z7r⟩
  ·rw [z0u (fun e'=>e (hl.aa _ _ hj hi e'))];exact h.ord j hj hl'
theorem VInv.store (h:VInv w0 g B k c a s P L res ptr W M Ls)(hl:Lay k c a s)(i:Nat)(hi:i<k)(hf:L (s i)=false)(hc:L (c i)=true)(ha:L (a i)=true){r p:Value}(hr:res[i]?=some r)(hp:ptr[i]?=some p):
  ∃ b A n cc x,p=.pointer (some ⟨b,0,none⟩)/\r=.agg #[.slice A n cc]/\P i x/\W.cell? ⟨b,0,none⟩=some (.slice none 0 0)/\W.frozen? ⟨b,0,none⟩=false/\
   VInv w0 g B k c a s P (z3i L (s i)) res ptr (W.setCell ⟨b,0,none⟩ (.slice A n cc)) (putV M b (.slice A n cc)) Ls:=by
 have l1:∀ i r,res[i]?=some r->i<k:=fun i r hr=>by have:=z0d hr;rw [h.rk] at this;exact this
 have l2:∀ i r,ptr[i]?=some r->i<k:=fun i r hr=>by have:=z0d hr;rw [h.pk] at this;exact this
 obtain ⟨b,v,rfl,hm,hv,_⟩:=h.var i p r hp hr ha
 obtain rfl:=hv hf
 obtain ⟨A,n,cc,x,rfl,hob,hx⟩:=h.got i r hr hc
 obtain ⟨v1,v2,v3,v4,v5⟩:=h.st.var hm
 have hgb:g≠b:=fun e=>v5 (by rw [e])
 refine ⟨b,A,n,cc,x,rfl,rfl,hx,v3,v4,h.st.putM hm _,?_,h.low,h.rk,h.pk,fun j r hr' hl'=>?_,fun j p' r' hp' hr' hl'=>?_,fun j j' p hne hp hp' hl1 hl2=>?_,fun j hj hl'=>?_⟩
 ·obtain ⟨A',n',c',at_,ts,hh,q1,q2,q3,q4,q5⟩:=h.dice;have hlow:=h.low;exact ⟨A',n',c',at_,ts,(Below.heap_setCell _ _ _ _ (fun e=>hgb e)).trans hh,q1,q2,q3,q4.keep (fun p hp=>World.cell?_of_block (Below.heap_setCell _ _ _ _ (fun e=>by simp only at e;omega))),q5⟩
 ·rw [z0u (hl.cs _ _ (l1 _ _ hr') hi)] at hl'
  exact h.got j r hr' hl'
 ·have hjk:=l1 j r' hr'
  rw [z0u (hl.sa _ _ hjk hi)] at hl'
  by_cases e:j=i
  ·subst e
   rw [hp] at hp';rw [hr] at hr';obtain rfl:=zqk hp'
   obtain rfl:=zqk hr'
   refine ⟨b,.slice A n cc,rfl,z8u hm,fun e2=>?_,fun _=>rfl⟩
   rw [z7r] at e2;cases e2
  ·obtain ⟨b',v',rfl,k2,k3,k4⟩:=h.var j p' r' hp' hr' hl'
   rw [z0u (fun e'=>e (hl.ss _ _ hjk hi e'))]
   refine ⟨b',v',rfl,z7x k2 (fun e2=>?_),k3,k4⟩
   subst e2
   exact h.ne j i _ e hp' hp hl' ha
 ·rw [z0u (hl.sa _ _ (l2 _ _ hp) hi)] at hl1
  rw [z0u (hl.sa _ _ (l2 _ _ hp') hi)] at hl2
  exact h.ne j j' p hne hp hp' hl1 hl2
 ·by_cases e:j=i
  ·subst e
   rw [z0u (hl.cs _ _ hj hi),z0u (hl.sa _ _ hj hi)]
   exact ⟨hc,ha⟩
  ·rw [z0u (fun e'=>e (hl.ss _ _ hj hi e'))] at hl'
   rw [z0u (hl.cs _ _ hj hi),z0u (hl.sa _ _ hj hi)]
   exact h.ord j hj hl'
theorem VInv.start (hs:St w0 W (some g) [] [])(hd:Dice W g B)(hB:B<=w0.heap.size)(hr:res.length=k)(hp:ptr.length=k):VInv w0 g B k c a s P (fun _=>false) res ptr W [] []:=
 ⟨hs,hd,hB,hr,hp,fun _ _ _ h=>(by cases h),fun _ _ _ _ _ h=>(by cases h),fun _ _ _ _ _ _ h=>(by cases h),fun _ _ h=>(by cases h)⟩
end
theorem z9o (A:Option Addr)(n c B:Nat)(ts:List Int)(w:World)(hn:ts.length=n)(hl:n<=140737488355328)(hs:Sl w B A (z0p ts))(hB:B<=w.heap.size):
  Calls Tryz.prog 10 #[.slice A n c] w fun e w'=>e=.returned (.pointer (some ⟨w.heap.size,0,none⟩))/\Dice w' w.heap.size B/\w'.heap.size=w.heap.size+1/\Below w.heap.size w w':=by
 have HD:Hid (Dice (w.alloc (.cells #[.slice A n c,.int .i64 0] 67)) w.heap.size B):=
  ⟨A,n,c,0,ts,heap_alloc_new w _,hn,zqr _,hl,hs.below ((Below.refl _ _).alloc hB _),hB⟩
 clear hn hs;go_enter Tryz.func10,Tryz.ntmps10
 go_wp2_with fail;go_ret;exact ⟨rfl,HD.out,by simp,(Below.refl _ _).alloc (zqj _) _⟩
theorem z5bs {w0 w:World}{M:List (Nat×Value)}{L:List Ob}(h:St w0 w none M L)(A:Option Addr)(n c B:Nat)(ts:List Int)(hn:ts.length=n)(hl:n<=140737488355328)(hB:B<=w0.heap.size)(hs:Sl w B A (z0p ts)):
  Calls Tryz.prog 10 #[.slice A n c] w fun e w'=>∃ g,e=.returned (.pointer (some ⟨g,0,none⟩))/\Dice w' g B/\St w0 w' (some g) M L:=by
 refine (z9o A n c B ts w hn hl hs (zqq hB h.size)).mono ?_
 rintro e w' ⟨he,hd,hz,hb⟩;have h':=h.go hb
 refine ⟨_,he,hd,⟨h'.below,fun x e=>by cases e;exact ⟨by omega,h.size⟩,fun i b v hi=>?_,h'.one,fun o ho=>?_⟩⟩
 ·obtain ⟨h1,h2,h3,h4,_⟩:=h'.box i b v hi
  exact ⟨h1,h2,h3,h4,fun e=>by cases e;have:=(h.box i _ v hi).1;omega⟩
 ·obtain ⟨h1,h2,h3,B,hB,hs2,hne⟩:=h.held o ho
  refine ⟨h1,h2,h3,B,zqq hB hb.size,hs2.below (hb.mono hB),fun ad e h0=>⟨fun e2=>?_,(hne ad e h0).2⟩⟩
  obtain ⟨ad',e',hbk,_⟩:=hs2 (by omega)
  rw [e] at e';obtain rfl:=zqk e'
  have:=zqk e2
  omega
theorem z9bh {W W':World}{b o g:Nat}{u:Value}(h0:W.cell? ⟨b,o,none⟩=some u)(hne:b≠g)(hg:W.grownBy W' (some g)):W'.cell? ⟨b,o,none⟩=some u:=by
 have h2:=hg.block b (z7bq h0) (fun e=>hne (zqk e))
 exact (World.cell?_of_block (a:=⟨b,o,none⟩) h2).trans h0
structure NK (w:World)(g B rb vb base:Nat)(v:Value)(W:World):Prop where
 dice:Dice W g B
 cr:W.cell? ⟨rb,0,none⟩=some (.slice none 0 0)
 fr:W.frozen? ⟨rb,0,none⟩=false
 cv:W.cell? ⟨vb,0,none⟩=some v
 fv:W.frozen? ⟨vb,0,none⟩=false
 gr:w.grownBy W (some g)
 sz:base<=W.heap.size
 gw:g<w.heap.size
 hr:rb=w.heap.size
 hv:vb=w.heap.size+1
 hb:base=w.heap.size+2
def OwnV (W:World)(base:Nat)(v:Value)(o:List Nat):Prop:=∃ (A:Option Addr) (c:Nat),v=.slice A o.length c/\W.ownsRow base 3 1 (.slice A o.length c) o.length (z0c o)
def Cel (W:World)(g b k x:Nat):Prop:=b≠g/\W.cell? ⟨b,k,none⟩=some (.int .i64 x)/\x<16777216
section
variable {w W W':World}{g B rb vb base:Nat}{v:Value}{o:List Nat}
theorem Cel.grown {b k x:Nat}(h:Cel W g b k x)(hg:W.grownBy W' (some g)):Cel W' g b k x:=⟨h.1,z9bh h.2.1 h.1 hg,h.2.2⟩
theorem Cel.alloc {b k x:Nat}(h:Cel W g b k x)(ob:Obj):Cel (W.alloc ob) g b k x:=h.grown (World.grownBy_alloc W ob _)
theorem NK.call (h:NK w g B rb vb base v W)(hd:Dice W' g B)(hg:W.grownBy W' (some g)):NK w g B rb vb base v W':=by
 have h1:=h.sz;have h2:=h.gw;have h3:=h.hr;have h4:=h.hv;have h5:=h.hb
 have k1:=hg.block rb (by omega) (fun e=>by cases e;omega)
 have k2:=hg.block vb (by omega) (fun e=>by cases e;omega)
 exact ⟨hd,(World.cell?_of_block (a:=⟨rb,0,none⟩) k1).trans h.cr,(World.frozen?_of_block (a:=⟨rb,0,none⟩) k1).trans h.fr,(World.cell?_of_block (a:=⟨vb,0,none⟩) k2).trans h.cv,(World.frozen?_of_block (a:=⟨vb,0,none⟩) k2).trans h.fv,z0j h.gr hg,zqq h1 hg.size,h2,h3,h4,h5⟩
theorem NK.high (h:NK w g B rb vb base v W){row:Option Nat}(hg:W.grownBy W' row)(hrow:∀ r,row=some r->base<=r):NK w g B rb vb base v W':=by
 have h1:=h.sz;have h2:=h.gw;have h3:=h.hr;have h4:=h.hv;have h5:=h.hb
 have k1:=hg.block rb (by omega) (fun e=>by have:=hrow _ e.symm;omega)
 have k2:=hg.block vb (by omega) (fun e=>by have:=hrow _ e.symm;omega)
 exact ⟨h.dice.grown hg (fun r e=>by have:=hrow r e;omega),(World.cell?_of_block (a:=⟨rb,0,none⟩) k1).trans h.cr,(World.frozen?_of_block (a:=⟨rb,0,none⟩) k1).trans h.fr,(World.cell?_of_block (a:=⟨vb,0,none⟩) k2).trans h.cv,(World.frozen?_of_block (a:=⟨vb,0,none⟩) k2).trans h.fv,z0t h.gr hg (fun r e=>by have:=hrow r e;omega),zqq h1 hg.size,h2,h3,h4,h5⟩
theorem NK.alloc (h:NK w g B rb vb base v W)(ob:Obj):NK w g B rb vb base v (W.alloc ob):=h.high (row:=none) (World.grownBy_alloc W ob none) (fun _ e=>by cases e)
theorem NK.drew (h:NK w g B rb vb base v W):NK w g B rb vb base v W.drew:=⟨h.dice,h.cr,h.fr,h.cv,h.fv,z1z h.gr,h.sz,h.gw,h.hr,h.hv,h.hb⟩
theorem NK.put (h:NK w g B rb vb base v W)(u:Value):NK w g B rb vb base u (W.setCell ⟨vb,0,none⟩ u):=by
 have h1:=h.sz;have h2:=h.gw;have h3:=h.hr;have h4:=h.hv;have h5:=h.hb
 have hg:=z0f W ⟨vb,0,none⟩ u
 have k1:=hg.block rb (by omega) (fun e=>by have:=zqk e;simp only at this;omega)
 exact ⟨h.dice.grown hg (fun r e=>by cases e;simp only;omega),(World.cell?_of_block (a:=⟨rb,0,none⟩) k1).trans h.cr,(World.frozen?_of_block (a:=⟨rb,0,none⟩) k1).trans h.fr,z0k _ h.cv,by rw [World.frozen?_setCell];exact h.fv,z0t h.gr hg (fun r e=>by cases e;simp only;omega),zqq h1 hg.size,h2,h3,h4,h5⟩
theorem OwnV.call (h:OwnV W base v o)(hg:W.grownBy W' (some g))(hb:g<base):OwnV W' base v o:=by
 obtain ⟨A,c,rfl,ho⟩:=h;exact ⟨A,c,rfl,z0ad ho hg hb⟩
theorem OwnV.alloc (h:OwnV W base v o)(ob:Obj):OwnV (W.alloc ob) base v o:=by
 obtain ⟨A,c,rfl,ho⟩:=h;exact ⟨A,c,rfl,z0x ho ob⟩
theorem OwnV.drew (h:OwnV W base v o):OwnV W.drew base v o:=h
theorem OwnV.put (h:OwnV W base v o)(a:Addr)(u:Value)(ha:a.block<base):OwnV (W.setCell a u) base v o:=by
 obtain ⟨A,c,rfl,ho⟩:=h;exact ⟨A,c,rfl,z2f ho a u ha⟩
end
namespace Na
set_option maxHeartbeats 8000000
def cv (m i:Int):Nat:=if i<0∨m<i then 0 else bin m.toNat i.toNat
theorem two_top (m:Nat)(h:m<=40):2 ^ m<top:=by
 refine z6an (m:=2) ?_ (by omega)
 have:(2:Nat) ^ m<=2 ^ 40:=Nat.pow_le_pow_right (by omega) h
 omega
end Na
section
variable {w0 w:World}{g:Option Nat}{M:List (Nat×Value)}{L:List Ob}{A:Option Addr}{n c x m:Nat}
theorem St.zero (h:St w0 w g M L):St w0 w g M (L++[⟨none,0,0,z0c (Na.dig 0)⟩]):=
 h.add (B:=0) (by rw [Na.dig_zero];exact Sl.nil _ _ _) (zqr _) (by rw [Na.dig_zero];rfl) (zqj _) (by omega) (fun ad e=>by cases e)
end
namespace Na
set_option maxHeartbeats 8000000
theorem pow_top {x:Nat}(hx:x<16777216 ^ 2)(j:Nat)(h:j<=90):x ^ j<top:=by
 have e1:x ^ j<=(16777216 ^ 2) ^ j:=Nat.pow_le_pow_left (Nat.le_of_lt hx) j
 rw [<- Nat.pow_mul] at e1;have e2:16777216 ^ (2*j)<top:=by unfold top;exact Nat.pow_lt_pow_right (by omega) (by omega)
 omega
end Na
section
variable {w0 w w':World}{g B:Nat}{M:List (Nat×Value)}{L:List Ob}{O:List Rw}{A:Option Addr}{n c:Nat}
theorem Ow.roll (h:Ow w0 w (some g) M L O)(hg:w.grownBy w' (some g)):Ow w0 w' (some g) M L O:=by
 refine ⟨h.st.roll hg,fun i r hi=>z2d (h.own i r hi) hg ?_,h.ap,h.two⟩
 by_cases e:(Value.slice r.A r.n r.c).ownBlock=none
 ·exact .inl e
 ·exact .inr fun e2=>(h.ap i r hi g e2).1 rfl
theorem z1e (h:Ow w0 w (some g) M L O)(hd:Dice w g B)(m:Nat)(hm:0<m)(hm2:m<=9223372036854775807):
  Calls Tryz.prog 32 #[.pointer (some ⟨g,0,none⟩),.int .i64 m] w fun e w'=>∃ r:Nat,e=.returned (.int .i64 r)/\r<m/\Dice w' g B/\Ow w0 w' (some g) M L O/\w.grownBy w' (some g):=
 (z2bh g B m w (by omega) (by omega) hd).mono fun e w' ⟨r,he,h0,h1,hd',hg⟩=>⟨r.toNat,by rw [he];congr 2;omega,by omega,hd',h.roll hg,hg⟩
theorem Dice.turned (hd:Dice w g B)(hB:B<=w0.heap.size)(h:Ow w0 w (some g) M L O){i:Nat}{r:Rw}(hi:O[i]?=some r)(hg:w.grownBy w' r.blk):Dice w' g B:=by
 have hlt:=hd.lt;obtain ⟨A,n,c,at_,ts,hh,h1,h2,h3,hs,hBg⟩:=hd;refine ⟨A,n,c,at_,ts,(hg.block g hlt (fun e=>(h.ap i r hi g e.symm).1 rfl)).trans hh,h1,h2,h3,hs.keep fun p hp=>World.cell?_of_block (hg.block p.block (by omega) (fun e=>?_)),hBg⟩
 have:=(h.lt hi e.symm).2
 omega
theorem Dice.set (hd:Dice w g B)(hB:B<=w0.heap.size)(h:Ow w0 w (some g) M L O){i b:Nat}{v:Value}(hi:M[i]?=some (b,v))(u:Value):Dice (w.setCell ⟨b,0,none⟩ u) g B:=by
 have hlt:=hd.lt;have hg:=z0f w ⟨b,0,none⟩ u
 obtain ⟨h1,h2,h3,h4,h5⟩:=h.st.box i b v hi
 obtain ⟨A,n,c,at_,ts,hh,k1,k2,k3,hs,hBg⟩:=hd;exact ⟨A,n,c,at_,ts,(hg.block g hlt (fun e=>h5 e)).trans hh,k1,k2,k3,hs.keep fun p hp=>World.cell?_of_block (hg.block p.block (by omega) (fun e=>by have:=zqk e;simp only at this;omega)),hBg⟩
end
section
variable {w0 w w':World}{g B:Nat}{M:List (Nat×Value)}{L:List Ob}{O:List Rw}{A:Option Addr}{n c:Nat}
theorem Ow.rolled (h:Ow w0 w (some g) M L O){e:TypeId}{vs:List Value}(ho:w'.ownsRow w.heap.size e 1 (.slice A n c) n vs)(hg:w.grownBy w' (some g))(hl:n<=1000)(hst:St w0 w' (some g) M (L++[⟨A,n,c,vs⟩])):Ow w0 w' (some g) M (L++[⟨A,n,c,vs⟩]) O:=by
 have h':=h.roll hg
 refine ⟨hst,h'.own,fun i r hi b hb=>?_,h.two⟩
 obtain ⟨a1,a2,a3⟩:=h.ap i r hi b hb
 refine ⟨a1,a2,fun o ho' ad ea h0=>?_⟩
 rcases List.mem_append.1 ho' with h2|h2
 ·exact a3 o h2 ad ea h0
 ·rw [List.mem_singleton] at h2;subst h2
  have h3:=(h.lt hi hb).1
  have h4:=(ho.lt ad.block (by rw [show A=some ad from ea];rfl)).1
  omega
end
def Frac (Ls:List Ob)(C1:Option Addr)(k1 e1:Nat)(C2:Option Addr)(k2 e2:Nat):Prop:=∃ (t1 t2 x y:Nat),x<16777216 ^ 3/\y<16777216 ^ 3/\0<y/\Nat.gcd x y=1/\Ls[t1]?=some ⟨C1,k1,e1,z0c (Na.dig x)⟩/\Ls[t2]?=some ⟨C2,k2,e2,z0c (Na.dig y)⟩
theorem Frac.more {Ls l:List Ob}{C1:Option Addr}{k1 e1:Nat}{C2:Option Addr}{k2 e2:Nat}(h:Frac Ls C1 k1 e1 C2 k2 e2):Frac (Ls++l) C1 k1 e1 C2 k2 e2:=by
 obtain ⟨t1,t2,x,y,h1,h2,h3,h4,h5,h6⟩:=h;exact ⟨t1,t2,x,y,h1,h2,h3,h4,by rw [zqn (z0d h5)];exact h5,by rw [zqn (z0d h6)];exact h6⟩
structure Sm2K (w0:World)(g B:Nat)(M:List (Nat×Value))(L:List Ob)(O:List Rw)(rb db:Nat)(Ad:Option Addr)(nd cd yd:Nat)(Ld:Nat->Bool)(u0 u1 u2 u3 u4 u5 u6 v u8:Value)(C1:Option Addr)(k1 e1:Nat)(C2:Option Addr)(k2 e2:Nat)(ps:List Rw)(Ls:List Ob)(W:World):Prop where
 ow:Ow w0 W (some g) (M++[(db,.slice Ad nd cd)]) (L++⟨Ad,nd,cd,z0c (Na.dig yd)⟩ :: Ls) (O++Rw.pair rb 27 (.slice none 0 0) (.slice none 0 0) :: ps)
 dc:Dice W g B
 h0:Ld 0=true->u0=.pointer (some ⟨g,0,none⟩)
 h1:Ld 1=true->∃ (t:Nat) (A:Option Addr) (n c x:Nat),u1=.agg #[.slice A n c]/\x<16777216 ^ 3/\Ls[t]?=some ⟨A,n,c,z0c (Na.dig x)⟩
 h2:Ld 2=true->u2=.agg #[.slice Ad nd cd]
 h3:Ld 3=true->u3=.tuple #[.agg #[.slice C1 k1 e1,.slice C2 k2 e2],.int .i64 0]/\Frac Ls C1 k1 e1 C2 k2 e2
 h4:Ld 4=true->u4=.tuple #[.agg #[.slice C1 k1 e1,.slice C2 k2 e2],.int .i64 0]
 h5:Ld 5=true->u5=.agg #[.slice C1 k1 e1,.slice C2 k2 e2]
 h6:Ld 6=true->u6=.int .i64 0
 h7:Ld 7=true->∃ (t b:Nat) (p q:Value),v=.pointer (some ⟨b,0,none⟩)/\ps[t]?=some (Rw.pair b 27 p q)/\(Ld 8=true->p=.slice C1 k1 e1/\q=.slice C2 k2 e2)
section
variable {w0 w w' W W':World}{g B:Nat}{M:List (Nat×Value)}{L:List Ob}{O:List Rw}{rb db:Nat}{Ad:Option Addr}{nd cd yd:Nat}{Ld:Nat->Bool}{u0 u1 u2 u3 u4 u5 u6 v u8:Value}{C1:Option Addr}{k1 e1:Nat}{C2:Option Addr}{k2 e2:Nat}{ps:List Rw}{Ls:List Ob}
theorem Sm2K.c1 (h:Sm2K w0 g B M L O rb db Ad nd cd yd Ld u0 u1 u2 u3 u4 u5 u6 v u8 C1 k1 e1 C2 k2 e2 ps Ls W)(hf:Ld 8=false){A:Option Addr}{n c x:Nat}(hx:x<16777216 ^ 3)(hd:Dice W' g B)(ho:Ow w0 W' (some g) (M++[(db,.slice Ad nd cd)]) (L++⟨Ad,nd,cd,z0c (Na.dig yd)⟩ :: Ls++[⟨A,n,c,z0c (Na.dig x)⟩]) (O++Rw.pair rb 27 (.slice none 0 0) (.slice none 0 0) :: ps)):
  Sm2K w0 g B M L O rb db Ad nd cd yd (z3i Ld 1) u0 (.agg #[.slice A n c]) u2 u3 u4 u5 u6 v u8 C1 k1 e1 C2 k2 e2 ps (Ls++[⟨A,n,c,z0c (Na.dig x)⟩]) W':=
 ⟨by rw [zqa,zqb] at ho;exact ho,hd,h.h0,fun _=>⟨Ls.length,A,n,c,x,rfl,hx,by simp⟩,h.h2,fun e=>⟨(h.h3 e).1,(h.h3 e).2.more⟩,h.h4,h.h5,h.h6,h.h7⟩
theorem Sm2K.c3 (h:Sm2K w0 g B M L O rb db Ad nd cd yd Ld u0 u1 u2 u3 u4 u5 u6 v u8 C1 k1 e1 C2 k2 e2 ps Ls W)(f4:Ld 4=false)(f5:Ld 5=false)(f8:Ld 8=false){D1:Option Addr}{i1 j1:Nat}{D2:Option Addr}{i2 j2 X Y:Nat}(h1:X<16777216 ^ 3)(h2:Y<16777216 ^ 3)(h3:0<Y)(h4:Nat.gcd X Y=1)(hd:Dice W' g B)(ho:Ow w0 W' (some g) (M++[(db,.slice Ad nd cd)]) (L++⟨Ad,nd,cd,z0c (Na.dig yd)⟩ :: Ls++[⟨D1,i1,j1,z0c (Na.dig X)⟩]++[⟨D2,i2,j2,z0c (Na.dig Y)⟩]) (O++Rw.pair rb 27 (.slice none 0 0) (.slice none 0 0) :: ps)):
  Sm2K w0 g B M L O rb db Ad nd cd yd (z3i Ld 3) u0 u1 u2 (.tuple #[.agg #[.slice D1 i1 j1,.slice D2 i2 j2],.int .i64 0]) u4 u5 u6 v u8 D1 i1 j1 D2 i2 j2 ps (Ls++[⟨D1,i1,j1,z0c (Na.dig X)⟩,⟨D2,i2,j2,z0c (Na.dig Y)⟩]) W':=
 ⟨by rw [zqa,zqa,zqb] at ho;exact ho,hd,h.h0,fun e=>by
  obtain ⟨t,A,n,c,x,k1,k2,k3⟩:=h.h1 e
  exact ⟨t,A,n,c,x,k1,k2,by rw [zqn (z0d k3)];exact k3⟩,h.h2,fun _=>⟨rfl,Ls.length+0,Ls.length+1,X,Y,h1,h2,h3,h4,by rw [z0b];rfl,by rw [z0b];rfl⟩,fun e=>absurd ((show Ld 4=true from e).symm.trans f4) (by decide),fun e=>absurd ((show Ld 5=true from e).symm.trans f5) (by decide),h.h6,fun e=>by
  obtain ⟨t,b,p,q,k1,k2,k3⟩:=h.h7 e
  exact ⟨t,b,p,q,k1,k2,fun e2=>absurd ((show Ld 8=true from e2).symm.trans f8) (by decide)⟩⟩
theorem Sm2K.a7 (h:Sm2K w0 g B M L O rb db Ad nd cd yd Ld u0 u1 u2 u3 u4 u5 u6 v u8 C1 k1 e1 C2 k2 e2 ps Ls W)(f8:Ld 8=false):
  Sm2K w0 g B M L O rb db Ad nd cd yd (z3i Ld 7) u0 u1 u2 u3 u4 u5 u6 (.pointer (some ⟨W.heap.size,0,none⟩)) u8 C1 k1 e1 C2 k2 e2 (ps++[Rw.pair W.heap.size 27 (.slice none 0 0) (.slice none 0 0)]) Ls (W.alloc (.cells #[.slice none 0 0,.slice none 0 0] 27)):=
 ⟨by have:=h.ow.pair (.slice none 0 0) (.slice none 0 0) 27;rwa [zqa,zqb] at this,h.dc.below (z0i _ _),h.h0,h.h1,h.h2,h.h3,h.h4,h.h5,h.h6,fun _=>⟨ps.length,W.heap.size,.slice none 0 0,.slice none 0 0,rfl,by simp,fun e2=>absurd ((show Ld 8=true from e2).symm.trans f8) (by decide)⟩⟩
theorem Sm2K.s8 (h:Sm2K w0 g B M L O rb db Ad nd cd yd Ld u0 u1 u2 u3 u4 u5 u6 v u8 C1 k1 e1 C2 k2 e2 ps Ls W)(hB:B<=w0.heap.size)(h7:Ld 7=true)(h5:Ld 5=true):
  ∃ b p q ps',v=.pointer (some ⟨b,0,none⟩)/\u5=.agg #[.slice C1 k1 e1,.slice C2 k2 e2]/\W.cell? ⟨b,0,none⟩=some p/\W.cell? ⟨b,1,none⟩=some q/\W.frozen? ⟨b,0,none⟩=false/\W.frozen? ⟨b,1,none⟩=false/\
   Sm2K w0 g B M L O rb db Ad nd cd yd (z3i Ld 8) u0 u1 u2 u3 u4 u5 u6 v u8 C1 k1 e1 C2 k2 e2 ps' Ls ((W.setCell ⟨b,0,none⟩ (.slice C1 k1 e1)).setCell ⟨b,1,none⟩ (.slice C2 k2 e2)):=by
 obtain ⟨t,b,p,q,a1,a2,a3⟩:=h.h7 h7
 have hi:(O++Rw.pair rb 27 (.slice none 0 0) (.slice none 0 0) :: ps)[O.length+(t+1)]?=some (Rw.pair b 27 p q):=by rw [z0b];exact a2
 have o1:=h.ow.set0 _ hi (.slice C1 k1 e1)
 have d1:=h.dc.turned hB h.ow hi (z0f W ⟨b,0,none⟩ (.slice C1 k1 e1))
 rw [z0o,zqe] at o1;have hi2:(O++Rw.pair rb 27 (.slice none 0 0) (.slice none 0 0) :: ps.set t (Rw.pair b 27 (.slice C1 k1 e1) q))[O.length+(t+1)]?=some (Rw.pair b 27 (.slice C1 k1 e1) q):=by rw [z0b];exact List.getElem?_set_self (z0d a2)
 have o2:=o1.set1 _ hi2 (.slice C2 k2 e2)
 have d2:=d1.turned hB o1 hi2 (z0f _ ⟨b,1,none⟩ (.slice C2 k2 e2))
 rw [z0o,zqe,List.set_set] at o2;exact ⟨b,p,q,_,a1,h.h5 h5,h.ow.p0 _ hi,h.ow.p1 _ hi,h.ow.pf _ hi 0,h.ow.pf _ hi 1,o2,d2,h.h0,h.h1,h.h2,h.h3,h.h4,h.h5,h.h6,fun _=>⟨t,b,_,_,a1,List.getElem?_set_self (z0d a2),fun _=>⟨rfl,rfl⟩⟩⟩
end
section
variable {w0 w w':World}{g B:Nat}{M:List (Nat×Value)}{L:List Ob}{O:List Rw}
end
structure FrK (x y:Nat):Prop where
 px:x<Na.top
 py:y<Na.top
 pos:0<y
 g:Nat.gcd x y=1
theorem FrK.rv {x y:Nat}(h:FrK x y):rv (Na.up (Na.dig x)) (Na.up (Na.dig y))=true:=z8br h.px h.py h.pos h.g
theorem FrK.of {x y:Nat}(hx:x<Na.top)(hy:y<Na.top)(h0:0<y):∃ n d,frM x y=(n,d,0)/\FrK n d/\n*y=x*d/\n<=x/\d<=y:=by
 obtain ⟨n,d,h1,h2,h3,h4,h5,h6⟩:=z2bv (x:=x) h0
 exact ⟨n,d,h1,⟨by omega,by omega,h2,h3⟩,h4,h5,h6⟩
section
variable {w0 w w':World}{g:Option Nat}{M M2:List (Nat×Value)}{L:List Ob}{O:List Rw}{A A2 A3 A4:Option Addr}{b n c m c2 n3 c3 n4 c4 x y:Nat}{p q r s:List Int}
end
theorem z4e {w0 w:World}{g:Option Nat}{M:List (Nat×Value)}{L:List Ob}{O:List Rw}{A A2:Option Addr}{n c m c2 x y:Nat}(h:Ow w0 w g M L O)(i j:Nat)(hi:L[i]?=some ⟨A,n,c,z0c (Na.dig x)⟩)(hj:L[j]?=some ⟨A2,m,c2,z0c (Na.dig y)⟩)(hx:x<Na.top)(hy:y<Na.top):
  Calls Tryz.prog 46 #[.agg #[.slice A n c],.agg #[.slice A2 m c2]] w (z7v w0 g M L O (z4j (x*y)) (z3v (x*y))):=by
 have:=z7bu (zs:=Na.up (Na.dig x)) (ys:=Na.up (Na.dig y)) h i j (by rw [z0g];exact hi) (by rw [z0g];exact hj)
 rwa [(z5c hx hy).1,(z5c hx hy).2] at this
theorem z2bd {w0 w:World}{g:Option Nat}{M:List (Nat×Value)}{L:List Ob}{O:List Rw}{A A2:Option Addr}{n c m c2 x y:Nat}(h:Ow w0 w g M L O)(i j:Nat)(hi:L[i]?=some ⟨A,n,c,z0c (Na.dig x)⟩)(hj:L[j]?=some ⟨A2,m,c2,z0c (Na.dig y)⟩)(hx:x<Na.top)(hy:y<Na.top):
  Calls Tryz.prog 102 #[.agg #[.slice A n c],.agg #[.slice A2 m c2]] w (z7v w0 g M L O (z4j (x+y)) (z3v (x+y))):=by
 have:=z7bx (zs:=Na.up (Na.dig x)) (ys:=Na.up (Na.dig y)) h i j (by rw [z0g];exact hi) (by rw [z0g];exact hj)
 unfold addL addE at this;rw [Na.vld_dig hx,Na.vld_dig hy,z0l,z0l] at this;exact this
theorem z3ad {w0 w:World}{g:Option Nat}{M:List (Nat×Value)}{L:List Ob}{O:List Rw}{A A2:Option Addr}{n c m c2 x y:Nat}(h:Ow w0 w g M L O)(i j:Nat)(hi:L[i]?=some ⟨A,n,c,z0c (Na.dig x)⟩)(hj:L[j]?=some ⟨A2,m,c2,z0c (Na.dig y)⟩)(hx:x<Na.top)(hy:y<Na.top):
  Calls Tryz.prog 43 #[.agg #[.slice A n c],.agg #[.slice A2 m c2]] w (z7v w0 g M L O (if x<y then [] else Na.dig (x - y)) (if x<y then 5 else 0)):=by
 have:=z7bs (zs:=Na.up (Na.dig x)) (ys:=Na.up (Na.dig y)) h i j (by rw [z0g];exact hi) (by rw [z0g];exact hj)
 unfold subL subE at this;rw [Na.vld_dig hx,Na.vld_dig hy,z0l,z0l] at this;exact this
theorem z2ba {w0 w:World}{g:Option Nat}{M:List (Nat×Value)}{L:List Ob}{O:List Rw}{A A2:Option Addr}{n c m c2 x y:Nat}(h:Ow w0 w g M L O)(i j:Nat)(hi:L[i]?=some ⟨A,n,c,z0c (Na.dig x)⟩)(hj:L[j]?=some ⟨A2,m,c2,z0c (Na.dig y)⟩)(hx:x<Na.top)(hy:y<Na.top):
  Calls Tryz.prog 47 #[.agg #[.slice A n c],.agg #[.slice A2 m c2]] w fun e w'=>e=.returned (.int .i64 (Na.sgn x y))/\Ow w0 w' g M L O:=by
 have:=z7bw (zs:=Na.up (Na.dig x)) (ys:=Na.up (Na.dig y)) h i j (by rw [z0g];exact hi) (by rw [z0g];exact hj) (Na.vld_dig hx) (Na.vld_dig hy)
 rwa [z0l,z0l] at this
section
variable {w0 w w':World}{g:Option Nat}{M M2:List (Nat×Value)}{L:List Ob}{O:List Rw}{A A2 A3 A4:Option Addr}{b n c m c2 n3 c3 n4 c4 x y:Nat}{p q r s:List Int}
theorem z7ai (h:Ow w0 w g M L O)(i j k l:Nat)(hi:L[i]?=some ⟨A,n,c,z0p p⟩)(hj:L[j]?=some ⟨A2,m,c2,z0p q⟩)(hk:L[k]?=some ⟨A3,n3,c3,z0p r⟩)(hl:L[l]?=some ⟨A4,n4,c4,z0p s⟩)  :
  Calls Tryz.prog 22 #[.agg #[.slice A n c,.slice A2 m c2],.agg #[.slice A3 n3 c3,.slice A4 n4 c4]] w (fun e w'=>e=.returned (.tuple #[.int .i64 (cmpV p q r s),.int .i64 (cmpE p q r s)])/\Ow w0 w' g M L O):=by
 have H0:=(h.pair (.slice A n c) (.slice A2 m c2) 27).pair (.slice A3 n3 c3) (.slice A4 n4 c4) 27
 simp only [World.size_alloc,zqa,zqb,zqc] at H0;have a0:=H0.p0 (O.length+0) (zk rfl)
 have a1:=H0.p1 (O.length+0) (zk rfl)
 have HV:=zh (z2t H0 i j hi hj)
 cases h1:rv p q with
 | false=>
 rw [h1] at HV;rw [show cmpV p q r s=0 by unfold cmpV;rw [h1];rfl,show cmpE p q r s=1 by unfold cmpE;rw [h1];rfl]
 clear h H0 hi hj hk hl h1;go_enter Tryz.func22,Tryz.ntmps22
 go_wp2_with fail;refine HV.out.mono ?_;rintro e w1 ⟨rfl,H⟩;clear HV a0 a1;have HF:=zh (H.fewO)
 clear H;go_wp2_with fail;go_ret2
 exact ⟨rfl,HF.out⟩
 | true=>
 rw [h1] at HV;cases h2:rv r s with
 | false=>
 rw [show cmpV p q r s=0 by unfold cmpV;rw [h1,h2];rfl,show cmpE p q r s=1 by unfold cmpE;rw [h1,h2];rfl]
 have HR:=zh (And.intro hk (And.intro hl h2))
 clear h H0 hi hj hk hl h1 h2;go_enter Tryz.func22,Tryz.ntmps22
 go_wp2_with fail;refine HV.out.mono ?_;rintro e w1 ⟨rfl,H⟩;have b0:=H.p0 (O.length+1) (zk rfl)
 have b1:=H.p1 (O.length+1) (zk rfl)
 have HW:=zh (z2t H k l HR.out.1 HR.out.2.1)
 rw [HR.out.2.2] at HW;clear HV H a0 a1;go_wp2_with fail;refine HW.out.mono ?_;rintro e w2 ⟨rfl,H⟩;clear HW b0 b1;have HF:=zh (H.fewO)
 clear H;go_wp2_with fail;go_ret2
 exact ⟨rfl,HF.out⟩
 | true=>
 have HR:=zh (And.intro hk (And.intro hl h2))
 have e1:cmpV p q r s=if num p*num s<Na.top/\num r*num q<Na.top then Na.sgn (num p*num s) (num r*num q) else 0:=by unfold cmpV;rw [h1,h2];rfl
 have e2:cmpE p q r s=if num p*num s<Na.top/\num r*num q<Na.top then 0 else 3:=by unfold cmpE;rw [h1,h2];rfl
 rw [e1,e2];clear e1 e2;obtain ⟨x,y,hx,hy,-,-,rfl,rfl⟩:=z6as h1
 obtain ⟨u,v,hu,hv,-,-,rfl,rfl⟩:=z6as h2
 rw [z0l,z0l,z0l,z0l];have HI:=zh (And.intro (z2x hi) (And.intro (z2x hj) (And.intro (z2x hk) (z2x hl))))
 have HX:=zh (And.intro hx (And.intro hy (And.intro hu hv)))
 clear h H0 hi hj hk hl h1 h2 hx hy hu hv;by_cases hX:x*v<Na.top
 ·by_cases hZ:u*y<Na.top
  ·rw [if_pos ⟨hX,hZ⟩,if_pos ⟨hX,hZ⟩]
   obtain ⟨t,hmk⟩:∃ t,Na.sgn (x*v) (u*y)=t:=⟨_,rfl⟩
   rw [hmk];have HE:=zh (And.intro hX (And.intro hZ hmk))
   clear hX hZ hmk;go_enter Tryz.func22,Tryz.ntmps22
   go_wp2_with fail;refine HV.out.mono ?_;rintro e w1 ⟨rfl,H⟩;have b0:=H.p0 (O.length+1) (zk rfl)
   have b1:=H.p1 (O.length+1) (zk rfl)
   have HW:=zh (z2t H k l HR.out.1 HR.out.2.1)
   rw [HR.out.2.2] at HW;clear HV H a0 a1;go_wp2_with fail;refine HW.out.mono ?_;rintro e w2 ⟨rfl,H⟩;clear HW b0 b1;have a0:=H.p0 (O.length+0) (zk rfl)
   have b1:=H.p1 (O.length+1) (zk rfl)
   have HC:=zh (z4e H i l HI.out.1 HI.out.2.2.2 HX.out.1 HX.out.2.2.2)
   rw [z1t HE.out.1,z1u HE.out.1] at HC;clear H;go_wp2_with fail;refine HC.out.mono ?_;rintro e w3 ⟨B3,m3,d3,rfl,G⟩;have H:=G.boxed (.slice B3 m3 d3) 25
   try simp only [zqa,zqb,zqc] at H
   clear HC G a0 b1;have b0:=H.p0 (O.length+1) (zk rfl)
   have a1:=H.p1 (O.length+0) (zk rfl)
   have HC:=zh (z4e H k j ((z0r _ _ (z0d HI.out.2.2.1)).trans HI.out.2.2.1) ((z0r _ _ (z0d HI.out.2.1)).trans HI.out.2.1) HX.out.2.2.1 HX.out.2.1)
   rw [z1t HE.out.2.1,z1u HE.out.2.1] at HC;clear H;go_wp2_with fail;refine HC.out.mono ?_;rintro e w4 ⟨B4,m4,d4,rfl,G⟩;have H:=G.boxed (.slice B4 m4 d4) 25
   try simp only [zqa,zqb,zqc] at H
   clear HC G b0 a1;have k0:=H.cell (M.length+0) (zk rfl)
   have k1:=H.cell (M.length+1) (zk rfl)
   have HC:=zh (z2ba H (L.length+0) (L.length+1) (zk rfl) (zk rfl) HE.out.1 HE.out.2.1)
   rw [HE.out.2.2] at HC;clear H;go_wp2_with fail;refine HC.out.mono ?_;rintro e w5 ⟨rfl,H⟩;clear HC k0 k1;have HF:=zh (H.fewM.fewO.less (L':=L) (fun o ho=>by simp [ho]))
   clear H;go_wp2_with fail;go_ret2
   exact ⟨rfl,HF.out⟩
  ·rw [if_neg (fun h=>hZ h.2),if_neg (fun h=>hZ h.2)]
   have HE:=zh (And.intro hX hZ)
   clear hX hZ;go_enter Tryz.func22,Tryz.ntmps22
   go_wp2_with fail;refine HV.out.mono ?_;rintro e w1 ⟨rfl,H⟩;have b0:=H.p0 (O.length+1) (zk rfl)
   have b1:=H.p1 (O.length+1) (zk rfl)
   have HW:=zh (z2t H k l HR.out.1 HR.out.2.1)
   rw [HR.out.2.2] at HW;clear HV H a0 a1;go_wp2_with fail;refine HW.out.mono ?_;rintro e w2 ⟨rfl,H⟩;clear HW b0 b1;have a0:=H.p0 (O.length+0) (zk rfl)
   have b1:=H.p1 (O.length+1) (zk rfl)
   have HC:=zh (z4e H i l HI.out.1 HI.out.2.2.2 HX.out.1 HX.out.2.2.2)
   rw [z1t HE.out.1,z1u HE.out.1] at HC;clear H;go_wp2_with fail;refine HC.out.mono ?_;rintro e w3 ⟨B3,m3,d3,rfl,G⟩;have H:=G.boxed (.slice B3 m3 d3) 25
   try simp only [zqa,zqb,zqc] at H
   clear HC G a0 b1;have b0:=H.p0 (O.length+1) (zk rfl)
   have a1:=H.p1 (O.length+0) (zk rfl)
   have HC:=zh (z4e H k j ((z0r _ _ (z0d HI.out.2.2.1)).trans HI.out.2.2.1) ((z0r _ _ (z0d HI.out.2.1)).trans HI.out.2.1) HX.out.2.2.1 HX.out.2.1)
   rw [z1af HE.out.2] at HC;clear H;go_wp2_with fail;refine HC.out.mono ?_;rintro e w4 ⟨B4,m4,d4,rfl,G⟩;have H:=G.boxed (.slice B4 m4 d4) 25
   try simp only [zqa,zqb,zqc] at H
   clear HC G b0 a1;have HF:=zh (H.fewM.fewO.less (L':=L) (fun o ho=>by simp [ho]))
   clear H;go_wp2_with fail;go_ret2
   exact ⟨rfl,HF.out⟩
 ·rw [if_neg (fun h=>hX h.1),if_neg (fun h=>hX h.1)]
  have HE:=zh hX;clear hX;go_enter Tryz.func22,Tryz.ntmps22
  go_wp2_with fail;refine HV.out.mono ?_;rintro e w1 ⟨rfl,H⟩;have b0:=H.p0 (O.length+1) (zk rfl)
  have b1:=H.p1 (O.length+1) (zk rfl)
  have HW:=zh (z2t H k l HR.out.1 HR.out.2.1)
  rw [HR.out.2.2] at HW;clear HV H a0 a1;go_wp2_with fail;refine HW.out.mono ?_;rintro e w2 ⟨rfl,H⟩;clear HW b0 b1;have a0:=H.p0 (O.length+0) (zk rfl)
  have b1:=H.p1 (O.length+1) (zk rfl)
  have HC:=zh (z4e H i l HI.out.1 HI.out.2.2.2 HX.out.1 HX.out.2.2.2)
  rw [z1af HE.out] at HC;clear H;go_wp2_with fail;refine HC.out.mono ?_;rintro e w3 ⟨B3,m3,d3,rfl,G⟩;have H:=G.boxed (.slice B3 m3 d3) 25
  try simp only [zqa,zqb,zqc] at H
  clear HC G a0 b1;have b0:=H.p0 (O.length+1) (zk rfl)
  have a1:=H.p1 (O.length+0) (zk rfl)
  have HC:=zh (z4e H k j ((z0r _ _ (z0d HI.out.2.2.1)).trans HI.out.2.2.1) ((z0r _ _ (z0d HI.out.2.1)).trans HI.out.2.1) HX.out.2.2.1 HX.out.2.1)
  clear H;go_wp2_with fail;refine HC.out.mono ?_;rintro e w4 ⟨B4,m4,d4,rfl,G⟩;have H:=G.boxed (.slice B4 m4 d4) 25
  try simp only [zqa,zqb,zqc] at H
  clear HC G b0 a1;have HF:=zh (H.fewM.fewO.less (L':=L) (fun o ho=>by simp [ho]))
  clear H;go_wp2_with fail;go_ret2
  exact ⟨rfl,HF.out⟩
theorem Ow.apart {M:List (Nat×Value)}(h:Ow w0 w g M L O)(i j:Nat){b c:Nat}{u v:Value}(hi:M[i]?=some (b,u))(hj:M[j]?=some (c,v))(hij:i≠j):b≠c:=by
 rintro rfl;exact hij (h.st.one i j b u v hi hj)
end
theorem Ow.self {w0 w:World}{g:Option Nat}{M:List (Nat×Value)}{L:List Ob}{O:List Rw}(h:Ow w0 w g M L O):Ow w w none [] L []:=
 Ow.of ⟨Below.refl _ _,fun x e=>(by cases e),fun i b v h=>(by simp at h),fun i j b u v h=>(by simp at h),fun o ho=>by
  obtain ⟨h1,h2,h3,B,hB,hs,-⟩:=h.st.held o ho
  exact ⟨h1,h2,h3,B,hB,hs,fun ad _ _=>⟨(by simp),fun i b v h=>(by simp at h)⟩⟩⟩
section
variable {w0 w w':World}{g:Option Nat}{M M2:List (Nat×Value)}{L:List Ob}{O:List Rw}{A A2 A3 A4:Option Addr}{b n c m c2 n3 c3 n4 c4 x y:Nat}{p q r s:List Int}
end
def GotU (w0:World)(g:Option Nat)(M:List (Nat×Value))(L:List Ob)(O:List Rw)(l:List Nat)(en:Ending)(w':World):Prop:=
 ∃ (A1:Option Addr) (n1 c1:Nat),en=.returned (.agg #[.slice A1 n1 c1])/\Ow w0 w' g M (L++[⟨A1,n1,c1,z0c l⟩]) O
theorem z7az (k:Nat):ofL (k:Int)=Na.dig k:=by unfold ofL;rw [if_neg (by omega)];rfl
theorem z8aa (k:Nat):ofE (k:Int)=0:=by unfold ofE;rw [if_neg (by omega)]
theorem z2ay {x k:Nat}(hk:k<=4800)(h:x ^ k<Na.top):powL x (k:Int)=Na.dig (x ^ k):=by
 unfold powL;rw [if_neg (by omega),show ((k:Int)).toNat=k by omega]
 exact z1t h
theorem z2az {x k:Nat}(hk:k<=4800)(h:x ^ k<Na.top):powE x (k:Int)=0:=by
 unfold powE;rw [if_neg (by omega),show ((k:Int)).toNat=k by omega]
 exact z1u h
section
variable {w0 w w':World}{g:Option Nat}{M M2:List (Nat×Value)}{L:List Ob}{O:List Rw}{A A2 A3 A4:Option Addr}{b n c m c2 n3 c3 n4 c4 x y:Nat}{p q r s:List Int}
theorem t_of (h:Ow w0 w g M L O)(k:Nat)(hk:k<=9223372036854775807):
  Calls Tryz.prog 91 #[.int .i64 k] w (GotU w0 g M L O (Na.dig k)):=by
 have H0:=h.boxed (.slice none 0 0) 25
 have H00:=H0;have HC:=zh (z1ce H0 (k:Int) (by omega))
 rw [z7az,z8aa] at HC;obtain ⟨l0,hl0⟩:∃ z,Na.dig k=z:=⟨_,rfl⟩
 rw [hl0] at HC ⊢
 clear h H0 hl0 H00 hk;go_enter Tryz.func91,Tryz.ntmps91
 go_wp2_with fail;refine HC.out.mono ?_;rintro e w1 ⟨B1,m1,d1,rfl,G⟩;have H:=G.boxed (.slice B1 m1 d1) 25
 simp only [zqa,zqb,zqc] at H;clear HC G ;have x0:=H.cell (M.length+1) (zk rfl)
 have r0:=H.cell (M.length+0) (zk rfl)
 have f0:=H.free (M.length+0) (zk rfl)
 have Z:=H.setv (M.length+0) (zk rfl) (.slice B1 m1 d1)
 rw [z0o] at Z;simp only [zqd] at Z;have s0:=Z.cell (M.length+0) (zk rfl)
 have HF:=zh Z.fewM;clear H Z;go_wp2_with fail;refine bodyPost_ret (v:=.agg #[.slice B1 m1 d1]) (by simp [results,Tryz.results91,go_sem,s0]) rfl ?_
 exact ⟨B1,m1,d1,rfl,HF.out⟩
theorem z4bz (h:Ow w0 w g M L O)(i:Nat)(hi:L[i]?=some ⟨A,n,c,z0c (Na.dig x)⟩)(hx:x<Na.top)(k:Nat)(hk:k<=4800)(hp:x ^ k<Na.top):
  Calls Tryz.prog 93 #[.agg #[.slice A n c],.int .i64 k] w (GotU w0 g M L O (Na.dig (x ^ k))):=by
 have H0:=(h.boxed (.slice A n c) 25).boxed (.slice none 0 0) 25
 simp only [World.size_alloc,zqa,zqb,zqc] at H0;have k0:=H0.cell (M.length+0) (zk rfl)
 have HC:=zh (z0cc H0 i hi hx (k:Int))
 rw [z2ay hk hp,z2az hk hp] at HC;obtain ⟨l0,hl0⟩:∃ z,Na.dig (x ^ k)=z:=⟨_,rfl⟩
 rw [hl0] at HC ⊢
 clear h H0 hl0 hi hx hk hp;go_enter Tryz.func93,Tryz.ntmps93
 go_wp2_with fail;refine HC.out.mono ?_;rintro e w1 ⟨B1,m1,d1,rfl,G⟩;have H:=G.boxed (.slice B1 m1 d1) 25
 simp only [zqa,zqb,zqc] at H;clear HC G k0;have x0:=H.cell (M.length+2) (zk rfl)
 have r0:=H.cell (M.length+1) (zk rfl)
 have f0:=H.free (M.length+1) (zk rfl)
 have Z:=H.setv (M.length+1) (zk rfl) (.slice B1 m1 d1)
 rw [z0o] at Z;simp only [zqd,zqe] at Z;have s0:=Z.cell (M.length+1) (zk rfl)
 have HF:=zh Z.fewM;clear H Z;go_wp2_with fail;refine bodyPost_ret (v:=.agg #[.slice B1 m1 d1]) (by simp [results,Tryz.results93,go_sem,s0]) rfl ?_
 exact ⟨B1,m1,d1,rfl,HF.out⟩
theorem r_of (h:Ow w0 w g M L O)(k:Nat)(hk:k<=9223372036854775807):
  Calls Tryz.prog 39 #[.int .i64 k] w (GotU w0 g M L O (Na.dig k)):=by
 have H0:=h.boxed (.slice none 0 0) 25
 have H00:=H0;have HC:=zh (z0cb H0 (k:Int) (by omega))
 rw [z7az,z8aa] at HC;obtain ⟨l0,hl0⟩:∃ z,Na.dig k=z:=⟨_,rfl⟩
 rw [hl0] at HC ⊢
 clear h H0 hl0 H00 hk;go_enter Tryz.func39,Tryz.ntmps39
 go_wp2_with fail;refine HC.out.mono ?_;rintro e w1 ⟨B1,m1,d1,rfl,G⟩;have H:=G.boxed (.slice B1 m1 d1) 25
 simp only [zqa,zqb,zqc] at H;clear HC G ;have x0:=H.cell (M.length+1) (zk rfl)
 have r0:=H.cell (M.length+0) (zk rfl)
 have f0:=H.free (M.length+0) (zk rfl)
 have Z:=H.setv (M.length+0) (zk rfl) (.slice B1 m1 d1)
 rw [z0o] at Z;simp only [zqd] at Z;have s0:=Z.cell (M.length+0) (zk rfl)
 have HF:=zh Z.fewM;clear H Z;go_wp2_with fail;refine bodyPost_ret (v:=.agg #[.slice B1 m1 d1]) (by simp [results,Tryz.results39,go_sem,s0]) rfl ?_
 exact ⟨B1,m1,d1,rfl,HF.out⟩
theorem z5by (h:Ow w0 w g M L O)(i:Nat)(hi:L[i]?=some ⟨A,n,c,z0c (Na.dig x)⟩)(hx:x<Na.top)(k:Nat)(hk:k<=4800)(hp:x ^ k<Na.top):
  Calls Tryz.prog 42 #[.agg #[.slice A n c],.int .i64 k] w (GotU w0 g M L O (Na.dig (x ^ k))):=by
 have H0:=(h.boxed (.slice A n c) 25).boxed (.slice none 0 0) 25
 simp only [World.size_alloc,zqa,zqb,zqc] at H0;have k0:=H0.cell (M.length+0) (zk rfl)
 have HC:=zh (z7bt H0 i hi hx (k:Int))
 rw [z2ay hk hp,z2az hk hp] at HC;obtain ⟨l0,hl0⟩:∃ z,Na.dig (x ^ k)=z:=⟨_,rfl⟩
 rw [hl0] at HC ⊢
 clear h H0 hl0 hi hx hk hp;go_enter Tryz.func42,Tryz.ntmps42
 go_wp2_with fail;refine HC.out.mono ?_;rintro e w1 ⟨B1,m1,d1,rfl,G⟩;have H:=G.boxed (.slice B1 m1 d1) 25
 simp only [zqa,zqb,zqc] at H;clear HC G k0;have x0:=H.cell (M.length+2) (zk rfl)
 have r0:=H.cell (M.length+1) (zk rfl)
 have f0:=H.free (M.length+1) (zk rfl)
 have Z:=H.setv (M.length+1) (zk rfl) (.slice B1 m1 d1)
 rw [z0o] at Z;simp only [zqd,zqe] at Z;have s0:=Z.cell (M.length+1) (zk rfl)
 have HF:=zh Z.fewM;clear H Z;go_wp2_with fail;refine bodyPost_ret (v:=.agg #[.slice B1 m1 d1]) (by simp [results,Tryz.results42,go_sem,s0]) rfl ?_
 exact ⟨B1,m1,d1,rfl,HF.out⟩
theorem z6bx (h:Ow w0 w g M L O)(i j:Nat)(hi:L[i]?=some ⟨A,n,c,z0c (Na.dig x)⟩)(hj:L[j]?=some ⟨A2,m,c2,z0c (Na.dig y)⟩)(hx:x<Na.top)(hy:y<Na.top):
  Calls Tryz.prog 146 #[.agg #[.slice A n c],.agg #[.slice A2 m c2]] w (z7v w0 g M L O (z4j (x+y)) (z3v (x+y))):=by
 have:=z0ce (zs:=Na.up (Na.dig x)) (ys:=Na.up (Na.dig y)) h i j (by rw [z0g];exact hi) (by rw [z0g];exact hj)
 unfold addL addE at this;rw [Na.vld_dig hx,Na.vld_dig hy,z0l,z0l] at this;exact this
theorem z2be (h:Ow w0 w g M L O)(i j:Nat)(hi:L[i]?=some ⟨A,n,c,z0c (Na.dig x)⟩)(hj:L[j]?=some ⟨A2,m,c2,z0c (Na.dig y)⟩)(hx:x<Na.top)(hy:y<Na.top):
  Calls Tryz.prog 98 #[.agg #[.slice A n c],.agg #[.slice A2 m c2]] w (z7v w0 g M L O (z4j (x*y)) (z3v (x*y))):=by
 have:=z4bp (zs:=Na.up (Na.dig x)) (ys:=Na.up (Na.dig y)) h i j (by rw [z0g];exact hi) (by rw [z0g];exact hj)
 rwa [(z5c hx hy).1,(z5c hx hy).2] at this
theorem z8bo (h:Ow w0 w g M L O)(i j:Nat)(hi:L[i]?=some ⟨A,n,c,z0c (Na.dig x)⟩)(hj:L[j]?=some ⟨A2,m,c2,z0c (Na.dig y)⟩)(hx:x<Na.top)(hy:y<Na.top)(hs:x+y<Na.top):
  Calls Tryz.prog 123 #[.agg #[.slice A n c],.agg #[.slice A2 m c2]] w (GotU w0 g M L O (Na.dig (x+y))):=by
 have H0:=((h.boxed (.slice A n c) 25).boxed (.slice A2 m c2) 25).boxed (.slice none 0 0) 25
 simp only [World.size_alloc,zqa,zqb,zqc] at H0;have k0:=H0.cell (M.length+0) (zk rfl)
 have k1:=H0.cell (M.length+1) (zk rfl)
 have HC:=zh (z6bx H0 i j hi hj hx hy)
 rw [z1t hs,z1u hs] at HC;obtain ⟨l0,hl0⟩:∃ z,Na.dig (x+y)=z:=⟨_,rfl⟩
 rw [hl0] at HC ⊢
 clear h H0 hl0 hi hj hx hy hs;go_enter Tryz.func123,Tryz.ntmps123
 go_wp2_with fail;refine HC.out.mono ?_;rintro e w1 ⟨B1,m1,d1,rfl,G⟩;have H:=G.boxed (.slice B1 m1 d1) 25
 simp only [zqa,zqb,zqc] at H;clear HC G k0 k1;have x0:=H.cell (M.length+3) (zk rfl)
 have r0:=H.cell (M.length+2) (zk rfl)
 have f0:=H.free (M.length+2) (zk rfl)
 have Z:=H.setv (M.length+2) (zk rfl) (.slice B1 m1 d1)
 rw [z0o] at Z;simp only [zqd,zqe] at Z;have s0:=Z.cell (M.length+2) (zk rfl)
 have HF:=zh Z.fewM;clear H Z;go_wp2_with fail;refine bodyPost_ret (v:=.agg #[.slice B1 m1 d1]) (by simp [results,Tryz.results123,go_sem,s0]) rfl ?_
 exact ⟨B1,m1,d1,rfl,HF.out⟩
theorem z3bq (h:Ow w0 w g M L O)(i j:Nat)(hi:L[i]?=some ⟨A,n,c,z0c (Na.dig x)⟩)(hj:L[j]?=some ⟨A2,m,c2,z0c (Na.dig y)⟩)(hx:x<Na.top)(hy:y<Na.top)(hs:x+y<Na.top):
  Calls Tryz.prog 70 #[.agg #[.slice A n c],.agg #[.slice A2 m c2]] w (GotU w0 g M L O (Na.dig (x+y))):=by
 have H0:=((h.boxed (.slice A n c) 25).boxed (.slice A2 m c2) 25).boxed (.slice none 0 0) 25
 simp only [World.size_alloc,zqa,zqb,zqc] at H0;have k0:=H0.cell (M.length+0) (zk rfl)
 have k1:=H0.cell (M.length+1) (zk rfl)
 have HC:=zh (z2bd H0 i j hi hj hx hy)
 rw [z1t hs,z1u hs] at HC;obtain ⟨l0,hl0⟩:∃ z,Na.dig (x+y)=z:=⟨_,rfl⟩
 rw [hl0] at HC ⊢
 clear h H0 hl0 hi hj hx hy hs;go_enter Tryz.func70,Tryz.ntmps70
 go_wp2_with fail;refine HC.out.mono ?_;rintro e w1 ⟨B1,m1,d1,rfl,G⟩;have H:=G.boxed (.slice B1 m1 d1) 25
 simp only [zqa,zqb,zqc] at H;clear HC G k0 k1;have x0:=H.cell (M.length+3) (zk rfl)
 have r0:=H.cell (M.length+2) (zk rfl)
 have f0:=H.free (M.length+2) (zk rfl)
 have Z:=H.setv (M.length+2) (zk rfl) (.slice B1 m1 d1)
 rw [z0o] at Z;simp only [zqd,zqe] at Z;have s0:=Z.cell (M.length+2) (zk rfl)
 have HF:=zh Z.fewM;clear H Z;go_wp2_with fail;refine bodyPost_ret (v:=.agg #[.slice B1 m1 d1]) (by simp [results,Tryz.results70,go_sem,s0]) rfl ?_
 exact ⟨B1,m1,d1,rfl,HF.out⟩
theorem z7ad (h:Ow w0 w g M L O)(i j:Nat)(hi:L[i]?=some ⟨A,n,c,z0c (Na.dig x)⟩)(hj:L[j]?=some ⟨A2,m,c2,z0c (Na.dig y)⟩)(hx:x<Na.top)(hy:y<Na.top)(hs:x*y<Na.top):
  Calls Tryz.prog 71 #[.agg #[.slice A n c],.agg #[.slice A2 m c2]] w (GotU w0 g M L O (Na.dig (x*y))):=by
 have H0:=((h.boxed (.slice A n c) 25).boxed (.slice A2 m c2) 25).boxed (.slice none 0 0) 25
 simp only [World.size_alloc,zqa,zqb,zqc] at H0;have k0:=H0.cell (M.length+0) (zk rfl)
 have k1:=H0.cell (M.length+1) (zk rfl)
 have HC:=zh (z4e H0 i j hi hj hx hy)
 rw [z1t hs,z1u hs] at HC;obtain ⟨l0,hl0⟩:∃ z,Na.dig (x*y)=z:=⟨_,rfl⟩
 rw [hl0] at HC ⊢
 clear h H0 hl0 hi hj hx hy hs;go_enter Tryz.func71,Tryz.ntmps71
 go_wp2_with fail;refine HC.out.mono ?_;rintro e w1 ⟨B1,m1,d1,rfl,G⟩;have H:=G.boxed (.slice B1 m1 d1) 25
 simp only [zqa,zqb,zqc] at H;clear HC G k0 k1;have x0:=H.cell (M.length+3) (zk rfl)
 have r0:=H.cell (M.length+2) (zk rfl)
 have f0:=H.free (M.length+2) (zk rfl)
 have Z:=H.setv (M.length+2) (zk rfl) (.slice B1 m1 d1)
 rw [z0o] at Z;simp only [zqd,zqe] at Z;have s0:=Z.cell (M.length+2) (zk rfl)
 have HF:=zh Z.fewM;clear H Z;go_wp2_with fail;refine bodyPost_ret (v:=.agg #[.slice B1 m1 d1]) (by simp [results,Tryz.results71,go_sem,s0]) rfl ?_
 exact ⟨B1,m1,d1,rfl,HF.out⟩
end
def pr:List Nat->Nat
 | []=>1
 | x :: xs=>x*pr xs
theorem z7aq (a b:List Nat):pr (a++b)=pr a*pr b:=by
 induction a with
 | nil=>exact (Nat.one_mul _).symm
 | cons x a ih=>show x*pr (a++b)=x*pr a*pr b;rw [ih,zqs]
theorem z7ap {xs:List Nat}{k x:Nat}(h:xs[k]?=some x):pr (xs.take (k+1))=pr (xs.take k)*x:=by
 rw [List.take_add_one,h,z7aq]
 show pr (xs.take k)*(x*1)=_
 rw [Nat.mul_one]
def Nums (L:List Ob)(vs:List Value)(xs:List Nat):Prop:=∀ (k x:Nat),xs[k]?=some x->∃ (A:Option Addr) (n c t:Nat),vs[k]?=some (.slice A n c)/\L[t]?=some ⟨A,n,c,z0c (Na.dig x)⟩
def RTm (w0:World)(g:Option Nat)(M:List (Nat×Value))(L:List Ob)(O:List Rw)(r0 x0 n:Nat)(xs:List Nat)(i:Value)(wr:World):Prop:=
 ∃ (k:Nat) (A1:Option Addr) (n1 c1:Nat),k<=n/\i=.int .i64 k/\Hid (Ow w0 wr g (M++[(r0,.slice none 0 0),(x0,.slice A1 n1 c1)]) (L++[⟨A1,n1,c1,z0c (Na.dig (pr (xs.take k)))⟩]) O)
section
variable {w0 w w':World}{g:Option Nat}{M M2:List (Nat×Value)}{L:List Ob}{O:List Rw}{A A2 A3 A4:Option Addr}{b n c m c2 n3 c3 n4 c4 x y:Nat}{p q r s:List Int}
theorem Ow.m2 {p q:Nat×Value}{l:List (Nat×Value)}(h:Ow w0 w g (M++p :: q :: l) L O):Ow w0 w g (M++[p,q]) L O:=by
 have h':Ow w0 w g ((M++[p,q])++l) L O:=by rw [zqa];exact h
 exact h'.fewM
theorem z4by (h:Ow w0 w g M L O)(i:Nat){vs:List Value}(hi:L[i]?=some ⟨A,n,c,vs⟩)(xs:List Nat)(hlen:xs.length=n)(hx:Nums L vs xs)(ht:∀ x∈xs,x<Na.top)(hp:∀ k,k<=n->pr (xs.take k)<Na.top):
  Calls Tryz.prog 124 #[.slice A n c] w (GotU w0 g M L O (Na.dig (pr xs))):=by
 have hn:n<=1000:=(h.sl hi).2.2.1
 have H0:=h.boxed (.slice none 0 0) 25
 have HC:=zh (t_of H0 1 (by omega))
 have HI:=zh (And.intro hi (And.intro hlen (And.intro hx (And.intro ht hp))))
 obtain ⟨r0,hr0⟩:∃ b,w.heap.size=b:=⟨_,rfl⟩
 clear h H0 hi hlen hx ht hp;go_enter Tryz.func124,Tryz.ntmps124
 go_wp2_with fail;refine HC.out.mono ?_;rintro e w1 ⟨B1,m1,d1,rfl,G⟩;have H:=G.boxed (.slice B1 m1 d1) 25
 simp only [zqa,zqb,zqc] at H;rw [hr0] at H;have HO:=zh H;clear HC G H;go_wp2_with fail
 try rw [hr0]
 go_loopw [9] (fun i wr=>RTm w0 g M L O r0 w1.heap.size n xs i wr) (fun i _=>n+1 - (intOf i).toNat)
 case atStart=>exact ⟨0,B1,m1,d1,zqr _,rfl,HO⟩
 case round=>
  clear HO;obtain ⟨k,A1,n1,c1,hk,rfl,HO⟩:=hrel;have x0:=HO.out.cell (M.length+1) (zk rfl)
  have xf:=HO.out.free (M.length+1) (zk rfl)
  have rc:=HO.out.cell (M.length+0) (zk rfl)
  have rf:=HO.out.free (M.length+0) (zk rfl)
  rcases Nat.eq_or_lt_of_le hk with he|hlt
  ·have hd:decide ((k:Int)<n)=false:=zn (by omega)
   have hd2:decide (k<n)=false:=zn (by omega)
   have Z:=HO.out.setv (M.length+0) (zk rfl) (.slice A1 n1 c1)
   rw [z0o,zqd] at Z;have s0:=Z.cell (M.length+0) (zk rfl)
   have e1:pr (xs.take k)=pr xs:=by rw [zqp (by have:=HI.out.2.1;omega)]
   have HF:=zh Z.fewM;rw [e1] at HF;clear HO Z e1 he hk;go_wp2_with fail;refine bodyPost_ret (v:=.agg #[.slice A1 n1 c1]) (by simp [results,Tryz.results124,go_sem,s0]) rfl ?_
   exact ⟨A1,n1,c1,rfl,HF.out⟩
  ·have hd:decide ((k:Int)<n)=true:=zt (by omega)
   have hd2:decide (k<n)=true:=zt hlt
   obtain ⟨x,hxk⟩:∃ x,xs[k]?=some x:=⟨xs[k]'(by have:=HI.out.2.1;omega),zql _⟩
   obtain ⟨Ak,nk,ck,t,hv,hl⟩:=HI.out.2.2.1 k x hxk
   obtain ⟨hvl,hkv⟩:=List.getElem?_eq_some_iff.1 hv
   have hsl:=(HO.out.sl (i:=i) (by rw [z0r _ _ (z0d HI.out.1)];exact HI.out.1)).2.2.2
   obtain ⟨ad,rfl,had,hcell⟩:=hsl.at_ hvl
   rw [hkv] at hcell;have hkm:k<=1000:=by omega
   have H2:=HO.out.boxed (.slice Ak nk ck) 25
   simp only [zqa,zqb,zqc] at H2;have hxt:x<Na.top:=HI.out.2.2.2.1 x (List.mem_of_getElem? hxk)
   have hpk:=HI.out.2.2.2.2 (k+1) hlt
   rw [z7ap hxk] at hpk;have HM:=zh (z2be H2 (L.length+0) t (zk rfl) (by rw [z0r _ _ (z0d hl)];exact hl) (HI.out.2.2.2.2 k hk) hxt)
   rw [z1t hpk,z1u hpk,<- z7ap hxk] at HM;have y0:=H2.cell (M.length+1) (zk rfl)
   clear HO H2 hsl hpk hxt hl hv hkv hvl hxk;go_wp2_with fail;refine HM.out.mono ?_;rintro e w4 ⟨A3,n3,c3,rfl,G⟩;have s2:=G.cell (M.length+1) (zk rfl)
   have s2f:=G.free (M.length+1) (zk rfl)
   have Z:=G.setv (M.length+1) (zk rfl) (.slice A3 n3 c3)
   rw [z0o,zqe,zqd] at Z;have HG:=zh (Z.m2.less (L':=L++[⟨A3,n3,c3,z0c (Na.dig (pr (xs.take (k+1))))⟩]) (fun o ho=>by
    rcases List.mem_append.1 ho with h|h
    ·exact List.mem_append_left _ (List.mem_append_left _ h)
    ·exact List.mem_append_right _ h))
   clear HM G Z x0 xf rc rf y0 hcell;go_wp2_with fail;go_roundw
   case rel=>exact ⟨k+1,A3,n3,c3,hlt,z0q (by omega),HG⟩
   case measure=>simp [intOf];omega
end
end Go.Proofs.YtpmofjomadibmaaGreatDoor
