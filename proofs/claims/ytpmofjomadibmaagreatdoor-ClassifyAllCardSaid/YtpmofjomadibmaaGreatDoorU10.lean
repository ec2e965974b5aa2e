/- Rn Wm -/
import Derived.Test.YtpmofjomadibmaaGreatDoorU09
import Derived.Lib.TrailingZeros
namespace Go.Proofs.YtpmofjomadibmaaGreatDoor
set_option maxHeartbeats 8000000
open Go.RowKit Go.Sort
set_option linter.unusedVariables false
set_option maxRecDepth 100000
def ROf (w:World)(M:List (Nat×Value))(m:Nat)(v s:Value)(wr:World):Prop:=
 ∃ (x:Nat) (A:Option Addr) (k c:Nat) (d:List Nat),x<=m/\v=.int .i64 x/\s=.slice A k c/\k<=3/\Hid (Na.dig m=d++Na.dig x/\d.length=k)/\Hid (Ow w wr none M [] [⟨A,k,c,3,z0c d⟩])
theorem z6q (m:Int)(w:World)(hm:m<=9223372036854775807):Calls Tryz.prog 55 #[.int .i64 m] w (z3m w (ofL m) (ofE m)):=by
 have H0:=(Ow.of (St.refl w)).boxed (.slice none 0 0) 25
 simp only [zqc] at H0;by_cases h:m<0
 ·have HR:Hid (ofL m=[]):=if_pos h
  have HE:Hid (ofE m=2):=if_pos h
  have hc0:=H0.cell 0 rfl
  have hf0:=H0.free 0 rfl
  go_enter Tryz.func55,Tryz.ntmps55
  go_wp2_with fail;refine bodyPost_ret (v:=.tuple #[.agg #[.slice none 0 0],.int .i64 2]) (by simp [results,Tryz.results55,go_sem]) rfl ?_
  rw [HR.out,HE.out];exact z0y _ _ _ H0.below
 ·have h':0<=m:=by omega
  obtain ⟨m0,rfl⟩:=Int.eq_ofNat_of_zero_le h'
  have HR:Hid (ofL m0=Na.dig m0):=if_neg (by omega)
  have HE:Hid (ofE m0=0):=if_neg (by omega)
  have hlen:(Na.dig m0).length<=3:=Na.dig_len_le (zqu (show m0<=9223372036854775807 by omega) (by decide))
  have HH:=zh (H0.nil 3)
  clear h H0;rw [HR.out,HE.out];go_enter Tryz.func55,Tryz.ntmps55
  go_wp2_with fail;go_loopw [0,4] (fun v s wr=>ROf w [(w.heap.size,.slice none 0 0)] m0 v s wr) (fun v _ _=>(intOf v).toNat)
  case atStart=>exact ⟨m0,none,0,0,[],zqj _,rfl,rfl,by omega,⟨rfl,rfl⟩,HH.out⟩
  case round=>
   obtain ⟨x,A,k,c,d,hx,rfl,rfl,hk,HD,HO⟩:=hrel;rcases zqh x with rfl|h0
   ·have hd:Na.dig m0=d:=by rw [HD.out.1,Na.dig_zero,List.append_nil]
    have hc0:=HO.out.cell 0 rfl
    have hf0:=HO.out.free 0 rfl
    have HDD:=zh hd;clear hd;go_wp2_with fail;have G:=HO.out.setv 0 rfl (.slice A k c)
    have hc1:=G.cell 0 rfl
    refine bodyPost_ret (v:=.tuple #[.agg #[.slice A k c],.int .i64 0]) (by simp [results,Tryz.results55,go_sem,hc1]) rfl ?_
    rw [HDD.out];exact z5g G 0 rfl 0
   ·have hdx:=Na.dig_pos x h0
    have hdl:k+1<=3:=by
     have h1:=congrArg List.length HD.out.1
     rw [zqm,hdx,List.length_cons,HD.out.2] at h1;omega
    have HD2:Hid (Na.dig m0=(d++[x % 16777216])++Na.dig (x / 16777216)):=by
     unfold Hid;rw [HD.out.1,hdx,zqa];rfl
    clear hdx;have hmod:(x:Int) % 16777216=((x % 16777216:Nat):Int):=by omega
    have hdiv:(x:Int) / 16777216=((x / 16777216:Nat):Int):=by omega
    obtain ⟨r,hr⟩:∃ r,x % 16777216=r:=⟨_,rfl⟩
    obtain ⟨q,hq⟩:∃ q,x / 16777216=q:=⟨_,rfl⟩
    rw [hr] at hmod HD2;rw [hq] at hdiv HD2;have hqx:q<x:=by omega
    have HL:Hid ((d++[r]).length=k+1):=by unfold Hid;rw [zqm,HD.out.2];rfl
    have hd:decide (0<(x:Int))=true:=zt (by omega)
    clear hr hq;go_wp2_with (at_builtin;refine z2k z4p HO.out 0 (.tmp 12) (.tmp 15) _ _ rfl rfl (by unfold maxLen;omega) (by omega) rfl rfl rfl rfl ?_;intro A' c' w8 how)
    go_roundw
    case rel=>
     rw [z1a] at how;exact ⟨q,A',k+1,c',d++[r],by omega,(by first|rfl|exact z0q hdiv),rfl,hdl,⟨HD2.out,HL.out⟩,how⟩
    case measure=>simp [intOf];omega
section
variable {w0 w w':World}{g:Option Nat}{M:List (Nat×Value)}{L:List Ob}{O:List Rw}{A A2:Option Addr}{n c m c2 x y:Nat}
theorem Ow.push2 (h:Ow w0 w g M L O){B1 B2:Option Addr}{n1 d1 n2 d2:Nat}{us vs:List Value}{e:TypeId}(ho:w'.ownsRow w.heap.size e 1 (.slice B1 n1 d1) n1 us)(ho2:w'.ownsRow w.heap.size e 1 (.slice B2 n2 d2) n2 vs)(hl:n1<=1000)(hl2:n2<=1000)(hb:Below w.heap.size w w'):Ow w0 w' g M (L++[⟨B1,n1,d1,us⟩]++[⟨B2,n2,d2,vs⟩]) O:=by
 have h':=h.go hb
 have new:∀ {B:Option Addr} {n d:Nat} {xs:List Value},w'.ownsRow w.heap.size e 1 (.slice B n d) n xs->∀ ad,B=some ad->0<n->w.heap.size<=ad.block:=fun ho ad ea h0=>by
  obtain ⟨gb,hg,h1,_⟩:=z0n ho h0
  rw [ea] at hg;obtain rfl:=zqk hg
  exact h1
 refine ⟨h.st.push2 ho ho2 hl hl2 hb,h'.own,fun i r hi b hbk=>⟨(h'.ap i r hi b hbk).1,(h'.ap i r hi b hbk).2.1,fun o hm ad ea h0=>?_⟩,h'.two⟩
 have hlt:=(h.lt hi hbk).1
 rcases List.mem_append.1 hm with hm|hm
 ·rcases List.mem_append.1 hm with hm|hm
  ·exact (h'.ap i r hi b hbk).2.2 o hm ad ea h0
  ·rw [List.mem_singleton] at hm;subst hm
   have:=new ho ad ea h0
   omega
 ·rw [List.mem_singleton] at hm;subst hm
  have:=new ho2 ad ea h0
  omega
theorem z8bu (h:Ow w0 w g M L O)(v:Nat)(hv:v<=9223372036854775807):Calls Tryz.prog 55 #[.int .i64 v] w fun e w'=>∃ (A':Option Addr) (n' c':Nat),e=.returned (.tuple #[.agg #[.slice A' n' c'],.int .i64 0])/\(Na.dig v).length=n'/\Ow w0 w' g M (L++[⟨A',n',c',z0c (Na.dig v)⟩]) O:=by
 have e1:ofL (v:Int)=Na.dig v:=if_neg (by omega)
 have e2:ofE (v:Int)=0:=if_neg (by omega)
 have hr:=z6q (v:Int) w (by omega)
 rw [e1,e2] at hr;exact hr.mono fun en w' hr=>h.pushN hr (zqq (Na.dig_len_le (n:=3) (zqu hv (by decide))) (by omega))
theorem z4av (h:Ow w0 w g M L O)(i j:Nat)(hi:L[i]?=some ⟨A,n,c,z0c (Na.dig x)⟩)(hj:L[j]?=some ⟨A2,m,c2,z0c (Na.dig y)⟩)(hx:x<Na.top)(hy:y<Na.top)(hy0:0<y):
  Calls Tryz.prog 77 #[.agg #[.slice A n c],.agg #[.slice A2 m c2]] w fun e w'=>∃ (A1:Option Addr) (n1 c1:Nat) (A2:Option Addr) (n2 c2:Nat),e=.returned (.tuple #[.agg #[.slice A1 n1 c1],.agg #[.slice A2 n2 c2],.int .i64 0])/\Ow w0 w' g M ((L++[⟨A1,n1,c1,z0c (Na.dig (x / y))⟩])++[⟨A2,n2,c2,z0c (Na.dig (x % y))⟩]) O:=by
 obtain ⟨h1,h2,h3,h4⟩:=h.sl hi
 obtain ⟨k1,k2,k3,k4⟩:=h.sl hj
 rw [z0e] at h1 k1;have l1:(Na.dig (x / y)).length<=200:=(Na.dig_200 _).2 (zqu (Nat.div_le_self _ _) hx)
 have l2:(Na.dig (x % y)).length<=200:=(Na.dig_200 _).2 (zqu (Nat.mod_le _ _) hx)
 exact (z7h A A2 n c m c2 x y w h1 k1 h2 k2 h4 k4 hx hy hy0).mono fun en w' ⟨A1,n1,c1,A3,n2,c3,he,e1,e2,o1,o2,hb⟩=>
  ⟨A1,n1,c1,A3,n2,c3,he,h.push2 o1 o2 (by omega) (by omega) hb⟩
end
def RGcd (w:World)(B:Nat)(x y:Nat)(k:Nat)(wr:World):Prop:=
 ∃ (X Y:Nat) (A1:Option Addr) (n1 c1:Nat) (A2:Option Addr) (n2 c2:Nat),n1<=200/\n2<=200/\Hid (Nat.gcd X Y=Nat.gcd x y/\Y=k/\X<Na.top/\Y<Na.top)/\Hid (Ow w wr none [(B,.slice A1 n1 c1),(B+1,.slice A2 n2 c2),(B+1+1,.slice none 0 0)] [⟨A1,n1,c1,z0c (Na.dig X)⟩,⟨A2,n2,c2,z0c (Na.dig Y)⟩] [])
theorem z3ae (A A2:Option Addr)(n c m c2 x y:Nat)(w:World)(hn:(Na.dig x).length=n)(hm:(Na.dig y).length=m)(hnc:n<=c)(hmc:m<=c2)(hs:Sl w w.heap.size A (z0c (Na.dig x)))(hs2:Sl w w.heap.size A2 (z0c (Na.dig y)))(hx:x<Na.top)(hy:y<Na.top):
  Calls Tryz.prog 76 #[.agg #[.slice A n c],.agg #[.slice A2 m c2]] w (z3m w (Na.dig (Nat.gcd x y)) 0):=by
 have hn2:n<=200:=by rw [<- hn];exact (Na.dig_200 x).2 hx
 have hm2:m<=200:=by rw [<- hm];exact (Na.dig_200 y).2 hy
 have H0:=(((((Ow.of (St.refl w)).old hs (by rw [z0e];exact hn) hnc (by omega)).old hs2 (by rw [z0e];exact hm) hmc (by omega)).boxed (.slice A n c) 25).boxed (.slice A2 m c2) 25).boxed (.slice none 0 0) 25
 simp only [World.size_alloc,zqc,zqb] at H0;have hc0:=H0.cell 0 rfl
 have HH:=zh (z2e H0 0 rfl hx)
 have HX:=zh hx;have HY:=zh hy;clear hn hm hs hs2 H0 hx hy;go_enter Tryz.func76,Tryz.ntmps76
 go_wp2_with fail;refine HH.out.mono ?_;rintro e w1 ⟨rfl,H1⟩;have hc1:=H1.cell 1 rfl
 have HK:=zh (z2e H1 1 rfl HY.out)
 clear hc0 HH H1;go_wp2_with fail;refine HK.out.mono ?_;rintro e w2 ⟨rfl,H2⟩;have HI:=zh H2;clear HK H2 hc1;go_wp2_with fail;go_loopg [] y (fun k wr=>RGcd w w.heap.size x y k wr)
 case atStart=>exact ⟨x,y,A,n,c,A2,m,c2,hn2,hm2,⟨rfl,rfl,HX.out,HY.out⟩,HI.out⟩
 case round=>
  clear HI;obtain ⟨X,Y,A1,n1,c1,A3,n3,c3,hn1,hn3,HP,HO⟩:=hrel;have hc0:=HO.out.cell 0 rfl
  have hc1:=HO.out.cell 1 rfl
  have hl3:=(HO.out.sl (i:=1) rfl).1
  rw [z0e] at hl3;rcases zqh n3 with h0|h0
  ·subst h0
   have hY0:=Na.dig_len0.1 hl3
   have hG:Nat.gcd x y=X:=by rw [<- HP.out.1,hY0,Nat.gcd_zero_right]
   have HG:=zh hG;have HN:=zh (HO.out.nil 3)
   have hQ:=zh (HN.out.sl (i:=0) rfl)
   have hc2:=HO.out.cell 2 rfl
   clear hl3 hY0 hG HO;go_wp2_with (at_builtin;refine z5t z4p HN.out 0 (.const (.slice none 0 0)) (.tmp 32) rfl hQ.out.1 hQ.out.2.2.2 (z3k _) (by unfold maxLen;omega) (by omega) rfl rfl rfl rfl ?_;intro A' c' w3 how;have hs2:=how.cell 2 rfl;have hs2f:=how.free 2 rfl)
   have G:=how.setv 2 rfl (.slice A' (0+n1) c')
   have hc3:=G.cell 2 rfl
   simp only [Nat.zero_add] at G hc3;refine bodyPost_ret (v:=.tuple #[.agg #[.slice A' n1 c'],.int .i64 0]) (by simp [results,Tryz.results76,go_sem,hc3]) rfl ?_
   rw [HG.out];exact z5g G 0 rfl 0
  ·have hY0:0<Y:=by
    rcases zqh Y with e|e
    ·rw [e,Na.dig_zero] at hl3;simp at hl3;omega
    ·exact e
   have hd:decide (0<(n3:Int))=true:=zt (by omega)
   have HD:=zh (z4av HO.out 0 1 rfl rfl HP.out.2.2.1 HP.out.2.2.2 hY0)
   have HYp:=zh hY0;have hn0:(0:Int)<n3:=by omega
   clear hl3 hY0 HO h0;go_wp2_with fail;refine HD.out.mono ?_;rintro e w3 ⟨B1,m1,d1,B2,m2,d2,rfl,H3⟩;have H4:=(H3.boxed (.slice B1 m1 d1) 25).boxed (.slice B2 m2 d2) 25
   simp only [World.size_alloc,zqc,zqb] at H4;clear hc0 hc1 HD H3;go_upto_region 5 with (fail)
   obtain ⟨w4,hw4⟩:∃ w4,(w3.alloc (.cells #[.slice B1 m1 d1] 25)).alloc (.cells #[.slice B2 m2 d2] 25)=w4:=⟨_,rfl⟩
   rw [hw4] at H4 ⊢
   clear hw4;have k1:=H4.cell 1 rfl
   have k4:=H4.cell 4 rfl
   have q0:=H4.cell 0 rfl
   have q0f:=H4.free 0 rfl
   have G1:=H4.setv 0 rfl (.slice A3 n3 c3)
   have q1:=G1.cell 1 rfl
   have q1f:=G1.free 1 rfl
   have q4:=G1.cell 4 rfl
   have G2:=G1.setv 1 rfl (.slice B2 m2 d2)
   have hl2:=(G2.sl (i:=3) rfl).1
   rw [z0e] at hl2;have HM2:Hid (m2<=200):=by unfold Hid;rw [<- hl2];exact (Na.dig_200 _).2 (zqu (Nat.mod_le _ _) HP.out.2.2.1)
   have HF:=zh (G2.drew.few2 (M':=[(w.heap.size,.slice A3 n3 c3),(w.heap.size+1,.slice B2 m2 d2),(w.heap.size+1+1,.slice none 0 0)]) (L':=[⟨A3,n3,c3,z0c (Na.dig Y)⟩,⟨B2,m2,d2,z0c (Na.dig (X % Y))⟩]) rfl (fun o ho=>by simp only [List.mem_cons,List.not_mem_nil,or_false] at ho ⊢;rcases ho with rfl|rfl <;> simp))
   have HGn:Hid (Nat.gcd Y (X % Y)=Nat.gcd x y/\X % Y<Y/\X % Y<Na.top):=⟨by rw [<- HP.out.1,Nat.gcd_comm X Y,Nat.gcd_rec Y X,Nat.gcd_comm],Nat.mod_lt _ HYp.out,zqu (Nat.mod_le _ _) HP.out.2.2.1⟩
   clear H4 G1 G2 hl2;go_region
   all_goals
    clear k1 k4 q0 q0f q1 q1f q4;go_wp2_with fail;go_roundg (X % Y)
    case measure=>have:=HP.out.2.1;have:=HGn.out.2.1;omega
    case rel=>exact ⟨Y,X % Y,A3,n3,c3,B2,m2,d2,hn3,HM2.out,⟨HGn.out.1,rfl,HP.out.2.2.2,HGn.out.2.2⟩,HF.out⟩
theorem z8ag (A A2:Option Addr)(n c m c2:Nat)(zs ys:List Int)(w:World)(hn:zs.length=n)(hm:ys.length=m)(hnc:n<=c)(hmc:m<=c2)(hs:Sl w w.heap.size A (z0p zs))(hs2:Sl w w.heap.size A2 (z0p ys))(hl:n<=1000)(hl2:m<=1000)(hv:(Na.vld zs && Na.vld ys)=false):
  Calls Tryz.prog 76 #[.agg #[.slice A n c],.agg #[.slice A2 m c2]] w (z3m w [] 1):=by
 have H0:=(((((Ow.of (St.refl w)).old hs (by rw [z0s];exact hn) hnc hl).old hs2 (by rw [z0s];exact hm) hmc hl2).boxed (.slice A n c) 25).boxed (.slice A2 m c2) 25).boxed (.slice none 0 0) 25
 simp only [World.size_alloc,zqc,zqb] at H0;have hc0:=H0.cell 0 rfl
 have HH:=zh (z1w H0 0 rfl)
 clear hn hm hs hs2 H0;cases h1:Na.vld zs
 ·rw [h1] at HH;go_enter Tryz.func76,Tryz.ntmps76
  go_wp2_with fail;refine HH.out.mono ?_;rintro e w1 ⟨rfl,H1⟩;have hc2:=H1.cell 2 rfl
  have hf2:=H1.free 2 rfl
  clear hc0 HH;go_wp2_with fail;have H2:=H1.setv 2 rfl (.slice none 0 0)
  have hc3:=H2.cell 2 rfl
  refine bodyPost_ret (v:=.tuple #[.agg #[.slice none 0 0],.int .i64 1]) (by simp [results,Tryz.results76,go_sem,hc3]) rfl ?_
  exact z0y _ _ _ H2.below
 ·rw [h1,Bool.true_and] at hv;rw [h1] at HH;go_enter Tryz.func76,Tryz.ntmps76
  go_wp2_with fail;refine HH.out.mono ?_;rintro e w1 ⟨rfl,H1⟩;have hc1:=H1.cell 1 rfl
  have HK:=zh (z1w H1 1 rfl)
  rw [hv] at HK;clear hc0 HH H1;go_wp2_with fail;refine HK.out.mono ?_;rintro e w2 ⟨rfl,H1⟩;have hc2:=H1.cell 2 rfl
  have hf2:=H1.free 2 rfl
  clear hc1 HK;go_wp2_with fail;have H2:=H1.setv 2 rfl (.slice none 0 0)
  have hc3:=H2.cell 2 rfl
  refine bodyPost_ret (v:=.tuple #[.agg #[.slice none 0 0],.int .i64 1]) (by simp [results,Tryz.results76,go_sem,hc3]) rfl ?_
  exact z0y _ _ _ H2.below
section
variable {w0 w w':World}{g:Option Nat}{M:List (Nat×Value)}{L:List Ob}{O:List Rw}{A A2:Option Addr}{n c m c2 x y:Nat}
theorem Ow.seen (h:Ow w0 w g M L O)(i:Nat){e:TypeId}{l:List Nat}(hi:O[i]?=some ⟨A,n,c,e,z0c l⟩):l.length=n/\n<=c/\Sl w w.heap.size A (z0c l):=by
 have ho:=h.row i hi
 have:=z1m ho
 rw [z0e] at this;exact ⟨this,(z1j ho).1,Sl.of_own ho⟩
theorem Ow.seenL (h:Ow w0 w g M L O)(i:Nat){l:List Nat}(hi:L[i]?=some ⟨A,n,c,z0c l⟩):l.length=n/\n<=c/\Sl w w.heap.size A (z0c l):=by
 obtain ⟨h1,h2,h3,h4⟩:=h.sl hi
 rw [z0e] at h1;exact ⟨h1,h2,h4⟩
theorem z6au (h:Ow w0 w g M L O)(hA:(Na.dig x).length=n/\n<=c/\Sl w w.heap.size A (z0c (Na.dig x)))(hB:(Na.dig y).length=m/\m<=c2/\Sl w w.heap.size A2 (z0c (Na.dig y)))(hx:x<Na.top)(hy:y<Na.top):
  Calls Tryz.prog 46 #[.agg #[.slice A n c],.agg #[.slice A2 m c2]] w fun e w'=>∃ (A':Option Addr) (n' c':Nat),e=.returned (.tuple #[.agg #[.slice A' n' c'],.int .i64 (z3v (x*y))])/\(z4j (x*y)).length=n'/\Ow w0 w' g M L (O++[⟨A',n',c',3,z0c (z4j (x*y))⟩]):=
 (z3af A A2 n c m c2 x y w hA.1 hB.1 hA.2.2 hB.2.2 hx hy).mono fun en w' hr=>h.addN hr
theorem z5bx (h:Ow w0 w g M L O)(hA:(Na.dig x).length=n/\n<=c/\Sl w w.heap.size A (z0c (Na.dig x)))(hB:(Na.dig y).length=m/\m<=c2/\Sl w w.heap.size A2 (z0c (Na.dig y)))(hl:n<=1000)(hl2:m<=1000):
  Calls Tryz.prog 47 #[.agg #[.slice A n c],.agg #[.slice A2 m c2]] w fun e w'=>e=.returned (.int .i64 (Na.sgn x y))/\Ow w0 w' g M L O:=
 (z7i A A2 n c m c2 x y w hA.1 hB.1 hA.2.1 hB.2.1 hA.2.2 hB.2.2 hl hl2).mono fun en w' ⟨he,hb⟩=>⟨he,h.go hb⟩
theorem z8bv (h:Ow w0 w g M L O)(v:Nat)(hv:v<=9223372036854775807):Calls Tryz.prog 55 #[.int .i64 v] w fun e w'=>∃ (A':Option Addr) (n' c':Nat),e=.returned (.tuple #[.agg #[.slice A' n' c'],.int .i64 0])/\(Na.dig v).length=n'/\Ow w0 w' g M L (O++[⟨A',n',c',3,z0c (Na.dig v)⟩]):=by
 have e1:ofL (v:Int)=Na.dig v:=if_neg (by omega)
 have e2:ofE (v:Int)=0:=if_neg (by omega)
 have hr:=z6q (v:Int) w (by omega)
 rw [e1,e2] at hr;exact hr.mono fun en w' hr=>h.addN hr
end
theorem pow_top {x j m:Nat}(hx:0<x)(hj:j<m)(h:Na.top<=x ^ j*x):Na.top<=x ^ m:=by
 rw [<- Nat.pow_succ] at h;exact zqq h (Nat.pow_le_pow_right hx hj)
def RPow (w:World)(A:Option Addr)(n c x m:Nat)(r0:Nat)(v:Value)(wr:World):Prop:=
 ∃ (j k:Nat) (A1:Option Addr) (n1 c1:Nat),k+j=m/\v=.int .i64 k/\n1<=200/\Hid (x ^ j<Na.top)/\Hid (Ow w wr none [(w.heap.size,.slice A n c),(w.heap.size+1,.slice none 0 0),(r0,.slice A1 n1 c1)] [⟨A,n,c,z0c (Na.dig x)⟩] [⟨A1,n1,c1,3,z0c (Na.dig (x ^ j))⟩])
theorem z5al (A:Option Addr)(n c x m:Nat)(w:World)(hn:(Na.dig x).length=n)(hnc:n<=c)(hs:Sl w w.heap.size A (z0c (Na.dig x)))(hx:x<Na.top)(hm:m<=4800):
  Calls Tryz.prog 72 #[.agg #[.slice A n c],.int .i64 m] w (z3m w (z4j (x ^ m)) (z3v (x ^ m))):=by
 have hn2:n<=200:=by rw [<- hn];exact (Na.dig_200 x).2 hx
 have H0:=(((Ow.of (St.refl w)).old hs (by rw [z0e];exact hn) hnc (by omega)).boxed (.slice A n c) 25).boxed (.slice none 0 0) 25
 simp only [World.size_alloc,zqc,zqb] at H0;have hc0:=H0.cell 0 rfl
 have HH:=zh (z2e H0 0 rfl hx)
 have HX:=zh hx;have HN:=zh hn;have h1t:1<Na.top:=zqv (show 1<16777216 ^ 1 by omega) (Nat.pow_le_pow_right (by omega) (by omega))
 have H1T:=zh h1t;obtain ⟨rl,hrl⟩:∃ v,z4j (x ^ m)=v:=⟨_,rfl⟩
 obtain ⟨re,hre⟩:∃ v,z3v (x ^ m)=v:=⟨_,rfl⟩
 rw [hrl,hre];have HRL:=zh hrl;have HRE:=zh hre;clear hn hs H0 hx hrl hre h1t;go_enter Tryz.func72,Tryz.ntmps72
 go_wp2_with fail;refine HH.out.mono ?_;rintro e w1 ⟨rfl,H1⟩;have HK:=zh (z8bv H1 1 (by omega))
 clear hc0 HH H1;go_wp2_with fail;refine HK.out.mono ?_;rintro e w2 ⟨A2,n2,c2,rfl,hn21,H2⟩;have H3:=H2.boxed (.slice A2 n2 c2) 25
 simp only [zqc,zqb] at H3;have hn22:n2<=200:=by rw [<- hn21];exact zqq (Na.dig_len_le (n:=1) (by omega)) (by omega)
 have hc0:=H3.cell 0 rfl
 have hc1:=H3.cell 1 rfl
 have hf1:=H3.free 1 rfl
 have HQ:=zh H3;clear HK H2 hn21;by_cases h0:n=0/\0<m
 ·obtain ⟨rfl,hm0⟩:=h0;have hx0:=Na.dig_len0.1 HN.out
  have hp:x ^ m=0:=by rw [hx0];exact Nat.zero_pow hm0
  obtain rfl:[]=rl:=by rw [<- HRL.out,hp,z1t (Nat.lt_trans (Nat.zero_lt_one) H1T.out),Na.dig_zero]
  obtain rfl:0=re:=by rw [<- HRE.out,hp,z1u (Nat.lt_trans (Nat.zero_lt_one) H1T.out)]
  have hd:decide (0<(m:Int))=true:=zt (by omega)
  clear hx0 hp;go_wp2_with fail;have G:=H3.setv 1 rfl (.slice none 0 0)
  have hc2:=G.cell 1 rfl
  refine bodyPost_ret (v:=.tuple #[.agg #[.slice none 0 0],.int .i64 0]) (by simp [results,Tryz.results72,go_sem,hc2]) rfl ?_
  exact z0y _ _ _ G.below
 ·have hcond:(((n:Int) == 0)=false)∨(((n:Int) == 0)=true/\m=0):=by
   by_cases e:n=0
   ·exact .inr ⟨by simp [e],by omega⟩
   ·exact .inl (by rw [beq_eq_false_iff_ne];omega)
  have HX0:Hid (m=0∨0<x):=by
   unfold Hid;rcases zqh x with e|e
   ·have h3:=HN.out;rw [e,Na.dig_zero] at h3;simp at h3
    omega
   ·exact .inr e
  have HC:=zh (z5bx H3 (H3.seenL 0 rfl) (H3.seen 0 rfl) (by omega) (by omega))
  clear h0 H3;rcases hcond with hd|⟨hd,hm0⟩
  ·go_wp2_with fail;refine HC.out.mono ?_;by_cases h1:x=1
   ·rw [Na.sgn_eq h1];rintro e w3 ⟨rfl,H4⟩;have hp:x ^ m=1:=by rw [h1,Nat.one_pow]
    obtain rfl:Na.dig 1=rl:=by rw [<- HRL.out,hp,z1t H1T.out]
    obtain rfl:0=re:=by rw [<- HRE.out,hp,z1u H1T.out]
    have hc3:=H4.cell 1 rfl
    have hf3:=H4.free 1 rfl
    have hc4:=H4.cell 2 rfl
    clear hc0 hc1 hf1 HC hp HQ;go_wp2_with fail;have G:=H4.setv 1 rfl (.slice A2 n2 c2)
    have hc5:=G.cell 1 rfl
    refine bodyPost_ret (v:=.tuple #[.agg #[.slice A2 n2 c2],.int .i64 0]) (by simp [results,Tryz.results72,go_sem,hc5]) rfl ?_
    exact z5g G 0 rfl 0
   ·obtain ⟨sg,hsg⟩:∃ s:Int,Na.sgn x 1=s:=⟨_,rfl⟩
    have hs0:(sg == 0)=false:=by rw [beq_eq_false_iff_ne];rcases Na.sgn_cases x 1 with ⟨h,e⟩|⟨h,e⟩|⟨h,e⟩ <;> omega
    rw [hsg];rintro e w3 ⟨rfl,H4⟩;have HO:=zh H4;clear hc0 hc1 hf1 HC hsg H4 h1 HQ;go_wp2_with fail;obtain ⟨r0,hr0⟩:∃ r,w2.heap.size=r:=⟨_,rfl⟩
    rw [hr0] at HO ⊢
    go_loopw [1] (fun v wr=>RPow w A n c x m r0 v wr) (fun v _=>(intOf v).toNat)
    case atStart=>exact ⟨0,m,A2,n2,c2,by omega,rfl,hn22,by unfold Hid;rw [Nat.pow_zero];exact H1T.out,by unfold Hid;rw [Nat.pow_zero];exact HO.out⟩
    case round=>
     clear HO;obtain ⟨j,k,A1,n1,c1,hkj,rfl,hn1,HP,HO⟩:=hrel;have hc0:=HO.out.cell 0 rfl
     have hc2:=HO.out.cell 2 rfl
     rcases zqh k with h0|h0
     ·subst h0
      have hj:j=m:=by omega
      subst hj
      obtain rfl:Na.dig (x ^ j)=rl:=by rw [<- HRL.out,z1t HP.out]
      obtain rfl:0=re:=by rw [<- HRE.out,z1u HP.out]
      have hc1:=HO.out.cell 1 rfl
      have hf1:=HO.out.free 1 rfl
      go_wp2_with fail;have G:=HO.out.setv 1 rfl (.slice A1 n1 c1)
      have hc5:=G.cell 1 rfl
      refine bodyPost_ret (v:=.tuple #[.agg #[.slice A1 n1 c1],.int .i64 0]) (by simp [results,Tryz.results72,go_sem,hc5]) rfl ?_
      exact z5g G 0 rfl 0
     ·have hd0:decide (0<(k:Int))=true:=zt (by omega)
      have HM:=zh (z6au HO.out (HO.out.seen 0 rfl) (HO.out.seenL 0 rfl) HP.out HX.out)
      have hx1:0<x:=by rcases HX0.out with h|h <;> omega
      clear HO;rcases zqi (x ^ j*x) Na.top with ht|ht
      ·rw [z1t ht,z1u ht,<- Nat.pow_succ] at HM;have HT:=zh (show x ^ (j+1)<Na.top from ht)
       clear ht;go_wp2_with fail;refine HM.out.mono ?_;rintro e w4 ⟨A3,n3,c3,rfl,hn3,H5⟩;have hs2:=H5.cell 2 rfl
       have hs2f:=H5.free 2 rfl
       have hn3':n3<=200:=by rw [<- hn3];exact (Na.dig_200 _).2 HT.out
       have G:=Ow.tail (H5.setv 2 rfl (.slice A3 n3 c3))
       have HG:=zh G;clear hc0 hc2 HM H5 G hn3;go_wp2_with fail;go_roundw
       case rel=>exact ⟨j+1,k - 1,A3,n3,c3,by omega,z0q (by omega),hn3',HT,HG⟩
       case measure=>simp [intOf];omega
      ·rw [z5h ht,z5i ht] at HM;have hbig:=pow_top hx1 (show j<m by omega) ht
       obtain rfl:[]=rl:=by rw [<- HRL.out,z5h hbig]
       obtain rfl:3=re:=by rw [<- HRE.out,z5i hbig]
       clear ht hbig;go_wp2_with fail;refine HM.out.mono ?_;rintro e w4 ⟨A3,n3,c3,rfl,hn3,H5⟩;have hs2:=H5.cell 2 rfl
       have hs2f:=H5.free 2 rfl
       have G:=H5.setv 2 rfl (.slice A3 n3 c3)
       have hs1:=G.cell 1 rfl
       have hs1f:=G.free 1 rfl
       clear hc0 hc2 HM H5 hn3;go_wp2_with fail;have G2:=G.setv 1 rfl (.slice none 0 0)
       have hc5:=G2.cell 1 rfl
       refine bodyPost_ret (v:=.tuple #[.agg #[.slice none 0 0],.int .i64 3]) (by simp [results,Tryz.results72,go_sem,hc5]) rfl ?_
       exact z0y _ _ _ G2.below
  ·have hd0:decide (0<(m:Int))=false:=zn (by omega)
   have hd1:decide (0<m)=false:=zn (by omega)
   clear hm0;go_wp2_with fail;refine HC.out.mono ?_;by_cases h1:x=1
   ·rw [Na.sgn_eq h1];rintro e w3 ⟨rfl,H4⟩;have hp:x ^ m=1:=by rw [h1,Nat.one_pow]
    obtain rfl:Na.dig 1=rl:=by rw [<- HRL.out,hp,z1t H1T.out]
    obtain rfl:0=re:=by rw [<- HRE.out,hp,z1u H1T.out]
    have hc3:=H4.cell 1 rfl
    have hf3:=H4.free 1 rfl
    have hc4:=H4.cell 2 rfl
    clear hc0 hc1 hf1 HC hp HQ;go_wp2_with fail;have G:=H4.setv 1 rfl (.slice A2 n2 c2)
    have hc5:=G.cell 1 rfl
    refine bodyPost_ret (v:=.tuple #[.agg #[.slice A2 n2 c2],.int .i64 0]) (by simp [results,Tryz.results72,go_sem,hc5]) rfl ?_
    exact z5g G 0 rfl 0
   ·obtain ⟨sg,hsg⟩:∃ s:Int,Na.sgn x 1=s:=⟨_,rfl⟩
    have hs0:(sg == 0)=false:=by rw [beq_eq_false_iff_ne];rcases Na.sgn_cases x 1 with ⟨h,e⟩|⟨h,e⟩|⟨h,e⟩ <;> omega
    rw [hsg];rintro e w3 ⟨rfl,H4⟩;have HO:=zh H4;clear hc0 hc1 hf1 HC hsg H4 h1 HQ;go_wp2_with fail;obtain ⟨r0,hr0⟩:∃ r,w2.heap.size=r:=⟨_,rfl⟩
    rw [hr0] at HO ⊢
    go_loopw [1] (fun v wr=>RPow w A n c x m r0 v wr) (fun v _=>(intOf v).toNat)
    case atStart=>exact ⟨0,m,A2,n2,c2,by omega,rfl,hn22,by unfold Hid;rw [Nat.pow_zero];exact H1T.out,by unfold Hid;rw [Nat.pow_zero];exact HO.out⟩
    case round=>
     clear HO;obtain ⟨j,k,A1,n1,c1,hkj,rfl,hn1,HP,HO⟩:=hrel;have hc0:=HO.out.cell 0 rfl
     have hc2:=HO.out.cell 2 rfl
     rcases zqh k with h0|h0
     ·subst h0
      have hj:j=m:=by omega
      subst hj
      obtain rfl:Na.dig (x ^ j)=rl:=by rw [<- HRL.out,z1t HP.out]
      obtain rfl:0=re:=by rw [<- HRE.out,z1u HP.out]
      have hc1:=HO.out.cell 1 rfl
      have hf1:=HO.out.free 1 rfl
      go_wp2_with fail;have G:=HO.out.setv 1 rfl (.slice A1 n1 c1)
      have hc5:=G.cell 1 rfl
      refine bodyPost_ret (v:=.tuple #[.agg #[.slice A1 n1 c1],.int .i64 0]) (by simp [results,Tryz.results72,go_sem,hc5]) rfl ?_
      exact z5g G 0 rfl 0
     ·have hd0:decide (0<(k:Int))=true:=zt (by omega)
      have HM:=zh (z6au HO.out (HO.out.seen 0 rfl) (HO.out.seenL 0 rfl) HP.out HX.out)
      have hx1:0<x:=by rcases HX0.out with h|h <;> omega
      clear HO;rcases zqi (x ^ j*x) Na.top with ht|ht
      ·rw [z1t ht,z1u ht,<- Nat.pow_succ] at HM;have HT:=zh (show x ^ (j+1)<Na.top from ht)
       clear ht;go_wp2_with fail;refine HM.out.mono ?_;rintro e w4 ⟨A3,n3,c3,rfl,hn3,H5⟩;have hs2:=H5.cell 2 rfl
       have hs2f:=H5.free 2 rfl
       have hn3':n3<=200:=by rw [<- hn3];exact (Na.dig_200 _).2 HT.out
       have G:=Ow.tail (H5.setv 2 rfl (.slice A3 n3 c3))
       have HG:=zh G;clear hc0 hc2 HM H5 G hn3;go_wp2_with fail;go_roundw
       case rel=>exact ⟨j+1,k - 1,A3,n3,c3,by omega,z0q (by omega),hn3',HT,HG⟩
       case measure=>simp [intOf];omega
      ·rw [z5h ht,z5i ht] at HM;have hbig:=pow_top hx1 (show j<m by omega) ht
       obtain rfl:[]=rl:=by rw [<- HRL.out,z5h hbig]
       obtain rfl:3=re:=by rw [<- HRE.out,z5i hbig]
       clear ht hbig;go_wp2_with fail;refine HM.out.mono ?_;rintro e w4 ⟨A3,n3,c3,rfl,hn3,H5⟩;have hs2:=H5.cell 2 rfl
       have hs2f:=H5.free 2 rfl
       have G:=H5.setv 2 rfl (.slice A3 n3 c3)
       have hs1:=G.cell 1 rfl
       have hs1f:=G.free 1 rfl
       clear hc0 hc2 HM H5 hn3;go_wp2_with fail;have G2:=G.setv 1 rfl (.slice none 0 0)
       have hc5:=G2.cell 1 rfl
       refine bodyPost_ret (v:=.tuple #[.agg #[.slice none 0 0],.int .i64 3]) (by simp [results,Tryz.results72,go_sem,hc5]) rfl ?_
       exact z0y _ _ _ G2.below
section
variable {w0 w w':World}{g:Option Nat}{M:List (Nat×Value)}{L:List Ob}{O:List Rw}{A A2:Option Addr}{n c m c2 x y:Nat}
theorem z8c (h:Ow w0 w g M L O)(hA:(Na.dig x).length=n/\n<=c/\Sl w w.heap.size A (z0c (Na.dig x)))(hB:(Na.dig y).length=m/\m<=c2/\Sl w w.heap.size A2 (z0c (Na.dig y)))(hx:x<Na.top)(hy:y<Na.top)(hy0:0<y):
  Calls Tryz.prog 77 #[.agg #[.slice A n c],.agg #[.slice A2 m c2]] w fun e w'=>∃ (A1:Option Addr) (n1 c1:Nat) (A2:Option Addr) (n2 c2:Nat),e=.returned (.tuple #[.agg #[.slice A1 n1 c1],.agg #[.slice A2 n2 c2],.int .i64 0])/\(Na.dig (x / y)).length=n1/\Ow w0 w' g M L (O++[⟨A1,n1,c1,3,z0c (Na.dig (x / y))⟩]):=
 (z7h A A2 n c m c2 x y w hA.1 hB.1 hA.2.1 hB.2.1 hA.2.2 hB.2.2 hx hy hy0).mono fun en w' ⟨A1,n1,c1,A3,n2,c3,he,e1,e2,o1,o2,hb⟩=>⟨A1,n1,c1,A3,n2,c3,he,e1,h.add o1 hb⟩
end
theorem z6a (a b:List UInt8):str a++str b=str (a++b):=by
 unfold str;apply ByteArray.ext
 simp
theorem z1at (A:Option Addr)(n c:Nat)(zs:List Int)(w:World)(hn:zs.length=n)(hnc:n<=c)(hs:Sl w w.heap.size A (z0p zs))(hl:n<=1000)(hv:Na.vld zs=false):
  Calls Tryz.prog 49 #[.agg #[.slice A n c]] w fun e w'=>e=.returned (.string (str []))/\Below w.heap.size w w':=by
 have H0:=((Ow.of (St.refl w)).old hs (by rw [z0s];exact hn) hnc hl).boxed (.slice A n c) 25
 simp only [zqc] at H0;have hc0:=H0.cell 0 rfl
 have HH:=zh (z1w H0 0 rfl)
 rw [hv] at HH;clear hn hs H0 hv;go_enter Tryz.func49,Tryz.ntmps49
 go_wp2_with fail;refine HH.out.mono ?_;rintro e w1 ⟨rfl,H1⟩;have HB:=zh H1.below;clear hc0 HH H1;go_wp2_with fail;go_ret;exact ⟨rfl,HB.out⟩
def z5bd:Value->Nat
 | .string b=>b.size
 | _=>0
def RPr (w:World)(M:List (Nat×Value))(L:List Ob)(x:Nat)(l s:Value)(wr:World):Prop:=
 ∃ (y:Nat) (ds:List Nat) (A:Option Addr) (n c:Nat),l=.slice A n c/\s=.string (str (ds.map De.asc).reverse)/\n<=200/\ds.length<=4801/\Hid (De.dig x=ds++De.dig y/\De.val ds+10 ^ ds.length*y=x)/\Hid (Ow w wr none M L [⟨A,n,c,3,z0c (Na.dig y)⟩])
def RTen (w:World)(M:List (Nat×Value))(L:List Ob)(Y:List Nat)(n:Nat)(A:Option Addr)(c:Nat)(rest i:Value)(wr:World):Prop:=
 ∃ (z:Int) (r:Nat) (Q:List Nat),-1<=z/\z<n/\i=.int .i64 z/\rest=.int .i64 r/\r<10/\Hid (Q.length+(z+1).toNat=n/\Na.Lim Q/\Na.val (Y.drop (z+1).toNat)=10*Na.val Q+r)/\Hid (Ow w wr none M L [⟨A,n,c,3,z0c (Y.take (z+1).toNat++Q)⟩])
theorem z5ak (A:Option Addr)(n c:Nat)(x:Nat)(w:World)(hn:(Na.dig x).length=n)(hnc:n<=c)(hs:Sl w w.heap.size A (z0c (Na.dig x)))(hx:x<Na.top):
  Calls Tryz.prog 49 #[.agg #[.slice A n c]] w fun e w'=>e=.returned (.string (str (De.text x)))/\Below w.heap.size w w':=by
 have hn2:n<=200:=by rw [<- hn];exact (Na.dig_200 x).2 hx
 have H0:=((Ow.of (St.refl w)).old hs (by rw [z0e];exact hn) hnc (by omega)).boxed (.slice A n c) 25
 simp only [zqc] at H0;have hc0:=H0.cell 0 rfl
 have HH:=zh (z2e H0 0 rfl hx)
 have HX:=zh hx;clear hn hs H0 hx;go_enter Tryz.func49,Tryz.ntmps49
 go_wp2_with fail;refine HH.out.mono ?_;rintro e w1 ⟨rfl,H1⟩;have hc1:=H1.cell 0 rfl
 have HN:=zh (H1.nil 3)
 have hQ:=zh (HN.out.sl (i:=0) rfl)
 clear hc0 HH H1;go_wp2_with (at_builtin;refine z5t z4p HN.out 0 (.const (.slice none 0 0)) (.tmp 12) rfl hQ.out.1 hQ.out.2.2.2 (z3k _) (by unfold maxLen;omega) (by omega) rfl rfl rfl rfl ?_;intro A1 c1 w2 how)
 rw [Nat.zero_add,zqc] at how;have HI:=zh how
 try rw [Nat.zero_add]
 clear hc1 HN hQ how;go_loopw [3,4] (fun l s wr=>RPr w [(w.heap.size,.slice A n c)] [⟨A,n,c,z0c (Na.dig x)⟩] x l s wr) (fun _ s _=>5000 - z5bd s)
 case atStart=>exact ⟨x,[],A1,n,c1,rfl,rfl,hn2,by simp,⟨rfl,by simp [De.val]⟩,HI.out⟩
 case round=>
  clear HI;obtain ⟨y,ds,A3,n3,c3,rfl,rfl,hn3,hdl,HP,HO⟩:=hrel;have hlen:=(HO.out.seen 0 rfl).1
  rcases zqh n3 with h0|h0
  ·subst h0
   have hy0:y=0:=Na.dig_len0.1 hlen
   have HD:Hid (De.dig x=ds):=by unfold Hid;rw [HP.out.1,hy0,De.dig_zero,List.append_nil]
   clear hlen hy0;rcases zqh x with hx0|hx0
   ·have hds:ds=[]:=by rw [<- HD.out,hx0,De.dig_zero]
    have HTx:Hid (De.text x=[48]):=by unfold Hid;rw [hx0];rfl
    have hemp:(str ((ds.map De.asc).reverse)).toList.isEmpty=true:=by rw [z8a,hds];rfl
    clear hds hx0;go_wp2_with fail;go_ret;exact ⟨by rw [HTx.out];rfl,HO.out.below⟩
   ·have hemp:(str ((ds.map De.asc).reverse)).toList.isEmpty=false:=z6al (by rw [<- HD.out];exact De.text_ne hx0)
    have HTx:Hid (De.text x=(ds.map De.asc).reverse):=by unfold Hid;rw [De.text_pos hx0,HD.out]
    go_wp2_with fail;go_ret;exact ⟨by rw [HTx.out];rfl,HO.out.below⟩
  ·have HY:Hid (0<y):=by
    unfold Hid;rcases zqh y with h|h
    ·rw [h,Na.dig_zero] at hlen;simp at hlen;omega
    ·exact h
   have hdl2:ds.length<=4800:=De.len_bound (by have:=HP.out.2;omega) HY.out HX.out
   have hd:decide (0<(n3:Int))=true:=zt (by omega)
   have HLn:=zh hlen;obtain ⟨gb,rfl,-,-⟩:=z0n (HO.out.row 0 rfl) h0
   clear hlen;go_wp2_with fail;go_loopw [5,6] (fun r i wr=>RTen w [(w.heap.size,.slice A n c)] [⟨A,n,c,z0c (Na.dig x)⟩] (Na.dig y) n3 (some ⟨gb,0,none⟩) c3 r i wr) (fun _ i _=>(intOf i+1).toNat)
   case atStart=>
    refine ⟨(n3:Int) - 1,0,[],by omega,by omega,rfl,rfl,by omega,⟨by rw [List.length_nil];omega,Na.Lim.nil,?_⟩,?_⟩
    ·rw [List.drop_of_length_le (by rw [HLn.out];omega)];rfl
    ·unfold Hid;rw [show ((n3:Int) - 1+1).toNat=n3 by omega,zqp (by rw [HLn.out];exact zqj _),List.append_nil]
     exact HO.out
   case round=>
    obtain ⟨z,r,Q,hz1,hz2,rfl,rfl,hr10,HQ,HOt⟩:=hrel;rcases Int.lt_or_le z 0 with hz|hz
    ·have e0:(z+1).toNat=0:=by omega
     have HO1:=HOt.out;rw [e0,List.take_zero,zqc] at HO1;have hq:=HQ.out;rw [e0,List.drop_zero,Na.val_dig] at hq;have HQL:Hid (Q.length=n3):=by have:=hq.1;unfold Hid;omega
     have HQ2:=zh hq.2.1;have hyd:y / 10=Na.val Q/\y % 10=r:=by have:=hq.2.2;omega
     have HYd:=zh hyd;have HX1:=zh HO1;have hw8:IntKind.u8.wrap (48+(r:Int))=((De.asc r).toNat:Int):=by rw [De.asc_toNat hr10,IntWalk.u8_in _ (by omega)];omega
     have hconv:(convert 113 9 (.slice (some ⟨wr.heap.size,0,none⟩) 1 1)).run Tryz.prog (wr.alloc (.cells #[.int .u8 ((De.asc r).toNat:Int)] 5))=.ok (.string (str [De.asc r])) (wr.alloc (.cells #[.int .u8 ((De.asc r).toNat:Int)] 5)):=run_convert_bytes_back (P:=Tryz.prog) (wr.alloc (.cells #[.int .u8 ((De.asc r).toNat:Int)] 5)) 113 9 5 ⟨wr.heap.size,0,none⟩ 1 [De.asc r] Tryz.underlying113 Tryz.underlying5 Tryz.underlying9 (fun j hj=>by
      have:j=0:=by simp at hj;omega
      subst this
      exact cell_one_new _ _ _ 0 _ rfl)
     have hsa:str [De.asc r]++str ((ds.map De.asc).reverse)=str (((ds++[r]).map De.asc).reverse):=by rw [z6a,List.map_append,List.reverse_append];rfl
     have hs1:=z5r [De.asc r]
     have hs2:=z5r ((ds.map De.asc).reverse)
     rw [List.length_reverse,List.length_map] at hs2;clear hq hyd HO1 HOt HQ hz1 hz2;have HXw:=zh (HX1.out.go (z0i wr (.cells #[.int .u8 ((De.asc r).toNat:Int)] 5)))
     have HND:Hid (De.dig x=(ds++[r])++De.dig (Na.val Q)):=by
      unfold Hid;rw [HP.out.1,De.dig_pos y HY.out,HYd.out.1,HYd.out.2,zqa];rfl
     have HNV:Hid (De.val (ds++[r])+10 ^ (ds++[r]).length*Na.val Q=x):=by
      unfold Hid;rw [De.val_snoc,zqm,List.length_singleton,Nat.pow_succ];have h1:=HP.out.2;have h2:y=10*Na.val Q+r:=by have:=HYd.out;omega
      rw [h2,zqt,<- zqs] at h1;omega
     have HSt:Hid (((ds++[r]).map De.asc).reverse=De.asc r :: (ds.map De.asc).reverse):=by unfold Hid;rw [List.map_append,List.reverse_append];rfl
     have HDL:Hid ((ds++[r]).length<=4801):=by unfold Hid;rw [zqm,List.length_singleton];omega
     go_wp2_with fail
     try rw [hsa]
     obtain ⟨w5,hw5⟩:∃ w5,wr.alloc (.cells #[.int .u8 ((De.asc r).toNat:Int)] 5)=w5:=⟨_,rfl⟩
     rw [hw5] at HXw ⊢
     clear hsa hconv hs1 hw5 hw8 HX1;go_loopw [3] (fun v wr=>∃ k:Nat,k<=n3/\v=.slice (some ⟨gb,0,none⟩) k c3/\wr=w5/\Hid (Na.tl Q k=Na.tl Q Q.length)) (fun v _=>slen v)
     case atStart=>exact ⟨n3,zqj _,rfl,rfl,by unfold Hid;rw [HQL.out]⟩
     case round=>
      obtain ⟨k,hk,rfl,rfl,HT⟩:=hrel;have hown:=Sl.of_own (HXw.out.row 0 rfl)
      have hcap:=(z1j (HXw.out.row 0 rfl)).1
      have hkc:(k:Int) - 1<=(c3:Int):=by omega
      rcases Na.tl_case Q Q.length k (by rw [HQL.out];exact hk) HT.out with ⟨h0,hz,ht⟩|⟨ht,hs⟩
      ·have hcb:=z1b (HXw.out.row 0 rfl) hz
       have HT2:=zh ht;have hd:decide (0<(k:Int))=true:=zt (by omega)
       have hb2:((k:Int) - 1).toNat=k - 1:=by omega
       clear hown hz ht;go_wp2_with fail;go_roundw
       case rel=>exact ⟨k - 1,by omega,rfl,trivial,HT2⟩
       case measure=>simp [slen];omega
      ·have HG:=zh (HXw.out.trimmed 0 rfl HQ2.out ht rfl)
       rcases hs with h0|⟨h0,b,hb,hbne⟩
       ·subst h0
        clear hown ht HT;go_wp2_with fail;go_roundw
        case rel=>exact ⟨Na.val Q,ds++[r],some ⟨gb,0,none⟩,0,c3,rfl,by rw [HSt.out],by omega,HDL.out,⟨HND.out,HNV.out⟩,HG.out⟩
        case measure=>simp [z5bd,z5r];omega
       ·have hcb:=z1b (HXw.out.row 0 rfl) hb
        have hd:decide (0<(k:Int))=true:=zt (by omega)
        clear hown hb ht HT;go_wp2_with fail;go_roundw
        case rel=>exact ⟨Na.val Q,ds++[r],some ⟨gb,0,none⟩,k,c3,rfl,by rw [HSt.out],by omega,HDL.out,⟨HND.out,HNV.out⟩,HG.out⟩
        case measure=>simp [z5bd,z5r];omega
    ·obtain ⟨j,rfl⟩:=Int.eq_ofNat_of_zero_le hz
     have hjn:j<n3:=by omega
     have e1:((j:Int)+1).toNat=j+1:=by omega
     have HO1:=HOt.out;rw [e1] at HO1;have hq:=HQ.out;rw [e1] at hq;obtain ⟨a,ha⟩:=z0m (Na.dig y) j (by rw [HLn.out];exact hjn)
     have ha24:=(Na.dig_lim y).at ha
     have hrow:=HO1.row 0 rfl
     have hcl:=z1b hrow (k:=j) (b:=a) (by rw [zqn (by rw [zqw,HLn.out];omega),List.getElem?_take,if_pos (by omega)];exact ha)
     have hfz:=hrow.frozenAt j
     obtain ⟨t,ht⟩:∃ t,16777216*r+a=t:=⟨_,rfl⟩
     obtain ⟨s1,s2,s3⟩:=Na.small_step (Na.dig y) Q 10 j a r (by omega) ha (Na.dig_lim y) hq.2.1 hq.2.2 hr10
     rw [ht] at s1 s2 s3;obtain ⟨q,hqd⟩:∃ q,t / 10=q:=⟨_,rfl⟩
     obtain ⟨r2,hr2⟩:∃ r2,t % 10=r2:=⟨_,rfl⟩
     rw [hqd] at s1 s2;rw [hr2] at s2 s3;have hdiv:((r:Int)*16777216+(a:Int)) / 10=(q:Int):=by omega
     have hmod:((r:Int)*16777216+(a:Int)) % 10=(r2:Int):=by omega
     have HS:=zh (And.intro s1 (And.intro s2 s3))
     have H11:=HO1.put 0 rfl j (.int .i64 q)
     rw [zqd,z1s,Na.small_set (Na.dig y) Q j q (by rw [HLn.out];exact hjn)] at H11
     have HX1:=zh H11;have HQl:=zh hq.1;clear ha hq hz hz1 ht hqd hr2 s1 s2 hrow HO1 HOt H11 HQ;go_wp2_with fail;go_roundw
     case rel=>
      have ej:((j:Int) - 1+1).toNat=j:=by omega
      refine ⟨(j:Int) - 1,r2,q :: Q,by omega,by omega,rfl,(by first|rfl|exact z0q hmod),s3,?_,?_⟩
      ·unfold Hid;rw [ej];exact ⟨by have:=HQl.out;rw [List.length_cons];omega,HS.out.1,HS.out.2.1⟩
      ·unfold Hid;rw [ej];exact HX1.out
     case measure=>simp [intOf]
namespace Wo
set_option maxHeartbeats 8000000
def dig (x:Nat):List Nat:=if x=0 then [] else (x % 18446744073709551616) :: dig (x / 18446744073709551616)
termination_by x
decreasing_by omega
def val:List Nat->Nat
 | []=>0
 | a :: l=>a+18446744073709551616*val l
def Lim (l:List Nat):Prop:=∀ a∈l,a<18446744073709551616
theorem dig_zero:dig 0=[]:=by unfold dig;rfl
theorem dig_pos (x:Nat)(h:0<x):dig x=(x % 18446744073709551616) :: dig (x / 18446744073709551616):=by
 rw [dig,if_neg (by omega)]
theorem dig_small (x:Nat)(h:0<x)(h2:x<18446744073709551616):dig x=[x]:=by
 rw [dig_pos x h,Nat.mod_eq_of_lt h2,Nat.div_eq_of_lt h2,dig_zero]
theorem val_dig (x:Nat):val (dig x)=x:=by
 induction x using Nat.strongRecOn with
 | ind x ih=>
  rcases zqh x with rfl|h
  ·rw [dig_zero];rfl
  ·rw [dig_pos x h,val,ih _ (by omega)]
   omega
theorem dig_inj {x y:Nat}(h:dig x=dig y):x=y:=by rw [<- val_dig x,h,val_dig]
theorem dig_lim (x:Nat):Lim (dig x):=by
 induction x using Nat.strongRecOn with
 | ind x ih=>
  rcases zqh x with rfl|h
  ·rw [dig_zero];intro a ha;cases ha
  ·rw [dig_pos x h];intro a ha;rcases List.mem_cons.1 ha with rfl|ha
   ·omega
   ·exact ih _ (by omega) a ha
theorem Lim.tail {a:Nat}{l:List Nat}(h:Lim (a :: l)):Lim l:=fun b hb=>h b (List.mem_cons_of_mem _ hb)
theorem Lim.head {a:Nat}{l:List Nat}(h:Lim (a :: l)):a<18446744073709551616:=h a (List.mem_cons_self ..)
theorem Lim.at {l:List Nat}(h:Lim l){k a:Nat}(hk:l[k]?=some a):a<18446744073709551616:=h a (List.mem_of_getElem? hk)
theorem Lim.nil:Lim []:=fun a h=>by cases h
theorem Lim.cons {a:Nat}{l:List Nat}(h:a<18446744073709551616)(hl:Lim l):Lim (a :: l):=fun b hb=>by
 rcases List.mem_cons.1 hb with rfl|hb
 ·exact h
 ·exact hl b hb
theorem Lim.append {l m:List Nat}(h:Lim l)(hm:Lim m):Lim (l++m):=fun b hb=>by
 rcases List.mem_append.1 hb with hb|hb
 ·exact h b hb
 ·exact hm b hb
theorem Lim.one {a:Nat}(h:a<18446744073709551616):Lim [a]:=Lim.cons h Lim.nil
theorem Lim.take {l:List Nat}(h:Lim l)(k:Nat):Lim (l.take k):=fun b hb=>h b (List.mem_of_mem_take hb)
theorem Lim.drop {l:List Nat}(h:Lim l)(k:Nat):Lim (l.drop k):=fun b hb=>h b (List.mem_of_mem_drop hb)
theorem Lim.set {l:List Nat}(h:Lim l)(k:Nat){a:Nat}(ha:a<18446744073709551616):Lim (l.set k a):=fun b hb=>by
 rcases List.mem_or_eq_of_mem_set hb with hb|rfl
 ·exact h b hb
 ·exact ha
theorem Lim.zeros (n:Nat):Lim (List.replicate n 0):=fun b hb=>by
 have:=List.eq_of_mem_replicate hb
 omega
theorem val_lt {l:List Nat}(h:Lim l):val l<18446744073709551616 ^ l.length:=by
 induction l with
 | nil=>simp [val]
 | cons a l ih=>
  have h1:=ih h.tail
  have h2:=h.head;rw [val,List.length_cons,Nat.pow_succ];omega
theorem val_append (l m:List Nat):val (l++m)=val l+18446744073709551616 ^ l.length*val m:=by
 induction l with
 | nil=>simp [val]
 | cons a l ih=>
  rw [zqb,val,val,ih,List.length_cons,Nat.pow_succ,zqt,<- zqs,Nat.mul_comm 18446744073709551616 (18446744073709551616 ^ l.length)]
  omega
theorem val_snoc (l:List Nat)(a:Nat):val (l++[a])=val l+18446744073709551616 ^ l.length*a:=by
 rw [val_append];simp [val]
theorem val_zeros (n:Nat):val (List.replicate n 0)=0:=by
 induction n with
 | zero=>rfl
 | succ n ih=>rw [List.replicate_succ,val,ih]
theorem val_split (l:List Nat)(k:Nat)(h:k<=l.length):val l=val (l.take k)+18446744073709551616 ^ k*val (l.drop k):=by
 have h1:=val_append (l.take k) (l.drop k)
 rw [List.take_append_drop,zqw,Nat.min_eq_left h] at h1;exact h1
theorem val_take_succ (l:List Nat)(k a:Nat)(h:l[k]?=some a):val (l.take (k+1))=val (l.take k)+18446744073709551616 ^ k*a:=by
 have hlt:k<l.length:=by
  rcases zqi k l.length with h1|h1
  ·exact h1
  ·rw [List.getElem?_eq_none h1] at h;cases h
 rw [List.take_add_one,h,Option.toList_some,val_snoc,zqw,Nat.min_eq_left (by omega)]
theorem val_drop_cons (l:List Nat)(k a:Nat)(h:l[k]?=some a):val (l.drop k)=a+18446744073709551616*val (l.drop (k+1)):=by
 have hlt:k<l.length:=by
  rcases zqi k l.length with h1|h1
  ·exact h1
  ·rw [List.getElem?_eq_none h1] at h;cases h
 have ha:l[k]=a:=by rw [zql hlt] at h;exact zqk h
 rw [List.drop_eq_getElem_cons hlt,val,ha]
theorem val_set (l:List Nat)(k a b:Nat)(h:l[k]?=some a):val (l.set k b)+18446744073709551616 ^ k*a=val l+18446744073709551616 ^ k*b:=by
 induction l generalizing k with
 | nil=>simp at h
 | cons c l ih=>
  cases k with
  | zero=>
   have hc:c=a:=by simpa using h
   subst hc
   simp [val]
   omega
  | succ k=>
   have h1:=ih k (by simpa using h)
   rw [zqe,val,val,Nat.pow_succ,Nat.mul_comm (18446744073709551616 ^ k) 18446744073709551616,zqs,zqs]
   omega
def tl (l:List Nat):Nat->Nat
 | 0=>0
 | n+1=>if l[n]?=some 0 then tl l n else n+1
theorem tl_le (l:List Nat):∀ n,tl l n<=n:=by
 intro n
 induction n with
 | zero=>exact zqj _
 | succ n ih=>
  unfold tl;split
  ·omega
  ·exact zqj _
theorem tl_zero (l:List Nat)(n:Nat)(h:l[n]?=some 0):tl l (n+1)=tl l n:=by rw [tl,if_pos h]
theorem tl_stop (l:List Nat)(n:Nat)(h:l[n]?≠some 0):tl l (n+1)=n+1:=by rw [tl,if_neg h]
theorem tl_last (l:List Nat):∀ n,tl l n=0∨l[tl l n - 1]?≠some 0:=by
 intro n
 induction n with
 | zero=>exact .inl rfl
 | succ n ih=>
  by_cases h:l[n]?=some 0
  ·rw [tl_zero l n h];exact ih
  ·rw [tl_stop l n h];exact .inr h
theorem val_tl (l:List Nat):∀ n,n<=l.length->val (l.take (tl l n))=val (l.take n):=by
 intro n
 induction n with
 | zero=>intro _;rfl
 | succ n ih=>
  intro hn;by_cases h:l[n]?=some 0
  ·rw [tl_zero l n h,ih (by omega),val_take_succ l n 0 h,Nat.mul_zero,Nat.add_zero]
  ·rw [tl_stop l n h]
def trim (l:List Nat):List Nat:=l.take (tl l l.length)
theorem trim_length (l:List Nat):(trim l).length=tl l l.length:=by
 unfold trim;rw [zqw];have:=tl_le l l.length
 omega
theorem dig_val {l:List Nat}(h:Lim l)(h0:l.length=0∨l[l.length - 1]?≠some 0):dig (val l)=l:=by
 induction l with
 | nil=>exact dig_zero
 | cons a l ih=>
  have ha:=h.head;rw [val];cases l with
  | nil=>
   have:a≠0:=by simpa using h0
   rw [show a+18446744073709551616*val []=a from by simp [val]]
   exact dig_small a (by omega) ha
  | cons b l=>
   have h1:(b :: l).length=0∨(b :: l)[(b :: l).length - 1]?≠some 0:=by
    right
    rcases h0 with h0|h0
    ·simp at h0
    ·simpa using h0
   have h2:=ih h.tail h1
   have hv:val (b :: l)≠0:=by
    intro e;rw [e,dig_zero] at h2;cases h2
   rw [dig_pos _ (by omega),show (a+18446744073709551616*val (b :: l)) / 18446744073709551616=val (b :: l) by omega,show (a+18446744073709551616*val (b :: l)) % 18446744073709551616=a by omega,h2]
theorem dig_last (x:Nat):(dig x).length=0∨(dig x)[(dig x).length - 1]?≠some 0:=by
 induction x using Nat.strongRecOn with
 | ind x ih=>
  rcases zqh x with rfl|h
  ·left;rw [dig_zero];rfl
  ·right
   have h1:=ih (x / 18446744073709551616) (by omega)
   rw [dig_pos x h];rcases h1 with h1|h1
   ·have h2:dig (x / 18446744073709551616)=[]:=List.eq_nil_of_length_eq_zero h1
    have h3:x / 18446744073709551616=0:=by rw [<- val_dig (x / 18446744073709551616),h2];rfl
    rw [h2];simp
    omega
   ·cases hd:dig (x / 18446744073709551616) with
    | nil=>
     have h3:x / 18446744073709551616=0:=by rw [<- val_dig (x / 18446744073709551616),hd];rfl
     simp
     omega
    | cons b l=>
     rw [hd] at h1;simpa using h1
theorem trim_dig {l:List Nat}(h:Lim l):trim l=dig (val l):=by
 have h1:=val_tl l l.length (zqj _)
 rw [List.take_length] at h1;have h2:(trim l).length=0∨(trim l)[(trim l).length - 1]?≠some 0:=by
  rw [trim_length];rcases tl_last l l.length with h2|h2
  ·exact .inl h2
  ·rcases zqh (tl l l.length) with h3|h3
   ·exact .inl h3
   ·right
    unfold trim;rw [List.getElem?_take,if_pos (by omega)]
    exact h2
 have h3:=dig_val (h.take (tl l l.length)) h2
 have h4:val (l.take (tl l l.length))=val l:=h1
 rw [h4] at h3;exact h3.symm
theorem trim_len {l:List Nat}(h:Lim l):tl l l.length=(dig (val l)).length:=by rw [<- trim_dig h,trim_length]
theorem dig_len_le {x n:Nat}(h:x<18446744073709551616 ^ n):(dig x).length<=n:=by
 induction n generalizing x with
 | zero=>
  have:x=0:=by simpa using h
  rw [this,dig_zero];exact zqj _
 | succ n ih=>
  rcases zqh x with rfl|h0
  ·rw [dig_zero];exact zqr _
  ·rw [dig_pos x h0,List.length_cons];have:=ih (x:=x / 18446744073709551616) (by rw [Nat.pow_succ] at h;omega)
   omega
theorem dig_len_ge {x n:Nat}(h:18446744073709551616 ^ n<=x):n<(dig x).length:=by
 rcases zqi n (dig x).length with h1|h1
 ·exact h1
 ·have h2:=val_lt (dig_lim x)
  rw [val_dig] at h2;have h3:=Nat.pow_le_pow_right (show 0<18446744073709551616 by omega) h1
  omega
theorem dig_len_iff (x n:Nat):(dig x).length<=n↔x<18446744073709551616 ^ n:=by
 constructor
 ·intro h;rcases zqi x (18446744073709551616 ^ n) with h1|h1
  ·exact h1
  ·have:=dig_len_ge h1
   omega
 ·exact dig_len_le
theorem dig_len_mono {x y:Nat}(h:x<=y):(dig x).length<=(dig y).length:=
 dig_len_le (zqu h (by have:=val_lt (dig_lim y);rwa [val_dig] at this))
theorem dig_len0 {x:Nat}:(dig x).length=0↔x=0:=by
 constructor
 ·intro h;have h1:dig x=[]:=List.eq_nil_of_length_eq_zero h
  rw [<- val_dig x,h1];rfl
 ·rintro rfl;rw [dig_zero];rfl
theorem dig_low (x k:Nat)(h:k+1=(dig x).length):18446744073709551616 ^ k<=x:=by
 rcases zqi x (18446744073709551616 ^ k) with h1|h1
 ·have:=dig_len_le h1
  omega
 ·exact h1
theorem lt_of_get {α:Type}{l:List α}{k:Nat}{b:α}(hk:l[k]?=some b):k<l.length:=by
 rcases zqi k l.length with h|h
 ·exact h
 ·rw [List.getElem?_eq_none h] at hk;cases hk
def at0 (l:List Nat)(k:Nat):Nat:=l[k]?.getD 0
theorem at0_some {l:List Nat}{k a:Nat}(h:l[k]?=some a):at0 l k=a:=by unfold at0;rw [h];rfl
theorem at0_none {l:List Nat}{k:Nat}(h:l.length<=k):at0 l k=0:=by unfold at0;rw [List.getElem?_eq_none h];rfl
theorem at0_lt {l:List Nat}(h:Lim l)(k:Nat):at0 l k<18446744073709551616:=by
 rcases zqi k l.length with h1|h1
 ·exact zqu (Nat.le_of_eq (at0_some (zql h1))) (h.at (zql h1))
 ·rw [at0_none h1];decide
theorem val_take_at0 (l:List Nat)(k:Nat):val (l.take (k+1))=val (l.take k)+18446744073709551616 ^ k*at0 l k:=by
 rcases zqi k l.length with h1|h1
 ·rw [at0_some (zql h1),val_take_succ l k _ (zql h1)]
 ·rw [at0_none h1,Nat.mul_zero,zqp (by omega),zqp (by omega),Nat.add_zero]
theorem split24 (P t:Nat):P*(t % 18446744073709551616)+P*18446744073709551616*(t / 18446744073709551616)=P*t:=by
 rw [zqs,<- zqt,Nat.mod_add_div]
theorem sub_yes (X Y o:List Nat)(k bw d:Nat)(ho:o.length=k)(h:val o+val (Y.take k)=val (X.take k)+18446744073709551616 ^ k*bw)(hd:d+bw+at0 Y k=at0 X k):
  val (o++[d])+val (Y.take (k+1))=val (X.take (k+1))+18446744073709551616 ^ (k+1)*0:=by
 rw [val_snoc,ho,val_take_at0,val_take_at0,<- hd,zqt,zqt];omega
theorem sub_no (X Y o:List Nat)(k bw d:Nat)(ho:o.length=k)(h:val o+val (Y.take k)=val (X.take k)+18446744073709551616 ^ k*bw)(hd:d+bw+at0 Y k=at0 X k+18446744073709551616):
  val (o++[d])+val (Y.take (k+1))=val (X.take (k+1))+18446744073709551616 ^ (k+1)*1:=by
 rw [val_snoc,ho,val_take_at0,val_take_at0,Nat.pow_succ];have h1:18446744073709551616 ^ k*d+18446744073709551616 ^ k*bw+18446744073709551616 ^ k*at0 Y k=18446744073709551616 ^ k*at0 X k+18446744073709551616 ^ k*18446744073709551616:=by
  rw [<- zqt,<- zqt,hd,zqt]
 omega
theorem sub_end (X Y o:List Nat)(k bw:Nat)(hl:Lim o)(ho:o.length=k)(h:val o+val (Y.take k)=val (X.take k)+18446744073709551616 ^ k*bw)(hX:X.length<=k)(hY:Y.length<=k)(hle:val Y<=val X):val o=val X - val Y:=by
 rw [zqp hX,zqp hY] at h;have h1:=val_lt hl
 rw [ho] at h1;rcases zqh bw with rfl|hb
 ·omega
 ·have h2:=Nat.mul_le_mul_left (18446744073709551616 ^ k) hb
  rw [Nat.mul_one] at h2;omega
theorem set_mid (o X:List Nat)(k d:Nat)(ho:o.length=k)(hk:k<X.length):(o++X.drop k).set k d=(o++[d])++X.drop (k+1):=by
 rw [List.set_append_right _ _ (by omega),ho,Nat.sub_self,List.drop_eq_getElem_cons hk,zqa]
 rfl
theorem get_mid (o X:List Nat)(k a:Nat)(ho:o.length=k)(h:X[k]?=some a):(o++X.drop k)[k]?=some a:=by
 rw [zqo (by omega),ho,Nat.sub_self,List.getElem?_drop]
 exact h
end Wo
open Go.RowKit
def encW (n:Nat):Value:=.int .u64 (n:Int)
def wds (l:List Nat):List Value:=l.map encW
theorem z4ap (l:List Nat):(wds l).length=l.length:=List.length_map _
theorem Sl.wd {w:World}{B:Nat}{A:Option Addr}{l:List Nat}(h:Sl w B A (wds l)){k:Nat}{b:Nat}(hk:l[k]?=some b):∃ ad,A=some ad/\ad.block<B/\w.cell? (ad.add k)=some (.int .u64 (b:Int)):=by
 have hlt:=z0d hk
 obtain ⟨ad,e,hb,hc⟩:=h (by rw [z4ap];omega)
 exact ⟨ad,e,hb,hc k _ (by unfold wds;rw [List.getElem?_map,hk];rfl)⟩
theorem z9bi:(Tryz.prog.info? 139).map (fun i=>(i.zero,i.size,i.bytes))=some (some (.int .u64 0),1,8):=by kernel_rfl
def Tab (w:World):Prop:=0<w.heap.size/\∀ k v:Nat,Lib.deBruijn64tab[k]?=some v->w.cell? ⟨0,k,none⟩=some (.int .u8 (v:Int))
theorem Tab.below {w w':World}(h:Tab w)(hb:Below w.heap.size w w'):Tab w':=⟨zqv h.1 hb.size,fun k v hk=>(hb.cell (p:=⟨0,k,none⟩) h.1).trans (h.2 k v hk)⟩
theorem z8bm (x:Nat)(w:World)(h0:0<x)(hx:x<18446744073709551616)(ht:Tab w):Calls Tryz.prog 149 #[.int .u64 (x:Int)] w fun e w'=>e=.returned (.int .i64 (Lib.ctz 64 x:Int))/\w=w':=by
 have hne:((x:Int) == 0)=false:=z8t h0
 obtain ⟨k,hk⟩:∃ k,Lib.ctz 64 x=k:=⟨_,rfl⟩
 obtain ⟨hlow,hk64⟩:=Lib.lowest_bit 64 x (by omega) hx
 rw [hk] at hlow hk64 ⊢
 obtain ⟨y,hy⟩:∃ y:Nat,18446744073709551616 - x=y:=⟨_,rfl⟩
 have HNeg:Hid (IntKind.u64.wrap (-(x:Int))=(y:Int)):=by
  unfold Hid;rw [IntKind.wrap_u64];omega
 obtain ⟨t,ht2⟩:∃ t:Nat,2 ^ k=t:=⟨_,rfl⟩
 have HAnd:Hid (bits .and .u64 (x:Int) (y:Int)=(t:Int)):=by
  unfold Hid;rw [u64_and_nat x y hx (by omega),<- ht2,<- hlow,<- hy]
 obtain ⟨hq,hv⟩:=Lib.deBruijn64_at k hk64
 rw [ht2] at hq hv;obtain ⟨p,hp⟩:∃ p:Nat,t*285870213051353865 % 18446744073709551616=p:=⟨_,rfl⟩
 rw [hp] at hq hv;have HMul:Hid (IntKind.u64.wrap ((t:Int)*285870213051353865)=(p:Int)):=by
  unfold Hid;rw [IntKind.wrap_u64];omega
 obtain ⟨q,hq2⟩:∃ q:Nat,p / 288230376151711744=q:=⟨_,rfl⟩
 rw [hq2] at hq hv;have hshr:(p:Int) / 288230376151711744=(q:Int):=by omega
 have hc:=ht.2 q k (by rw [zql (by exact hq)];rw [List.getD_eq_getElem?_getD,zql (by exact hq)] at hv;exact congrArg some hv)
 have hq64:(q:Int)<64:=by omega
 clear hlow hy ht2 hp hq2 hv hk;have hneg:=HNeg.out;have hand:=HAnd.out;have hmul:=HMul.out;go_enter Tryz.func149,Tryz.ntmps149
 go_wp2_with fail;go_ret;exact ⟨rfl,rfl⟩
structure Wn (W:World)(base g o n c:Nat)(l:List Nat):Prop where
 len:l.length=n
 cap:n<=c
 big:n<=1000
 cbig:c<=9223372036854775807
 blk:base<=g/\g<W.heap.size
 cel:∀ k x:Nat,l[k]?=some x->W.cell? ⟨g,o+k,none⟩=some (.int .u64 (x:Int))
 frz:∀ k:Nat,k<n->W.frozen? ⟨g,o+k,none⟩=false
 lim:Wo.Lim l
section
variable {W W':World}{base g o n c:Nat}{l:List Nat}
theorem Wn.keep (h:Wn W base g o n c l)(hs:W.heap.size<=W'.heap.size)(hb:W'.heap[g]?=W.heap[g]?):Wn W' base g o n c l:=
 ⟨h.len,h.cap,h.big,h.cbig,⟨h.blk.1,zqv h.blk.2 hs⟩,fun k x hk=>(World.cell?_of_block (a:=⟨g,o+k,none⟩) hb).trans (h.cel k x hk),fun k hk=>(World.frozen?_of_block (a:=⟨g,o+k,none⟩) hb).trans (h.frz k hk),h.lim⟩
theorem Wn.below (h:Wn W base g o n c l)(hb:Below W.heap.size W W'):Wn W' base g o n c l:=h.keep hb.size (hb.block g h.blk.2)
theorem Wn.other (h:Wn W base g o n c l){r:Option Nat}(hg:W.grownBy W' r)(hr:r≠some g):Wn W' base g o n c l:=h.keep hg.size (hg.block g h.blk.2 (fun e=>hr e.symm))
theorem Wn.drewN (h:Wn W base g o n c l)(k:Nat):Wn (W.drewN k) base g o n c l:=h.below (z0w (Below.refl _ _) k)
theorem Wn.take (h:Wn W base g o n c l){k:Nat}(hk:k<=n):Wn W base g o k c (l.take k):=
 ⟨by rw [zqw,h.len];omega,by have:=h.cap;omega,by have:=h.big;omega,h.cbig,h.blk,(fun i x hi=>by
  rw [List.getElem?_take] at hi;by_cases e:i<k
  ·rw [if_pos e] at hi;exact h.cel i x hi
  ·rw [if_neg e] at hi;cases hi),fun i hi=>h.frz i (by omega),h.lim.take k⟩
theorem Wn.drop (h:Wn W base g o n c l){k:Nat}(hk:k<=n):Wn W base g (o+k) (n - k) (c - k) (l.drop k):=
 ⟨by rw [List.length_drop,h.len],by have:=h.cap;omega,by have:=h.big;omega,by have:=h.cbig;omega,h.blk,(fun i x hi=>by
  rw [List.getElem?_drop] at hi;rw [Nat.add_assoc];exact h.cel _ x hi),fun i hi=>by rw [Nat.add_assoc];exact h.frz _ (by omega),h.lim.drop k⟩
theorem Wn.put (h:Wn W base g o n c l)(k x:Nat)(hk:k<n)(hx:x<18446744073709551616):Wn (W.setCell ⟨g,o+k,none⟩ (.int .u64 (x:Int))) base g o n c (l.set k x):=by
 refine ⟨by rw [List.length_set];exact h.len,h.cap,h.big,h.cbig,⟨h.blk.1,by simpa [World.setCell] using h.blk.2⟩,fun i y hi=>?_,fun i hi=>by rw [World.frozen?_setCell];exact h.frz i hi,h.lim.set k hx⟩
 obtain ⟨z,hz⟩:∃ z,l[k]?=some z:=⟨_,zql (by rw [h.len];exact hk)⟩
 by_cases e:i=k
 ·subst e
  rw [List.getElem?_set_self (by rw [h.len];exact hk)] at hi
  obtain rfl:=zqk hi
  exact z0k _ (h.cel i z hz)
 ·rw [zqf (fun e'=>e e'.symm)] at hi
  rw [World.cell?_setCell_other _ _ _ _ (fun e2=>by have:=congrArg Addr.off e2;simp only at this;omega)]
  exact h.cel i y hi
end
theorem z3o (base g o n c:Nat)(l:List Nat)(w:World)(h:Wn w base g o n c l):
  Calls Tryz.prog 138 #[.slice (some ⟨g,o,none⟩) n c] w fun e w'=>e=.returned (.slice (some ⟨g,o,none⟩) (Wo.tl l n) c)/\w=w':=by
 have hnc:=h.cap;have hnb:=h.big;have hcb:=h.cbig;have H:=zh h;clear h;go_enter Tryz.func138,Tryz.ntmps138
 go_wp2_with fail;go_loop [0] (fun v=>∃ k:Nat,k<=n/\v=.slice (some ⟨g,o,none⟩) k c/\Hid (Wo.tl l k=Wo.tl l n)) (fun v=>slen v)
 case atStart=>exact ⟨n,zqj _,rfl,rfl⟩
 case round=>
  obtain ⟨k,hk,rfl,HT⟩:=hrel;rcases zqh k with rfl|hk0
  ·go_wp2_with fail;go_ret;have:=HT.out
   exact ⟨by rw [<- this];rfl,rfl⟩
  ·have hd:decide (0<(k:Int))=true:=zt (by omega)
   obtain ⟨b,hb⟩:=z0m l (k - 1) (by rw [H.out.len];omega)
   have hc:=H.out.cel _ _ hb
   by_cases hb0:b=0
   ·have ht:Hid (Wo.tl l (k - 1)=Wo.tl l n):=by
     unfold Hid;rw [<- HT.out,<- Wo.tl_zero l (k - 1) (by rw [hb,hb0]),show k - 1+1=k from by omega]
    subst hb0
    clear hb;go_wp2_with fail;go_round
    case rel=>exact ⟨k - 1,by omega,rfl,ht⟩
    case measure=>simp [slen];omega
   ·have ht:Hid (Wo.tl l n=k):=by
     unfold Hid;rw [<- HT.out,show k=k - 1+1 from by omega]
     exact Wo.tl_stop l (k - 1) (by rw [hb];intro e;exact hb0 (zqk e))
    have hne:((b:Int) == 0)=false:=by rw [beq_eq_false_iff_ne];omega
    clear hb hb0;go_wp2_with fail;go_ret;exact ⟨by rw [ht.out];rfl,rfl⟩
namespace Wo
set_option maxHeartbeats 8000000
def Odd2 (Z z:Nat):Prop:=∃ m,Z=2 ^ z*(2*m+1)
theorem odd2_word (k t x v Z m:Nat)(hx:x=2 ^ t*(2*m+1))(ht:t<64)(hZ:Z=18446744073709551616 ^ k*(x+18446744073709551616*v)):Odd2 Z (64*k+t):=by
 refine ⟨m+2 ^ (63 - t)*v,?_⟩
 have e1:18446744073709551616 ^ k=2 ^ (64*k):=by rw [Nat.pow_mul]
 have e2:(18446744073709551616:Nat)=2 ^ t*(2*2 ^ (63 - t)):=by
  rw [<- Nat.pow_succ',<- Nat.pow_add,show t+(63 - t+1)=64 by omega]
 have e3:x+18446744073709551616*v=2 ^ t*(2*(m+2 ^ (63 - t)*v)+1):=by
  rw [hx];conv=>lhs;rhs;rw [e2]
  rw [zqs,<- zqt];congr 1
  rw [zqt,zqs];omega
 rw [hZ,e1,e3,Nat.pow_add,zqs]
theorem odd2_ctz (x:Nat)(h0:0<x)(hx:x<18446744073709551616):∃ m,x=2 ^ Lib.ctz 64 x*(2*m+1)/\Lib.ctz 64 x<64:=by
 obtain ⟨m,hm,hk⟩:=Lib.ctzFrom_spec 64 x h0 hx
 have e:Lib.ctz 64 x=Lib.ctzFrom 64 x:=by unfold Lib.ctz;rw [if_neg (by omega)]
 exact ⟨m,by rw [e];exact hm,by rw [e];exact hk⟩
end Wo
theorem z4t (base g o n c:Nat)(l:List Nat)(w:World)(h:Wn w base g o n c l)(ht:Tab w)(h0:0<Wo.val l):
  Calls Tryz.prog 139 #[.slice (some ⟨g,o,none⟩) n c] w fun e w'=>∃ z:Nat,e=.returned (.int .i64 z)/\Wo.Odd2 (Wo.val l) z/\z<64*n/\w=w':=by
 have hnb:=h.big;have H:=zh h;have HTb:=zh ht;have HV0:=zh h0;clear h ht h0;go_enter Tryz.func139,Tryz.ntmps139
 go_wp2_with fail;go_loop [8,3] (fun i s=>∃ k:Nat,k<=n/\i=.int .i64 k/\s=.int .i64 ((64*k:Nat):Int)/\Hid (Wo.val l=18446744073709551616 ^ k*Wo.val (l.drop k))) (fun i _=>n - (intOf i).toNat)
 case atStart=>exact ⟨0,zqr _,rfl,rfl,by unfold Hid;simp⟩
 case round=>
  obtain ⟨k,hk,rfl,rfl,HE⟩:=hrel;rcases zqi k n with hkn|hkn
  ·obtain ⟨x,hx⟩:=z0m l k (by rw [H.out.len];exact hkn)
   have hc:=H.out.cel _ _ hx
   have hxl:=H.out.lim.at hx
   have hd:=Wo.val_drop_cons l k x hx
   rcases zqh x with rfl|hx0
   ·have HE2:Hid (Wo.val l=18446744073709551616 ^ (k+1)*Wo.val (l.drop (k+1))):=by
     unfold Hid;rw [HE.out,hd,Nat.pow_succ,Nat.zero_add,zqs]
    clear hx hd;go_wp2_with fail;go_round
    case rel=>exact ⟨k+1,by omega,by go_num,z0q (by omega),HE2⟩
    case measure=>simp [intOf];omega
   ·obtain ⟨m,hm,hm64⟩:=Wo.odd2_ctz x hx0 hxl
    have HO:=zh (Wo.odd2_word k (Lib.ctz 64 x) x _ (Wo.val l) m hm hm64 (by rw [HE.out,hd]))
    have HTz:=zh (z8bm x w hx0 hxl HTb.out)
    obtain ⟨t,ht⟩:∃ t,Lib.ctz 64 x=t:=⟨_,rfl⟩
    rw [ht] at HO HTz hm64;have hne:((x:Int) != 0)=true:=by rw [bne_iff_ne];omega
    clear hx hd hm ht;go_wp2_with fail;refine HTz.out.mono ?_;rintro e w' ⟨rfl,rfl⟩;go_wp2_with fail;go_ret;exact ⟨64*k+t,z6b (by omega),HO.out,by omega,rfl⟩
  ·exfalso
   have e:=HE.out;rw [List.drop_of_length_le (by rw [H.out.len];exact hkn)] at e
   have:=HV0.out
   simp [Wo.val] at e
   omega
end Go.Proofs.YtpmofjomadibmaaGreatDoor
