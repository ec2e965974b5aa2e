/- Xq Xr Xt -/
import Derived.Test.YtpmofjomadibmaaGreatDoorR18
namespace Go.Proofs.YtpmofjomadibmaaGreatDoor
set_option maxHeartbeats 8000000
open Go.RowKit Go.Sort
open Go.ChangeMaps (setBlock heap_setBlock_same heap_setBlock_other)
set_option linter.unusedVariables false
set_option maxRecDepth 100000
open Cl
theorem z0am {w0 w:World}{g:Option Nat}{M:List (Nat×Value)}{L:List Ob}{O:List Rw}(h:Ow w0 w g M L O)(a b k:Int):Calls Tryz.prog 21 #[.int .i64 a,.int .i64 b,.int .i64 k] w (z8k w0 g M L O (z6h a b k)):=by
 unfold z6h;by_cases h1:a<0∨40<a∨b<1∨4096<b
 ·rw [if_pos h1];exact z7s h a b k h1
 ·rw [if_neg h1];by_cases h2:k≤0
  ·rw [if_pos h2];exact z0an h a b k (by omega) (by omega) h2
  ·rw [if_neg h2];by_cases h3:a<k
   ·rw [if_pos h3];exact z8w h a b k (by omega) (by omega) (by omega)
   ·rw [if_neg h3];obtain ⟨x,rfl⟩:=Int.eq_ofNat_of_zero_le (a:=a) (by omega)
    obtain ⟨y,rfl⟩:=Int.eq_ofNat_of_zero_le (a:=b) (by omega)
    obtain ⟨z,rfl⟩:=Int.eq_ofNat_of_zero_le (a:=k) (by omega)
    exact z0al h x y z (by omega) (by omega) (by omega)
namespace Cl
set_option maxHeartbeats 8000000
structure Vd where
 k:Int
 p:Pl
 cp:Int
 h:Int
 x:Nat
 y:Nat
def Vd.vs (v:Vd)(A1:Option Addr)(n1 c1:Nat)(A2:Option Addr)(n2 c2:Nat):Array Value:=#[.int .i64 v.k,.int .i64 v.p.so,.int .i64 v.p.ch,.int .i64 v.p.ra,.int .i64 v.p.ba,.int .i64 v.p.ro,.int .i64 v.p.co,.int .i64 v.cp,.int .i64 v.h,.slice A1 n1 c1,.slice A2 n2 c2]
def vd0:Vd:=⟨0,⟨0,0,0,0,0,0⟩,0,0,1,1⟩
def fst (l:List Sn)(g:List Nat):Sn:=(l[g.headD 0]?).getD ⟨⟨0,0,0,0,0,0⟩,0,0⟩
def chc (s:Pl)(l:List Sn)(k:Int):Nat×Nat×Int:=z6h (l.length:Int) (prt k s) ((z6e k l).length:Int)
def cV (t:Nat×Nat×Int)(p q:List Int):Int:=cmpV (Na.up (Na.dig t.1)) (Na.up (Na.dig t.2.1)) p q
def cE (t:Nat×Nat×Int)(p q:List Int):Int:=cmpE (Na.up (Na.dig t.1)) (Na.up (Na.dig t.2.1)) p q
def jst (s:Pl)(p q:List Int)(l:List Sn)(k:Int):Option Vd:=
 if (z6e k l).length<2 then none else
 if cE (chc s l k) p q=0∧cV (chc s l k) p q≤0 then some ⟨k,wh k (fst l (z6e k l)).p,(fst l (z6e k l)).cp,((z6e k l).length:Int),(chc s l k).1,(chc s l k).2.1⟩ else none
def z9r (s:Pl)(p q:List Int)(l:List Sn):Nat→Nat→Vd
 | _,0=>vd0
 | k,f+1=>match jst s p q l (k:Int) with
  | some v=>v
  | none=>z9r s p q l (k+1) f
def jud (s:Pl)(p q:List Int)(l:List Sn):Vd:=z9r s p q l 1 5
theorem z9p {s:Pl}{p q:List Int}{l:List Sn}{i:Nat}{v:Vd}(hi:i≤5)(h:jst s p q l (i:Int)=some v):z9r s p q l i (6 - i)=v:=by
 rw [show 6 - i=(5 - i)+1 from by omega]
 unfold z9r;rw [h]
theorem z4h {s:Pl}{p q:List Int}{l:List Sn}{i:Nat}(hi:i≤5)(h:jst s p q l (i:Int)=none):z9r s p q l i (6 - i)=z9r s p q l (i+1) (6 - (i+1)):=by
 rw [show 6 - i=(5 - i)+1 from by omega,show 6 - (i+1)=5 - i from by omega]
 conv=>lhs;unfold z9r
 rw [h]
theorem z6ax {s:Pl}{p q:List Int}{l:List Sn}{k:Int}(h:(z6e k l).length<2):jst s p q l k=none:=by unfold jst;rw [if_pos h]
theorem z2ai {s:Pl}{p q:List Int}{l:List Sn}{k:Int}(h:¬ (cE (chc s l k) p q=0∧cV (chc s l k) p q≤0)):jst s p q l k=none:=by
 unfold jst;rw [if_neg h];split <;> rfl
theorem z6aw {s:Pl}{p q:List Int}{l:List Sn}{k:Int}(h1:¬ (z6e k l).length<2)(h:cE (chc s l k) p q=0∧cV (chc s l k) p q≤0):jst s p q l k=some ⟨k,wh k (fst l (z6e k l)).p,(fst l (z6e k l)).cp,((z6e k l).length:Int),(chc s l k).1,(chc s l k).2.1⟩:=by
 unfold jst;rw [if_neg h1,if_pos h]
theorem z4bm {x y:Nat}(h:(frM x y).2.2≠0):(frM x y).1=0∧(frM x y).2.1=0:=by
 unfold frM at *
 by_cases hy:y=0
 ·rw [if_pos hy];exact ⟨rfl,rfl⟩
 ·rw [if_neg hy] at h;exact absurd rfl h
theorem z7aq {a b k:Int}(h:(z6h a b k).2.2≠0):(z6h a b k).1=0∧(z6h a b k).2.1=0:=by
 unfold z6h at *
 by_cases h1:a<0∨40<a∨b<1∨4096<b
 ·rw [if_pos h1];exact ⟨rfl,rfl⟩
 ·rw [if_neg h1] at h ⊢
  by_cases h2:k≤0
  ·rw [if_pos h2] at h;exact absurd rfl h
  ·rw [if_neg h2] at h ⊢
   by_cases h3:a<k
   ·rw [if_pos h3] at h;exact absurd rfl h
   ·rw [if_neg h3] at h ⊢
    exact z4bm h
theorem z6bq {t:Nat×Nat×Int}{p q:List Int}(h:t.1=0∧t.2.1=0):cE t p q≠0:=by
 unfold cE cmpE;rw [h.1,h.2];have:rv (Na.up (Na.dig 0)) (Na.up (Na.dig 0))=false:=by decide +kernel
 rw [this,Bool.false_and,if_neg (by decide)]
 decide
theorem z4bq {s:Pl}{p q:List Int}{l:List Sn}{k:Int}(h:(chc s l k).2.2≠0):cE (chc s l k) p q≠0:=z6bq (z7aq h)
theorem z8c {gs:List (Sp×List Nat)}:∀ i,z5q gs i=[]∨∃ p∈gs,z5q gs i=p.2
 | 0=>.inl rfl
 | i+1=>by
  have ih:=z8c (gs:=gs) i
  have e:z5q gs (i+1)=(match gs[i]? with | some p=>if (z5q gs i).length<p.2.length then p.2 else z5q gs i | none=>z5q gs i):=rfl
  rw [e];split
  ·next p hp=>
   split
   ·exact .inr ⟨p,List.mem_of_getElem? hp,rfl⟩
   ·exact ih
  ·exact ih
theorem z6au {k:Int}{l:List Sn}{h:Nat}{t:List Nat}(e:z6e k l=h :: t):∃ x,l[h]?=some x∧fst l (z6e k l)=x:=by
 rcases z8c (gs:=z3i k l l.length) (z3i k l l.length).length with h0 | ⟨p,hp,h0⟩
 ·unfold z6e at e;rw [h0] at e;cases e
 ·obtain ⟨h',t',y,e2,hlt,hy,_⟩:=z3h k l l.length p hp
  have:h :: t=h' :: t':=by rw [← e,← e2];exact h0
  injection this with e3 e4
  subst e3
  refine ⟨y,hy,?_⟩
  unfold fst;rw [e]
  show (l[h]?).getD _=y
  rw [hy];rfl
theorem z4bi {k:Int}{l:List Sn}:(z6e k l).length≤l.length:=z6o (fun p hp=>(z3m k l l.length).1 p hp) _
end Cl
namespace Cl
set_option maxHeartbeats 8000000
def VdR (w0:World)(g:Option Nat)(M:List (Nat×Value))(L:List Ob)(O:List Rw)(v:Vd)(en:Ending)(w':World):Prop:=
 ∃ (A1:Option Addr) (n1 c1:Nat) (A2:Option Addr) (n2 c2:Nat),en=.returned (.agg (v.vs A1 n1 c1 A2 n2 c2))∧Ow w0 w' g M (L++[⟨A1,n1,c1,z0c (Na.dig v.x)⟩]++[⟨A2,n2,c2,z0c (Na.dig v.y)⟩]) O
end Cl
theorem of11:ofF 1 1=(1,1,0):=by decide +kernel
theorem z5an {w0 w:World}{g:Option Nat}{M:List (Nat×Value)}{L:List Ob}{O:List Rw}(h:Ow w0 w g M L O)(i:Nat){gb n c:Nat}{e:TypeId}{z0 z1 z2 z3 z4 z5 z6 z7 z8 z9 z10:Value}(hi:O[i]?=some ⟨some ⟨gb,0,none⟩,n,c,e,[z0,z1,z2,z3,z4,z5,z6,z7,z8,z9,z10]⟩)(v0 v1 v2 v3 v4 v5 v6 v7 v8 v9 v10:Value):Ow w0 (((((((((((w.setCell ⟨gb,0,none⟩ v0).setCell ⟨gb,1,none⟩ v1).setCell ⟨gb,2,none⟩ v2).setCell ⟨gb,3,none⟩ v3).setCell ⟨gb,4,none⟩ v4).setCell ⟨gb,5,none⟩ v5).setCell ⟨gb,6,none⟩ v6).setCell ⟨gb,7,none⟩ v7).setCell ⟨gb,8,none⟩ v8).setCell ⟨gb,9,none⟩ v9).setCell ⟨gb,10,none⟩ v10) g M L (O.set i ⟨some ⟨gb,0,none⟩,n,c,e,[v0,v1,v2,v3,v4,v5,v6,v7,v8,v9,v10]⟩):=by
 have h0:=h.put i hi 0 v0
 have h1:=h0.put i (z0a hi) 1 v1
 have h2:=h1.put i (z0a (z0a hi)) 2 v2
 have h3:=h2.put i (z0a (z0a (z0a hi))) 3 v3
 have h4:=h3.put i (z0a (z0a (z0a (z0a hi)))) 4 v4
 have h5:=h4.put i (z0a (z0a (z0a (z0a (z0a hi))))) 5 v5
 have h6:=h5.put i (z0a (z0a (z0a (z0a (z0a (z0a hi)))))) 6 v6
 have h7:=h6.put i (z0a (z0a (z0a (z0a (z0a (z0a (z0a hi))))))) 7 v7
 have h8:=h7.put i (z0a (z0a (z0a (z0a (z0a (z0a (z0a (z0a hi)))))))) 8 v8
 have h9:=h8.put i (z0a (z0a (z0a (z0a (z0a (z0a (z0a (z0a (z0a hi))))))))) 9 v9
 have h10:=h9.put i (z0a (z0a (z0a (z0a (z0a (z0a (z0a (z0a (z0a (z0a hi)))))))))) 10 v10
 simp only [List.set_set,zqd,zqe] at h10;exact h10
def z1bd (s:Pl)(p q:List Int)(l:List Sn)(w0:World)(g:Option Nat)(M:List (Nat×Value))(L:List Ob)(O:List Rw)(x:Value)(wr:World):Prop:=
 ∃ i:Nat,1≤i∧i≤6∧x=.int .i64 (i:Int)∧Hid (Ow w0 wr g M L O)∧Hid (jud s p q l=z9r s p q l i (6 - i))
theorem z6ba {w0 w:World}{g:Option Nat}{M:List (Nat×Value)}{L:List Ob}{O:List Rw}{A A2 A3:Option Addr}{n c m c2 n3 c3 e3:Nat}{p q:List Int}{l:List Sn}(s:Pl)(hs:shV s)(h:Ow w0 w g M L O)(i j k:Nat)(hi:L[i]?=some ⟨A,n,c,z0r p⟩)(hj:L[j]?=some ⟨A2,m,c2,z0r q⟩)(hk:L[k]?=some ⟨A3,n3*8,e3,fl l⟩)(hn3:n3≤100)(ht:Tab w0):
  Calls Tryz.prog 35 #[.agg s.vs,.agg #[.slice A n c,.slice A2 m c2],.slice A3 n3 c3] w (VdR w0 g M L O (jud s p q l)):=by
 have H0:=((h.arr s.vs 6 rfl (by omega) 33).pair (.slice A n c) (.slice A2 m c2) 27).arr #[.int .i64 0,.int .i64 0,.int .i64 0,.int .i64 0,.int .i64 0,.int .i64 0,.int .i64 0,.int .i64 0,.int .i64 0,.slice none 0 0,.slice none 0 0] 11 rfl (by omega) 42
 simp only [World.size_alloc,zqa,zqb,zqc] at H0;have HLn:l.length=n3:=by
  have a:=(h.sl hk).1
  rw [z6f] at a;omega
 have HS:=zh hs;have HK:=zh hk;have HI:=zh hi;have HJ:=zh hj;have HNl:=zh HLn;have HT:=zh ht;obtain ⟨so,ch,ra,ba,ro,co⟩:=s;unfold Pl.vs at *
 have HO:Hid (Ow w0 (((w.alloc (.cells #[.int .i64 so,.int .i64 ch,.int .i64 ra,.int .i64 ba,.int .i64 ro,.int .i64 co] 33)).alloc (.cells #[.slice A n c,.slice A2 m c2] 27)).alloc (.cells #[.int .i64 0,.int .i64 0,.int .i64 0,.int .i64 0,.int .i64 0,.int .i64 0,.int .i64 0,.int .i64 0,.int .i64 0,.slice none 0 0,.slice none 0 0] 42)) g M L (O++[(⟨some ⟨w.heap.size,0,none⟩,6,6,33,[.int .i64 so,.int .i64 ch,.int .i64 ra,.int .i64 ba,.int .i64 ro,.int .i64 co]⟩:Rw),Rw.pair (w.heap.size+1) 27 (.slice A n c) (.slice A2 m c2),(⟨some ⟨w.heap.size+1+1,0,none⟩,11,11,42,[.int .i64 0,.int .i64 0,.int .i64 0,.int .i64 0,.int .i64 0,.int .i64 0,.int .i64 0,.int .i64 0,.int .i64 0,.slice none 0 0,.slice none 0 0]⟩:Rw)])):=H0
 clear H0 hs hi hj hk HLn h ht;go_enter Tryz.func35,Tryz.ntmps35
 go_wp2_with fail;go_loopw [7] (fun x wr=>z1bd ⟨so,ch,ra,ba,ro,co⟩ p q l w0 g M L (O++[(⟨some ⟨w.heap.size,0,none⟩,6,6,33,[.int .i64 so,.int .i64 ch,.int .i64 ra,.int .i64 ba,.int .i64 ro,.int .i64 co]⟩:Rw),Rw.pair (w.heap.size+1) 27 (.slice A n c) (.slice A2 m c2),(⟨some ⟨w.heap.size+1+1,0,none⟩,11,11,42,[.int .i64 0,.int .i64 0,.int .i64 0,.int .i64 0,.int .i64 0,.int .i64 0,.int .i64 0,.int .i64 0,.int .i64 0,.slice none 0 0,.slice none 0 0]⟩:Rw)]) x wr) (fun x _=>7 - (intOf x).toNat)
 case atStart=>exact ⟨1,by omega,by omega,rfl,HO,rfl⟩
 case round=>
  clear HO;obtain ⟨kk,h1,h6,rfl,HO,HF⟩:=hrel;rcases zqi 5 kk with h5 | h5
  ·obtain rfl:kk=6:=by omega
   clear h1 h6 h5;have HR:Hid (jud ⟨so,ch,ra,ba,ro,co⟩ p q l=vd0):=HF.out
   have HC:=zh (z5ai HO.out 1 1 (by omega) (by omega) HT.out)
   rw [of11] at HC;clear HF HO;go_wp2_with fail;refine HC.out.mono ?_;rintro e w3 ⟨B1,n1,d1,B2,n2,d2,rfl,G⟩;have H7:=G.pair (.slice B1 n1 d1) (.slice B2 n2 d2) 27
   simp only [zqa,zqb,zqc] at H7;clear HC G;have c0:=H7.p0 (O.length+3) (zk rfl)
   have c1:=H7.p1 (O.length+3) (zk rfl)
   obtain ⟨v0,v1,v2,v3,v4,v5,v6,v7,v8,v9,v10⟩:=zc11 (H7.row (O.length+2) (zk rfl));obtain ⟨f0,f1,f2,f3,f4,f5,f6,f7,f8,f9,f10⟩:=zf11 (H7.row (O.length+2) (zk rfl));have H8:=z5an H7 (O.length+2) (zk rfl) (.int .i64 0) (.int .i64 0) (.int .i64 0) (.int .i64 0) (.int .i64 0) (.int .i64 0) (.int .i64 0) (.int .i64 0) (.int .i64 0) (.slice B1 n1 d1) (.slice B2 n2 d2)
   rw [z0n] at H8;simp only [zqe,zqd] at H8;obtain ⟨z0,z1,z2,z3,z4,z5,z6,z7,z8,z9,z10⟩:=zc11 (H8.row (O.length+2) (zk rfl));have HE:=zh H8.fewO;clear H7 H8;go_wp2_with fail;refine bodyPost_ret (v:=.agg #[.int .i64 0,.int .i64 0,.int .i64 0,.int .i64 0,.int .i64 0,.int .i64 0,.int .i64 0,.int .i64 0,.int .i64 0,.slice B1 n1 d1,.slice B2 n2 d2]) (by simp [results,Tryz.results35,go_sem,z0,z1,z2,z3,z4,z5,z6,z7,z8,z9,z10]) rfl ?_
   rw [HR.out];exact ⟨B1,n1,d1,B2,n2,d2,rfl,by rw [zqa];exact HE.out⟩
  ·have hd:decide ((kk:Int)≤5)=true:=zt (by omega)
   have HKd:Hid (kd (kk:Int)):=⟨by omega,by omega⟩
   have HK5:=zh h5;have hw1:IntKind.i64.wrap ((kk:Int)+1)=((kk+1:Nat):Int):=by rw [IntWalk.i64_in _ (by omega)];omega
   have HLg:=zh (z9ag (kk:Int) HKd.out A3 n3 c3 l wr HNl.out hn3 (HO.out.sl HK.out).2.2.2)
   obtain ⟨gl,hgl⟩:∃ z,z6e (kk:Int) l=z:=⟨_,rfl⟩
   have HGl:=zh hgl;rw [hgl] at HLg;clear hgl h1 h6 h5;go_wp2_with fail;refine HLg.out.mono ?_;rintro e w1 ⟨Ag,ng,cg,rfl,hng,how,hb⟩;have H1:=HO.out.add how hb
   clear HLg how hb HO;rcases zqi ng 2 with h2 | h2
   ·have hd2:decide ((ng:Int)<2)=true:=zt (by omega)
    have HN:Hid (jud ⟨so,ch,ra,ba,ro,co⟩ p q l=z9r ⟨so,ch,ra,ba,ro,co⟩ p q l (kk+1) (6 - (kk+1))):=by
     unfold Hid;rw [HF.out];exact z4h HK5.out (z6ax (by rw [HGl.out,hng];exact h2))
    have HE:=zh H1.fewO;clear H1 h2 hng;go_wp2_with fail;go_roundw
    case rel=>exact ⟨kk+1,by omega,Nat.succ_le_succ HK5.out,rfl,HE,HN⟩
    case measure=>
     have:=HK5.out
     simp [intOf]
     omega
   ·have hd2:decide ((ng:Int)<2)=false:=zn (by omega)
    simp only [zqa,zqb,zqc] at H1;obtain ⟨a0,a1,a2,a3,a4,a5⟩:=zc6 (H1.row (O.length+0) (zk rfl));have HP:=zh (fun W=>z5u (kk:Int) ⟨so,ch,ra,ba,ro,co⟩ HS.out W)
    unfold Pl.vs at HP;have HT0:Hid (chc ⟨so,ch,ra,ba,ro,co⟩ l (kk:Int)=z6h (n3:Int) (prt (kk:Int) ⟨so,ch,ra,ba,ro,co⟩) (ng:Int)):=by unfold Hid chc;rw [HNl.out,HGl.out,hng]
    go_wp2_with fail;refine (HP.out _).mono ?_
    rintro e w2 ⟨rfl,hb⟩;have H2:=H1.go hb
    clear a0 a1 a2 a3 a4 a5 hb H1 HP;have HC:=zh (z0ab H2 (n3:Int) (prt (kk:Int) ⟨so,ch,ra,ba,ro,co⟩) (ng:Int) HT.out)
    rw [← HT0.out] at HC;obtain ⟨t,ht⟩:∃ t,chc ⟨so,ch,ra,ba,ro,co⟩ l (kk:Int)=t:=⟨_,rfl⟩
    rw [ht] at HC;have HTt:=zh ht;clear ht;skip
    go_wp2_with fail;refine HC.out.mono ?_;rintro e w3 ⟨B1,n1,d1,B2,n2,d2,rfl,G⟩;have H4:=G.pair (.slice B1 n1 d1) (.slice B2 n2 d2) 27
    simp only [zqa,zqb,zqc] at H4;clear H2 HC G;have c0:=H4.p0 (O.length+4) (zk rfl)
    have c1:=H4.p1 (O.length+4) (zk rfl)
    have b0:=H4.p0 (O.length+1) (zk rfl)
    have b1:=H4.p1 (O.length+1) (zk rfl)
    have HM:=zh (z9ab (p:=Na.up (Na.dig t.1)) (q:=Na.up (Na.dig t.2.1)) H4 (L.length+0) (L.length+1) i j (by rw [z0b,z0g];rfl) (by rw [z0b,z0g];rfl) (by rw [z0v _ _ (z0f HI.out)];exact HI.out) (by rw [z0v _ _ (z0f HJ.out)];exact HJ.out) HT.out)
    obtain ⟨er,her⟩:∃ z,t.2.2=z:=⟨_,rfl⟩
    obtain ⟨cv,hcv⟩:∃ z,cmpV (Na.up (Na.dig t.1)) (Na.up (Na.dig t.2.1)) p q=z:=⟨_,rfl⟩
    obtain ⟨ce,hce⟩:∃ z,cmpE (Na.up (Na.dig t.1)) (Na.up (Na.dig t.2.1)) p q=z:=⟨_,rfl⟩
    rw [hcv,hce] at HM;rw [her];have HEr:=zh her;have HCv:Hid (cV t p q=cv):=hcv
    have HCe:Hid (cE t p q=ce):=hce
    clear her hcv hce H4;go_wp2_with fail;refine HM.out.mono ?_;rintro e w4 ⟨rfl,H5⟩;clear HM c0 c1 b0 b1;by_cases he:er=0
    ·subst he
     by_cases hc:ce=0
     ·subst hc
      rcases Int.lt_or_le 0 cv with h | h
      ·have g1:decide (0<cv)=true:=zt h
       have HN:Hid (jud ⟨so,ch,ra,ba,ro,co⟩ p q l=z9r ⟨so,ch,ra,ba,ro,co⟩ p q l (kk+1) (6 - (kk+1))):=by
        unfold Hid;rw [HF.out];exact z4h HK5.out (z2ai (by rw [HTt.out];rw [HCv.out];omega))
       have HE:Hid (Ow w0 w4 g M L (O++[(⟨some ⟨w.heap.size,0,none⟩,6,6,33,[.int .i64 so,.int .i64 ch,.int .i64 ra,.int .i64 ba,.int .i64 ro,.int .i64 co]⟩:Rw),Rw.pair (w.heap.size+1) 27 (.slice A n c) (.slice A2 m c2),(⟨some ⟨w.heap.size+1+1,0,none⟩,11,11,42,[.int .i64 0,.int .i64 0,.int .i64 0,.int .i64 0,.int .i64 0,.int .i64 0,.int .i64 0,.int .i64 0,.int .i64 0,.slice none 0 0,.slice none 0 0]⟩:Rw)])):=(Ow.fewO (O:=O++[(⟨some ⟨w.heap.size,0,none⟩,6,6,33,[.int .i64 so,.int .i64 ch,.int .i64 ra,.int .i64 ba,.int .i64 ro,.int .i64 co]⟩:Rw),Rw.pair (w.heap.size+1) 27 (.slice A n c) (.slice A2 m c2),(⟨some ⟨w.heap.size+1+1,0,none⟩,11,11,42,[.int .i64 0,.int .i64 0,.int .i64 0,.int .i64 0,.int .i64 0,.int .i64 0,.int .i64 0,.int .i64 0,.int .i64 0,.slice none 0 0,.slice none 0 0]⟩:Rw)]) (by simpa only [zqa,zqb,zqc] using H5)).less (fun o ho=>List.mem_append_left _ ho)
       clear H5;go_wp2_with fail;go_roundw
       case rel=>exact ⟨kk+1,by omega,Nat.succ_le_succ HK5.out,rfl,HE,HN⟩
       case measure=>
        have:=HK5.out
        simp [intOf]
        omega
      ·have g1:decide (0<cv)=false:=zn (by omega)
       obtain ⟨hh,tl,hgt⟩:∃ hh tl,gl=hh :: tl:=by
        cases gl with
        | nil=>simp at hng;omega
        | cons a b=>exact ⟨a,b,rfl⟩
       obtain ⟨x,hx,hfx⟩:=z6au (HGl.out.trans hgt)
       have hR:=H5.row (O.length+3) (zk rfl)
       obtain ⟨gb,hgb,_,_⟩:=z0u hR (by omega)
       obtain rfl:=hgb
       have y0:=hR.cells (g:=gb) rfl 0 (.int .i64 (hh:Int)) (by rw [hgt];rfl)
       rw [addz] at y0;obtain ⟨a,rfl,e0,e1,e2,e3,e4,e5,e6,e7⟩:=z5g (H5.sl (i:=k) (by rw [z0v _ _ (z0f HK.out)];exact HK.out)).2.2.2 hx
       have hhl:hh<n3:=by have:=z0f hx;have:=HNl.out;omega
       have hhI:(hh:Int)<(n3:Int):=by omega
       have hgI:(0:Int)<(ng:Int):=by omega
       have HWh:=zh (fun W=>z6r (kk:Int) x.p W)
       rw [zt HKd.out,z1bf HKd.out] at HWh;have HRs:Hid (jud ⟨so,ch,ra,ba,ro,co⟩ p q l=⟨(kk:Int),wh (kk:Int) x.p,x.cp,(ng:Int),t.1,t.2.1⟩):=by
        unfold Hid;rw [HF.out];refine z9p HK5.out ?_
        rw [z6aw (by rw [HGl.out,hng];omega) (by rw [HTt.out];exact ⟨HCe.out,by rw [HCv.out];exact h⟩),hfx,HGl.out,hng,HTt.out]
       obtain ⟨⟨x0,x1,x2,x3,x4,x5⟩,x6,x7⟩:=x
       simp only at e0 e1 e2 e3 e4 e5 e6 e7 HWh HRs
       obtain ⟨⟨q0,q1,q2,q3,q4,q5⟩,hq⟩:∃ z,wh (kk:Int) ⟨x0,x1,x2,x3,x4,x5⟩=z:=⟨_,rfl⟩
       rw [hq] at HWh HRs;unfold Pl.vs at HWh;have H6:=H5.arr #[.int .i64 x0,.int .i64 x1,.int .i64 x2,.int .i64 x3,.int .i64 x4,.int .i64 x5,.int .i64 x6,.int .i64 x7] 8 rfl (by omega) 40
       simp only [zqa,zqb,zqc] at H6;clear hR hx hfx hgt hq h hng H5;go_wp2_with fail;refine (HWh.out _).mono ?_
       rintro e w5 ⟨rfl,hb⟩;have H7:=(H6.go hb).arr #[.int .i64 q0,.int .i64 q1,.int .i64 q2,.int .i64 q3,.int .i64 q4,.int .i64 q5] 6 rfl (by omega) 38
       simp only [zqa,zqb,zqc] at H7;clear H6 hb HWh y0 e0 e1 e2 e3 e4 e5 e6 e7;obtain ⟨p0,p1,p2,p3,p4,p5⟩:=zc6 (H7.row (O.length+6) (zk rfl));have x6c:=(H7.row (O.length+5) (zk rfl)).cellAt 6 (by decide)
       have c0:=H7.p0 (O.length+4) (zk rfl)
       have c1:=H7.p1 (O.length+4) (zk rfl)
       obtain ⟨v0,v1,v2,v3,v4,v5,v6,v7,v8,v9,v10⟩:=zc11 (H7.row (O.length+2) (zk rfl));obtain ⟨f0,f1,f2,f3,f4,f5,f6,f7,f8,f9,f10⟩:=zf11 (H7.row (O.length+2) (zk rfl));have H8:=z5an H7 (O.length+2) (zk rfl) (.int .i64 (kk:Int)) (.int .i64 q0) (.int .i64 q1) (.int .i64 q2) (.int .i64 q3) (.int .i64 q4) (.int .i64 q5) (.int .i64 x6) (.int .i64 (ng:Int)) (.slice B1 n1 d1) (.slice B2 n2 d2)
       rw [z0n] at H8;simp only [zqe,zqd] at H8;obtain ⟨z0,z1,z2,z3,z4,z5,z6,z7,z8,z9,z10⟩:=zc11 (H8.row (O.length+2) (zk rfl));have HE:=zh H8.fewO;clear H7 H8;go_wp2_with fail;refine bodyPost_ret (v:=.agg #[.int .i64 (kk:Int),.int .i64 q0,.int .i64 q1,.int .i64 q2,.int .i64 q3,.int .i64 q4,.int .i64 q5,.int .i64 x6,.int .i64 (ng:Int),.slice B1 n1 d1,.slice B2 n2 d2]) (by simp [results,Tryz.results35,go_sem,z0,z1,z2,z3,z4,z5,z6,z7,z8,z9,z10]) rfl ?_
       rw [HRs.out];exact ⟨B1,n1,d1,B2,n2,d2,rfl,by rw [zqa];exact HE.out⟩
     ·have g1:(ce == 0)=false:=z2f hc
      have g2:(ce != 0)=true:=by rw [bne,g1];rfl
      have HN:Hid (jud ⟨so,ch,ra,ba,ro,co⟩ p q l=z9r ⟨so,ch,ra,ba,ro,co⟩ p q l (kk+1) (6 - (kk+1))):=by
       unfold Hid;rw [HF.out];exact z4h HK5.out (z2ai (by rw [HTt.out];rw [HCe.out];omega))
      have HE:Hid (Ow w0 w4 g M L (O++[(⟨some ⟨w.heap.size,0,none⟩,6,6,33,[.int .i64 so,.int .i64 ch,.int .i64 ra,.int .i64 ba,.int .i64 ro,.int .i64 co]⟩:Rw),Rw.pair (w.heap.size+1) 27 (.slice A n c) (.slice A2 m c2),(⟨some ⟨w.heap.size+1+1,0,none⟩,11,11,42,[.int .i64 0,.int .i64 0,.int .i64 0,.int .i64 0,.int .i64 0,.int .i64 0,.int .i64 0,.int .i64 0,.int .i64 0,.slice none 0 0,.slice none 0 0]⟩:Rw)])):=(Ow.fewO (O:=O++[(⟨some ⟨w.heap.size,0,none⟩,6,6,33,[.int .i64 so,.int .i64 ch,.int .i64 ra,.int .i64 ba,.int .i64 ro,.int .i64 co]⟩:Rw),Rw.pair (w.heap.size+1) 27 (.slice A n c) (.slice A2 m c2),(⟨some ⟨w.heap.size+1+1,0,none⟩,11,11,42,[.int .i64 0,.int .i64 0,.int .i64 0,.int .i64 0,.int .i64 0,.int .i64 0,.int .i64 0,.int .i64 0,.int .i64 0,.slice none 0 0,.slice none 0 0]⟩:Rw)]) (by simpa only [zqa,zqb,zqc] using H5)).less (fun o ho=>List.mem_append_left _ ho)
      clear H5;go_wp2_with fail;go_roundw
      case rel=>exact ⟨kk+1,by omega,Nat.succ_le_succ HK5.out,rfl,HE,HN⟩
      case measure=>
       have:=HK5.out
       simp [intOf]
       omega
    ·have g1:(er == 0)=false:=z2f he
     have g2:(er != 0)=true:=by rw [bne,g1];rfl
     have HN:Hid (jud ⟨so,ch,ra,ba,ro,co⟩ p q l=z9r ⟨so,ch,ra,ba,ro,co⟩ p q l (kk+1) (6 - (kk+1))):=by
      unfold Hid;rw [HF.out];exact z4h HK5.out (z2ai (by rw [HTt.out];exact fun h=>z4bq (p:=p) (q:=q) (by rw [HTt.out,HEr.out];exact he) (by rw [HTt.out];exact h.1)))
     have HE:Hid (Ow w0 w4 g M L (O++[(⟨some ⟨w.heap.size,0,none⟩,6,6,33,[.int .i64 so,.int .i64 ch,.int .i64 ra,.int .i64 ba,.int .i64 ro,.int .i64 co]⟩:Rw),Rw.pair (w.heap.size+1) 27 (.slice A n c) (.slice A2 m c2),(⟨some ⟨w.heap.size+1+1,0,none⟩,11,11,42,[.int .i64 0,.int .i64 0,.int .i64 0,.int .i64 0,.int .i64 0,.int .i64 0,.int .i64 0,.int .i64 0,.int .i64 0,.slice none 0 0,.slice none 0 0]⟩:Rw)])):=(Ow.fewO (O:=O++[(⟨some ⟨w.heap.size,0,none⟩,6,6,33,[.int .i64 so,.int .i64 ch,.int .i64 ra,.int .i64 ba,.int .i64 ro,.int .i64 co]⟩:Rw),Rw.pair (w.heap.size+1) 27 (.slice A n c) (.slice A2 m c2),(⟨some ⟨w.heap.size+1+1,0,none⟩,11,11,42,[.int .i64 0,.int .i64 0,.int .i64 0,.int .i64 0,.int .i64 0,.int .i64 0,.int .i64 0,.int .i64 0,.int .i64 0,.slice none 0 0,.slice none 0 0]⟩:Rw)]) (by simpa only [zqa,zqb,zqc] using H5)).less (fun o ho=>List.mem_append_left _ ho)
     clear H5;go_wp2_with fail;go_roundw
     case rel=>exact ⟨kk+1,by omega,Nat.succ_le_succ HK5.out,rfl,HE,HN⟩
     case measure=>
      have:=HK5.out
      simp [intOf]
      omega
namespace Cl
set_option maxHeartbeats 8000000
def vdZ:Vd:=⟨0,⟨0,0,0,0,0,0⟩,0,0,0,0⟩
def judV (s:Pl)(p q:List Int)(l:List Sn):Vd×Int:=
 if chk s p q l=0 then (if 1<(z3i 6 l l.length).length then (vdZ,40) else (jud s p q l,0)) else (vdZ,chk s p q l)
theorem z0bu {s:Pl}{p q:List Int}{l:List Sn}(h:chk s p q l=0):shV s∧rv p q=true∧z6g s l=true∧l.length≤40∧p.length≤20∧q.length≤20:=by
 unfold chk at h;cases h1:(decide (shV s) && rv p q && z6g s l) with
 | false=>rw [h1,if_neg (by decide)] at h;cases h
 | true=>
  rw [h1,if_pos rfl] at h;cases h2:(decide (40<l.length) || decide (20<p.length) || decide (20<q.length)) with
  | true=>rw [h2,if_pos rfl] at h;cases h
  | false=>
   rw [Bool.and_eq_true,Bool.and_eq_true] at h1;rw [Bool.or_eq_false_iff,Bool.or_eq_false_iff] at h2;exact ⟨of_decide_eq_true h1.1.1,h1.1.2,h1.2,by have:=of_decide_eq_false h2.1.1;omega,by have:=of_decide_eq_false h2.1.2;omega,by have:=of_decide_eq_false h2.2;omega⟩
def JdR (w0:World)(g:Option Nat)(M:List (Nat×Value))(L:List Ob)(O:List Rw)(v:Vd×Int)(en:Ending)(w':World):Prop:=
 ∃ (A1:Option Addr) (n1 c1:Nat) (A2:Option Addr) (n2 c2:Nat),en=.returned (.tuple #[.agg (v.1.vs A1 n1 c1 A2 n2 c2),.int .i64 v.2])∧Ow w0 w' g M (L++[⟨A1,n1,c1,z0c (Na.dig v.1.x)⟩]++[⟨A2,n2,c2,z0c (Na.dig v.1.y)⟩]) O
end Cl
theorem z5av {w0 w:World}{g:Option Nat}{M:List (Nat×Value)}{L:List Ob}{O:List Rw}(h:Ow w0 w g M L O):Ow w0 w g M (L++[⟨none,0,0,z0c (Na.dig 0)⟩]++[⟨none,0,0,z0c (Na.dig 0)⟩]) O:=
 (h.old (A:=none) (n:=0) (c:=0) (vs:=z0c (Na.dig 0)) (fun hh=>absurd hh (by decide +kernel)) (by decide +kernel) (by omega) (by omega)).old (A:=none) (n:=0) (c:=0) (vs:=z0c (Na.dig 0)) (fun hh=>absurd hh (by decide +kernel)) (by decide +kernel) (by omega) (by omega)
theorem z1bn {w0 w:World}{g:Option Nat}{M:List (Nat×Value)}{L:List Ob}{O:List Rw}{A A2 A3:Option Addr}{n c m c2 n3 c3 e3:Nat}{p q:List Int}{l:List Sn}(s:Pl)(h:Ow w0 w g M L O)(i j k:Nat)(hi:L[i]?=some ⟨A,n,c,z0r p⟩)(hj:L[j]?=some ⟨A2,m,c2,z0r q⟩)(hk:L[k]?=some ⟨A3,n3*8,e3,fl l⟩)(ht:Tab w0):
  Calls Tryz.prog 15 #[.agg s.vs,.agg #[.slice A n c,.slice A2 m c2],.slice A3 n3 c3] w (JdR w0 g M L O (judV s p q l)):=by
 have H0:=((h.arr s.vs 6 rfl (by omega) 33).pair (.slice A n c) (.slice A2 m c2) 27).arr #[.int .i64 0,.int .i64 0,.int .i64 0,.int .i64 0,.int .i64 0,.int .i64 0,.int .i64 0,.int .i64 0,.int .i64 0,.slice none 0 0,.slice none 0 0] 11 rfl (by omega) 42
 simp only [World.size_alloc,zqa,zqb,zqc] at H0;have HLn:l.length=n3:=by
  have a:=(h.sl hk).1
  rw [z6f] at a;omega
 have HNl:=zh HLn;have HC:=zh (z6bb s H0 i j k hi hj hk ht (c3:=c3))
 have HH:Hid (L[i]?=some ⟨A,n,c,z0r p⟩∧L[j]?=some ⟨A2,m,c2,z0r q⟩∧L[k]?=some ⟨A3,n3*8,e3,fl l⟩):=⟨hi,hj,hk⟩
 have HT:=zh ht;obtain ⟨so,ch,ra,ba,ro,co⟩:=s;unfold Pl.vs at *
 obtain ⟨a0,a1,a2,a3,a4,a5⟩:=zc6 (H0.row (O.length+0) (zk rfl));have b0:=H0.p0 (O.length+1) (zk rfl)
 have b1:=H0.p1 (O.length+1) (zk rfl)
 clear hi hj hk HLn h ht;go_enter Tryz.func15,Tryz.ntmps15
 go_wp2_with fail;refine HC.out.mono ?_;rintro e w1 ⟨rfl,H1⟩;clear HC H0 a0 a1 a2 a3 a4 a5 b0 b1;obtain ⟨er,her⟩:∃ z,chk ⟨so,ch,ra,ba,ro,co⟩ p q l=z:=⟨_,rfl⟩
 rw [her];by_cases he:er=0
 ·subst he
  have HZ:=zh (z0bu her)
  have HJ:Hid (judV ⟨so,ch,ra,ba,ro,co⟩ p q l=if 1<(z3i 6 l n3).length then (vdZ,40) else (jud ⟨so,ch,ra,ba,ro,co⟩ p q l,0)):=by unfold Hid judV;rw [if_pos her,HNl.out]
  have hn100:n3≤100:=by have:=HZ.out.2.2.2.1;have:=HNl.out;omega
  have HG:=zh (z5as 6 (by decide) A3 n3 c3 l w1 HNl.out hn100 (H1.sl HH.out.2.2).2.2.2)
  clear her;obtain ⟨gs,hgs⟩:∃ z,z3i 6 l n3=z:=⟨_,rfl⟩
  rw [hgs] at HJ HG;clear hgs;go_wp2_with fail;refine HG.out.mono ?_;rintro e w2 ⟨Ao,co2,inn,rfl,hV,-,hO⟩;have hgl:=z4i hV
  obtain ⟨gn,hgn⟩:∃ z,inn.length=z:=⟨_,rfl⟩
  rw [hgn] at hgl;rw [hgn];have H2:=H1.go hO.below
  clear HG hV hO H1 hgn;rcases zqi 1 gn with h1 | h1
  ·have d1:decide (1<gn)=true:=zt h1
   have d2:decide ((1:Int)<(gn:Int))=true:=zt (by omega)
   have HR:Hid (judV ⟨so,ch,ra,ba,ro,co⟩ p q l=(vdZ,40)):=by unfold Hid;rw [HJ.out,if_pos (by omega)]
   clear h1 hgl;obtain ⟨v0,v1,v2,v3,v4,v5,v6,v7,v8,v9,v10⟩:=zc11 (H2.row (O.length+2) (zk rfl));obtain ⟨f0,f1,f2,f3,f4,f5,f6,f7,f8,f9,f10⟩:=zf11 (H2.row (O.length+2) (zk rfl));have H8:=z5an H2 (O.length+2) (zk rfl) (.int .i64 0) (.int .i64 0) (.int .i64 0) (.int .i64 0) (.int .i64 0) (.int .i64 0) (.int .i64 0) (.int .i64 0) (.int .i64 0) (.slice none 0 0) (.slice none 0 0)
   rw [z0n] at H8;simp only [zqe,zqd] at H8;obtain ⟨z0,z1,z2,z3,z4,z5,z6,z7,z8,z9,z10⟩:=zc11 (H8.row (O.length+2) (zk rfl));have HE:=zh (z5av H8.fewO)
   clear H2 H8;go_wp2_with fail;refine bodyPost_ret (v:=.tuple #[.agg #[.int .i64 0,.int .i64 0,.int .i64 0,.int .i64 0,.int .i64 0,.int .i64 0,.int .i64 0,.int .i64 0,.int .i64 0,.slice none 0 0,.slice none 0 0],.int .i64 40]) (by simp [results,Tryz.results15,go_sem,z0,z1,z2,z3,z4,z5,z6,z7,z8,z9,z10]) rfl ?_
   rw [HR.out];exact ⟨none,0,0,none,0,0,rfl,HE.out⟩
  ·have d1:decide (1<gn)=false:=zn (by omega)
   have d2:decide ((1:Int)<(gn:Int))=false:=zn (by omega)
   have HR:Hid (judV ⟨so,ch,ra,ba,ro,co⟩ p q l=(jud ⟨so,ch,ra,ba,ro,co⟩ p q l,0)):=by unfold Hid;rw [HJ.out,if_neg (by omega)]
   have HC:=zh (z6ba ⟨so,ch,ra,ba,ro,co⟩ HZ.out.1 H2 i j k HH.out.1 HH.out.2.1 HH.out.2.2 hn100 HT.out (c3:=c3))
   unfold Pl.vs at HC;obtain ⟨a0,a1,a2,a3,a4,a5⟩:=zc6 (H2.row (O.length+0) (zk rfl));have b0:=H2.p0 (O.length+1) (zk rfl)
   have b1:=H2.p1 (O.length+1) (zk rfl)
   clear h1 hgl H2;go_wp2_with fail;refine HC.out.mono ?_;rintro e w3 ⟨B1,n1,d1,B2,n2,d2,rfl,H7⟩;obtain ⟨v,hv⟩:∃ z,jud ⟨so,ch,ra,ba,ro,co⟩ p q l=z:=⟨_,rfl⟩
   rw [hv] at HR H7;rw [hv];obtain ⟨vk,⟨q0,q1,q2,q3,q4,q5⟩,vc,vh,vx,vy⟩:=v
   unfold Vd.vs;simp only [zqa,zqb,zqc] at H7;clear HC a0 a1 a2 a3 a4 a5 b0 b1 hv;obtain ⟨v0,v1,v2,v3,v4,v5,v6,v7,v8,v9,v10⟩:=zc11 (H7.row (O.length+2) (zk rfl));obtain ⟨f0,f1,f2,f3,f4,f5,f6,f7,f8,f9,f10⟩:=zf11 (H7.row (O.length+2) (zk rfl));have H8:=z5an H7 (O.length+2) (zk rfl) (.int .i64 vk) (.int .i64 q0) (.int .i64 q1) (.int .i64 q2) (.int .i64 q3) (.int .i64 q4) (.int .i64 q5) (.int .i64 vc) (.int .i64 vh) (.slice B1 n1 d1) (.slice B2 n2 d2)
   rw [z0n] at H8;simp only [zqe,zqd] at H8;obtain ⟨z0,z1,z2,z3,z4,z5,z6,z7,z8,z9,z10⟩:=zc11 (H8.row (O.length+2) (zk rfl));have HE:=zh H8.fewO;clear H7 H8;go_wp2_with fail;refine bodyPost_ret (v:=.tuple #[.agg #[.int .i64 vk,.int .i64 q0,.int .i64 q1,.int .i64 q2,.int .i64 q3,.int .i64 q4,.int .i64 q5,.int .i64 vc,.int .i64 vh,.slice B1 n1 d1,.slice B2 n2 d2],.int .i64 0]) (by simp [results,Tryz.results15,go_sem,z0,z1,z2,z3,z4,z5,z6,z7,z8,z9,z10]) rfl ?_
   rw [HR.out];exact ⟨B1,n1,d1,B2,n2,d2,rfl,by rw [zqa];exact HE.out⟩
 ·have g1:(er == 0)=false:=z2f he
  have g2:(er != 0)=true:=by rw [bne,g1];rfl
  have HR:Hid (judV ⟨so,ch,ra,ba,ro,co⟩ p q l=(vdZ,er)):=by unfold Hid judV;rw [her,if_neg he]
  clear he her;obtain ⟨v0,v1,v2,v3,v4,v5,v6,v7,v8,v9,v10⟩:=zc11 (H1.row (O.length+2) (zk rfl));obtain ⟨f0,f1,f2,f3,f4,f5,f6,f7,f8,f9,f10⟩:=zf11 (H1.row (O.length+2) (zk rfl));have H8:=z5an H1 (O.length+2) (zk rfl) (.int .i64 0) (.int .i64 0) (.int .i64 0) (.int .i64 0) (.int .i64 0) (.int .i64 0) (.int .i64 0) (.int .i64 0) (.int .i64 0) (.slice none 0 0) (.slice none 0 0)
  rw [z0n] at H8;simp only [zqe,zqd] at H8;obtain ⟨z0,z1,z2,z3,z4,z5,z6,z7,z8,z9,z10⟩:=zc11 (H8.row (O.length+2) (zk rfl));have HE:=zh (z5av H8.fewO)
  clear H1 H8;go_wp2_with fail;refine bodyPost_ret (v:=.tuple #[.agg #[.int .i64 0,.int .i64 0,.int .i64 0,.int .i64 0,.int .i64 0,.int .i64 0,.int .i64 0,.int .i64 0,.int .i64 0,.slice none 0 0,.slice none 0 0],.int .i64 er]) (by simp [results,Tryz.results15,go_sem,z0,z1,z2,z3,z4,z5,z6,z7,z8,z9,z10]) rfl ?_
  rw [HR.out];exact ⟨none,0,0,none,0,0,rfl,HE.out⟩
end Go.Proofs.YtpmofjomadibmaaGreatDoor
