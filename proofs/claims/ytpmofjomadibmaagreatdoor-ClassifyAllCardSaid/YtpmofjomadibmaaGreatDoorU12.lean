/- Wp Wq Ag NatU -/
import Derived.Test.YtpmofjomadibmaaGreatDoorU11
import Derived.Shelf.Spec.BitsCarry
namespace Go.Proofs.YtpmofjomadibmaaGreatDoor
set_option maxHeartbeats 30000000
open Go.RowKit Go.Shelf
attribute [local go_sem] Oper.semAt_some
set_option linter.unusedVariables false
set_option maxRecDepth 100000
theorem z1aj {F:Fence}{n:Nat}{g:Operand}{ps:Array Tmp}{assign body:Code}{Q:Exit->Act->World->Prop}{a:Act}{w:World}(h8:F.fn 156)(hro:F.round=none)(hn:2<=n){A:Option Addr}{Bs len cap:Nat}
  (hg:a.eval g=.func (.func 156) #[] #[.pointer (some ⟨Bs,0,none⟩)]) (hps:ps.size=2) (hreach:len<=140737488351232)
  (I:Nat->World->Prop) (X:World->Prop) (hI:OwnFrom w.heap.size I) (hX:OwnFrom w.heap.size (fun (_:Unit) W=>X W)) (hBx:∀ k W,I k W->W.cell? ⟨Bs,0,none⟩=some (.slice A len cap)) (hRd:∀ k W,I k W->k<len->∃ v,z4h A len k v W)
  (h0:I 0 w) (a₁:Nat->Value->Act)
  (hassign:∀ (l k:Nat) (v:Value) (W:World) (K:Act->World->Prop),K (a₁ k v) W->assign.wpIn (F.inRound l) (n - 1 - 1) Tryz.prog (Exit.then K (fun _ _ _=>False)) { tmps:=(ps.zip (z4f len k v)).foldl (fun t (p,v)=>t.setIfInBounds p v) a.tmps,defers:=[] } W)
  (hbody:∀ (l k:Nat) (v:Value) (W:World),I k W->k<len->z4h A len k v W->body.wpIn (F.inRound l) (n - 1 - 1) Tryz.prog (z0bl w.heap.size (I (k+1)) X W) (a₁ k v) W)
  (hdone:∀ (D:Nat) (W:World),w.heap.size<=D->I len W->W.heap[D]?=some (.deferred (some []))->Q .normal { a with defers:={ target:=.collected D,args:=#[] } :: a.defers } W)
  (hstop:∀ (D:Nat) (W:World),w.heap.size<=D->X W->W.heap[D]?=some (.deferred (some []))->Code.ret.wpIn F n Tryz.prog Q { a with defers:={ target:=.collected D,args:=#[] } :: a.defers } W) :
  (Code.rangeFunc g ps assign body).wpIn F n Tryz.prog Q a w:=
 z7ac hro (by omega) hg h8 (enters_of Tryz.func156 (by kernel_rfl) rfl) (z2ag F (n - 1) h8 hro (by omega) Bs len cap A hreach) (fun k v=>by rw [hps];rfl) I X hI hX (fun v=>z6j w.heap.size A len v) hBx hRd h0 a₁ hassign hbody hdone hstop
namespace Wo
set_option maxHeartbeats 30000000
theorem val_cmp {l m:List Nat}(hl:Lim l)(hm:Lim m)(i a b:Nat)(h1:l[i]?=some a)(h2:m[i]?=some b)(h3:l.drop (i+1)=m.drop (i+1))(hab:a<b):val l<val m:=by
 have hlt:i<l.length:=by
  rcases zqi i l.length with h|h
  ·exact h
  ·rw [List.getElem?_eq_none h] at h1;cases h1
 have hlt2:i<m.length:=by
  rcases zqi i m.length with h|h
  ·exact h
  ·rw [List.getElem?_eq_none h] at h2;cases h2
 have e1:=val_split l (i+1) (by omega)
 have e2:=val_split m (i+1) (by omega)
 rw [val_take_succ l i a h1] at e1;rw [val_take_succ m i b h2] at e2;rw [h3] at e1;have e3:=val_lt (hl.take i)
 rw [zqw,Nat.min_eq_left (by omega)] at e3
 have e4:18446744073709551616 ^ i*(a+1)<=18446744073709551616 ^ i*b:=Nat.mul_le_mul_left _ hab
 rw [zqt,Nat.mul_one] at e4;omega
theorem sgn_len {x y:Nat}(h:(dig x).length<(dig y).length):x<y:=by
 rcases zqi x y with h1|h1
 ·exact h1
 ·have:=dig_len_mono h1
  omega
end Wo
theorem z5aw {X Y:List Nat}{k a:Nat}(hX:X[k]?=some a)(hY:Y[k]?=some a)(h:X.drop (k+1)=Y.drop (k+1)):X.drop k=Y.drop k:=Na.drop_same hX hY h
def UnX (w:World)(b X Y:Nat)(W:World):Prop:=W.cell? ⟨b+1,0,none⟩=some (.bool (decide (X<Y)))/\W.cell? ⟨b+1+1,0,none⟩=some (.bool false)/\X≠Y/\Below w.heap.size w W
def UnI (w:World)(b X Y n:Nat)(A2 A:Option Addr)(c2 c:Nat)(k:Nat)(W:World):Prop:=
 ((Wo.dig X).drop (n - k)=(Wo.dig Y).drop (n - k))/\W.cell? ⟨b,0,none⟩=some (.slice A2 n c2)/\W.cell? ⟨b+1,0,none⟩=some (.bool false)/\W.frozen? ⟨b+1,0,none⟩=false/\W.cell? ⟨b+1+1,0,none⟩=some (.bool false)/\W.frozen? ⟨b+1+1,0,none⟩=false/\W.cell? ⟨b+1+1+1,0,none⟩=some (.slice A n c)/\Below w.heap.size w W
theorem z8ab (F:Fence)(N:Nat)(q1:F.fn 141)(q2:F.fn 150)(q3:F.fn 156)(hro:F.round=none)(hN:3<=N)
  (base g o n c g2 o2 c2 X Y:Nat) (w:World) (h:Wn w base g o n c (Wo.dig X)) (h2:Wn w base g2 o2 n c2 (Wo.dig Y)) :
  CallsIn F N Tryz.prog 141 #[.slice (some ⟨g,o,none⟩) n c,.slice (some ⟨g2,o2,none⟩) n c2] w fun e w'=>e=.returned (.tuple #[.bool (decide (X<Y)),.bool (decide (X=Y))])/\Below w.heap.size w w':=by
 have hne:((n:Int) != (n:Int))=false:=by simp
 have hnb:=h.big;have h1:1<=N:=by omega
 refine callsIn_of_wp_marks Tryz.func141 rfl q1 ?_ hro
 simp only [Tryz.ntmps141,List.size_toArray,List.length_cons,List.length_nil,Nat.reduceAdd,Nat.reduceSub,Array.replicate_succ,Array.replicate_zero,List.push_toArray,List.append_toArray,zqc,zqb];gi_wp2_with (gi_at_call 150;refine (z3bc F (N - 1) q2 hro _ _ _ _).mono ?_;rintro e w' ⟨rfl,rfl⟩)
 have bB:=Boxed.new w 144 (.slice (some ⟨g2,o2,none⟩) n c2)
 have bR:=Boxed.new (w.alloc (.cells #[.slice (some ⟨g2,o2,none⟩) n c2] 144)) 4 (.bool false)
 have bR2:=Boxed.new ((w.alloc (.cells #[.slice (some ⟨g2,o2,none⟩) n c2] 144)).alloc (.cells #[.bool false] 4)) 4 (.bool false)
 have bS:=Boxed.new (((w.alloc (.cells #[.slice (some ⟨g2,o2,none⟩) n c2] 144)).alloc (.cells #[.bool false] 4)).alloc (.cells #[.bool false] 4)) 144 (.slice (some ⟨g,o,none⟩) n c)
 simp only [World.size_alloc] at bR bR2 bS;obtain ⟨b,hb⟩:∃ b,w.heap.size=b:=⟨_,rfl⟩
 have HI0:Hid (UnI w b X Y n (some ⟨g2,o2,none⟩) (some ⟨g,o,none⟩) c2 c 0 ((((w.alloc (.cells #[.slice (some ⟨g2,o2,none⟩) n c2] 144)).alloc (.cells #[.bool false] 4)).alloc (.cells #[.bool false] 4)).alloc (.cells #[.slice (some ⟨g,o,none⟩) n c] 144))):=by
  subst hb
  exact ⟨by rw [List.drop_of_length_le (by have:=h.len;omega),List.drop_of_length_le (by have:=h2.len;omega)],(((bB.alloc _).alloc _).alloc _).cell,((bR.alloc _).alloc _).cell,((bR.alloc _).alloc _).frozen,(bR2.alloc _).cell,(bR2.alloc _).frozen,bS.cell,bal (bal (bal (bal (Below.refl _ _) _) _) _) _⟩
 have H:=zh h;have H2:=zh h2;have HBw:=zh hb;rw [hb];clear h h2 bB bR bR2 bS hb;refine z1aj (F:=F) (n:=N) (A:=some ⟨g,o,none⟩) (Bs:=b+1+1+1) (len:=n) (cap:=c) q3 hro (by omega) ?hg ?hps (by omega)
  (UnI w b X Y n (some ⟨g2,o2,none⟩) (some ⟨g,o,none⟩) c2 c) (UnX w b X Y) ?hI ?hX (fun k W h=>h.2.2.2.2.2.2.1) ?hRd HI0.out ?a1 ?assign ?body ?done ?stop
 case hg=>rfl
 case hps=>rfl
 case hI=>
  rintro k W W' row ⟨e1,e2,e3,e4,e5,e6,e7,e8⟩ hg hr;have hr':∀ r,row=some r->∃ o:Obj,W.heap[r]?=some o/\o.isCells=false:=fun r e=>(hr r e).2
  exact ⟨e1,cell_kept e2 hg hr',cell_kept e3 hg hr',(frozen_kept e3 hg hr').trans e4,cell_kept e5 hg hr',(frozen_kept e5 hg hr').trans e6,cell_kept e7 hg hr',z4x e8 hg (by simp;omega) hr⟩
 case hX=>
  rintro k W W' row ⟨e1,e2,e3,e4⟩ hg hr;exact ⟨cell_kept e1 hg (fun r e=>(hr r e).2),cell_kept e2 hg (fun r e=>(hr r e).2),e3,z4x e4 hg (by simp;omega) hr⟩
 case hRd=>
  rintro k W ⟨e1,e2,e3,e4,e5,e6,e7,e8⟩ hk;obtain ⟨a,ha⟩:=z0m (Wo.dig X) (n - 1 - k) (by rw [H.out.len];omega)
  exact ⟨_,_,rfl,by rw [Addr.add_lit];exact (H.out.below e8).cel _ _ ha⟩
 case assign=>
  intro l k v W K hK;dsimp only [z4f]
  gi_wp2
  exact hK
 case body=>
  rintro l k v W ⟨e1,e2,e3,e4,e5,e6,e7,e8⟩ hk hR;obtain ⟨a,ha⟩:=z0m (Wo.dig X) (n - 1 - k) (by rw [H.out.len];omega)
  obtain ⟨y,hy⟩:=z0m (Wo.dig Y) (n - 1 - k) (by rw [H2.out.len];omega)
  have hca:=(H.out.below e8).cel _ _ ha
  have hcb:=(H2.out.below e8).cel _ _ hy
  obtain ⟨ad',e0,hv⟩:=hR;obtain rfl:=zqk e0
  have hca':W.cell? ((⟨g,o,none⟩:Addr).add (n - 1 - k))=some (.int .u64 (a:Int)):=by rw [Addr.add_lit];exact hca
  rw [hca'] at hv;obtain rfl:=zqk hv
  have HHA:=zh ha;have HHB:=zh hy;have HD:=zh e1;have HB:=zh e8;clear ha hy hca hca' e0 e1 e8 HI0;have t2:((n - 1 - k:Nat):Int).toNat=n - 1 - k:=by omega
  have hi1:((n - 1 - k:Nat):Int)<(n:Int):=by omega
  obtain ⟨j,hj⟩:∃ j,n - 1 - k=j:=⟨_,rfl⟩
  rw [hj] at t2 hi1 hcb HHA HHB;rw [hj];have hbw:=HBw.out;by_cases hab:a=y
  ·subst hab
   have hne2:((a:Int) != (a:Int))=false:=by simp
   have HD2:Hid ((Wo.dig X).drop (n - (k+1))=(Wo.dig Y).drop (n - (k+1))):=by
    have h7:=HD.out;rw [show n - k=j+1 by omega] at h7
    have h8:=z5aw HHA.out HHB.out h7
    rw [show n - (k+1)=j by omega]
    exact h8
   clear hj hbw;gi_wp2
   exact ⟨KeepsFrom.refl _ _,HD2.out,e2,e3,e4,e5,e6,e7,HB.out⟩
  ·have hne2:((a:Int) != (y:Int))=true:=by rw [bne_iff_ne];omega
   have h7:=HD.out;rw [show n - k=j+1 by omega] at h7
   have HBS:Hid (∀ u:Bool,Below w.heap.size w ((W.setCell ⟨b+1,0,none⟩ (.bool u)).setCell ⟨b+1+1,0,none⟩ (.bool false))):=fun u=>z4z (z4z HB.out _ (by simp only;omega) _) _ (by simp only;omega) _
   rcases Nat.lt_or_gt_of_ne hab with hlt|hlt
   ·have HX:Hid (decide (X<Y)=true/\X≠Y):=by
     have:=Wo.val_cmp (Wo.dig_lim X) (Wo.dig_lim Y) j a y HHA.out HHB.out h7 hlt
     rw [Wo.val_dig,Wo.val_dig] at this;exact ⟨zt this,by omega⟩
    have hd:decide (a<y)=true:=zt hlt
    clear hj hab h7 hlt hbw;gi_wp2
    exact ⟨((KeepsOthers.setCell _ _ _).from _).trans ((KeepsOthers.setCell _ _ _).from _),by rw [HX.out.1,World.cell?_setCell_other _ _ _ _ (by simp)];exact z0k _ e3,z0k _ (by rw [World.cell?_setCell_other _ _ _ _ (by simp)];exact e5),HX.out.2,HBS.out _⟩
   ·have HX:Hid (decide (X<Y)=false/\X≠Y):=by
     have:=Wo.val_cmp (Wo.dig_lim Y) (Wo.dig_lim X) j y a HHB.out HHA.out h7.symm hlt
     rw [Wo.val_dig,Wo.val_dig] at this;exact ⟨zn (by omega),by omega⟩
    have hd:decide (a<y)=false:=zn (by omega)
    clear hj hab h7 hlt hbw;gi_wp2
    exact ⟨((KeepsOthers.setCell _ _ _).from _).trans ((KeepsOthers.setCell _ _ _).from _),by rw [HX.out.1,World.cell?_setCell_other _ _ _ _ (by simp)];exact z0k _ e3,z0k _ (by rw [World.cell?_setCell_other _ _ _ _ (by simp)];exact e5),HX.out.2,HBS.out _⟩
 case done=>
  rintro D W hD ⟨e1,e2,e3,e4,e5,e6,e7,e8⟩ hK;have HE:Hid (X=Y):=by
   rw [Nat.sub_self,List.drop_zero,List.drop_zero] at e1;exact Wo.dig_inj e1
  have hbw:=HBw.out;have hD2:b+4<=D:=by simp at hD;omega
  have hK2:((W.setCell ⟨b+1,0,none⟩ (.bool false)).setCell ⟨b+1+1,0,none⟩ (.bool true)).heap[D]?=some (.deferred (some [])):=(Below.heap_setCell _ _ _ _ (by simp;omega)).trans ((Below.heap_setCell _ _ _ _ (by simp;omega)).trans hK)
  have hc1:(((W.setCell ⟨b+1,0,none⟩ (.bool false)).setCell ⟨b+1+1,0,none⟩ (.bool true)).putObj D (.deferred none)).cell? ⟨b+1,0,none⟩=some (.bool false):=
   (World.cell?_of_block (World.putObj_heap_other (k:=b+1) (by omega))).trans (by rw [World.cell?_setCell_other _ _ _ _ (by simp)];exact z0k _ e3)
  have hc2:(((W.setCell ⟨b+1,0,none⟩ (.bool false)).setCell ⟨b+1+1,0,none⟩ (.bool true)).putObj D (.deferred none)).cell? ⟨b+1+1,0,none⟩=some (.bool true):=
   (World.cell?_of_block (World.putObj_heap_other (k:=b+1+1) (by omega))).trans (z0k _ (by rw [World.cell?_setCell_other _ _ _ _ (by simp)];exact e5))
  have HB:=zh e8;clear e1 HI0 e8 hbw;gi_wp2
  have hbw:=HBw.out;refine ⟨by simp,.inl ⟨_,_,rfl,run_takeDeferred hK2,?_⟩⟩
  refine ⟨.tuple #[.bool false,.bool true],by simp [results,Tryz.results141,go_sem,hc1,hc2],by rw [zn (by have:=HE.out;omega),zt HE.out],?_⟩
  exact (z4z (z4z HB.out _ (by simp only;omega) _) _ (by simp only;omega) _).grown (grownBy_putObj' _ D _) (by simp [World.setCell];have:=HB.out.size;omega) (fun r e=>by cases e;omega)
 case stop=>
  rintro D W hD ⟨e1,e2,e3,e4⟩ hK;have hbw:=HBw.out;have hD2:b+4<=D:=by simp at hD;omega
  have hc1:(W.putObj D (.deferred none)).cell? ⟨b+1,0,none⟩=some (.bool (decide (X<Y))):=(World.cell?_of_block (World.putObj_heap_other (k:=b+1) (by omega))).trans e1
  have hc2:(W.putObj D (.deferred none)).cell? ⟨b+1+1,0,none⟩=some (.bool false):=(World.cell?_of_block (World.putObj_heap_other (k:=b+1+1) (by omega))).trans e2
  have HB:=zh e4;clear e4 HI0 hbw;gi_wp2
  have hbw:=HBw.out;refine ⟨by simp,.inl ⟨_,_,rfl,run_takeDeferred hK,?_⟩⟩
  refine ⟨.tuple #[.bool (decide (X<Y)),.bool false],by simp [results,Tryz.results141,go_sem,hc1,hc2],by rw [zn e3],?_⟩
  exact HB.out.grown (grownBy_putObj' _ D _) HB.out.size (fun r e=>by cases e;omega)
theorem z5ah (base g o n c g2 o2 m c2 X Y:Nat)(w:World)(h:Wn w base g o n c (Wo.dig X))(h2:Wn w base g2 o2 m c2 (Wo.dig Y)):
  Calls Tryz.prog 141 #[.slice (some ⟨g,o,none⟩) n c,.slice (some ⟨g2,o2,none⟩) m c2] w fun e w'=>e=.returned (.tuple #[.bool (decide (X<Y)),.bool (decide (X=Y))])/\Below w.heap.size w w':=by
 by_cases hnm:n=m
 ·subst hnm
  exact (callsIn_wide (n:=3)).1 (z8ab Fence.wide 3 trivial trivial trivial rfl (zqj _) base g o n c g2 o2 c2 X Y w h h2)
 ·have hne:((n:Int) != (m:Int))=true:=by rw [bne_iff_ne];omega
  have HXY:Hid (decide (X<Y)=decide (n<m)/\decide (X=Y)=false):=by
   have e1:=h.len;have e2:=h2.len;refine ⟨?_,zn (by rintro rfl;omega)⟩
   by_cases hlt:n<m
   ·rw [zt hlt,zt (Wo.sgn_len (by omega))]
   ·rw [zn hlt,zn (by have:=Wo.sgn_len (x:=Y) (y:=X) (by omega);omega)]
  clear h h2;go_enter Tryz.func141,Tryz.ntmps141
  go_wp2_with fail;refine bodyPost_ret (v:=.tuple #[.bool (decide (n<m)),.bool false]) (by simp [results,Tryz.results141,go_sem]) rfl ?_
  exact ⟨by rw [HXY.out.1,HXY.out.2],bal (bal (bal (Below.refl _ _) _) _) _⟩
set_option linter.unusedVariables false
set_option maxRecDepth 100000
theorem z2am (x y b:Nat)(hb:b<=1)(w:World):
  (callFunc 143 #[.int .u64 (x:Int),.int .u64 (y:Int),.int .u64 (b:Int)]).run Tryz.prog w =
   .ok (.value (.tuple #[.int .u64 (((x+18446744073709551616 - y - b) % 18446744073709551616:Nat):Int),.int .u64 ((if x<y+b then 1 else 0:Nat):Int)])) w:=by
 rw [run_callFunc_extern Tryz.func143 (by kernel_rfl) (by kernel_rfl) (by kernel_rfl) (e:=sub64Entry) (by kernel_rfl),run_sub64 x y b hb]
 rfl
namespace Wo
set_option maxHeartbeats 30000000
theorem odd2_div {Z z:Nat}(h:Odd2 Z z):(Z / 2 ^ z) % 2=1/\Z=2 ^ z*(Z / 2 ^ z):=by
 obtain ⟨m,rfl⟩:=h;rw [Nat.mul_div_cancel_left _ (Nat.two_pow_pos z)]
 exact ⟨by omega,rfl⟩
theorem cop2 (z Y:Nat)(h:Y % 2=1):Nat.Coprime (2 ^ z) Y:=by
 refine Nat.Coprime.pow_left z ?_
 show Nat.gcd 2 Y=1
 rw [Nat.gcd_rec,h];rfl
theorem z8z (z X Y:Nat)(h:Y % 2=1):Nat.gcd (2 ^ z*X) Y=Nat.gcd X Y:=Nat.Coprime.gcd_mul_left_cancel X (cop2 z Y h)
theorem gcd_step (X Y z:Nat)(hY:Y % 2=1)(hlt:Y<X)(hz:Odd2 (X - Y) z):Nat.gcd ((X - Y) / 2 ^ z) Y=Nat.gcd X Y/\(X - Y) / 2 ^ z % 2=1/\(X - Y) / 2 ^ z<=X - Y:=by
 obtain ⟨h1,h2⟩:=odd2_div hz
 refine ⟨?_,h1,Nat.div_le_self _ _⟩
 rw [<- z8z z _ Y hY,<- h2];exact Nat.gcd_sub_self_left (Nat.le_of_lt hlt)
theorem gcd_start (X Y x y:Nat)(hx:Odd2 X x)(hy:Odd2 Y y):Nat.gcd X Y=Nat.gcd (X / 2 ^ x) (Y / 2 ^ y)*2 ^ (min x y):=by
 obtain ⟨h1,h2⟩:=odd2_div hx
 obtain ⟨h3,h4⟩:=odd2_div hy
 obtain ⟨a,ha⟩:∃ a,X / 2 ^ x=a:=⟨_,rfl⟩
 obtain ⟨b,hb⟩:∃ b,Y / 2 ^ y=b:=⟨_,rfl⟩
 rw [ha] at h1 h2 ⊢
 rw [hb] at h3 h4 ⊢
 subst h2 h4
 rcases Nat.le_total x y with h|h
 ·obtain ⟨d,rfl⟩:=Nat.exists_eq_add_of_le h
  rw [Nat.min_eq_left h,Nat.pow_add,zqs,Nat.gcd_mul_left,Nat.gcd_comm a,z8z d b a h1,Nat.gcd_comm b,Nat.mul_comm]
 ·obtain ⟨d,rfl⟩:=Nat.exists_eq_add_of_le h
  rw [Nat.min_eq_right h,Nat.pow_add,zqs,Nat.gcd_mul_left,z8z d a b h3,Nat.mul_comm]
theorem sub_col (X Y o:List Nat)(k bw x y:Nat)(ho:o.length=k)(h:val o+val (Y.take k)=val (X.take k)+18446744073709551616 ^ k*bw)(hbw:bw<=1)(hx:at0 X k=x)(hy:at0 Y k=y)(hxl:x<18446744073709551616)(hyl:y<18446744073709551616):
  ∃ d b:Nat,(x+18446744073709551616 - y - bw) % 18446744073709551616=d/\(if x<y+bw then 1 else 0:Nat)=b/\d<18446744073709551616/\b<=1/\val (o++[d])+val (Y.take (k+1))=val (X.take (k+1))+18446744073709551616 ^ (k+1)*b:=by
 refine ⟨_,_,rfl,rfl,Nat.mod_lt _ (by decide),?_,?_⟩
 ·split <;> omega
 ·by_cases hlt:x<y+bw
  ·rw [if_pos hlt];exact sub_no X Y o k bw _ ho h (by rw [hx,hy];omega)
  ·rw [if_neg hlt];exact sub_yes X Y o k bw _ ho h (by rw [hx,hy];omega)
end Wo
theorem Tab.from {B:Nat}{w w':World}(h:Tab w)(hb:Below B w w')(h0:0<B)(hs:w.heap.size<=w'.heap.size):Tab w':=⟨zqv h.1 hs,fun k v hk=>(hb.cell (p:=⟨0,k,none⟩) h0).trans (h.2 k v hk)⟩
structure SpG (base:Nat)(w0:World)(g o n c g2 o2 n2 c2 X Y:Nat)(W:World):Prop where
 a:Wn W base g o n c (Wo.dig X)
 b:Wn W base g2 o2 n2 c2 (Wo.dig Y)
 ab:n<=100
 bb:n2<=100
 ne:g≠g2
 bel:Below base w0 W
 tab:Tab W
 pos:0<base/\base<=W.heap.size
theorem SpG.swap {base:Nat}{w0:World}{g o n c g2 o2 n2 c2 X Y:Nat}{W:World}(h:SpG base w0 g o n c g2 o2 n2 c2 X Y W):SpG base w0 g2 o2 n2 c2 g o n c Y X W:=⟨h.b,h.a,h.bb,h.ab,h.ne.symm,h.bel,h.tab,h.pos⟩
theorem SpG.next {base:Nat}{w0:World}{g o n c g2 o2 n2 c2 X Y:Nat}{W W':World}(h:SpG base w0 g o n c g2 o2 n2 c2 X Y W)(hb:Below W.heap.size W W'):SpG base w0 g o n c g2 o2 n2 c2 X Y W':=
 ⟨h.a.below hb,h.b.below hb,h.ab,h.bb,h.ne,h.bel.trans (hb.mono h.pos.2),h.tab.below hb,⟨h.pos.1,zqq h.pos.2 hb.size⟩⟩
theorem SpG.drewN {base:Nat}{w0:World}{g o n c g2 o2 n2 c2 X Y:Nat}{W:World}(h:SpG base w0 g o n c g2 o2 n2 c2 X Y W)(k:Nat):SpG base w0 g o n c g2 o2 n2 c2 X Y (W.drewN k):=h.next (z0w (Below.refl _ _) k)
theorem SpG.put {base:Nat}{w0:World}{g o n c g2 o2 n2 c2 X Y:Nat}{W W':World}(h:SpG base w0 g o n c g2 o2 n2 c2 X Y W)(hg:W.grownBy W' (some g)){o3 n3 c3 Z:Nat}(hz:Wn W' base g o3 n3 c3 (Wo.dig Z))(hle:n3<=100):SpG base w0 g o3 n3 c3 g2 o2 n2 c2 Z Y W':=by
 have hb:Below base w0 W':=h.bel.grown hg h.pos.2 (fun r e=>by cases e;exact h.a.blk.1)
 have hb2:Below base W W':=(Below.refl _ _).grown hg h.pos.2 (fun r e=>by cases e;exact h.a.blk.1)
 exact ⟨hz,h.b.other hg (fun e=>h.ne (zqk e)),hle,h.bb,h.ne,hb,h.tab.from hb2 h.pos.1 hg.size,⟨h.pos.1,zqq h.pos.2 hg.size⟩⟩
def SBi (w:World)(base g o n c:Nat)(X Y:List Nat)(i bw:Value)(wr:World):Prop:=
 ∃ (k b:Nat) (p:List Nat),k<=n/\i=.int .i64 k/\bw=.int .u64 (b:Int)/\b<=1/\Hid (p.length=k/\Wo.Lim p/\Wo.val p+Wo.val (Y.take k)=Wo.val (X.take k)+18446744073709551616 ^ k*b)/\Wn wr base g o n c (p++X.drop k)/\w.grownBy wr (some g)
def SOi (base:Nat)(w0:World)(G k:Nat)(va vb:Value)(wr:World):Prop:=
 ∃ g o n c g2 o2 n2 c2 X Y:Nat,va=.slice (some ⟨g,o,none⟩) n c/\vb=.slice (some ⟨g2,o2,none⟩) n2 c2/\SpG base w0 g o n c g2 o2 n2 c2 X Y wr/\Hid (X % 2=1/\Y % 2=1/\Nat.gcd X Y=G/\X+Y=k)
theorem z4a {X Y n:Nat}(h:(Wo.dig X).length=n)(hn:n<=100)(hle:Y<=X){m:Nat}(hm:(Wo.dig Y).length=m):m<=100:=by
 have:=Wo.dig_len_mono hle
 omega
theorem z5ai (base ga oa na ca gb ob nb cb X Y:Nat)(p q:List Nat)(w:World)(hp:Wn w base ga oa na ca p)(hq:Wn w base gb ob nb cb q)(hX:Wo.val p=X)(hY:Wo.val q=Y)(hX0:0<X)(hY0:0<Y)(hna:na<=100)(hnb:nb<=100)(hne:ga≠gb)(ht:Tab w)(hb0:0<base)(hbs:base<=w.heap.size):
  Calls Tryz.prog 120 #[.slice (some ⟨ga,oa,none⟩) na ca,.slice (some ⟨gb,ob,none⟩) nb cb] w fun e w'=>∃ (g' o' n' c':Nat),e=.returned (.slice (some ⟨g',o',none⟩) n' c')/\Wn w' base g' o' n' c' (Wo.dig (Nat.gcd X Y))/\Below base w w':=by
 have HP:=zh hp;have HQ:=zh hq;have HPt:=z5f hp
 have HQt:=z5f hq
 rw [hX] at HPt;rw [hY] at HQt;have h1le:Wo.tl p na<=100:=by
  have e1:=HPt.len;have e2:=Wo.dig_len_le (x:=X) (n:=na) (by have:=Wo.val_lt hp.lim;rw [hX,hp.len] at this;exact this)
  omega
 have h2le:Wo.tl q nb<=100:=by
  have e1:=HQt.len;have e2:=Wo.dig_len_le (x:=Y) (n:=nb) (by have:=Wo.val_lt hq.lim;rw [hY,hq.len] at this;exact this)
  omega
 have HS:Hid (SpG base w ga oa (Wo.tl p na) ca gb ob (Wo.tl q nb) cb X Y w):=⟨HPt,HQt,h1le,h2le,hne,Below.refl _ _,ht,⟨hb0,hbs⟩⟩
 have HX0:=zh hX0;have HY0:=zh hY0;clear hp hq hX hY hX0 hY0 HPt HQt ht hb0 hbs hne;go_enter Tryz.func120,Tryz.ntmps120
 go_wp2_with fail;refine (z3o base ga oa na ca p w HP.out).mono ?_
 rintro e w1 ⟨rfl,rfl⟩;go_wp2_with fail;refine (z3o base gb ob nb cb q w HQ.out).mono ?_
 rintro e w1 ⟨rfl,rfl⟩;obtain ⟨n1,hn1⟩:∃ n1,Wo.tl p na=n1:=⟨_,rfl⟩
 obtain ⟨n2,hn2⟩:∃ n2,Wo.tl q nb=n2:=⟨_,rfl⟩
 rw [hn1,hn2] at HS;rw [hn1] at h1le ⊢
 rw [hn2] at h2le ⊢
 clear hn1 hn2 HP HQ hna hnb;go_wp2_with fail;refine (z4t base ga oa n1 ca _ w HS.out.a HS.out.tab (by rw [Wo.val_dig];exact HX0.out)).mono ?_
 rintro e w1 ⟨x,rfl,hox,hx,rfl⟩;go_wp2_with fail;refine (z4t base gb ob n2 cb _ w HS.out.b HS.out.tab (by rw [Wo.val_dig];exact HY0.out)).mono ?_
 rintro e w1 ⟨y,rfl,hoy,hy,rfl⟩;rw [Wo.val_dig] at hox hoy;have HG:=zh (Wo.gcd_start X Y x y hox hoy)
 have HO:Hid (X / 2 ^ x % 2=1/\Y / 2 ^ y % 2=1):=⟨(Wo.odd2_div hox).1,(Wo.odd2_div hoy).1⟩
 clear hox hoy;go_wp2_with fail;refine (z4v base ga oa n1 ca _ x w HS.out.a hx).mono ?_
 rintro e w1 ⟨o1,n3,c3,rfl,hw1,hg1⟩;rw [Wo.val_dig] at hw1;have HS1:=zh (HS.out.put hg1 hw1 (z4a HS.out.a.len h1le (Nat.div_le_self X (2 ^ x)) hw1.len))
 clear hw1 hg1 HS;go_wp2_with fail;refine (z4v base gb ob n2 cb _ y w1 HS1.out.b hy).mono ?_
 rintro e w2 ⟨o2,n4,c4,rfl,hw2,hg2⟩;rw [Wo.val_dig] at hw2;have HS2:=zh (HS1.out.swap.put hg2 hw2 (z4a HS1.out.b.len h2le (Nat.div_le_self Y (2 ^ y)) hw2.len)).swap
 have hz:min x y<=10000:=by omega
 obtain ⟨z,hzz⟩:∃ z,min x y=z:=⟨_,rfl⟩
 have HMin:Hid (min x y=z):=hzz
 rw [hzz] at HG hz;obtain ⟨X1,hX1⟩:∃ X1,X / 2 ^ x=X1:=⟨_,rfl⟩
 obtain ⟨Y1,hY1⟩:∃ Y1,Y / 2 ^ y=Y1:=⟨_,rfl⟩
 rw [hX1,hY1] at HG HO HS2;obtain ⟨G,hG⟩:∃ G,Nat.gcd X1 Y1=G:=⟨_,rfl⟩
 have HI:Hid (X1 % 2=1/\Y1 % 2=1/\Nat.gcd X1 Y1=G/\X1+Y1=X1+Y1):=⟨HO.out.1,HO.out.2,hG,rfl⟩
 rw [hG] at HG;clear hw2 hg2 HS1 hX1 hY1 hG HO HX0 HY0 hx hy hzz h1le h2le;go_wp2_with fail;go_loopg [0,1] (X1+Y1) (fun k va vb wr=>SOi base w G k va vb wr)
 case atStart=>exact ⟨_,_,_,_,_,_,_,_,_,_,rfl,rfl,HS2.out,⟨HI.out.1,HI.out.2.1,HI.out.2.2.1,rfl⟩⟩
 case round=>
  clear HS2 HI;obtain ⟨g1,o1,n1,c1,g2,o2,n2,c2,A,B,rfl,rfl,hS,hI⟩:=hrel;have HS:=zh hS;clear hS;go_wp2_with fail;refine (z5ah base g1 o1 n1 c1 g2 o2 n2 c2 A B wr HS.out.a HS.out.b).mono ?_
  rintro e w3 ⟨rfl,hb3⟩;have HS3:=zh (HS.out.next hb3)
  clear HS hb3;rcases Nat.lt_trichotomy A B with hlt|heq|hlt
  ·have hd1:decide (A<B)=true:=zt hlt
   have hd2:decide (A=B)=false:=zn (by omega)
   have HT:=zh (HS3.out.swap)
   have HJ:Hid (B % 2=1/\A % 2=1/\Nat.gcd B A=G/\B+A=gk/\A<B):=by
    obtain ⟨i1,i2,i3,i4⟩:=hI.out;exact ⟨by omega,by omega,by first|exact i3|(rw [Nat.gcd_comm];exact i3),by omega,by omega⟩
   clear HS3 hI hlt;go_upto_region 10 with (fail)
   clear hd1 hd2;have hnn:n2<=1000:=by have:=HT.out.ab;omega
   have hn2n:n1<=1000:=by have:=HT.out.bb;omega
   go_wp2_with fail;go_loopw [43,9] (fun i bw wr=>SBi w3 base g2 o2 n2 c2 (Wo.dig B) (Wo.dig A) i bw wr) (fun i _ _=>n2 - (intOf i).toNat)
   case atStart=>exact ⟨0,0,[],zqr _,rfl,rfl,zqr _,⟨rfl,Wo.Lim.nil,by simp [Wo.val]⟩,by rw [zqc,List.drop_zero];exact HT.out.a,World.grownBy.refl w3 _⟩
   case round=>
    obtain ⟨k,b,p,hk,rfl,rfl,hb,HPp,hW,hg⟩:=hrel;have HW:=zh hW;have HGr:=zh hg;rcases zqi k n2 with hkn|hkn
    ·obtain ⟨x1,hx1⟩:=z0m (Wo.dig B) k (by rw [HT.out.a.len];exact hkn)
     have hcx:=hW.cel _ _ (Wo.get_mid p (Wo.dig B) k x1 HPp.out.1 hx1)
     have hfx:=hW.frz k hkn
     have hxl:=(Wo.dig_lim B).at hx1
     rcases zqi k n1 with hk2|hk2
     ·obtain ⟨y1,hy1⟩:=z0m (Wo.dig A) k (by rw [HT.out.b.len];exact hk2)
      have hcy:=(HT.out.b.other hg (fun e=>HT.out.ne (zqk e))).cel _ _ hy1
      have hyl:=(Wo.dig_lim A).at hy1
      obtain ⟨d,b2,hd,hb2,hdl,hb2l,hst⟩:=Wo.sub_col (Wo.dig B) (Wo.dig A) p k b x1 y1 HPp.out.1 HPp.out.2.2 hb (Wo.at0_some hx1) (Wo.at0_some hy1) hxl hyl
      have hsub:∀ W,(callFunc 143 #[.int .u64 (x1:Int),.int .u64 (y1:Int),.int .u64 (b:Int)]).run Tryz.prog W=.ok (.value (.tuple #[.int .u64 (d:Int),.int .u64 (b2:Int)])) W:=fun W=>by rw [z2am x1 y1 b hb W,hd,hb2]
      have HWn:=zh (hW.put k d hkn hdl)
      rw [Wo.set_mid p (Wo.dig B) k d HPp.out.1 (by rw [HT.out.a.len];exact hkn)] at HWn
      have HST:=zh hst;have HLr:=zh (HPp.out.2.1.append (Wo.Lim.one hdl))
      have HLl:Hid ((p++[d]).length=k+1):=by unfold Hid;rw [zqm,HPp.out.1];rfl
      have HGn:=zh (z0j hg (z0f wr ⟨g2,o2+k,none⟩ (.int .u64 (d:Int))))
      clear hW hg hx1 hxl hd hb2 hdl hst;go_wp2_with (simp only [hsub])
      go_roundw
      case rel=>exact ⟨k+1,b2,p++[d],by omega,by go_num,rfl,hb2l,⟨HLl.out,HLr.out,HST.out⟩,HWn.out,HGn.out⟩
      case measure=>simp [intOf];omega
     ·have hdk:decide (k<n1)=false:=zn (by omega)
      obtain ⟨d,b2,hd,hb2,hdl,hb2l,hst⟩:=Wo.sub_col (Wo.dig B) (Wo.dig A) p k b x1 0 HPp.out.1 HPp.out.2.2 hb (Wo.at0_some hx1) (Wo.at0_none (by rw [HT.out.b.len];exact hk2)) hxl (by decide)
      have hsub:∀ W,(callFunc 143 #[.int .u64 (x1:Int),.int .u64 0,.int .u64 (b:Int)]).run Tryz.prog W=.ok (.value (.tuple #[.int .u64 (d:Int),.int .u64 (b2:Int)])) W:=fun W=>by
       have:=z2am x1 0 b hb W
       rw [hd,hb2] at this;exact this
      have HWn:=zh (hW.put k d hkn hdl)
      rw [Wo.set_mid p (Wo.dig B) k d HPp.out.1 (by rw [HT.out.a.len];exact hkn)] at HWn
      have HST:=zh hst;have HLr:=zh (HPp.out.2.1.append (Wo.Lim.one hdl))
      have HLl:Hid ((p++[d]).length=k+1):=by unfold Hid;rw [zqm,HPp.out.1];rfl
      have HGn:=zh (z0j hg (z0f wr ⟨g2,o2+k,none⟩ (.int .u64 (d:Int))))
      clear hW hg hx1 hxl hd hb2 hdl hst;go_wp2_with (simp only [hsub])
      go_roundw
      case rel=>exact ⟨k+1,b2,p++[d],by omega,by go_num,rfl,hb2l,⟨HLl.out,HLr.out,HST.out⟩,HWn.out,HGn.out⟩
      case measure=>simp [intOf];omega
    ·obtain rfl:k=n2:=by omega
     have hdk:decide (k<k)=false:=zn (by omega)
     have HZv:Hid (Wo.val (p++(Wo.dig B).drop k)=B - A):=by
      unfold Hid;have h1:=HPp.out;have e1:(Wo.dig A).length<=k:=by
       have:=Wo.dig_len_mono (Nat.le_of_lt HJ.out.2.2.2.2)
       rw [HT.out.a.len] at this;exact this
      rw [List.drop_of_length_le (by rw [HT.out.a.len];exact zqj _),List.append_nil,Wo.sub_end (Wo.dig B) (Wo.dig A) p k b h1.2.1 h1.1 h1.2.2 (by rw [HT.out.a.len];exact zqj _) e1 (by rw [Wo.val_dig,Wo.val_dig];exact Nat.le_of_lt HJ.out.2.2.2.2),Wo.val_dig,Wo.val_dig]
     have hWt:=z5f HW.out
     rw [HZv.out] at hWt;have HSd:=zh (HT.out.put HGr.out hWt (z4a HT.out.a.len HT.out.ab (Nat.sub_le B A) hWt.len))
     have HWc:=zh HW.out;clear hW hg hkn hWt;go_wp2_with fail;refine (z3o base g2 o2 k c2 _ wr HWc.out).mono ?_
     rintro e w5 ⟨rfl,rfl⟩;obtain ⟨m,hm⟩:∃ m,Wo.tl (p++(Wo.dig B).drop k) k=m:=⟨_,rfl⟩
     rw [hm] at HSd;rw [hm];clear hm HWc HW HGr HPp HZv;go_wp2_with fail;refine (z4t base g2 o2 m c2 _ wr HSd.out.a HSd.out.tab (by rw [Wo.val_dig];have:=HJ.out.2.2.2.2;omega)).mono ?_
     rintro e w6 ⟨u,rfl,hou,hu,rfl⟩;rw [Wo.val_dig] at hou;go_wp2_with fail;refine (z4v base g2 o2 m c2 _ u wr HSd.out.a hu).mono ?_
     rintro e w7 ⟨o7,n7,c7,rfl,hw7,hg7⟩;rw [Wo.val_dig] at hw7;have HS7:=zh (HSd.out.put hg7 hw7 (z4a HSd.out.a.len HSd.out.ab (Nat.div_le_self _ (2 ^ u)) hw7.len))
     have hst:=Wo.gcd_step B A u HJ.out.2.1 HJ.out.2.2.2.2 hou
     have HN:Hid ((B - A) / 2 ^ u % 2=1/\A % 2=1/\Nat.gcd ((B - A) / 2 ^ u) A=G/\(B - A) / 2 ^ u+A=(B - A) / 2 ^ u+A):=⟨hst.2.1,HJ.out.2.1,by rw [hst.1];exact HJ.out.2.2.1,rfl⟩
     have HM:Hid ((B - A) / 2 ^ u+A<gk):=by
      have e1:=HJ.out;have e2:=hst.2.2;unfold Hid;omega
     clear hst hw7 hg7 hou hu HSd HJ HT;go_wp2_with fail;go_roundg ((B - A) / 2 ^ u+A)
     case measure=>exact HM.out
     case rel=>exact ⟨_,_,_,_,_,_,_,_,_,_,rfl,rfl,HS7.out,⟨HN.out.1,HN.out.2.1,HN.out.2.2.1,rfl⟩⟩
  ·subst heq
   have hd1:decide (A<A)=false:=zn (by omega)
   have hd2:decide (A=A)=true:=zt rfl
   have hn5:n1<=500:=by have:=HS3.out.ab;omega
   rcases zqi y x with hyx|hyx
   ·obtain rfl:y=z:=by have:=HMin.out;omega
    go_wp2_with fail;refine (z0ai base g1 o1 n1 c1 _ _ w3 HS3.out.a hz hn5).mono ?_
    rintro e w4 ⟨g4,o4,n4,c4,rfl,hw4,hb4⟩;go_wp2_with fail;go_ret;rw [Wo.val_dig] at hw4;have e1:=hI.out.2.2.1;rw [Nat.gcd_self] at e1;have e2:=HG.out;rw [<- e1] at e2;refine ⟨_,_,_,_,rfl,?_,HS3.out.bel.trans (hb4.mono HS3.out.pos.2)⟩
    rw [e2];exact ⟨hw4.len,hw4.cap,hw4.big,hw4.cbig,⟨zqq HS3.out.pos.2 hw4.blk.1,hw4.blk.2⟩,hw4.cel,hw4.frz,hw4.lim⟩
   ·obtain rfl:x=z:=by have:=HMin.out;omega
    have hyx2:¬ y<x:=by omega
    clear hyx;go_wp2_with fail;refine (z0ai base g1 o1 n1 c1 _ _ w3 HS3.out.a hz hn5).mono ?_
    rintro e w4 ⟨g4,o4,n4,c4,rfl,hw4,hb4⟩;go_wp2_with fail;go_ret;rw [Wo.val_dig] at hw4;have e1:=hI.out.2.2.1;rw [Nat.gcd_self] at e1;have e2:=HG.out;rw [<- e1] at e2;refine ⟨_,_,_,_,rfl,?_,HS3.out.bel.trans (hb4.mono HS3.out.pos.2)⟩
    rw [e2];exact ⟨hw4.len,hw4.cap,hw4.big,hw4.cbig,⟨zqq HS3.out.pos.2 hw4.blk.1,hw4.blk.2⟩,hw4.cel,hw4.frz,hw4.lim⟩
  ·have hd1:decide (A<B)=false:=zn (by omega)
   have hd2:decide (A=B)=false:=zn (by omega)
   have HT:=zh (HS3.out)
   have HJ:Hid (A % 2=1/\B % 2=1/\Nat.gcd A B=G/\A+B=gk/\B<A):=by
    obtain ⟨i1,i2,i3,i4⟩:=hI.out;exact ⟨by omega,by omega,by first|exact i3|(rw [Nat.gcd_comm];exact i3),by omega,by omega⟩
   clear HS3 hI hlt;go_upto_region 10 with (fail)
   clear hd1 hd2;have hnn:n1<=1000:=by have:=HT.out.ab;omega
   have hn2n:n2<=1000:=by have:=HT.out.bb;omega
   go_wp2_with fail;go_loopw [43,9] (fun i bw wr=>SBi w3 base g1 o1 n1 c1 (Wo.dig A) (Wo.dig B) i bw wr) (fun i _ _=>n1 - (intOf i).toNat)
   case atStart=>exact ⟨0,0,[],zqr _,rfl,rfl,zqr _,⟨rfl,Wo.Lim.nil,by simp [Wo.val]⟩,by rw [zqc,List.drop_zero];exact HT.out.a,World.grownBy.refl w3 _⟩
   case round=>
    obtain ⟨k,b,p,hk,rfl,rfl,hb,HPp,hW,hg⟩:=hrel;have HW:=zh hW;have HGr:=zh hg;rcases zqi k n1 with hkn|hkn
    ·obtain ⟨x1,hx1⟩:=z0m (Wo.dig A) k (by rw [HT.out.a.len];exact hkn)
     have hcx:=hW.cel _ _ (Wo.get_mid p (Wo.dig A) k x1 HPp.out.1 hx1)
     have hfx:=hW.frz k hkn
     have hxl:=(Wo.dig_lim A).at hx1
     rcases zqi k n2 with hk2|hk2
     ·obtain ⟨y1,hy1⟩:=z0m (Wo.dig B) k (by rw [HT.out.b.len];exact hk2)
      have hcy:=(HT.out.b.other hg (fun e=>HT.out.ne (zqk e))).cel _ _ hy1
      have hyl:=(Wo.dig_lim B).at hy1
      obtain ⟨d,b2,hd,hb2,hdl,hb2l,hst⟩:=Wo.sub_col (Wo.dig A) (Wo.dig B) p k b x1 y1 HPp.out.1 HPp.out.2.2 hb (Wo.at0_some hx1) (Wo.at0_some hy1) hxl hyl
      have hsub:∀ W,(callFunc 143 #[.int .u64 (x1:Int),.int .u64 (y1:Int),.int .u64 (b:Int)]).run Tryz.prog W=.ok (.value (.tuple #[.int .u64 (d:Int),.int .u64 (b2:Int)])) W:=fun W=>by rw [z2am x1 y1 b hb W,hd,hb2]
      have HWn:=zh (hW.put k d hkn hdl)
      rw [Wo.set_mid p (Wo.dig A) k d HPp.out.1 (by rw [HT.out.a.len];exact hkn)] at HWn
      have HST:=zh hst;have HLr:=zh (HPp.out.2.1.append (Wo.Lim.one hdl))
      have HLl:Hid ((p++[d]).length=k+1):=by unfold Hid;rw [zqm,HPp.out.1];rfl
      have HGn:=zh (z0j hg (z0f wr ⟨g1,o1+k,none⟩ (.int .u64 (d:Int))))
      clear hW hg hx1 hxl hd hb2 hdl hst;go_wp2_with (simp only [hsub])
      go_roundw
      case rel=>exact ⟨k+1,b2,p++[d],by omega,by go_num,rfl,hb2l,⟨HLl.out,HLr.out,HST.out⟩,HWn.out,HGn.out⟩
      case measure=>simp [intOf];omega
     ·have hdk:decide (k<n2)=false:=zn (by omega)
      obtain ⟨d,b2,hd,hb2,hdl,hb2l,hst⟩:=Wo.sub_col (Wo.dig A) (Wo.dig B) p k b x1 0 HPp.out.1 HPp.out.2.2 hb (Wo.at0_some hx1) (Wo.at0_none (by rw [HT.out.b.len];exact hk2)) hxl (by decide)
      have hsub:∀ W,(callFunc 143 #[.int .u64 (x1:Int),.int .u64 0,.int .u64 (b:Int)]).run Tryz.prog W=.ok (.value (.tuple #[.int .u64 (d:Int),.int .u64 (b2:Int)])) W:=fun W=>by
       have:=z2am x1 0 b hb W
       rw [hd,hb2] at this;exact this
      have HWn:=zh (hW.put k d hkn hdl)
      rw [Wo.set_mid p (Wo.dig A) k d HPp.out.1 (by rw [HT.out.a.len];exact hkn)] at HWn
      have HST:=zh hst;have HLr:=zh (HPp.out.2.1.append (Wo.Lim.one hdl))
      have HLl:Hid ((p++[d]).length=k+1):=by unfold Hid;rw [zqm,HPp.out.1];rfl
      have HGn:=zh (z0j hg (z0f wr ⟨g1,o1+k,none⟩ (.int .u64 (d:Int))))
      clear hW hg hx1 hxl hd hb2 hdl hst;go_wp2_with (simp only [hsub])
      go_roundw
      case rel=>exact ⟨k+1,b2,p++[d],by omega,by go_num,rfl,hb2l,⟨HLl.out,HLr.out,HST.out⟩,HWn.out,HGn.out⟩
      case measure=>simp [intOf];omega
    ·obtain rfl:k=n1:=by omega
     have hdk:decide (k<k)=false:=zn (by omega)
     have HZv:Hid (Wo.val (p++(Wo.dig A).drop k)=A - B):=by
      unfold Hid;have h1:=HPp.out;have e1:(Wo.dig B).length<=k:=by
       have:=Wo.dig_len_mono (Nat.le_of_lt HJ.out.2.2.2.2)
       rw [HT.out.a.len] at this;exact this
      rw [List.drop_of_length_le (by rw [HT.out.a.len];exact zqj _),List.append_nil,Wo.sub_end (Wo.dig A) (Wo.dig B) p k b h1.2.1 h1.1 h1.2.2 (by rw [HT.out.a.len];exact zqj _) e1 (by rw [Wo.val_dig,Wo.val_dig];exact Nat.le_of_lt HJ.out.2.2.2.2),Wo.val_dig,Wo.val_dig]
     have hWt:=z5f HW.out
     rw [HZv.out] at hWt;have HSd:=zh (HT.out.put HGr.out hWt (z4a HT.out.a.len HT.out.ab (Nat.sub_le A B) hWt.len))
     have HWc:=zh HW.out;clear hW hg hkn hWt;go_wp2_with fail;refine (z3o base g1 o1 k c1 _ wr HWc.out).mono ?_
     rintro e w5 ⟨rfl,rfl⟩;obtain ⟨m,hm⟩:∃ m,Wo.tl (p++(Wo.dig A).drop k) k=m:=⟨_,rfl⟩
     rw [hm] at HSd;rw [hm];clear hm HWc HW HGr HPp HZv;go_wp2_with fail;refine (z4t base g1 o1 m c1 _ wr HSd.out.a HSd.out.tab (by rw [Wo.val_dig];have:=HJ.out.2.2.2.2;omega)).mono ?_
     rintro e w6 ⟨u,rfl,hou,hu,rfl⟩;rw [Wo.val_dig] at hou;go_wp2_with fail;refine (z4v base g1 o1 m c1 _ u wr HSd.out.a hu).mono ?_
     rintro e w7 ⟨o7,n7,c7,rfl,hw7,hg7⟩;rw [Wo.val_dig] at hw7;have HS7:=zh (HSd.out.put hg7 hw7 (z4a HSd.out.a.len HSd.out.ab (Nat.div_le_self _ (2 ^ u)) hw7.len))
     have hst:=Wo.gcd_step A B u HJ.out.2.1 HJ.out.2.2.2.2 hou
     have HN:Hid ((A - B) / 2 ^ u % 2=1/\B % 2=1/\Nat.gcd ((A - B) / 2 ^ u) B=G/\(A - B) / 2 ^ u+B=(A - B) / 2 ^ u+B):=⟨hst.2.1,HJ.out.2.1,by rw [hst.1];exact HJ.out.2.2.1,rfl⟩
     have HM:Hid ((A - B) / 2 ^ u+B<gk):=by
      have e1:=HJ.out;have e2:=hst.2.2;unfold Hid;omega
     clear hst hw7 hg7 hou hu HSd HJ HT;go_wp2_with fail;go_roundg ((A - B) / 2 ^ u+B)
     case measure=>exact HM.out
     case rel=>exact ⟨_,_,_,_,_,_,_,_,_,_,rfl,rfl,HS7.out,⟨HN.out.1,HN.out.2.1,HN.out.2.2.1,rfl⟩⟩
open Go.RowKit
def GcdI (w1:World)(b:Nat)(A A2:Option Addr)(n c m c2 x y:Nat)(A0:Act)(L:Nat->Bool)(a:Act)(W:World):Prop:=
 ∃ (u30 u31 u32 u33 u34 u35 u36 u37 u38 u5:Value) (W1:World) (g1 N1 g2 N2:Nat) (p1 p2:List Nat) (g' o' n' c':Nat) (A3:Option Addr) (n3 c3:Nat),
  a=((((((((((A0.put (some 30) u30).put (some 31) u31).put (some 32) u32).put (some 33) u33).put (some 34) u34).put (some 35) u35).put (some 36) u36).put (some 37) u37).put (some 38) u38).put (some 5) u5)/\
  Below w1.heap.size w1 W1/\(L 9=false->W=W1)/\(L 9=true->W=W1.setCell ⟨b+1+1,0,none⟩ (.slice A3 n3 c3))/\
  (L 0=true->u30=.pointer (some ⟨b,0,none⟩))/\(L 1=true->u31=.slice A n c)/\
  (L 2=true->u32=.slice (some ⟨g1,0,none⟩) N1 N1/\N1<=100/\(L 6=false->Wn W1 w1.heap.size g1 0 N1 N1 p1/\Wo.val p1=x))/\
  (L 3=true->u33=.pointer (some ⟨b+1,0,none⟩))/\(L 4=true->u34=.slice A2 m c2)/\
  (L 5=true->u35=.slice (some ⟨g2,0,none⟩) N2 N2/\N2<=100/\(L 6=false->Wn W1 w1.heap.size g2 0 N2 N2 p2/\Wo.val p2=y))/\
  (L 2=true->L 5=true->g1≠g2)/\
  (L 6=true->u36=.slice (some ⟨g',o',none⟩) n' c'/\Wn W1 w1.heap.size g' o' n' c' (Wo.dig (Nat.gcd x y)))/\
  (L 7=true->u37=.slice A3 n3 c3/\(Na.dig (Nat.gcd x y)).length=n3/\W1.ownsRow w1.heap.size 3 1 (.slice A3 n3 c3) n3 (z0c (Na.dig (Nat.gcd x y))))/\
  (L 8=true->u38=.agg #[.slice A3 n3 c3])/\(L 10=true->u5=.int .i64 0)
theorem z2bk (A A2:Option Addr)(n c m c2:Nat)(x y:Nat)(w:World)(hn:(Na.dig x).length=n)(hm:(Na.dig y).length=m)(hs:Sl w w.heap.size A (z0c (Na.dig x)))(hs2:Sl w w.heap.size A2 (z0c (Na.dig y)))(hx:x<Na.top)(hy:y<Na.top)(hx0:0<x)(hy0:0<y)(ht:Tab w):
  Calls Tryz.prog 86 #[.agg #[.slice A n c],.agg #[.slice A2 m c2]] w (z3m w (Na.dig (Nat.gcd x y)) 0):=by
 have hn2:n<=200:=by rw [<- hn];exact (Na.dig_200 x).2 hx
 have hm2:m<=200:=by rw [<- hm];exact (Na.dig_200 y).2 hy
 have hnp:0<n:=by
  rcases zqh n with h|h
  ·rw [h] at hn;have:=Na.dig_len0.1 hn;omega
  ·exact h
 have hmp:0<m:=by
  rcases zqh m with h|h
  ·rw [h] at hm;have:=Na.dig_len0.1 hm;omega
  ·exact h
 have hn0:((n:Int) == 0)=false:=by rw [beq_eq_false_iff_ne];omega
 have hm0:((m:Int) == 0)=false:=by rw [beq_eq_false_iff_ne];omega
 obtain ⟨w0,hw0⟩:∃ w0,((w.alloc (.cells #[.slice A n c] 25)).alloc (.cells #[.slice A2 m c2] 25)).alloc (.cells #[.slice none 0 0] 25)=w0:=⟨_,rfl⟩
 have HW:Hid (((w.alloc (.cells #[.slice A n c] 25)).alloc (.cells #[.slice A2 m c2] 25)).alloc (.cells #[.slice none 0 0] 25)=w0):=hw0
 obtain ⟨b,hb⟩:∃ b,w.heap.size=b:=⟨_,rfl⟩
 have hb0:Below w.heap.size w w0:=by rw [<- hw0];exact bal (bal (bal (Below.refl _ _) _) _) _
 have hzw:b+3<=w0.heap.size:=by rw [<- hw0,<- hb];simp
 have k0:w0.cell? ⟨b,0,none⟩=some (.slice A n c):=by rw [<- hw0,<- hb];simp [go_sem]
 have k1:w0.cell? ⟨b+1,0,none⟩=some (.slice A2 m c2):=by rw [<- hw0,<- hb];simp [go_sem]
 have k2:w0.cell? ⟨b+1+1,0,none⟩=some (.slice none 0 0):=by rw [<- hw0,<- hb];simp [go_sem]
 have f2:w0.frozen? ⟨b+1+1,0,none⟩=false:=by rw [<- hw0,<- hb];simp [go_sem]
 have hvv:(Na.vld (Na.up (Na.dig x)) && Na.vld (Na.up (Na.dig y)))=true:=by rw [Na.vld_dig hx,Na.vld_dig hy];rfl
 have HV:=zh (z1y A A2 n c m c2 w0.heap.size _ _ w0 (by rw [Na.up_length];exact hn) (by rw [Na.up_length];exact hm) (by rw [z0g];exact (hs.below hb0).more hb0.size) (by rw [z0g];exact (hs2.below hb0).more hb0.size) (zqj _) (by omega) (by omega))
 rw [hvv] at HV;have HN:=zh hn;have HM:=zh hm;have HS:=zh hs;have HS2:=zh hs2;have HB0:=zh hb0;have HX:=zh (And.intro hx0 hy0)
 have HL:=zh (And.intro hn2 hm2)
 have HP:=zh (And.intro hnp hmp)
 have HBw:=zh hb;have HT:=zh ht;clear hs hs2 hn hm hw0 hvv hx hy hb hb0 hx0 hy0 hn2 hm2 hnp hmp ht;go_enter Tryz.func86,Tryz.ntmps86
 go_wp2_with fail;rw [HW.out,HBw.out];refine HV.out.mono ?_;rintro e w1 ⟨rfl,hb1⟩;replace k0:=(hb1.cell (p:=⟨b,0,none⟩) (by simp only;omega)).trans k0
 replace k1:=(hb1.cell (p:=⟨b+1,0,none⟩) (by simp only;omega)).trans k1
 replace k2:=(hb1.cell (p:=⟨b+1+1,0,none⟩) (by simp only;omega)).trans k2
 replace f2:=(hb1.frozen (p:=⟨b+1+1,0,none⟩) (by simp only;omega)).trans f2
 have HB1:=zh (btr HB0.out hb1)
 have hzw1:b+3<=w1.heap.size:=zqq hzw hb1.size
 clear hb1 HV HW hzw;go_upto_region 7 with (fail)
 have HK:Hid (∀ W,Below w1.heap.size w1 W->W.cell? ⟨b,0,none⟩=some (.slice A n c)/\W.cell? ⟨b+1,0,none⟩=some (.slice A2 m c2)/\W.cell? ⟨b+1+1,0,none⟩=some (.slice none 0 0)/\W.frozen? ⟨b+1+1,0,none⟩=false):=fun W h=>
  ⟨(h.cell (p:=⟨b,0,none⟩) (by simp only;omega)).trans k0,(h.cell (p:=⟨b+1,0,none⟩) (by simp only;omega)).trans k1,(h.cell (p:=⟨b+1+1,0,none⟩) (by simp only;omega)).trans k2,(h.frozen (p:=⟨b+1+1,0,none⟩) (by simp only;omega)).trans f2⟩
 have HZ:=zh hzw1;clear k0 k1 k2 f2 hn0 hm0 hzw1;refine z1bg (GcdI w1 b A A2 n c m c2 x y) (by kernel_rfl) (by kernel_rfl) ?_ ?_ ?_
 ·refine ⟨undef,undef,undef,undef,undef,undef,undef,undef,undef,.int .i64 0,w1.drew,0,0,0,0,[],[],0,0,0,0,none,0,0,?_,(Below.refl _ _).drew,fun _=>rfl,?_,?_,?_,?_,?_,?_,?_,?_,?_,?_,?_,?_⟩
  ·simp only [Act.put,zT,zZ,zS]
  all_goals (intro h;cases h)
 ·rintro j L a W hj hf hcl hd ⟨u30,u31,u32,u33,u34,u35,u36,u37,u38,u5,W1,g1,N1,g2,N2,p1,p2,g',o',n',c',A3,n3,c3,rfl,hb,hW0,hW9,h0,h1,h2,h3,h4,h5,hne,h6,h7,h8,h10⟩;have hj':j<11:=hj
  have hcase:j=0∨j=1∨j=2∨j=3∨j=4∨j=5∨j=6∨j=7∨j=8∨j=9∨j=10:=by omega
  have c8:L 9=true->L 8=true:=fun e=>hcl 9 8 e (by kernel_rfl)
  have c7:L 8=true->L 7=true:=fun e=>hcl 8 7 e (by kernel_rfl)
  have c6:L 7=true->L 6=true:=fun e=>hcl 7 6 e (by kernel_rfl)
  have c5:L 6=true->L 5=true:=fun e=>hcl 6 5 e (by kernel_rfl)
  have c2':L 6=true->L 2=true:=fun e=>hcl 6 2 e (by kernel_rfl)
  have c4:L 5=true->L 4=true:=fun e=>hcl 5 4 e (by kernel_rfl)
  have c3':L 4=true->L 3=true:=fun e=>hcl 4 3 e (by kernel_rfl)
  have c1':L 2=true->L 1=true:=fun e=>hcl 2 1 e (by kernel_rfl)
  have c0':L 1=true->L 0=true:=fun e=>hcl 1 0 e (by kernel_rfl)
  clear hj hj' hcl;simp only [Act.put,zT,zZ,zS];have nott:∀ {u:Bool},u=false->u=true->False:=fun h1 h2=>by rw [h1] at h2;cases h2
  rcases hcase with rfl|rfl|rfl|rfl|rfl|rfl|rfl|rfl|rfl|rfl|rfl
  ·have h9:L 9=false:=by
    cases e:L 9 with
    | false=>rfl
    | true=>exact (nott hf (c0' (c1' (c2' (c6 (c7 (c8 e))))))).elim
   obtain rfl:=hW0 h9
   clear hd;refine zw rfl fun K hK=>?_
   go_simp;refine hK _ _ ⟨_,u31,u32,u33,u34,u35,u36,u37,u38,u5,_,g1,N1,g2,N2,p1,p2,g',o',n',c',A3,n3,c3,?_,hb,fun _=>rfl,fun e=>(nott h9 e).elim,fun _=>rfl,h1,h2,h3,h4,h5,hne,h6,h7,h8,h10⟩;simp only [Act.put,zT,zZ,zS]
  ·have h9:L 9=false:=by
    cases e:L 9 with
    | false=>rfl
    | true=>exact (nott hf (c1' (c2' (c6 (c7 (c8 e)))))).elim
   obtain rfl:=hW0 h9
   obtain rfl:=h0 (hd 0 (by kernel_rfl))
   obtain ⟨ca,-,-,-⟩:=HK.out _ hb
   clear hd;refine zw rfl fun K hK=>?_
   go_simp;refine hK _ _ ⟨_,_,u32,u33,u34,u35,u36,u37,u38,u5,_,g1,N1,g2,N2,p1,p2,g',o',n',c',A3,n3,c3,?_,hb,fun _=>rfl,fun e=>(nott h9 e).elim,h0,fun _=>rfl,h2,h3,h4,h5,hne,h6,h7,h8,h10⟩;simp only [Act.put,zT,zZ,zS]
  ·have h9:L 9=false:=by
    cases e:L 9 with
    | false=>rfl
    | true=>exact (nott hf (c2' (c6 (c7 (c8 e))))).elim
   obtain rfl:=hW0 h9
   obtain rfl:=h1 (hd 1 (by kernel_rfl))
   have h6f:L 6=false:=by
    cases e:L 6 with
    | false=>rfl
    | true=>exact (nott hf (c2' e)).elim
   clear hd;refine zw rfl fun K hK=>?_
   go_simp;refine (z0ah A n c (Na.dig x) W HN.out (((HS.out.below (btr HB1.out hb)).more (zqq HB1.out.size hb.size))) (Na.dig_lim x) (by have:=HL.out;omega) HP.out.1).mono ?_
   rintro e Wn ⟨gn,Nn,pn,rfl,hwn,hvn,hNn,hbn⟩;rw [Na.val_dig] at hvn;refine hK _ _ ⟨u30,_,_,u33,u34,u35,u36,u37,u38,u5,_,gn,Nn,g2,N2,pn,p2,g',o',n',c',A3,n3,c3,?_,btr hb hbn,fun _=>rfl,fun e=>(nott h9 e).elim,h0,h1,fun _=>⟨rfl,by have:=HL.out;omega,fun _=>⟨⟨hwn.len,hwn.cap,hwn.big,hwn.cbig,⟨zqq hb.size hwn.blk.1,hwn.blk.2⟩,hwn.cel,hwn.frz,hwn.lim⟩,hvn⟩⟩,h3,h4,fun e=>⟨(h5 e).1,(h5 e).2.1,fun e6=>⟨((h5 e).2.2 e6).1.below hbn,((h5 e).2.2 e6).2⟩⟩,fun _ e=>fun e2=>by have:=((h5 e).2.2 h6f).1.blk.2;have:=hwn.blk.1;omega,fun e=>(nott h6f e).elim,fun e=>(nott h6f (c6 e)).elim,h8,h10⟩
   simp only [Act.put,zT,zZ,zS]
  ·have h9:L 9=false:=by
    cases e:L 9 with
    | false=>rfl
    | true=>exact (nott hf (c3' (c4 (c5 (c6 (c7 (c8 e))))))).elim
   obtain rfl:=hW0 h9
   clear hd;refine zw rfl fun K hK=>?_
   go_simp;refine hK _ _ ⟨u30,u31,u32,_,u34,u35,u36,u37,u38,u5,_,g1,N1,g2,N2,p1,p2,g',o',n',c',A3,n3,c3,?_,hb,fun _=>rfl,fun e=>(nott h9 e).elim,h0,h1,h2,fun _=>rfl,h4,h5,hne,h6,h7,h8,h10⟩;simp only [Act.put,zT,zZ,zS]
  ·have h9:L 9=false:=by
    cases e:L 9 with
    | false=>rfl
    | true=>exact (nott hf (c4 (c5 (c6 (c7 (c8 e)))))).elim
   obtain rfl:=hW0 h9
   obtain rfl:=h3 (hd 3 (by kernel_rfl))
   obtain ⟨-,ca,-,-⟩:=HK.out _ hb
   clear hd;refine zw rfl fun K hK=>?_
   go_simp;refine hK _ _ ⟨u30,u31,u32,_,_,u35,u36,u37,u38,u5,_,g1,N1,g2,N2,p1,p2,g',o',n',c',A3,n3,c3,?_,hb,fun _=>rfl,fun e=>(nott h9 e).elim,h0,h1,h2,h3,fun _=>rfl,h5,hne,h6,h7,h8,h10⟩;simp only [Act.put,zT,zZ,zS]
  ·have h9:L 9=false:=by
    cases e:L 9 with
    | false=>rfl
    | true=>exact (nott hf (c5 (c6 (c7 (c8 e))))).elim
   obtain rfl:=hW0 h9
   obtain rfl:=h4 (hd 4 (by kernel_rfl))
   have h6f:L 6=false:=by
    cases e:L 6 with
    | false=>rfl
    | true=>exact (nott hf (c5 e)).elim
   clear hd;refine zw rfl fun K hK=>?_
   go_simp;refine (z0ah A2 m c2 (Na.dig y) W HM.out (((HS2.out.below (btr HB1.out hb)).more (zqq HB1.out.size hb.size))) (Na.dig_lim y) (by have:=HL.out;omega) HP.out.2).mono ?_
   rintro e Wn ⟨gn,Nn,pn,rfl,hwn,hvn,hNn,hbn⟩;rw [Na.val_dig] at hvn;refine hK _ _ ⟨u30,u31,u32,u33,_,_,u36,u37,u38,u5,_,g1,N1,gn,Nn,p1,pn,g',o',n',c',A3,n3,c3,?_,btr hb hbn,fun _=>rfl,fun e=>(nott h9 e).elim,h0,h1,fun e=>⟨(h2 e).1,(h2 e).2.1,fun e6=>⟨((h2 e).2.2 e6).1.below hbn,((h2 e).2.2 e6).2⟩⟩,h3,h4,fun _=>⟨rfl,by have:=HL.out;omega,fun _=>⟨⟨hwn.len,hwn.cap,hwn.big,hwn.cbig,⟨zqq hb.size hwn.blk.1,hwn.blk.2⟩,hwn.cel,hwn.frz,hwn.lim⟩,hvn⟩⟩,fun e _=>fun e2=>by have:=((h2 e).2.2 h6f).1.blk.2;have:=hwn.blk.1;omega,fun e=>(nott h6f e).elim,fun e=>(nott h6f (c6 e)).elim,h8,h10⟩
   simp only [Act.put,zT,zZ,zS]
  ·have h9:L 9=false:=by
    cases e:L 9 with
    | false=>rfl
    | true=>exact (nott hf (c6 (c7 (c8 e)))).elim
   obtain rfl:=hW0 h9
   obtain ⟨rfl,hN1,e1⟩:=h2 (hd 2 (by kernel_rfl))
   obtain ⟨rfl,hN2,e2⟩:=h5 (hd 5 (by kernel_rfl))
   obtain ⟨hw1,hv1⟩:=e1 hf
   obtain ⟨hw2,hv2⟩:=e2 hf
   have hg:=hne (hd 2 (by kernel_rfl)) (hd 5 (by kernel_rfl))
   clear hd;refine zw rfl fun K hK=>?_
   go_simp;refine (z5ai w1.heap.size g1 0 N1 N1 g2 0 N2 N2 x y p1 p2 W hw1 hw2 hv1 hv2 HX.out.1 HX.out.2 hN1 hN2 hg (HT.out.below (btr HB1.out hb)) (by have:=HZ.out;omega) hb.size).mono ?_
   rintro e Wn ⟨gn,on,nn,cn,rfl,hwn,hbn⟩;refine hK _ _ ⟨u30,u31,_,u33,u34,_,_,u37,u38,u5,Wn,g1,N1,g2,N2,p1,p2,gn,on,nn,cn,A3,n3,c3,?_,hb.trans hbn,fun _=>rfl,fun e=>(nott h9 e).elim,h0,h1,fun _=>⟨rfl,hN1,(fun e=>nomatch e)⟩,h3,h4,fun _=>⟨rfl,hN2,(fun e=>nomatch e)⟩,hne,fun _=>⟨rfl,hwn⟩,fun e=>(nott hf (c6 e)).elim,h8,h10⟩;simp only [Act.put,zT,zZ,zS]
  ·have h9:L 9=false:=by
    cases e:L 9 with
    | false=>rfl
    | true=>exact (nott hf (c7 (c8 e))).elim
   obtain rfl:=hW0 h9
   obtain ⟨rfl,hw6⟩:=h6 (hd 6 (by kernel_rfl))
   have T6:=zh (hd 6 (by kernel_rfl))
   have hn300:n'<=300:=by
    have e1:=hw6.len;have e2:=Wo.dig_len_le (x:=Nat.gcd x y) (n:=100) (by
     have e3:=Nat.le_of_dvd HX.out.1 (Nat.gcd_dvd_left x y)
     have e4:=Na.val_lt (Na.dig_lim x)
     rw [Na.val_dig,HN.out] at e4;refine zqu e3 (zqv e4 ?_)
     refine zqq (Nat.pow_le_pow_right (by decide) HL.out.1) ?_
     decide)
    omega
   clear hd;refine zw rfl fun K hK=>?_
   go_simp;refine (z1aq w1.heap.size g' o' n' c' _ W hw6 hn300).mono ?_
   rintro e Wn ⟨An,nn,cn,rfl,hln,hon,hbn⟩;rw [Wo.val_dig] at hln hon;refine hK _ _ ⟨u30,u31,u32,u33,u34,u35,_,_,u38,u5,Wn,g1,N1,g2,N2,p1,p2,g',o',n',c',An,nn,cn,?_,btr hb hbn,fun _=>rfl,fun e=>(nott h9 e).elim,h0,h1,fun e=>⟨(h2 e).1,(h2 e).2.1,fun e6=>(nott e6 T6.out).elim⟩,h3,h4,fun e=>⟨(h5 e).1,(h5 e).2.1,fun e6=>(nott e6 T6.out).elim⟩,hne,fun _=>⟨rfl,hw6.below hbn⟩,fun _=>⟨rfl,hln,z1f hon hb.size⟩,fun e=>(nott hf (c7 e)).elim,h10⟩;simp only [Act.put,zT,zZ,zS]
  ·have h9:L 9=false:=by
    cases e:L 9 with
    | false=>rfl
    | true=>exact (nott hf (c8 e)).elim
   obtain rfl:=hW0 h9
   obtain ⟨rfl,e3,e4⟩:=h7 (hd 7 (by kernel_rfl))
   clear hd;refine zw rfl fun K hK=>?_
   go_simp;refine hK _ _ ⟨u30,u31,u32,u33,u34,u35,u36,_,_,u5,_,g1,N1,g2,N2,p1,p2,g',o',n',c',A3,n3,c3,?_,hb,fun _=>rfl,fun e=>(nott h9 e).elim,h0,h1,h2,h3,h4,h5,hne,h6,fun _=>⟨rfl,e3,e4⟩,fun _=>rfl,h10⟩;simp only [Act.put,zT,zZ,zS]
  ·obtain rfl:=hW0 hf
   obtain rfl:=h8 (hd 8 (by kernel_rfl))
   obtain ⟨-,-,ca,cf⟩:=HK.out _ hb
   clear hd;refine zw rfl fun K hK=>?_
   go_simp;refine hK _ _ ⟨u30,u31,u32,u33,u34,u35,u36,u37,_,u5,_,g1,N1,g2,N2,p1,p2,g',o',n',c',A3,n3,c3,?_,hb,(fun e=>nomatch e),fun _=>rfl,h0,h1,h2,h3,h4,h5,hne,h6,h7,h8,h10⟩;simp only [Act.put,zT,zZ,zS]
  ·clear hd;refine zw rfl fun K hK=>?_
   go_simp;refine hK _ _ ⟨u30,u31,u32,u33,u34,u35,u36,u37,u38,_,W1,g1,N1,g2,N2,p1,p2,g',o',n',c',A3,n3,c3,?_,hb,hW0,hW9,h0,h1,h2,h3,h4,h5,hne,h6,h7,h8,fun _=>rfl⟩;simp only [Act.put,zT,zZ,zS]
 ·rintro L a W hl ⟨u30,u31,u32,u33,u34,u35,u36,u37,u38,u5,W1,g1,N1,g2,N2,p1,p2,g',o',n',c',A3,n3,c3,rfl,hb,hW0,hW9,h0,h1,h2,h3,h4,h5,hne,h6,h7,h8,h10⟩;obtain rfl:=hW9 (hl 9 (by decide))
  obtain ⟨rfl,e3,ho⟩:=h7 (hl 7 (by decide))
  obtain rfl:=h10 (hl 10 (by decide))
  obtain ⟨-,-,k2,f2⟩:=HK.out W1 hb
  have hc:(W1.setCell ⟨b+1+1,0,none⟩ (.slice A3 n3 c3)).cell? ⟨b+1+1,0,none⟩=some (.slice A3 n3 c3):=z0k _ k2
  have HO:=zh (And.intro e3 ho)
  have HBb:=zh hb;clear h0 h1 h2 h3 h4 h5 h6 h7 h8 h10 hne hW0 hW9 hl k2 f2 e3 ho hb;simp only [Act.put,zT,zZ,zS];go_wp2_with fail;have hbw:=HBw.out;have hz:=HZ.out;refine bodyPost_ret (v:=.tuple #[.agg #[.slice A3 n3 c3],.int .i64 0]) (by simp [results,Tryz.results86,go_sem,hc]) rfl ?_
  exact ⟨A3,n3,c3,rfl,HO.out.1,z1f (z2f HO.out.2 _ _ (by simp only;omega)) HB1.out.size,z4z (btr HB1.out HBb.out) _ (by simp only;omega) _⟩
theorem z2bl (A A2:Option Addr)(n c m c2:Nat)(zs ys:List Int)(w:World)(hn:zs.length=n)(hm:ys.length=m)(hs:Sl w w.heap.size A (z0p zs))(hs2:Sl w w.heap.size A2 (z0p ys))(hl:n<=140737488351232)(hl2:m<=140737488351232)(hv:(Na.vld zs && Na.vld ys)=false):
  Calls Tryz.prog 86 #[.agg #[.slice A n c],.agg #[.slice A2 m c2]] w (z3m w [] 1):=by
 obtain ⟨w0,hw0⟩:∃ w0,((w.alloc (.cells #[.slice A n c] 25)).alloc (.cells #[.slice A2 m c2] 25)).alloc (.cells #[.slice none 0 0] 25)=w0:=⟨_,rfl⟩
 have HW:Hid (((w.alloc (.cells #[.slice A n c] 25)).alloc (.cells #[.slice A2 m c2] 25)).alloc (.cells #[.slice none 0 0] 25)=w0):=hw0
 obtain ⟨b,hb⟩:∃ b,w.heap.size=b:=⟨_,rfl⟩
 have hb0:Below w.heap.size w w0:=by rw [<- hw0];exact bal (bal (bal (Below.refl _ _) _) _) _
 have hzw:b+3<=w0.heap.size:=by rw [<- hw0,<- hb];simp
 have k2:w0.cell? ⟨b+1+1,0,none⟩=some (.slice none 0 0):=by rw [<- hw0,<- hb];simp [go_sem]
 have f2:w0.frozen? ⟨b+1+1,0,none⟩=false:=by rw [<- hw0,<- hb];simp [go_sem]
 have HV:=zh (z1y A A2 n c m c2 w0.heap.size _ _ w0 hn hm ((hs.below hb0).more hb0.size) ((hs2.below hb0).more hb0.size) (zqj _) hl hl2)
 rw [hv] at HV;have HB0:=zh hb0;have HBw:=zh hb;clear hs hs2 hn hm hw0 hb hb0 hv;go_enter Tryz.func86,Tryz.ntmps86
 go_wp2_with fail;rw [HW.out,HBw.out];refine HV.out.mono ?_;rintro e w1 ⟨rfl,hb1⟩;have k2':=(hb1.cell (p:=⟨b+1+1,0,none⟩) (by simp only;omega)).trans k2
 have f2':=(hb1.frozen (p:=⟨b+1+1,0,none⟩) (by simp only;omega)).trans f2
 have HB1:=zh (btr HB0.out hb1)
 have hc:=z0k (.slice none 0 0) k2'
 clear hb1 k2 f2 HV HW;go_wp2_with fail;have hbw:=HBw.out;refine bodyPost_ret (v:=.tuple #[.agg #[.slice none 0 0],.int .i64 1]) (by simp [results,Tryz.results86,go_sem,hc]) rfl ?_
 exact z0y _ _ _ (z4z HB1.out _ (by simp only;omega) _)
theorem z6bz (A A2:Option Addr)(c m c2:Nat)(y:Nat)(w:World)(hm:(Na.dig y).length=m)(hs:Sl w w.heap.size A (z0c (Na.dig 0)))(hs2:Sl w w.heap.size A2 (z0c (Na.dig y)))(hy:y<Na.top):
  Calls Tryz.prog 86 #[.agg #[.slice A 0 c],.agg #[.slice A2 m c2]] w (z3m w (Na.dig y) 0):=by
 have hx:0<Na.top:=zqu (zqr _) hy
 have hm2:m<=200:=by rw [<- hm];exact (Na.dig_200 y).2 hy
 obtain ⟨w0,hw0⟩:∃ w0,((w.alloc (.cells #[.slice A 0 c] 25)).alloc (.cells #[.slice A2 m c2] 25)).alloc (.cells #[.slice none 0 0] 25)=w0:=⟨_,rfl⟩
 have HW:Hid (((w.alloc (.cells #[.slice A 0 c] 25)).alloc (.cells #[.slice A2 m c2] 25)).alloc (.cells #[.slice none 0 0] 25)=w0):=hw0
 obtain ⟨b,hb⟩:∃ b,w.heap.size=b:=⟨_,rfl⟩
 have hb0:Below w.heap.size w w0:=by rw [<- hw0];exact bal (bal (bal (Below.refl _ _) _) _) _
 have hzw:b+3<=w0.heap.size:=by rw [<- hw0,<- hb];simp
 have k0:w0.cell? ⟨b,0,none⟩=some (.slice A 0 c):=by rw [<- hw0,<- hb];simp [go_sem]
 have k1:w0.cell? ⟨b+1,0,none⟩=some (.slice A2 m c2):=by rw [<- hw0,<- hb];simp [go_sem]
 have k2:w0.cell? ⟨b+1+1,0,none⟩=some (.slice none 0 0):=by rw [<- hw0,<- hb];simp [go_sem]
 have f2:w0.frozen? ⟨b+1+1,0,none⟩=false:=by rw [<- hw0,<- hb];simp [go_sem]
 have hvv:(Na.vld (Na.up (Na.dig 0)) && Na.vld (Na.up (Na.dig y)))=true:=by rw [Na.vld_dig hx,Na.vld_dig hy];rfl
 have HV:=zh (z1y A A2 0 c m c2 w0.heap.size _ _ w0 (by rw [Na.up_length];exact Na.dig_len0.2 rfl) (by rw [Na.up_length];exact hm) (by rw [z0g];exact (hs.below hb0).more hb0.size) (by rw [z0g];exact (hs2.below hb0).more hb0.size) (zqj _) (by omega) (by omega))
 rw [hvv] at HV;have HM:=zh hm;have HS2:=zh hs2;have HB0:=zh hb0;have HBw:=zh hb;clear hs hs2 hm hw0 hvv hx hy hb hb0;go_enter Tryz.func86,Tryz.ntmps86
 go_wp2_with fail;rw [HW.out,HBw.out];refine HV.out.mono ?_;rintro e w1 ⟨rfl,hb1⟩;replace k0:=(hb1.cell (p:=⟨b,0,none⟩) (by simp only;omega)).trans k0
 replace k1:=(hb1.cell (p:=⟨b+1,0,none⟩) (by simp only;omega)).trans k1
 replace k2:=(hb1.cell (p:=⟨b+1+1,0,none⟩) (by simp only;omega)).trans k2
 replace f2:=(hb1.frozen (p:=⟨b+1+1,0,none⟩) (by simp only;omega)).trans f2
 have HB1:=zh (btr HB0.out hb1)
 have hzw1:b+3<=w1.heap.size:=zqq hzw hb1.size
 clear hb1 HV HW hzw;go_wp2_with fail;refine (z3x A2 m c2 w1.heap.size _ w1 HM.out ((HS2.out.below HB1.out).more HB1.out.size) (zqj _) (by omega)).mono ?_
 rintro e w2 ⟨A3,n3,c3,rfl,hn3,ho,hb2⟩;have k2':=(hb2.cell (p:=⟨b+1+1,0,none⟩) (by simp only;omega)).trans k2
 have f2':=(hb2.frozen (p:=⟨b+1+1,0,none⟩) (by simp only;omega)).trans f2
 have HO:=zh (And.intro hn3 ho)
 have HB2:=zh (btr HB1.out hb2)
 have hc:=z0k (.slice A3 n3 c3) k2'
 have HZ:=zh hzw1;clear hn3 ho hb2 k0 k1 k2 f2 hzw1;go_wp2_with fail;have hbw:=HBw.out;have hz:=HZ.out;refine bodyPost_ret (v:=.tuple #[.agg #[.slice A3 n3 c3],.int .i64 0]) (by simp [results,Tryz.results86,go_sem,hc]) rfl ?_
 exact ⟨A3,n3,c3,rfl,HO.out.1,z1f (z2f HO.out.2 _ _ (by simp only;omega)) HB1.out.size,z4z HB2.out _ (by simp only;omega) _⟩
theorem z6by (A A2:Option Addr)(n c c2:Nat)(x:Nat)(w:World)(hn:(Na.dig x).length=n)(hs:Sl w w.heap.size A (z0c (Na.dig x)))(hs2:Sl w w.heap.size A2 (z0c (Na.dig 0)))(hx:x<Na.top)(hx0:0<x):
  Calls Tryz.prog 86 #[.agg #[.slice A n c],.agg #[.slice A2 0 c2]] w (z3m w (Na.dig x) 0):=by
 have hy:0<Na.top:=zqu (zqr _) hx
 have hn2:n<=200:=by rw [<- hn];exact (Na.dig_200 x).2 hx
 have hn0:((n:Int) == 0)=false:=by
  rw [beq_eq_false_iff_ne];intro e;have:n=0:=by omega
  rw [this] at hn;have:=Na.dig_len0.1 hn
  omega
 obtain ⟨w0,hw0⟩:∃ w0,((w.alloc (.cells #[.slice A n c] 25)).alloc (.cells #[.slice A2 0 c2] 25)).alloc (.cells #[.slice none 0 0] 25)=w0:=⟨_,rfl⟩
 have HW:Hid (((w.alloc (.cells #[.slice A n c] 25)).alloc (.cells #[.slice A2 0 c2] 25)).alloc (.cells #[.slice none 0 0] 25)=w0):=hw0
 obtain ⟨b,hb⟩:∃ b,w.heap.size=b:=⟨_,rfl⟩
 have hb0:Below w.heap.size w w0:=by rw [<- hw0];exact bal (bal (bal (Below.refl _ _) _) _) _
 have hzw:b+3<=w0.heap.size:=by rw [<- hw0,<- hb];simp
 have k0:w0.cell? ⟨b,0,none⟩=some (.slice A n c):=by rw [<- hw0,<- hb];simp [go_sem]
 have k1:w0.cell? ⟨b+1,0,none⟩=some (.slice A2 0 c2):=by rw [<- hw0,<- hb];simp [go_sem]
 have k2:w0.cell? ⟨b+1+1,0,none⟩=some (.slice none 0 0):=by rw [<- hw0,<- hb];simp [go_sem]
 have f2:w0.frozen? ⟨b+1+1,0,none⟩=false:=by rw [<- hw0,<- hb];simp [go_sem]
 have hvv:(Na.vld (Na.up (Na.dig x)) && Na.vld (Na.up (Na.dig 0)))=true:=by rw [Na.vld_dig hx,Na.vld_dig hy];rfl
 have HV:=zh (z1y A A2 n c 0 c2 w0.heap.size _ _ w0 (by rw [Na.up_length];exact hn) (by rw [Na.up_length];exact Na.dig_len0.2 rfl) (by rw [z0g];exact (hs.below hb0).more hb0.size) (by rw [z0g];exact (hs2.below hb0).more hb0.size) (zqj _) (by omega) (by omega))
 rw [hvv] at HV;have HN:=zh hn;have HS:=zh hs;have HB0:=zh hb0;have HBw:=zh hb;clear hs hs2 hn hw0 hvv hx hy hb hb0 hx0;go_enter Tryz.func86,Tryz.ntmps86
 go_wp2_with fail;rw [HW.out,HBw.out];refine HV.out.mono ?_;rintro e w1 ⟨rfl,hb1⟩;replace k0:=(hb1.cell (p:=⟨b,0,none⟩) (by simp only;omega)).trans k0
 replace k1:=(hb1.cell (p:=⟨b+1,0,none⟩) (by simp only;omega)).trans k1
 replace k2:=(hb1.cell (p:=⟨b+1+1,0,none⟩) (by simp only;omega)).trans k2
 replace f2:=(hb1.frozen (p:=⟨b+1+1,0,none⟩) (by simp only;omega)).trans f2
 have HB1:=zh (btr HB0.out hb1)
 have hzw1:b+3<=w1.heap.size:=zqq hzw hb1.size
 clear hb1 HV HW hzw;go_wp2_with fail;refine (z3x A n c w1.heap.size _ w1 HN.out ((HS.out.below HB1.out).more HB1.out.size) (zqj _) (by omega)).mono ?_
 rintro e w2 ⟨A3,n3,c3,rfl,hn3,ho,hb2⟩;have k2':=(hb2.cell (p:=⟨b+1+1,0,none⟩) (by simp only;omega)).trans k2
 have f2':=(hb2.frozen (p:=⟨b+1+1,0,none⟩) (by simp only;omega)).trans f2
 have HO:=zh (And.intro hn3 ho)
 have HB2:=zh (btr HB1.out hb2)
 have hc:=z0k (.slice A3 n3 c3) k2'
 have HZ:=zh hzw1;clear hn3 ho hb2 k0 k1 k2 f2 hzw1;go_wp2_with fail;have hbw:=HBw.out;have hz:=HZ.out;refine bodyPost_ret (v:=.tuple #[.agg #[.slice A3 n3 c3],.int .i64 0]) (by simp [results,Tryz.results86,go_sem,hc]) rfl ?_
 exact ⟨A3,n3,c3,rfl,HO.out.1,z1f (z2f HO.out.2 _ _ (by simp only;omega)) HB1.out.size,z4z HB2.out _ (by simp only;omega) _⟩
section
variable {w0 w w':World}{g:Option Nat}{M:List (Nat×Value)}{L:List Ob}{A A2:Option Addr}{n c m c2 x y:Nat}
theorem z8ap (A A2:Option Addr)(n c m c2:Nat)(x y:Nat)(w:World)(hn:(Na.dig x).length=n)(hm:(Na.dig y).length=m)(hs:Sl w w.heap.size A (z0c (Na.dig x)))(hs2:Sl w w.heap.size A2 (z0c (Na.dig y)))(hx:x<Na.top)(hy:y<Na.top)(ht:Tab w):
  Calls Tryz.prog 86 #[.agg #[.slice A n c],.agg #[.slice A2 m c2]] w (z3m w (Na.dig (Nat.gcd x y)) 0):=by
 rcases zqh x with rfl|hx0
 ·obtain rfl:n=0:=by rw [<- hn];exact Na.dig_len0.2 rfl
  rw [Nat.gcd_zero_left];exact z6bz A A2 c m c2 y w hm hs hs2 hy
 ·rcases zqh y with rfl|hy0
  ·obtain rfl:m=0:=by rw [<- hm];exact Na.dig_len0.2 rfl
   rw [Nat.gcd_zero_right];exact z6by A A2 n c c2 x w hn hs hs2 hx hx0
  ·exact z2bk A A2 n c m c2 x y w hn hm hs hs2 hx hy hx0 hy0 ht
theorem z2ab (hx:x<Na.top)(hy:y<Na.top):Nat.gcd x y<Na.top:=by
 rcases zqh x with rfl|hx0
 ·rw [Nat.gcd_zero_left];exact hy
 ·exact zqu (Nat.le_of_dvd hx0 (Nat.gcd_dvd_left x y)) hx
end
open Go.RowKit Go.Sort
def z9a (zs ys:List Int):List Nat:=if Na.vld zs && Na.vld ys then Na.dig (Nat.gcd (num zs) (num ys)) else []
def gcdE (zs ys:List Int):Int:=if Na.vld zs && Na.vld ys then 0 else 1
def prtL (zs:List Int):List UInt8:=if Na.vld zs then De.text (num zs) else []
def z7v (w0:World)(g:Option Nat)(M:List (Nat×Value))(L:List Ob)(O:List Rw)(l:List Nat)(err:Int)(en:Ending)(w':World):Prop:=
 ∃ (A:Option Addr) (n c:Nat),en=.returned (.tuple #[.agg #[.slice A n c],.int .i64 err])/\Ow w0 w' g M (L++[⟨A,n,c,z0c l⟩]) O
theorem z3a {x:Nat}(h:x<Na.top):(Na.dig x).length<=1000:=zqq ((Na.dig_200 x).2 h) (by omega)
theorem z7b (x:Nat):(z4j x).length<=1000:=zqq (z1be x) (by omega)
theorem z4r (zs ys:List Int):(Na.vld zs && Na.vld ys)=false∨((Na.vld zs && Na.vld ys)=true/\num zs<Na.top/\num ys<Na.top/\zs=Na.up (Na.dig (num zs))/\ys=Na.up (Na.dig (num ys))):=by
 cases hv:(Na.vld zs && Na.vld ys)
 ·exact .inl rfl
 ·obtain ⟨x,y,hx,hy,rfl,rfl⟩:=z9f hv
  refine .inr ⟨rfl,?_⟩
  rw [z0l,z0l];exact ⟨hx,hy,rfl,rfl⟩
theorem z0av (zs ys:List Int):(addL zs ys).length<=1000:=by
 unfold addL;split
 ·exact z7b _
 ·exact zqr _
theorem z0ak (zs ys:List Int):(mulL zs ys).length<=1000:=by
 unfold mulL;split
 ·exact z7b _
 ·exact zqr _
theorem z9k (zs ys:List Int):(subL zs ys).length<=1000:=by
 rcases z4r zs ys with h|⟨h,hx,hy,e1,e2⟩
 ·unfold subL;rw [h];exact zqr _
 ·unfold subL;rw [h,if_pos rfl];split
  ·exact zqr _
  ·exact z3a (zqu (Nat.sub_le _ _) hx)
theorem z0aq (zs ys:List Int):(z9a zs ys).length<=1000:=by
 rcases z4r zs ys with h|⟨h,hx,hy,e1,e2⟩
 ·unfold z9a;rw [h];exact zqr _
 ·unfold z9a;rw [h,if_pos rfl];exact z3a (z2ab hx hy)
section
variable {w0 w w':World}{g:Option Nat}{M:List (Nat×Value)}{L:List Ob}{O:List Rw}{A A2:Option Addr}{n c m c2:Nat}{zs ys:List Int}
theorem z5v (h:Ow w0 w g M L O){l:List Nat}{e:Int}(hl:l.length<=1000){en:Ending}(hr:z3m w l e en w'):z7v w0 g M L O l e en w':=by
 obtain ⟨A,n,c,he,-,ho⟩:=h.pushN hr hl
 exact ⟨A,n,c,he,ho⟩
theorem Ow.raw (h:Ow w0 w g M L O){i:Nat}(hi:L[i]?=some ⟨A,n,c,z0p zs⟩):zs.length=n/\n<=c/\n<=1000/\Sl w w.heap.size A (z0p zs):=by
 obtain ⟨h1,h2,h3,h4⟩:=h.sl hi
 rw [z0s] at h1;exact ⟨h1,h2,h3,h4⟩
theorem z5j (h:zs.length=n/\n<=c/\n<=1000/\Sl w w.heap.size A (z0p zs)){x:Nat}(e:zs=Na.up (Na.dig x)):(Na.dig x).length=n/\n<=c/\n<=1000/\Sl w w.heap.size A (z0c (Na.dig x)):=by
 subst e
 rw [z0g,Na.up_length] at h;exact h
theorem z0ce (h:Ow w0 w g M L O)(i j:Nat)(hi:L[i]?=some ⟨A,n,c,z0p zs⟩)(hj:L[j]?=some ⟨A2,m,c2,z0p ys⟩):
  Calls Tryz.prog 146 #[.agg #[.slice A n c],.agg #[.slice A2 m c2]] w (z7v w0 g M L O (addL zs ys) (addE zs ys)):=by
 obtain ⟨h1,h2,h3,h4⟩:=h.raw hi
 obtain ⟨k1,k2,k3,k4⟩:=h.raw hj
 exact (z2bj A A2 n c m c2 zs ys w h1 k1 h4 k4 (by omega) (by omega)).mono fun en w' hr=>z5v h (z0av zs ys) hr
theorem z7bx (h:Ow w0 w g M L O)(i j:Nat)(hi:L[i]?=some ⟨A,n,c,z0p zs⟩)(hj:L[j]?=some ⟨A2,m,c2,z0p ys⟩):
  Calls Tryz.prog 102 #[.agg #[.slice A n c],.agg #[.slice A2 m c2]] w (z7v w0 g M L O (addL zs ys) (addE zs ys)):=by
 obtain ⟨h1,h2,h3,h4⟩:=h.raw hi
 obtain ⟨k1,k2,k3,k4⟩:=h.raw hj
 exact (z8ah A A2 n c m c2 zs ys w h1 k1 h4 k4 (by omega) (by omega)).mono fun en w' hr=>z5v h (z0av zs ys) hr
theorem z0ca (h:Ow w0 w g M L O)(i j:Nat)(hi:L[i]?=some ⟨A,n,c,z0p zs⟩)(hj:L[j]?=some ⟨A2,m,c2,z0p ys⟩):
  Calls Tryz.prog 94 #[.agg #[.slice A n c],.agg #[.slice A2 m c2]] w (z7v w0 g M L O (subL zs ys) (subE zs ys)):=by
 obtain ⟨h1,h2,h3,h4⟩:=h.raw hi
 obtain ⟨k1,k2,k3,k4⟩:=h.raw hj
 exact (z1by A A2 n c m c2 zs ys w h1 k1 h4 k4 (by omega) (by omega)).mono fun en w' hr=>z5v h (z9k zs ys) hr
theorem z7bs (h:Ow w0 w g M L O)(i j:Nat)(hi:L[i]?=some ⟨A,n,c,z0p zs⟩)(hj:L[j]?=some ⟨A2,m,c2,z0p ys⟩):
  Calls Tryz.prog 43 #[.agg #[.slice A n c],.agg #[.slice A2 m c2]] w (z7v w0 g M L O (subL zs ys) (subE zs ys)):=by
 obtain ⟨h1,h2,h3,h4⟩:=h.raw hi
 obtain ⟨k1,k2,k3,k4⟩:=h.raw hj
 exact (z8ae A A2 n c m c2 zs ys w h1 k1 h2 k2 h4 k4 h3 k3).mono fun en w' hr=>z5v h (z9k zs ys) hr
theorem z4bp (h:Ow w0 w g M L O)(i j:Nat)(hi:L[i]?=some ⟨A,n,c,z0p zs⟩)(hj:L[j]?=some ⟨A2,m,c2,z0p ys⟩):
  Calls Tryz.prog 98 #[.agg #[.slice A n c],.agg #[.slice A2 m c2]] w (z7v w0 g M L O (mulL zs ys) (mulE zs ys)):=by
 obtain ⟨h1,h2,h3,h4⟩:=h.raw hi
 obtain ⟨k1,k2,k3,k4⟩:=h.raw hj
 exact (z2bg A A2 n c m c2 zs ys w h1 k1 h4 k4 (by omega) (by omega)).mono fun en w' hr=>z5v h (z0ak zs ys) hr
theorem z7bu (h:Ow w0 w g M L O)(i j:Nat)(hi:L[i]?=some ⟨A,n,c,z0p zs⟩)(hj:L[j]?=some ⟨A2,m,c2,z0p ys⟩):
  Calls Tryz.prog 46 #[.agg #[.slice A n c],.agg #[.slice A2 m c2]] w (z7v w0 g M L O (mulL zs ys) (mulE zs ys)):=by
 obtain ⟨h1,h2,h3,h4⟩:=h.raw hi
 obtain ⟨k1,k2,k3,k4⟩:=h.raw hj
 exact (z8ai A A2 n c m c2 zs ys w h1 k1 h4 k4 (by omega) (by omega)).mono fun en w' hr=>z5v h (z0ak zs ys) hr
theorem z0cd (h:Ow w0 w g M L O)(i j:Nat)(hi:L[i]?=some ⟨A,n,c,z0p zs⟩)(hj:L[j]?=some ⟨A2,m,c2,z0p ys⟩)(ht:Tab w0):
  Calls Tryz.prog 86 #[.agg #[.slice A n c],.agg #[.slice A2 m c2]] w (z7v w0 g M L O (z9a zs ys) (gcdE zs ys)):=by
 have p:=h.raw hi
 have q:=h.raw hj
 have key:Calls Tryz.prog 86 #[.agg #[.slice A n c],.agg #[.slice A2 m c2]] w (z3m w (z9a zs ys) (gcdE zs ys)):=by
  rcases z4r zs ys with hv|⟨hv,hx,hy,e1,e2⟩
  ·have a1:z9a zs ys=[]:=by unfold z9a;rw [hv];rfl
   have a3:gcdE zs ys=1:=by unfold gcdE;rw [hv];rfl
   rw [a1,a3];exact z2bl A A2 n c m c2 zs ys w p.1 q.1 p.2.2.2 q.2.2.2 (by have:=p.2.2.1;omega) (by have:=q.2.2.1;omega) hv
  ·have p':=z5j p e1
   have q':=z5j q e2
   have a1:z9a zs ys=Na.dig (Nat.gcd (num zs) (num ys)):=by unfold z9a;rw [hv,if_pos rfl]
   have a3:gcdE zs ys=0:=by unfold gcdE;rw [hv,if_pos rfl]
   rw [a1,a3];exact z8ap A A2 n c m c2 _ _ w p'.1 q'.1 p'.2.2.2 q'.2.2.2 hx hy (ht.below h.below)
 exact key.mono fun en w' hr=>z5v h (z0aq zs ys) hr
theorem z7bv (h:Ow w0 w g M L O)(i j:Nat)(hi:L[i]?=some ⟨A,n,c,z0p zs⟩)(hj:L[j]?=some ⟨A2,m,c2,z0p ys⟩):
  Calls Tryz.prog 76 #[.agg #[.slice A n c],.agg #[.slice A2 m c2]] w (z7v w0 g M L O (z9a zs ys) (gcdE zs ys)):=by
 have p:=h.raw hi
 have q:=h.raw hj
 have key:Calls Tryz.prog 76 #[.agg #[.slice A n c],.agg #[.slice A2 m c2]] w (z3m w (z9a zs ys) (gcdE zs ys)):=by
  rcases z4r zs ys with hv|⟨hv,hx,hy,e1,e2⟩
  ·have a1:z9a zs ys=[]:=by unfold z9a;rw [hv];rfl
   have a3:gcdE zs ys=1:=by unfold gcdE;rw [hv];rfl
   rw [a1,a3];exact z8ag A A2 n c m c2 zs ys w p.1 q.1 p.2.1 q.2.1 p.2.2.2 q.2.2.2 p.2.2.1 q.2.2.1 hv
  ·have p':=z5j p e1
   have q':=z5j q e2
   have a1:z9a zs ys=Na.dig (Nat.gcd (num zs) (num ys)):=by unfold z9a;rw [hv,if_pos rfl]
   have a3:gcdE zs ys=0:=by unfold gcdE;rw [hv,if_pos rfl]
   rw [a1,a3];exact z3ae A A2 n c m c2 _ _ w p'.1 q'.1 p'.2.1 q'.2.1 p'.2.2.2 q'.2.2.2 hx hy
 exact key.mono fun en w' hr=>z5v h (z0aq zs ys) hr
theorem z0bf (h:Ow w0 w g M L O)(i:Nat)(hi:L[i]?=some ⟨A,n,c,z0p zs⟩):
  Calls Tryz.prog 49 #[.agg #[.slice A n c]] w fun e w'=>e=.returned (.string (str (prtL zs)))/\Below w.heap.size w w':=by
 have p:=h.raw hi
 cases hv:Na.vld zs
 ·have a1:prtL zs=[]:=by unfold prtL;rw [hv];rfl
  rw [a1];exact z1at A n c zs w p.1 p.2.1 p.2.2.2 p.2.2.1 hv
 ·obtain ⟨x,hx,e1⟩:=Na.vld_ex hv
  have p':=z5j p e1
  have a1:prtL zs=De.text x:=by unfold prtL;rw [hv,if_pos rfl,e1,z0l]
  rw [a1];exact z5ak A n c x w p'.1 p'.2.1 p'.2.2.2 hx
theorem z3bf (h:Ow w0 w g M L O)(i:Nat)(hi:L[i]?=some ⟨A,n,c,z0p zs⟩):
  Calls Tryz.prog 84 #[.agg #[.slice A n c]] w fun e w'=>e=.returned (.bool (Na.vld zs))/\Below w.heap.size w w':=by
 have p:=h.raw hi
 exact (z4u A n c w.heap.size zs w p.1 p.2.2.2 (zqj _) (by have:=p.2.2.1;omega)).mono fun en w' ⟨he,hb⟩=>⟨he,hb⟩
theorem z5e (h:Ow w0 w g M L O)(i:Nat)(hi:L[i]?=some ⟨A,n,c,z0p zs⟩):
  Calls Tryz.prog 84 #[.agg #[.slice A n c]] w fun e w'=>e=.returned (.bool (Na.vld zs))/\Ow w0 w' g M L O:=
 (z3bf h i hi).mono fun en w' ⟨he,hb⟩=>⟨he,h.go hb⟩
theorem z0bg (h:Ow w0 w g M L O)(i j:Nat)(hi:L[i]?=some ⟨A,n,c,z0p zs⟩)(hj:L[j]?=some ⟨A2,m,c2,z0p ys⟩)(hv:Na.vld zs=true)(hv2:Na.vld ys=true):
  Calls Tryz.prog 47 #[.agg #[.slice A n c],.agg #[.slice A2 m c2]] w fun e w'=>e=.returned (.int .i64 (Na.sgn (num zs) (num ys)))/\Below w.heap.size w w':=by
 obtain ⟨x,hx,e1⟩:=Na.vld_ex hv
 obtain ⟨y,hy,e2⟩:=Na.vld_ex hv2
 have p':=z5j (h.raw hi) e1
 have q':=z5j (h.raw hj) e2
 rw [e1,e2,z0l,z0l];exact (z7i A A2 n c m c2 x y w p'.1 q'.1 p'.2.1 q'.2.1 p'.2.2.2 q'.2.2.2 p'.2.2.1 q'.2.2.1).mono fun en w' ⟨he,hb⟩=>⟨he,hb⟩
theorem z7bw (h:Ow w0 w g M L O)(i j:Nat)(hi:L[i]?=some ⟨A,n,c,z0p zs⟩)(hj:L[j]?=some ⟨A2,m,c2,z0p ys⟩)(hv:Na.vld zs=true)(hv2:Na.vld ys=true):
  Calls Tryz.prog 47 #[.agg #[.slice A n c],.agg #[.slice A2 m c2]] w fun e w'=>e=.returned (.int .i64 (Na.sgn (num zs) (num ys)))/\Ow w0 w' g M L O:=
 (z0bg h i j hi hj hv hv2).mono fun en w' ⟨he,hb⟩=>⟨he,h.go hb⟩
end
section
variable {w0 w:World}{g:Option Nat}{M:List (Nat×Value)}{L:List Ob}{A A2:Option Addr}{n c m c2 x y:Nat}
end
namespace De
set_option maxHeartbeats 30000000
end De
theorem z6an {x m:Nat}(h:x<16777216 ^ m)(hm:m<=200):x<Na.top:=zqv h (Nat.pow_le_pow_right (by omega) hm)
end Go.Proofs.YtpmofjomadibmaaGreatDoor
