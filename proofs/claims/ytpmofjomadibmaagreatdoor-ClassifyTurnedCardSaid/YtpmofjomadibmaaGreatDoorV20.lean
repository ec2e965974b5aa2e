/- Zk Zl Zm Zn Zo Zp Zq Zr -/
import Derived.Test.YtpmofjomadibmaaGreatDoorV19
import Derived.Lib.SliceRun
import Derived.Shelf.SortM.Plain
import Derived.Shelf.SortM.SortNone
import Derived.Sort.OwnSortedInts
namespace Go.Proofs.YtpmofjomadibmaaGreatDoor
set_option maxHeartbeats 8000000
open Go.RowKit Go.Sort
open Go.ChangeMaps (setBlock heap_setBlock_same heap_setBlock_other)
set_option linter.unusedVariables false
set_option maxRecDepth 100000
open Cl
namespace Cl
set_option maxHeartbeats 8000000
structure Oy (X:List Rx)(w0 w:World)(g:Option Nat)(M:List (Nat×Value))(L:List Ob)(O:List Rw):Prop where
 ox:Ox w0 w g M L O X
section
variable {X:List Rx}{w0 w w':World}{g:Option Nat}{M:List (Nat×Value)}{L:List Ob}{O:List Rw}
theorem Oy.row (h:Oy X w0 w g M L O)(i:Nat){A:Option Addr}{n c:Nat}{e:TypeId}{vs:List Value}(hi:O[i]?=some ⟨A,n,c,e,vs⟩):w.ownsRow w0.heap.size e 1 (.slice A n c) n vs:=h.ox.ow.row i hi
theorem Oy.sl (h:Oy X w0 w g M L O){i:Nat}{A:Option Addr}{n c:Nat}{vs:List Value}(hi:L[i]?=some ⟨A,n,c,vs⟩):vs.length=n∧n≤c∧n≤1000∧Sl w w.heap.size A vs:=h.ox.ow.sl hi
theorem Oy.go (h:Oy X w0 w g M L O)(hb:Below w.heap.size w w'):Oy X w0 w' g M L O:=⟨h.ox.go hb⟩
theorem Oy.drew (h:Oy X w0 w g M L O):Oy X w0 w.drew g M L O:=⟨h.ox.go (z0p (Below.refl _ _) 1)⟩
theorem _root_.Go.Proofs.YtpmofjomadibmaaGreatDoor.Ox.turnO (h:Ox w0 w g M L O X)(i:Nat){r r':Rw}(hi:O[i]?=some r)(hg:w.grownBy w' r.blk)(ho:w'.ownsRow w0.heap.size r'.e 1 (.slice r'.A r'.n r'.c) r'.n r'.vs)(hb:r'.blk=r.blk∨r'.blk=some w.heap.size):Ox w0 w' g M L (O.set i r') X:=by
 refine ⟨h.ow.turn i hi hg ho hb,fun j x hj=>h.keepRow hg hj fun b hb' e2=>(h.ap j x hj b hb').2.2.2 i r hi e2,fun j x hj b hb'=>?_,h.two⟩
 obtain ⟨a1,a2,a3,a4⟩:=h.ap j x hj b hb'
 refine ⟨a1,a2,a3,fun j2 q hq e2=>?_⟩
 rcases Nat.decEq j2 i with hne | rfl
 ·rw [zqf (Ne.symm hne)] at hq
  exact a4 j2 q hq e2
 ·rw [List.getElem?_set_self (z0e hi)] at hq
  obtain rfl:=zqk hq
  rcases hb with hb | hb
  ·exact a4 j2 r hi (hb.symm.trans e2)
  ·have:=(h.lt hj hb').1
   have:=zqk (hb.symm.trans e2)
   omega
theorem Oy.cut (h:Oy X w0 w g M L O)(i:Nat){A:Option Addr}{n c:Nat}{e:TypeId}{vs:List Value}(hi:O[i]?=some ⟨A,n,c,e,vs⟩){k:Nat}(hk:k≤n):Oy X w0 w g M L (O.set i ⟨A,k,c,e,vs.take k⟩):=
 ⟨h.ox.turnO i hi (r':=⟨A,k,c,e,vs.take k⟩) (World.grownBy.refl w _) (z2t (h.ox.ow.own i _ hi) hk) (.inl (by show (Value.slice A k c).ownBlock=(Value.slice A n c).ownBlock;rw [z6e,z6e]))⟩
theorem Oy.put (h:Oy X w0 w g M L O)(i:Nat){gb n c:Nat}{e:TypeId}{vs:List Value}(hi:O[i]?=some ⟨some ⟨gb,0,none⟩,n,c,e,vs⟩)(k:Nat)(v:Value):Oy X w0 (w.setCell ⟨gb,k,none⟩ v) g M L (O.set i ⟨some ⟨gb,0,none⟩,n,c,e,vs.set k v⟩):=⟨h.ox.putO i hi k v⟩
end
def dlP (k:Int)(y:Sn)(l:List Sn)(i:Nat):Bool:=match l[i]? with
 | some x=>decide (z2g k y=z2g k x)
 | none=>false
end Cl
structure AlK (X:List Rx)(w0:World)(g:Option Nat)(M:List (Nat×Value))(L:List Ob)(O:List Rw)(vb nb lb:Nat)(vk:Int)(ad:Addr)(n c i:Nat)(x0 x1 x2 x3 x4 x5 x6 x7 y0 y1 y2 y3 y4 y5 y6 y7:Int)(bb:Bool)(Ld:Nat→Bool)(u0 u1 u2 u3 u4 u5 u6 u7 u8:Value)(W:World):Prop where
 ow:Oy X w0 W g M L O
 h0:Ld 0=true→u0=.pointer (some ⟨vb,0,none⟩)
 h1:Ld 1=true→u1=.int .i64 vk
 h2:Ld 2=true→u2=.agg #[.int .i64 y0,.int .i64 y1,.int .i64 y2,.int .i64 y3,.int .i64 y4,.int .i64 y5,.int .i64 y6,.int .i64 y7]
 h3:Ld 3=true→u3=.slice (some ad) n c
 h4:Ld 4=true→u4=.int .i64 (i:Int)
 h5:Ld 5=true→u5=.pointer (some (ad.add (i*8)))
 h6:Ld 6=true→u6=.agg #[.int .i64 x0,.int .i64 x1,.int .i64 x2,.int .i64 x3,.int .i64 x4,.int .i64 x5,.int .i64 x6,.int .i64 x7]
 h7:Ld 7=true→u7=.bool bb
 h8:Ld 8=true→u8=.bool bb
def AlI (X:List Rx)(w0:World)(g:Option Nat)(M:List (Nat×Value))(L:List Ob)(O:List Rw)(vb nb lb:Nat)(vk:Int)(ad:Addr)(n c i:Nat)(x0 x1 x2 x3 x4 x5 x6 x7 y0 y1 y2 y3 y4 y5 y6 y7:Int)(bb:Bool)(A0:Act)(Ld:Nat→Bool)(a:Act)(W:World):Prop:=
 ∃ (u0 u1 u2 u3 u4 u5 u6 u7 u8:Value),a=(((((((((A0.put (some 6) u0).put (some 7) u1).put (some 8) u2).put (some 9) u3).put (some 10) u4).put (some 11) u5).put (some 12) u6).put (some 13) u7).put (some 5) u8)∧AlK X w0 g M L O vb nb lb vk ad n c i x0 x1 x2 x3 x4 x5 x6 x7 y0 y1 y2 y3 y4 y5 y6 y7 bb Ld u0 u1 u2 u3 u4 u5 u6 u7 u8 W
theorem z1bb {X:List Rx}{w0 w:World}{g:Option Nat}{M:List (Nat×Value)}{L:List Ob}{O:List Rw}(h:Oy X w0 w g M L O){vi ni bi k vb nb lb n c e3:Nat}{A:Option Addr}{vk:Int}{vr:List Value}{l:List Sn}(y:Sn)(hv:O[vi]?=some (⟨some ⟨vb,0,none⟩,11,11,42,.int .i64 vk :: vr⟩:Rw))(hn:O[ni]?=some ⟨some ⟨nb,0,none⟩,8,8,40,y.vs.toList⟩)(hb:O[bi]?=some (⟨some ⟨lb,0,none⟩,1,1,23,[.slice A n c]⟩:Rw))(hk:L[k]?=some ⟨A,n*8,e3,fl l⟩)(hvr:vr.length=10)(hkd:kd vk)(i:Nat)(hi:i<n):
  Calls Tryz.prog 52 #[.int .i64 (i:Int),.pointer (some ⟨vb,0,none⟩),.pointer (some ⟨nb,0,none⟩),.pointer (some ⟨lb,0,none⟩)] w fun e w'=>e=.returned (.bool (dlP vk y l i))∧Oy X w0 w' g M L O:=by
 have hl:l.length=n:=by
  have:=(h.sl hk).1
  rw [z3f] at this;omega
 obtain ⟨x,hx⟩:∃ z,l[i]?=some z:=⟨l[i]'(by omega),zql _⟩
 obtain ⟨ad,rfl,_⟩:=z3m (h.sl hk).2.2.2 hx
 have hP:dlP vk y l i=decide (z2g vk y=z2g vk x):=by unfold dlP;rw [hx]
 obtain ⟨bb,hbb⟩:∃ z,decide (z2g vk y=z2g vk x)=z:=⟨_,rfl⟩
 rw [hP,hbb];have HSm:=zh (fun W=>z5ac vk hkd y x W)
 rw [hbb] at HSm;obtain ⟨⟨y0,y1,y2,y3,y4,y5⟩,y6,y7⟩:=y
 obtain ⟨⟨x0,x1,x2,x3,x4,x5⟩,x6,x7⟩:=x
 unfold Sn.vs at HSm hn;have HO:=zh h;have HVr:=zh hv;have HNr:Hid (O[ni]?=some (⟨some ⟨nb,0,none⟩,8,8,40,[.int .i64 y0,.int .i64 y1,.int .i64 y2,.int .i64 y3,.int .i64 y4,.int .i64 y5,.int .i64 y6,.int .i64 y7]⟩:Rw)):=hn
 have HBr:=zh hb;have HK:=zh hk;have HX:=zh hx;have HIn:Hid (i<n∧(i:Int)<(n:Int)):=⟨hi,by omega⟩
 clear h hv hn hb hk hvr hkd hx hP hbb hl hi;go_enter Tryz.func52,Tryz.ntmps52
 go_wp2_with fail;refine z1d (AlI X w0 g M L O vb nb lb vk ad n c i x0 x1 x2 x3 x4 x5 x6 x7 y0 y1 y2 y3 y4 y5 y6 y7 bb) (by kernel_rfl) (by kernel_rfl) ?_ ?_ ?_
 ·refine ⟨undef,undef,undef,undef,undef,undef,undef,undef,(.bool false),?_,⟨HO.out.drew,?_,?_,?_,?_,?_,?_,?_,?_,?_⟩⟩
  ·simp only [Act.put,zT,zZ,zS]
  all_goals (intro h;cases h)
 ·rintro jj Ld b W hj hf hcl hd ⟨u0,u1,u2,u3,u4,u5,u6,u7,u8,rfl,hC⟩;have hj':jj<9:=hj
  have hcase:jj=0∨jj=1∨jj=2∨jj=3∨jj=4∨jj=5∨jj=6∨jj=7∨jj=8:=by omega
  clear hj hj';simp only [Act.put,zT,zZ,zS];rcases hcase with rfl | rfl | rfl | rfl | rfl | rfl | rfl | rfl | rfl
  ·clear hd hcl;refine zw rfl fun K hK=>?_
   go_simp;refine hK _ _ ⟨_,_,_,_,_,_,_,_,_,?_,{hC with h0:=fun _=>rfl}⟩;simp only [Act.put,zT,zZ,zS]
  ·obtain rfl:=hC.h0 (hd 0 (by kernel_rfl));have y0:W.cell? ⟨vb,0,none⟩=some (.int .i64 vk):=(hC.ow.row vi HVr.out).cellAt 0 (by decide)
   clear hd hcl;refine zw rfl fun K hK=>?_
   go_simp;refine hK _ _ ⟨_,_,_,_,_,_,_,_,_,?_,{hC with h1:=fun _=>rfl}⟩;simp only [Act.put,zT,zZ,zS]
  ·obtain ⟨z0,z1,z2,z3,z4,z5,z6,z7⟩:=zc8 (hC.ow.row ni HNr.out);clear hd hcl;refine zw rfl fun K hK=>?_
   go_simp;refine hK _ _ ⟨_,_,_,_,_,_,_,_,_,?_,{hC with h2:=fun _=>rfl}⟩;simp only [Act.put,zT,zZ,zS]
  ·have y0:W.cell? ⟨lb,0,none⟩=some (.slice (some ad) n c):=(hC.ow.row bi HBr.out).cellAt 0 (by decide)
   clear hd hcl;refine zw rfl fun K hK=>?_
   go_simp;refine hK _ _ ⟨_,_,_,_,_,_,_,_,_,?_,{hC with h3:=fun _=>rfl}⟩;simp only [Act.put,zT,zZ,zS]
  ·clear hd hcl;refine zw rfl fun K hK=>?_
   go_simp;refine hK _ _ ⟨_,_,_,_,_,_,_,_,_,?_,{hC with h4:=fun _=>rfl}⟩;simp only [Act.put,zT,zZ,zS]
  ·obtain rfl:=hC.h3 (hd 3 (by kernel_rfl));obtain rfl:=hC.h4 (hd 4 (by kernel_rfl));have hin:=HIn.out.1;have hii:=HIn.out.2;clear hd hcl;refine zw rfl fun K hK=>?_
   go_simp;refine hK _ _ ⟨_,_,_,_,_,_,_,_,_,?_,{hC with h5:=fun _=>rfl}⟩;simp only [Act.put,zT,zZ,zS]
  ·obtain rfl:=hC.h5 (hd 5 (by kernel_rfl));obtain ⟨ad2,hae,e0,e1,e2,e3,e4,e5,e6,e7⟩:=z3m (hC.ow.sl HK.out).2.2.2 HX.out
   obtain rfl:ad=ad2:=zqk hae
   clear hae;clear hd hcl;refine zw rfl fun K hK=>?_
   go_simp;refine hK _ _ ⟨_,_,_,_,_,_,_,_,_,?_,{hC with h6:=fun _=>rfl}⟩;simp only [Act.put,zT,zZ,zS]
  ·obtain rfl:=hC.h1 (hd 1 (by kernel_rfl));obtain rfl:=hC.h2 (hd 2 (by kernel_rfl));obtain rfl:=hC.h6 (hd 6 (by kernel_rfl));have hcall:=HSm.out W
   clear hd hcl;refine zw rfl fun K hK=>?_
   go_simp;refine (hcall).mono ?_
   rintro e W' ⟨rfl,hb⟩;refine hK _ _ ⟨_,_,_,_,_,_,_,_,_,?_,{hC with ow:=hC.ow.go hb,h7:=fun _=>rfl}⟩;simp only [Act.put,zT,zZ,zS]
  ·obtain rfl:=hC.h7 (hd 7 (by kernel_rfl));clear hd hcl;refine zw rfl fun K hK=>?_
   go_simp;refine hK _ _ ⟨_,_,_,_,_,_,_,_,_,?_,{hC with h8:=fun _=>rfl}⟩;simp only [Act.put,zT,zZ,zS]
 ·rintro Ld b W hL ⟨u0,u1,u2,u3,u4,u5,u6,u7,u8,rfl,hC⟩;obtain rfl:=hC.h8 (hL 8 (by show 8<9;decide))
  have HE:=zh hC.ow;clear hC hL;simp only [Act.put,zT,zZ,zS];go_wp2_with fail;go_ret;exact ⟨rfl,HE.out⟩
theorem Oy.puts {X:List Rx}{w0:World}{g:Option Nat}{M:List (Nat×Value)}{L:List Ob}{i gb n c:Nat}{e:TypeId}:∀ (us:List Value) {w:World} {O:List Rw} {vs:List Value} (k:Nat),Oy X w0 w g M L O→O[i]?=some ⟨some ⟨gb,0,none⟩,n,c,e,vs⟩→k+us.length≤vs.length→
  Oy X w0 (w.setCells gb k us) g M L (O.set i ⟨some ⟨gb,0,none⟩,n,c,e,vs.take k++us++vs.drop (k+us.length)⟩)
 | [],w,O,vs,k,h,hi,hk=>by
  simp only [List.append_nil,List.length_nil,Nat.add_zero,List.take_append_drop];rw [z1h hi];exact h
 | u :: us,w,O,vs,k,h,hi,hk=>by
  rw [List.length_cons] at hk;have h1:=h.put i hi k u
  have h2:=Oy.puts us (k+1) h1 (z0a hi) (by rw [List.length_set];omega)
  rw [List.set_set] at h2;have e1:(vs.set k u).take (k+1)++us++(vs.set k u).drop (k+1+us.length)=vs.take k++(u :: us)++vs.drop (k+(u :: us).length):=by
   rw [List.drop_set_of_lt (by omega),List.take_succ_eq_append_getElem (by rw [List.length_set];omega),List.take_set_of_le (zqj k),List.getElem_set_self,List.length_cons,show k+1+us.length=k+(us.length+1) by omega]
   simp
  rw [e1] at h2;exact h2
def Clo (P:Program)(fn:FuncId)(caps:List Value)(X:List Rx)(w0:World)(g:Option Nat)(M:List (Nat×Value))(L:List Ob)(O:List Rw)(li:Nat)(A:Option Addr)(n c N:Nat)(p:Nat→Bool):Prop:=
 ∀ (W:World) (vs:List Value),Oy X w0 W g M L (O.set li ⟨A,n,c,3,vs⟩)→∀ i,i<N→Calls P fn (#[.int .i64 (i:Int)]++caps.toArray) W fun e w'=>e=.returned (.bool (p i))∧Oy X w0 w' g M L (O.set li ⟨A,n,c,3,vs⟩)
def RIi (X:List Rx)(w0:World)(g:Option Nat)(M:List (Nat×Value))(L:List Ob)(O:List Rw)(gl:List Nat)(p:Nat→Bool)(n:Nat)(x:Value)(wr:World):Prop:=
 ∃ i:Nat,i≤n∧x=.int .i64 (i:Int)∧Hid (Oy X w0 wr g M L O)∧Hid (∀ (j:Nat) (z:Nat),j<i→gl[j]?=some z→p z=false)
theorem z5be {X:List Rx}{w0 w:World}{g:Option Nat}{M:List (Nat×Value)}{L:List Ob}{O:List Rw}(h:Oy X w0 w g M L O)(li:Nat){A:Option Addr}{n c N:Nat}{gl:List Nat}(hl:O[li]?=some ⟨A,n,c,3,z0c gl⟩)(hg:gl.length=n)(hn:n≤1000)(hN:∀ z∈gl,z<N)(p:Nat→Bool)(F:FuncId)(c1 c2 c3:Value)
  (eg:∀ args w,(callFunc F args).run Tryz.prog w=.ok (.enter F args) w) (hF:Clo Tryz.prog F [c1,c2,c3] X w0 g M L O li A n c N p) :
  Calls Tryz.prog 80 #[.slice A n c,.func (.func F) #[] #[c1,c2,c3]] w fun e w'=>∃ r:Int,e=.returned (.int .i64 r)∧Oy X w0 w' g M L O∧((r=-1∧∀ z∈gl,p z=false)∨∃ k z:Nat,r=(k:Int)∧gl[k]?=some z∧p z=true∧∀ j y,j<k→gl[j]?=some y→p y=false):=by
 have HO:=zh h;have HL:=zh hl;have HG:=zh hg;have HNn:=zh hN;have HF:=zh hF;clear h hl hg hN hF;go_enter Tryz.func80,Tryz.ntmps80
 go_wp2_with fail;go_loopw [8] (fun x wr=>RIi X w0 g M L O gl p n x wr) (fun x _=>n+1 - (intOf x).toNat)
 case atStart=>exact ⟨0,zqr _,rfl,HO.out,fun j z hj=>absurd hj (Nat.not_lt_zero _)⟩
 case round=>
  clear HO;obtain ⟨i,hi,rfl,HO,HI⟩:=hrel;rcases Nat.eq_or_lt_of_le hi with heq | hlt
  ·have hd:decide ((i:Int)<(n:Int))=false:=zn (by omega)
   have hd2:decide (i<n)=false:=zn (by omega)
   have HAll:Hid (∀ z∈gl,p z=false):=fun z hz=>by
    obtain ⟨j,hj⟩:=List.getElem?_of_mem hz
    exact HI.out j z (by have:=z0e hj;have:=HG.out;omega) hj
   clear heq hi;go_wp2_with fail;go_ret;exact ⟨-1,rfl,HO.out,.inl ⟨rfl,HAll.out⟩⟩
  ·have hd:decide ((i:Int)<(n:Int))=true:=zt (by omega)
   have hd2:decide (i<n)=true:=zt (by omega)
   obtain ⟨z,hz⟩:∃ z,gl[i]?=some z:=⟨gl[i]'(by rw [HG.out];exact hlt),zql _⟩
   have HZ:=zh hz;have hR:=HO.out.row li HL.out
   obtain ⟨gb,hgb,_,_⟩:=z0r hR (by omega)
   obtain rfl:=hgb
   have e0:=hR.cells (g:=gb) rfl i (.int .i64 (z:Int)) (by unfold z0c;rw [List.getElem?_map,hz];rfl)
   rw [addz] at e0;have hOs:Oy X w0 wr g M L (O.set li ⟨some ⟨gb,0,none⟩,n,c,3,z0c gl⟩):=by rw [z1h HL.out];exact HO.out
   have HC:=zh (HF.out wr (z0c gl) hOs z (HNn.out z (List.mem_of_getElem? hz)))
   rw [z1h HL.out] at HC;have HIn:=zh hlt;have hli:(i:Int)<(n:Int):=by omega
   have hw1:IntKind.i64.wrap ((i:Int)+1)=((i+1:Nat):Int):=by rw [IntWalk.i64_in _ (by omega)];omega
   cases hp:p z with
   | true=>
    rw [hp] at HC;have HP:=zh hp;clear hz hR hOs hp hi hlt;go_wp2_with (go_at_fn F;refine HC.out.mono ?_;rintro e w' ⟨rfl,ho⟩)
    go_ret;exact ⟨_,rfl,ho,.inr ⟨i,z,rfl,HZ.out,HP.out,HI.out⟩⟩
   | false=>
    rw [hp] at HC;have HP:=zh hp;clear hz hR hOs hp hi hlt;go_wp2_with (go_at_fn F;refine HC.out.mono ?_;rintro e w' ⟨rfl,ho⟩)
    go_roundw
    case rel=>exact ⟨i+1,HIn.out,rfl,ho,fun j y hj hy=>by
     rcases zqi j i with h | h
     ·exact HI.out j y h hy
     ·obtain rfl:j=i:=by omega
      have:=HZ.out
      rw [hy] at this;obtain rfl:=zqk this
      exact HP.out⟩
    case measure=>
     have:=HIn.out
     simp [intOf]
     omega
theorem z1s {α:Type}{l:List α}{j:Nat}{z:α}(h:l[j]?=some z):l.take (j+1)=l.take j++[z]:=by rw [List.take_add_one,h];rfl
theorem z5bj {α:Type}{l m:List α}{j:Nat}(h:l.drop j=m.drop j)(k:Nat)(hk:j≤k):l[k]?=m[k]?:=by
 have:=congrArg (fun t=>t[k - j]?) h
 simp only [List.getElem?_drop] at this;rwa [show j+(k - j)=k by omega] at this
def RDl (X:List Rx)(w0:World)(g:Option Nat)(M:List (Nat×Value))(L:List Ob)(O:List Rw)(li gb c n:Nat)(gl:List Nat)(p:Nat→Bool)(x5 x6:Value)(wr:World):Prop:=
 ∃ (i j:Nat) (vs:List Value),x5=.int .i64 (i:Int)∧x6=.int .i64 (j:Int)∧i<j∧j≤n∧Hid (vs.length=n)∧Hid (vs.take i=z0c ((gl.take j).filter fun z=>!p z))∧Hid (vs.drop j=(z0c gl).drop j)∧Hid (Oy X w0 wr g M L (O.set li ⟨some ⟨gb,0,none⟩,n,c,3,vs⟩))
theorem z8h {gl:List Nat}{p:Nat→Bool}(h:∀ z∈gl,p z=false):(gl.filter fun z=>!p z)=gl:=List.filter_eq_self.2 fun z hz=>by rw [h z hz];rfl
theorem z8af:∀ w,(zeroValue 3).run Tryz.prog w=.ok (.int .i64 0) w:=Tryz.zeroValue3
theorem z5bk {X:List Rx}{w0 w:World}{g:Option Nat}{M:List (Nat×Value)}{L:List Ob}{O:List Rw}(h:Oy X w0 w g M L O)(li:Nat){A:Option Addr}{n c N:Nat}{gl:List Nat}(hl:O[li]?=some ⟨A,n,c,3,z0c gl⟩)(hg:gl.length=n)(hn:n≤1000)(hN:∀ z∈gl,z<N)(p:Nat→Bool)(F:FuncId)(c1 c2 c3:Value)
  (eg:∀ args w,(callFunc F args).run Tryz.prog w=.ok (.enter F args) w) (hF:Clo Tryz.prog F [c1,c2,c3] X w0 g M L O li A n c N p) :
  Calls Tryz.prog 51 #[.slice A n c,.func (.func F) #[] #[c1,c2,c3]] w fun e w'=>∃ n':Nat,e=.returned (.slice A n' c)∧(gl.filter fun z=>!p z).length=n'∧n'≤n∧Oy X w0 w' g M L (O.set li ⟨A,n',c,3,z0c (gl.filter fun z=>!p z)⟩):=by
 have HI:=zh (z5be h li hl hg hn hN p F c1 c2 c3 eg hF)
 have HL:=zh hl;have HG:=zh hg;have HNn:=zh hN;have HF:=zh hF;clear h hl hg hN hF;go_enter Tryz.func51,Tryz.ntmps51
 go_wp2_with fail;refine HI.out.mono ?_;rintro e w1 ⟨r,rfl,ho,⟨rfl,hall⟩ | ⟨k,z,rfl,hz,hpz,hbef⟩⟩
 ·have HE:=zh ho;have HA:=zh hall;clear HI ho hall;go_wp2_with fail;go_ret;exact ⟨n,rfl,by rw [z8h HA.out];exact HG.out,zqj _,by rw [z8h HA.out,z1h HL.out];exact HE.out⟩
 ·have hkn:k<n:=by have:=z0e hz;have:=HG.out;omega
  have hk1:((k:Int) == -1)=false:=beq_eq_false_iff_ne.2 (by omega)
  have hw1:IntKind.i64.wrap ((k:Int)+1)=((k+1:Nat):Int):=by rw [IntWalk.i64_in _ (by omega)];omega
  obtain ⟨gb,hgb,_,_⟩:=z0r (ho.row li HL.out) (by omega)
  obtain rfl:=hgb
  have hncc:n≤c:=(z1l (ho.row li HL.out)).1
  have HSt:Hid (RDl X w0 g M L O li gb c n gl p (.int .i64 (k:Int)) (.int .i64 ((k+1:Nat):Int)) w1):=by
   refine ⟨k,k+1,z0c gl,rfl,rfl,by omega,by omega,?_,?_,rfl,?_⟩
   ·unfold Hid z0c;rw [List.length_map];exact HG.out
   ·unfold Hid;rw [z1s hz,List.filter_append,z8h (fun y hy=>by
     obtain ⟨j,hj⟩:=List.getElem?_of_mem hy
     have hjk:j<k:=by have:=z0e hj;rw [zqw] at this;omega
     rw [List.getElem?_take_of_lt hjk] at hj;exact hbef j y hjk hj)]
    simp only [List.filter_cons,hpz]
    show _=z0c (gl.take k++[])
    rw [List.append_nil];unfold z0c;rw [List.map_take]
   ·unfold Hid;rw [z1h HL.out];exact ho
  clear HI ho hz hpz hbef;go_wp2_with fail;go_loopw [5,6] (fun x5 x6 wr=>RDl X w0 g M L O li gb c n gl p x5 x6 wr) (fun _ x6 _=>n+1 - (intOf x6).toNat)
  case atStart=>exact HSt.out
  case round=>
   clear HSt;obtain ⟨i,j,vs,rfl,rfl,hij,hjn,HVl,HTk,HDr,HO⟩:=hrel;have hRow:=HO.out.row li (z0a HL.out)
   rcases zqi j n with hlt | hge
   ·have hd:decide ((j:Int)<(n:Int))=true:=zt (by omega)
    have hd2:decide (j<n)=true:=zt (by omega)
    obtain ⟨y,hy⟩:∃ y,gl[j]?=some y:=⟨gl[j]'(by rw [HG.out];exact hlt),zql _⟩
    have HY:=zh hy;have hvj:vs[j]?=some (.int .i64 (y:Int)):=by
     rw [z5bj HDr.out j (zqj _)]
     unfold z0c;rw [List.getElem?_map,hy];rfl
    have e0:=hRow.cells (g:=gb) rfl j _ hvj
    rw [addz] at e0;have HC:=zh (HF.out wr vs HO.out y (HNn.out y (List.mem_of_getElem? hy)))
    have HIn:Hid (i<j∧j<n):=⟨hij,hlt⟩
    have hji:(j:Int)<(n:Int):=by omega
    have hii:(i:Int)<(n:Int):=by omega
    have hw2:IntKind.i64.wrap ((j:Int)+1)=((j+1:Nat):Int):=by rw [IntWalk.i64_in _ (by omega)];omega
    have hw3:IntKind.i64.wrap ((i:Int)+1)=((i+1:Nat):Int):=by rw [IntWalk.i64_in _ (by omega)];omega
    cases hp:p y with
    | true=>
     rw [hp] at HC;have HP:=zh hp;clear hy hvj hRow hp hlt hij hjn HO;go_wp2_with (go_at_fn F;refine HC.out.mono ?_;rintro e w' ⟨rfl,ho⟩)
     go_roundw
     case rel=>
      refine ⟨i,j+1,vs,rfl,rfl,by have:=HIn.out;omega,by have:=HIn.out;omega,HVl.out,?_,?_,ho⟩
      ·unfold Hid;rw [z1s HY.out,List.filter_append,HTk.out];simp only [List.filter_cons,HP.out]
       show _=z0c (_++[])
       rw [List.append_nil]
      ·unfold Hid;have:=congrArg (fun t=>t.drop 1) HDr.out
       simpa only [List.drop_drop] using this
     case measure=>
      have:=HIn.out
      simp [intOf]
      omega
    | false=>
     rw [hp] at HC;have HP:=zh hp;clear hy hvj hRow hp hlt hij hjn HO;go_wp2_with (go_at_fn F;refine HC.out.mono ?_;rintro e w' ⟨rfl,ho⟩;have ei:=(ho.row li (z0a HL.out)).cells (g:=gb) rfl i _ (zql (by have:=HIn.out;have:=HVl.out;omega));rw [addz] at ei;have fi:=(ho.row li (z0a HL.out)).frozenAt i;have HPs:=zh (ho.put li (z0a HL.out) i (.int .i64 (y:Int)));clear ho)
     have HPt:=HPs.out;rw [List.set_set] at HPt;go_roundw
     case rel=>
      refine ⟨i+1,j+1,vs.set i (.int .i64 (y:Int)),rfl,rfl,by have:=HIn.out;omega,by have:=HIn.out;omega,?_,?_,?_,HPt⟩
      ·unfold Hid;rw [List.length_set];exact HVl.out
      ·unfold Hid;have hil:i<vs.length:=by have:=HIn.out;have:=HVl.out;omega
       rw [z1s HY.out,List.filter_append,z1s (List.getElem?_set_self hil),List.take_set_of_le (zqj i),HTk.out]
       simp only [List.filter_cons,HP.out]
       show _=z0c (_++[y])
       rw [z1e]
      ·unfold Hid;have:=congrArg (fun t=>t.drop 1) HDr.out
       simp only [List.drop_drop] at this;rw [List.drop_set_of_lt (by have:=HIn.out;omega)]
       exact this
     case measure=>
      have:=HIn.out
      simp [intOf]
      omega
   ·obtain rfl:n=j:=by omega
    have hd:decide ((n:Int)<(n:Int))=false:=zn (by omega)
    have hcl:∀ ty,(Builtin.clear_ #[22] ty #[.slice (some ⟨gb,i,none⟩) (n - i) (c - i)]).run Tryz.prog wr=.ok (.tuple #[]) (wr.setCells gb i (List.replicate (n - i) (.int .i64 0))):=
     fun ty=>Lib.run_clear_slice wr _ _ ty (.int .i64 0) Tryz.underlying22 z8af rfl rfl gb i _ _ (by omega) (fun t ht=>by
      have:=hRow.cells (g:=gb) rfl (i+t) _ (zql (by have:=HVl.out;omega))
      rw [addz] at this;rw [this];rfl) (fun t ht=>hRow.frozenAt (i+t))
    have HPs:=zh (Oy.puts (List.replicate (n - i) (.int .i64 0)) i HO.out (z0a HL.out) (by rw [List.length_replicate,HVl.out];omega))
    have hcut:=HPs.out.cut li (z0a (z0a HL.out)) (k:=i) (by omega)
    have hfi:((gl.filter fun z=>!p z).length=i∧z0c (gl.filter fun z=>!p z)=vs.take i):=by
     have h1:=HTk.out;rw [zqp (l:=gl) (i:=n) (by rw [HG.out];exact zqj _)] at h1
     have h2:=congrArg List.length h1
     rw [zqw,HVl.out] at h2;unfold z0c at h2;rw [List.length_map] at h2;exact ⟨by omega,h1.symm⟩
    have HFi:=zh hfi;rw [List.set_set,List.set_set,zqa,List.take_append_of_le_length (by rw [zqw,HVl.out];omega),List.take_take,Nat.min_self,← hfi.2] at hcut
    have HCu:=zh hcut;have hin:i<n:=hij
    have hic:i<c:=by omega
    have hii:(i:Int)<(n:Int):=by omega
    have hii2:(i:Int)≤(n:Int):=by omega
    have hii3:(i:Int)≤(c:Int):=by omega
    clear hRow hcut hfi HO HPs hge hij hjn;go_wp2_with fail;go_ret;exact ⟨i,rfl,HFi.out.1,by omega,HCu.out⟩
open Go.Shelf
def z6ai:Go.Shelf.Ren:=⟨fun | 5=>54 | 8=>82 | 7=>81 | 19=>114 | 20=>115 | 10=>105 | 11=>106 | 12=>107 | 13=>108 | 14=>109 | 15=>110 | 16=>111 | 17=>112 | 18=>113 | 30=>131 | 31=>132 | 32=>133 | 33=>134 | 34=>135 | 35=>136 | 40=>148 | n=>n,fun | 23=>22 | 25=>3 | 3=>3 | 32=>72 | 22=>22 | 0=>0 | 44=>137 | 46=>139 | 4=>4 | 36=>130 | 35=>129 | 41=>101 | 5=>5 | 9=>9 | 53=>152 | 57=>156 | 63=>170 | 64=>171 | n=>n,fun | n=>n⟩
theorem z6bv:Go.Proofs.SlLaysM.n5 Tryz.prog z6ai:={
 mixed:=by kernel_rfl,
 f5:=⟨Tryz.f54.name,by decide,Tryz.func54.trans (congrArg some (by kernel_rfl))⟩,
 f7:=⟨Tryz.f81.name,by decide,Tryz.func81.trans (congrArg some (by kernel_rfl))⟩,
 f8:=Tryz.func82.trans (congrArg some (by kernel_rfl)),
 f10:=⟨Tryz.f105.name,by decide,Tryz.func105.trans (congrArg some (by kernel_rfl))⟩,
 f11:=⟨Tryz.f106.name,by decide,Tryz.func106.trans (congrArg some (by kernel_rfl))⟩,
 f12:=⟨Tryz.f107.name,by decide,Tryz.func107.trans (congrArg some (by kernel_rfl))⟩,
 f13:=⟨Tryz.f108.name,by decide,Tryz.func108.trans (congrArg some (by kernel_rfl))⟩,
 f14:=⟨Tryz.f109.name,by decide,Tryz.func109.trans (congrArg some (by kernel_rfl))⟩,
 f15:=⟨Tryz.f110.name,by decide,Tryz.func110.trans (congrArg some (by kernel_rfl))⟩,
 f16:=⟨Tryz.f111.name,by decide,Tryz.func111.trans (congrArg some (by kernel_rfl))⟩,
 f17:=⟨Tryz.f112.name,by decide,Tryz.func112.trans (congrArg some (by kernel_rfl))⟩,
 f18:=⟨Tryz.f113.name,by decide,Tryz.func113.trans (congrArg some (by kernel_rfl))⟩,
 f19:=Tryz.func114.trans (congrArg some (by kernel_rfl)),
 f20:=Tryz.func115.trans (congrArg some (by kernel_rfl)),
 f30:=⟨Tryz.f131.name,by decide,Tryz.func131.trans (congrArg some (by kernel_rfl))⟩,
 f31:=Tryz.func132.trans (congrArg some (by kernel_rfl)),
 f32:=Tryz.func133.trans (congrArg some (by kernel_rfl)),
 f33:=⟨Tryz.f134.name,by decide,Tryz.func134.trans (congrArg some (by kernel_rfl))⟩,
 f34:=⟨Tryz.f135.name,by decide,Tryz.func135.trans (congrArg some (by kernel_rfl))⟩,
 f35:=⟨Tryz.f136.name,by decide,Tryz.func136.trans (congrArg some (by kernel_rfl))⟩,
 f40:=⟨Tryz.f148.name,by decide,Tryz.func148.trans (congrArg some (by kernel_rfl))⟩,
 t0:=Tryz.underlying0,
 a0:=Tryz.isAgg0,
 z0:=Tryz.sizeOf0,
 v0:=Tryz.zeroValue0,
 t3:=Tryz.underlying3,
 a3:=Tryz.isAgg3,
 z3:=Tryz.sizeOf3,
 v3:=Tryz.zeroValue3,
 t4:=Tryz.underlying4,
 a4:=Tryz.isAgg4,
 z4:=Tryz.sizeOf4,
 v4:=Tryz.zeroValue4,
 t5:=Tryz.underlying5,
 a5:=Tryz.isAgg5,
 z5:=Tryz.sizeOf5,
 v5:=Tryz.zeroValue5,
 t9:=Tryz.underlying9,
 a9:=Tryz.isAgg9,
 z9:=Tryz.sizeOf9,
 v9:=Tryz.zeroValue9,
 t22:=Tryz.underlying22,
 a22:=Tryz.isAgg22,
 z22:=Tryz.sizeOf22,
 v22:=Tryz.zeroValue22,
 t23:=Tryz.underlying22,
 a23:=Tryz.isAgg22,
 z23:=Tryz.sizeOf22,
 v23:=Tryz.zeroValue22,
 t25:=Tryz.underlying3,
 a25:=Tryz.isAgg3,
 z25:=Tryz.sizeOf3,
 v25:=Tryz.zeroValue3,
 t32:=Tryz.underlying72,
 a32:=Tryz.isAgg72,
 z32:=Tryz.sizeOf72,
 v32:=Tryz.zeroValue72,
 t35:=Tryz.underlying129,
 a35:=Tryz.isAgg129,
 z35:=Tryz.sizeOf129,
 v35:=Tryz.zeroValue129,
 t36:=Tryz.underlying130,
 a36:=Tryz.isAgg130,
 z36:=Tryz.sizeOf130,
 v36:=Tryz.zeroValue130,
 t41:=Tryz.underlying101,
 a41:=Tryz.isAgg101,
 z41:=Tryz.sizeOf101,
 v41:=Tryz.zeroValue101,
 t44:=Tryz.underlying137,
 a44:=Tryz.isAgg137,
 z44:=Tryz.sizeOf137,
 v44:=Tryz.zeroValue137,
 t46:=Tryz.underlying139,
 a46:=Tryz.isAgg139,
 z46:=Tryz.sizeOf139,
 v46:=Tryz.zeroValue139,
 t53:=Tryz.underlying152,
 a53:=Tryz.isAgg152,
 z53:=Tryz.sizeOf152,
 v53:=Tryz.zeroValue152,
 t57:=Tryz.underlying156,
 a57:=Tryz.isAgg156,
 z57:=Tryz.sizeOf156,
 v57:=Tryz.zeroValue156,
 t63:=Tryz.underlying170,
 a63:=Tryz.isAgg170,
 z63:=Tryz.sizeOf170,
 v63:=Tryz.zeroValue170,
 t64:=Tryz.underlying171,
 a64:=Tryz.isAgg171,
 z64:=Tryz.sizeOf171,
 v64:=Tryz.zeroValue171
}
open Go.RowKit Go.Sort Go.Proofs
def srt (zs:List Int):List Int:=zs.mergeSort fun x y=>decide (x≤y)
theorem z6g (zs:List Int):(srt zs).length=zs.length:=List.length_mergeSort _
theorem z2bx {w0 w:World}{g:Option Nat}{M:List (Nat×Value)}{L:List Ob}{O:List Rw}(h:Ow w0 w g M L O)(li:Nat){A:Option Addr}{n c:Nat}{zs:List Int}(hl:O[li]?=some ⟨A,n,c,3,z0t zs⟩)(hn0:n≤1000):
  Calls Tryz.prog 54 #[.slice A n c] w fun e w'=>e=.returned (.tuple #[])∧Ow w0 w' g M L (O.set li ⟨A,n,c,3,z0t (srt zs)⟩):=by
 have hr:=h.row li hl
 have hn:zs.length=n:=by
  have:=hr.1
  unfold z0t at this;rw [List.length_map] at this;omega
 rcases zqh n with h0 | hp
 ·subst h0
  obtain rfl:zs=[]:=List.eq_nil_of_length_eq_zero hn
  refine (AnyM.slices_Sort_int_none z6bv A c w).mono ?_
  rintro e w' ⟨rfl,rfl⟩;refine ⟨rfl,?_⟩
  have e1:srt []=[]:=List.eq_nil_of_length_eq_zero (z6g [])
  rw [e1,z1h hl];exact h
 ·obtain ⟨gb,rfl,hbg,hgl⟩:=z0r hr hp
  rcases hr.2 with ⟨h',h0⟩ | ⟨g',cap',cur,h',hb,hg,hnc,hcm,hcs,htake⟩
  ·omega
  ·injection h' with h1 h2 h3
   injection h1 with h1
   injection h1 with h1
   subst h1 h3
   have hH:Holds (Value.int .i64) w gb 0 zs.toArray:=holds_of_blockI hg (by rw [hn];rw [Nat.mul_one] at htake;exact htake)
   refine ((show Calls Tryz.prog 54 #[.slice (some ⟨gb,0,none⟩) zs.length c] w _ from AnyM.slices_Sort_int z6bv gb 0 c zs w hH hgl (by omega))).mono ?_ |> (fun k=>by rw [hn] at k;exact k)
   rintro e w' ⟨rfl,m,os,rfl⟩;refine ⟨rfl,h.turn li hl (r':=⟨some ⟨gb,0,none⟩,n,c,3,z0t (srt zs)⟩) (grownBy_sortedI _) ?_ (.inl rfl)⟩
   have:=ownsRow_sortedI (n:=m) (os:=os) (ss:=zs) (ts:=srt zs) (z6g zs) hbg hg (by omega) hcm hcs
   rw [hn] at this;exact this
namespace Cl
set_option maxHeartbeats 8000000
def VdF (w0:World)(g:Option Nat)(M:List (Nat×Value))(L:List Ob)(O:List Rw)(v:Vd)(en:Ending)(w':World):Prop:=
 ∃ (A1:Option Addr) (n1 c1:Nat) (A2:Option Addr) (n2 c2:Nat),en=.returned (.agg (v.vs A1 n1 c1 A2 n2 c2))∧Ow w0 w' g M (L++[⟨A1,n1,c1,z0c (Na.dig v.x)⟩]++[⟨A2,n2,c2,z0c (Na.dig v.y)⟩]) O∧(v.k≠0→(∀ ad,A1=some ad→0<n1→w0.heap.size≤ad.block)∧(∀ ad,A2=some ad→0<n2→w0.heap.size≤ad.block))
theorem z6bp {k:Int}{s:Pl}(hk:kd k)(hs:shV s):1≤prt k s∧prt k s≤4096:=by
 unfold prt;rw [if_pos hk];obtain ⟨⟨a1,_⟩,⟨b1,_⟩,⟨c1,_⟩,⟨d1,_⟩,⟨e1,_⟩,⟨f1,_⟩,hsum⟩:=hs
 have hb:(bt k s).toNat≤12:=by
  unfold bt
  repeat' split
  all_goals omega
 obtain ⟨m,hm⟩:∃ m,(bt k s).toNat=m:=⟨_,rfl⟩
 rw [hm] at hb ⊢
 have h1:1≤2 ^ m:=Nat.pow_pos (by omega)
 have h2:2 ^ m≤2 ^ 12:=Nat.pow_le_pow_right (by omega) hb
 have e:((2:Int) ^ m)=((2 ^ m:Nat):Int):=by simp
 rw [e];omega
end Cl
def z7az (s:Pl)(p q:List Int)(l:List Sn)(w0:World)(g:Option Nat)(M:List (Nat×Value))(L:List Ob)(O:List Rw)(x:Value)(wr:World):Prop:=
 ∃ i:Nat,1≤i∧i≤6∧x=.int .i64 (i:Int)∧Hid (Ow w0 wr g M L O)∧Hid (jud s p q l=z4h s p q l i (6 - i))
theorem z4bf {w0 w:World}{g:Option Nat}{M:List (Nat×Value)}{L:List Ob}{O:List Rw}{A A2 A3:Option Addr}{n c m c2 n3 c3 e3:Nat}{p q:List Int}{l:List Sn}(s:Pl)(hs:shV s)(h:Ow w0 w g M L O)(i j k:Nat)(hi:L[i]?=some ⟨A,n,c,z0t p⟩)(hj:L[j]?=some ⟨A2,m,c2,z0t q⟩)(hk:L[k]?=some ⟨A3,n3*8,e3,fl l⟩)(hn3:n3≤40)(ht:Tab w0):
  Calls Tryz.prog 35 #[.agg s.vs,.agg #[.slice A n c,.slice A2 m c2],.slice A3 n3 c3] w (VdF w0 g M L O (jud s p q l)):=by
 have H0:=((h.arr s.vs 6 rfl (by omega) 33).pair (.slice A n c) (.slice A2 m c2) 27).arr #[.int .i64 0,.int .i64 0,.int .i64 0,.int .i64 0,.int .i64 0,.int .i64 0,.int .i64 0,.int .i64 0,.int .i64 0,.slice none 0 0,.slice none 0 0] 11 rfl (by omega) 42
 simp only [World.size_alloc,zqa,zqb,zqc] at H0;have HLn:l.length=n3:=by
  have a:=(h.sl hk).1
  rw [z3f] at a;omega
 have HS:=zh hs;have HK:=zh hk;have HI:=zh hi;have HJ:=zh hj;have HNl:=zh HLn;have HT:=zh ht;obtain ⟨so,ch,ra,ba,ro,co⟩:=s;unfold Pl.vs at *
 have HO:Hid (Ow w0 (((w.alloc (.cells #[.int .i64 so,.int .i64 ch,.int .i64 ra,.int .i64 ba,.int .i64 ro,.int .i64 co] 33)).alloc (.cells #[.slice A n c,.slice A2 m c2] 27)).alloc (.cells #[.int .i64 0,.int .i64 0,.int .i64 0,.int .i64 0,.int .i64 0,.int .i64 0,.int .i64 0,.int .i64 0,.int .i64 0,.slice none 0 0,.slice none 0 0] 42)) g M L (O++[(⟨some ⟨w.heap.size,0,none⟩,6,6,33,[.int .i64 so,.int .i64 ch,.int .i64 ra,.int .i64 ba,.int .i64 ro,.int .i64 co]⟩:Rw),Rw.pair (w.heap.size+1) 27 (.slice A n c) (.slice A2 m c2),(⟨some ⟨w.heap.size+1+1,0,none⟩,11,11,42,[.int .i64 0,.int .i64 0,.int .i64 0,.int .i64 0,.int .i64 0,.int .i64 0,.int .i64 0,.int .i64 0,.int .i64 0,.slice none 0 0,.slice none 0 0]⟩:Rw)])):=H0
 clear H0 hs hi hj hk HLn h ht;go_enter Tryz.func35,Tryz.ntmps35
 go_wp2_with fail;go_loopw [7] (fun x wr=>z7az ⟨so,ch,ra,ba,ro,co⟩ p q l w0 g M L (O++[(⟨some ⟨w.heap.size,0,none⟩,6,6,33,[.int .i64 so,.int .i64 ch,.int .i64 ra,.int .i64 ba,.int .i64 ro,.int .i64 co]⟩:Rw),Rw.pair (w.heap.size+1) 27 (.slice A n c) (.slice A2 m c2),(⟨some ⟨w.heap.size+1+1,0,none⟩,11,11,42,[.int .i64 0,.int .i64 0,.int .i64 0,.int .i64 0,.int .i64 0,.int .i64 0,.int .i64 0,.int .i64 0,.int .i64 0,.slice none 0 0,.slice none 0 0]⟩:Rw)]) x wr) (fun x _=>7 - (intOf x).toNat)
 case atStart=>exact ⟨1,by omega,by omega,rfl,HO,rfl⟩
 case round=>
  clear HO;obtain ⟨kk,h1,h6,rfl,HO,HF⟩:=hrel;rcases zqi 5 kk with h5 | h5
  ·obtain rfl:kk=6:=by omega
   clear h1 h6 h5;have HR:Hid (jud ⟨so,ch,ra,ba,ro,co⟩ p q l=vd0):=HF.out
   have HC:=zh (z1at HO.out 1 1 (by omega) (by omega) HT.out)
   rw [of11] at HC;clear HF HO;go_wp2_with fail;refine HC.out.mono ?_;rintro e w3 ⟨B1,n1,d1,B2,n2,d2,rfl,G⟩;have H7:=G.pair (.slice B1 n1 d1) (.slice B2 n2 d2) 27
   simp only [zqa,zqb,zqc] at H7;clear HC G;have c0:=H7.p0 (O.length+3) (zk rfl)
   have c1:=H7.p1 (O.length+3) (zk rfl)
   obtain ⟨v0,v1,v2,v3,v4,v5,v6,v7,v8,v9,v10⟩:=zc11 (H7.row (O.length+2) (zk rfl));obtain ⟨f0,f1,f2,f3,f4,f5,f6,f7,f8,f9,f10⟩:=zf11 (H7.row (O.length+2) (zk rfl));have H8:=z0ak H7 (O.length+2) (zk rfl) (.int .i64 0) (.int .i64 0) (.int .i64 0) (.int .i64 0) (.int .i64 0) (.int .i64 0) (.int .i64 0) (.int .i64 0) (.int .i64 0) (.slice B1 n1 d1) (.slice B2 n2 d2)
   rw [z0q] at H8;simp only [zqe,zqd] at H8;obtain ⟨z0,z1,z2,z3,z4,z5,z6,z7,z8,z9,z10⟩:=zc11 (H8.row (O.length+2) (zk rfl));have HE:=zh H8.fewO;clear H7 H8;go_wp2_with fail;refine bodyPost_ret (v:=.agg #[.int .i64 0,.int .i64 0,.int .i64 0,.int .i64 0,.int .i64 0,.int .i64 0,.int .i64 0,.int .i64 0,.int .i64 0,.slice B1 n1 d1,.slice B2 n2 d2]) (by simp [results,Tryz.results35,go_sem,z0,z1,z2,z3,z4,z5,z6,z7,z8,z9,z10]) rfl ?_
   rw [HR.out];exact ⟨B1,n1,d1,B2,n2,d2,rfl,by rw [zqa];exact HE.out,fun h=>absurd rfl h⟩
  ·have hd:decide ((kk:Int)≤5)=true:=zt (by omega)
   have HKd:Hid (kd (kk:Int)):=⟨by omega,by omega⟩
   have HK5:=zh h5;have hw1:IntKind.i64.wrap ((kk:Int)+1)=((kk+1:Nat):Int):=by rw [IntWalk.i64_in _ (by omega)];omega
   have HLg:=zh (z1av (kk:Int) HKd.out A3 n3 c3 l wr HNl.out (by omega) (HO.out.sl HK.out).2.2.2)
   obtain ⟨gl,hgl⟩:∃ z,z3c (kk:Int) l=z:=⟨_,rfl⟩
   have HGl:=zh hgl;rw [hgl] at HLg;clear hgl h1 h6 h5;go_wp2_with fail;refine HLg.out.mono ?_;rintro e w1 ⟨Ag,ng,cg,rfl,hng,how,hb⟩;have H1:=HO.out.add how hb
   clear HLg how hb HO;rcases zqi ng 2 with h2 | h2
   ·have hd2:decide ((ng:Int)<2)=true:=zt (by omega)
    have HN:Hid (jud ⟨so,ch,ra,ba,ro,co⟩ p q l=z4h ⟨so,ch,ra,ba,ro,co⟩ p q l (kk+1) (6 - (kk+1))):=by
     unfold Hid;rw [HF.out];exact z2o HK5.out (z6av (by rw [HGl.out,hng];exact h2))
    have HE:=zh H1.fewO;clear H1 h2 hng;go_wp2_with fail;go_roundw
    case rel=>exact ⟨kk+1,by omega,Nat.succ_le_succ HK5.out,rfl,HE,HN⟩
    case measure=>
     have:=HK5.out
     simp [intOf]
     omega
   ·have hd2:decide ((ng:Int)<2)=false:=zn (by omega)
    simp only [zqa,zqb,zqc] at H1;obtain ⟨a0,a1,a2,a3,a4,a5⟩:=zc6 (H1.row (O.length+0) (zk rfl));have HP:=zh (fun W=>z5l (kk:Int) ⟨so,ch,ra,ba,ro,co⟩ HS.out W)
    unfold Pl.vs at HP;have HT0:Hid (chc ⟨so,ch,ra,ba,ro,co⟩ l (kk:Int)=z6x (n3:Int) (prt (kk:Int) ⟨so,ch,ra,ba,ro,co⟩) (ng:Int)):=by unfold Hid chc;rw [HNl.out,HGl.out,hng]
    go_wp2_with fail;refine (HP.out _).mono ?_
    rintro e w2 ⟨rfl,hb⟩;have H2:=H1.go hb
    clear a0 a1 a2 a3 a4 a5 hb H1 HP;have HC:=zh (z8q H2 (n3:Int) (prt (kk:Int) ⟨so,ch,ra,ba,ro,co⟩) (ng:Int) HT.out ⟨by omega,by omega⟩ (z6bp HKd.out HS.out) ⟨by omega,by have:=HGl.out;have:=HNl.out;have hl:=@z4bz (kk:Int) l;rw [HGl.out] at hl;omega⟩)
    rw [← HT0.out] at HC;obtain ⟨t,ht⟩:∃ t,chc ⟨so,ch,ra,ba,ro,co⟩ l (kk:Int)=t:=⟨_,rfl⟩
    rw [ht] at HC;have HTt:=zh ht;clear ht;skip
    go_wp2_with fail;refine HC.out.mono ?_;rintro e w3 ⟨⟨B1,n1,d1,B2,n2,d2,rfl,G⟩,hfr⟩;have HFq:=zh (hfr _ _ _ _ _ _ _ rfl)
    clear hfr;have H4:=G.pair (.slice B1 n1 d1) (.slice B2 n2 d2) 27
    simp only [zqa,zqb,zqc] at H4;clear H2 HC G;have c0:=H4.p0 (O.length+4) (zk rfl)
    have c1:=H4.p1 (O.length+4) (zk rfl)
    have b0:=H4.p0 (O.length+1) (zk rfl)
    have b1:=H4.p1 (O.length+1) (zk rfl)
    have HM:=zh (z1au (p:=Na.up (Na.dig t.1)) (q:=Na.up (Na.dig t.2.1)) H4 (L.length+0) (L.length+1) i j (by rw [z0b,z0g];rfl) (by rw [z0b,z0g];rfl) (by rw [z1b _ _ (z0e HI.out)];exact HI.out) (by rw [z1b _ _ (z0e HJ.out)];exact HJ.out) HT.out)
    obtain ⟨er,her⟩:∃ z,t.2.2=z:=⟨_,rfl⟩
    obtain ⟨cv,hcv⟩:∃ z,cmpV (Na.up (Na.dig t.1)) (Na.up (Na.dig t.2.1)) p q=z:=⟨_,rfl⟩
    obtain ⟨ce,hce⟩:∃ z,cmpE (Na.up (Na.dig t.1)) (Na.up (Na.dig t.2.1)) p q=z:=⟨_,rfl⟩
    rw [hcv,hce] at HM;rw [her];have HEr:=zh her;have HCv:Hid (cV t p q=cv):=hcv
    have HCe:Hid (cE t p q=ce):=hce
    clear her hcv hce H4;go_wp2_with fail;refine HM.out.mono ?_;rintro e w4 ⟨rfl,H5⟩;clear HM c0 c1 b0 b1;by_cases he:er=0
    ·subst he
     by_cases hc:ce=0
     ·subst hc
      rcases Int.lt_or_le 0 cv with h | h
      ·have g1:decide (0<cv)=true:=zt h
       have HN:Hid (jud ⟨so,ch,ra,ba,ro,co⟩ p q l=z4h ⟨so,ch,ra,ba,ro,co⟩ p q l (kk+1) (6 - (kk+1))):=by
        unfold Hid;rw [HF.out];exact z2o HK5.out (z7l (by rw [HTt.out];rw [HCv.out];omega))
       have HE:Hid (Ow w0 w4 g M L (O++[(⟨some ⟨w.heap.size,0,none⟩,6,6,33,[.int .i64 so,.int .i64 ch,.int .i64 ra,.int .i64 ba,.int .i64 ro,.int .i64 co]⟩:Rw),Rw.pair (w.heap.size+1) 27 (.slice A n c) (.slice A2 m c2),(⟨some ⟨w.heap.size+1+1,0,none⟩,11,11,42,[.int .i64 0,.int .i64 0,.int .i64 0,.int .i64 0,.int .i64 0,.int .i64 0,.int .i64 0,.int .i64 0,.int .i64 0,.slice none 0 0,.slice none 0 0]⟩:Rw)])):=(Ow.fewO (O:=O++[(⟨some ⟨w.heap.size,0,none⟩,6,6,33,[.int .i64 so,.int .i64 ch,.int .i64 ra,.int .i64 ba,.int .i64 ro,.int .i64 co]⟩:Rw),Rw.pair (w.heap.size+1) 27 (.slice A n c) (.slice A2 m c2),(⟨some ⟨w.heap.size+1+1,0,none⟩,11,11,42,[.int .i64 0,.int .i64 0,.int .i64 0,.int .i64 0,.int .i64 0,.int .i64 0,.int .i64 0,.int .i64 0,.int .i64 0,.slice none 0 0,.slice none 0 0]⟩:Rw)]) (by simpa only [zqa,zqb,zqc] using H5)).less (fun o ho=>List.mem_append_left _ ho)
       clear H5;go_wp2_with fail;go_roundw
       case rel=>exact ⟨kk+1,by omega,Nat.succ_le_succ HK5.out,rfl,HE,HN⟩
       case measure=>
        have:=HK5.out
        simp [intOf]
        omega
      ·have g1:decide (0<cv)=false:=zn (by omega)
       obtain ⟨hh,tl,hgt⟩:∃ hh tl,gl=hh :: tl:=by
        cases gl with
        | nil=>simp at hng;omega
        | cons a b=>exact ⟨a,b,rfl⟩
       obtain ⟨x,hx,hfx⟩:=z4z (HGl.out.trans hgt)
       have hR:=H5.row (O.length+3) (zk rfl)
       obtain ⟨gb,hgb,_,_⟩:=z0r hR (by omega)
       obtain rfl:=hgb
       have y0:=hR.cells (g:=gb) rfl 0 (.int .i64 (hh:Int)) (by rw [hgt];rfl)
       rw [addz] at y0;obtain ⟨a,rfl,e0,e1,e2,e3,e4,e5,e6,e7⟩:=z3m (H5.sl (i:=k) (by rw [z1b _ _ (z0e HK.out)];exact HK.out)).2.2.2 hx
       have hhl:hh<n3:=by have:=z0e hx;have:=HNl.out;omega
       have hhI:(hh:Int)<(n3:Int):=by omega
       have hgI:(0:Int)<(ng:Int):=by omega
       have HWh:=zh (fun W=>z3s (kk:Int) x.p W)
       rw [zt HKd.out,z8n HKd.out] at HWh;have HRs:Hid (jud ⟨so,ch,ra,ba,ro,co⟩ p q l=⟨(kk:Int),wh (kk:Int) x.p,x.cp,(ng:Int),t.1,t.2.1⟩):=by
        unfold Hid;rw [HF.out];refine z9n HK5.out ?_
        rw [z6au (by rw [HGl.out,hng];omega) (by rw [HTt.out];exact ⟨HCe.out,by rw [HCv.out];exact h⟩),hfx,HGl.out,hng,HTt.out]
       obtain ⟨⟨x0,x1,x2,x3,x4,x5⟩,x6,x7⟩:=x
       simp only at e0 e1 e2 e3 e4 e5 e6 e7 HWh HRs
       obtain ⟨⟨q0,q1,q2,q3,q4,q5⟩,hq⟩:∃ z,wh (kk:Int) ⟨x0,x1,x2,x3,x4,x5⟩=z:=⟨_,rfl⟩
       rw [hq] at HWh HRs;unfold Pl.vs at HWh;have H6:=H5.arr #[.int .i64 x0,.int .i64 x1,.int .i64 x2,.int .i64 x3,.int .i64 x4,.int .i64 x5,.int .i64 x6,.int .i64 x7] 8 rfl (by omega) 40
       simp only [zqa,zqb,zqc] at H6;clear hR hx hfx hgt hq h hng H5;go_wp2_with fail;refine (HWh.out _).mono ?_
       rintro e w5 ⟨rfl,hb⟩;have H7:=(H6.go hb).arr #[.int .i64 q0,.int .i64 q1,.int .i64 q2,.int .i64 q3,.int .i64 q4,.int .i64 q5] 6 rfl (by omega) 38
       simp only [zqa,zqb,zqc] at H7;clear H6 hb HWh y0 e0 e1 e2 e3 e4 e5 e6 e7;obtain ⟨p0,p1,p2,p3,p4,p5⟩:=zc6 (H7.row (O.length+6) (zk rfl));have x6c:=(H7.row (O.length+5) (zk rfl)).cellAt 6 (by decide)
       have c0:=H7.p0 (O.length+4) (zk rfl)
       have c1:=H7.p1 (O.length+4) (zk rfl)
       obtain ⟨v0,v1,v2,v3,v4,v5,v6,v7,v8,v9,v10⟩:=zc11 (H7.row (O.length+2) (zk rfl));obtain ⟨f0,f1,f2,f3,f4,f5,f6,f7,f8,f9,f10⟩:=zf11 (H7.row (O.length+2) (zk rfl));have H8:=z0ak H7 (O.length+2) (zk rfl) (.int .i64 (kk:Int)) (.int .i64 q0) (.int .i64 q1) (.int .i64 q2) (.int .i64 q3) (.int .i64 q4) (.int .i64 q5) (.int .i64 x6) (.int .i64 (ng:Int)) (.slice B1 n1 d1) (.slice B2 n2 d2)
       rw [z0q] at H8;simp only [zqe,zqd] at H8;obtain ⟨z0,z1,z2,z3,z4,z5,z6,z7,z8,z9,z10⟩:=zc11 (H8.row (O.length+2) (zk rfl));have HE:=zh H8.fewO;clear H7 H8;go_wp2_with fail;refine bodyPost_ret (v:=.agg #[.int .i64 (kk:Int),.int .i64 q0,.int .i64 q1,.int .i64 q2,.int .i64 q3,.int .i64 q4,.int .i64 q5,.int .i64 x6,.int .i64 (ng:Int),.slice B1 n1 d1,.slice B2 n2 d2]) (by simp [results,Tryz.results35,go_sem,z0,z1,z2,z3,z4,z5,z6,z7,z8,z9,z10]) rfl ?_
       rw [HRs.out];exact ⟨B1,n1,d1,B2,n2,d2,rfl,by rw [zqa];exact HE.out,fun _=>HFq.out⟩
     ·have g1:(ce == 0)=false:=z1r hc
      have g2:(ce != 0)=true:=by rw [bne,g1];rfl
      have HN:Hid (jud ⟨so,ch,ra,ba,ro,co⟩ p q l=z4h ⟨so,ch,ra,ba,ro,co⟩ p q l (kk+1) (6 - (kk+1))):=by
       unfold Hid;rw [HF.out];exact z2o HK5.out (z7l (by rw [HTt.out];rw [HCe.out];omega))
      have HE:Hid (Ow w0 w4 g M L (O++[(⟨some ⟨w.heap.size,0,none⟩,6,6,33,[.int .i64 so,.int .i64 ch,.int .i64 ra,.int .i64 ba,.int .i64 ro,.int .i64 co]⟩:Rw),Rw.pair (w.heap.size+1) 27 (.slice A n c) (.slice A2 m c2),(⟨some ⟨w.heap.size+1+1,0,none⟩,11,11,42,[.int .i64 0,.int .i64 0,.int .i64 0,.int .i64 0,.int .i64 0,.int .i64 0,.int .i64 0,.int .i64 0,.int .i64 0,.slice none 0 0,.slice none 0 0]⟩:Rw)])):=(Ow.fewO (O:=O++[(⟨some ⟨w.heap.size,0,none⟩,6,6,33,[.int .i64 so,.int .i64 ch,.int .i64 ra,.int .i64 ba,.int .i64 ro,.int .i64 co]⟩:Rw),Rw.pair (w.heap.size+1) 27 (.slice A n c) (.slice A2 m c2),(⟨some ⟨w.heap.size+1+1,0,none⟩,11,11,42,[.int .i64 0,.int .i64 0,.int .i64 0,.int .i64 0,.int .i64 0,.int .i64 0,.int .i64 0,.int .i64 0,.int .i64 0,.slice none 0 0,.slice none 0 0]⟩:Rw)]) (by simpa only [zqa,zqb,zqc] using H5)).less (fun o ho=>List.mem_append_left _ ho)
      clear H5;go_wp2_with fail;go_roundw
      case rel=>exact ⟨kk+1,by omega,Nat.succ_le_succ HK5.out,rfl,HE,HN⟩
      case measure=>
       have:=HK5.out
       simp [intOf]
       omega
    ·have g1:(er == 0)=false:=z1r he
     have g2:(er != 0)=true:=by rw [bne,g1];rfl
     have HN:Hid (jud ⟨so,ch,ra,ba,ro,co⟩ p q l=z4h ⟨so,ch,ra,ba,ro,co⟩ p q l (kk+1) (6 - (kk+1))):=by
      unfold Hid;rw [HF.out];exact z2o HK5.out (z7l (by rw [HTt.out];exact fun h=>z7aj (p:=p) (q:=q) (by rw [HTt.out,HEr.out];exact he) (by rw [HTt.out];exact h.1)))
     have HE:Hid (Ow w0 w4 g M L (O++[(⟨some ⟨w.heap.size,0,none⟩,6,6,33,[.int .i64 so,.int .i64 ch,.int .i64 ra,.int .i64 ba,.int .i64 ro,.int .i64 co]⟩:Rw),Rw.pair (w.heap.size+1) 27 (.slice A n c) (.slice A2 m c2),(⟨some ⟨w.heap.size+1+1,0,none⟩,11,11,42,[.int .i64 0,.int .i64 0,.int .i64 0,.int .i64 0,.int .i64 0,.int .i64 0,.int .i64 0,.int .i64 0,.int .i64 0,.slice none 0 0,.slice none 0 0]⟩:Rw)])):=(Ow.fewO (O:=O++[(⟨some ⟨w.heap.size,0,none⟩,6,6,33,[.int .i64 so,.int .i64 ch,.int .i64 ra,.int .i64 ba,.int .i64 ro,.int .i64 co]⟩:Rw),Rw.pair (w.heap.size+1) 27 (.slice A n c) (.slice A2 m c2),(⟨some ⟨w.heap.size+1+1,0,none⟩,11,11,42,[.int .i64 0,.int .i64 0,.int .i64 0,.int .i64 0,.int .i64 0,.int .i64 0,.int .i64 0,.int .i64 0,.int .i64 0,.slice none 0 0,.slice none 0 0]⟩:Rw)]) (by simpa only [zqa,zqb,zqc] using H5)).less (fun o ho=>List.mem_append_left _ ho)
     clear H5;go_wp2_with fail;go_roundw
     case rel=>exact ⟨kk+1,by omega,Nat.succ_le_succ HK5.out,rfl,HE,HN⟩
     case measure=>
      have:=HK5.out
      simp [intOf]
      omega
namespace Cl
set_option maxHeartbeats 8000000
def pk (l:List Sn)(la:List Nat):List Sn:=la.filterMap (fun i=>l[i]?)
def nx (v:Vd)(l:List Sn)(la:List Nat):List Nat:=la.filter fun i=>!dlP v.k ⟨v.p,v.cp,0⟩ l i
def lnV (s:Pl)(p q:List Int)(l:List Sn):Nat→List Nat→List Vd×List Nat
 | 0,la=>([],la)
 | f+1,la=>if (jud s p q (pk l la)).k=0 then ([],la) else (jud s p q (pk l la) :: (lnV s p q l f (nx (jud s p q (pk l la)) l la)).1,(lnV s p q l f (nx (jud s p q (pk l la)) l la)).2)
def lnF (s:Pl)(p q:List Int)(l:List Sn)(la:List Nat):List Vd×List Nat:=lnV s p q l la.length la
theorem z1bn {l:List Sn}{la:List Nat}{x:Sn}:x∈pk l la↔∃ i∈la,l[i]?=some x:=by
 unfold pk;rw [List.mem_filterMap]
theorem z1bo {l:List Sn}:∀ {la:List Nat},(∀ i∈la,i<l.length)→(pk l la).length=la.length
 | [],_=>rfl
 | i :: la,h=>by
  have h1:l[i]?=some (l[i]'(h i List.mem_cons_self)):=zql _
  unfold pk;rw [List.filterMap_cons,h1]
  show (pk l la).length+1=_
  rw [z1bo fun j hj=>h j (List.mem_cons_of_mem _ hj)]
  rfl
theorem z5aj (l:List Sn)(a b:List Nat):pk l (a++b)=pk l a++pk l b:=by
 unfold pk;exact List.filterMap_append
theorem z6br {l:List Sn}{i:Nat}{x:Sn}(h:l[i]?=some x):pk l [i]=[x]:=by
 unfold pk;rw [List.filterMap_cons,h];rfl
theorem z2aj (s:Pl)(p q:List Int)(l:List Sn):∀ f i:Nat,(z4h s p q l i f).k≠0→∃ j:Nat,i≤j∧j<i+f∧jst s p q l (j:Int)=some (z4h s p q l i f)
 | 0,i,h=>absurd rfl h
 | f+1,i,h=>by
  have e:z4h s p q l i (f+1)=(match jst s p q l (i:Int) with | some v=>v | none=>z4h s p q l (i+1) f):=rfl
  rw [e] at h ⊢
  cases hj:jst s p q l (i:Int) with
  | some v=>exact ⟨i,zqj _,by omega,hj⟩
  | none=>
   rw [hj] at h;obtain ⟨j,h1,h2,h3⟩:=z2aj s p q l f (i+1) h
   exact ⟨j,by omega,by omega,h3⟩
theorem z6q {s:Pl}{p q:List Int}{l:List Sn}(h:(jud s p q l).k≠0):kd (jud s p q l).k∧∃ x∈l,z2g (jud s p q l).k ⟨(jud s p q l).p,(jud s p q l).cp,0⟩=z2g (jud s p q l).k x∧2≤(z3c (jud s p q l).k l).length∧(jud s p q l).h=((z3c (jud s p q l).k l).length:Int)∧(jud s p q l).x=(chc s l (jud s p q l).k).1∧(jud s p q l).y=(chc s l (jud s p q l).k).2.1:=by
 obtain ⟨j,h1,h2,h3⟩:=z2aj s p q l 5 1 h
 have hv:∃ v,z4h s p q l 1 5=v:=⟨_,rfl⟩
 obtain ⟨v,hv⟩:=hv;have hv':jud s p q l=v:=hv
 rw [hv] at h3;rw [hv'];unfold jst at h3;by_cases hl:(z3c (j:Int) l).length<2
 ·rw [if_pos hl] at h3;cases h3
 ·rw [if_neg hl] at h3;by_cases hc:cE (chc s l (j:Int)) p q=0∧cV (chc s l (j:Int)) p q≤0
  ·rw [if_pos hc] at h3;obtain rfl:=zqk h3
   obtain ⟨hh,tl,hg⟩:∃ hh tl,z3c (j:Int) l=hh :: tl:=by
    cases e:z3c (j:Int) l with
    | nil=>rw [e] at hl;simp at hl
    | cons a b=>exact ⟨a,b,rfl⟩
   obtain ⟨x,hx,hf⟩:=z4z hg
   rw [hf];exact ⟨⟨by show (1:Int)≤(j:Int);omega,by show (j:Int)≤6;omega⟩,x,List.mem_of_getElem? hx,z2bw _ _ _ _ _,by show 2≤(z3c (j:Int) l).length;omega,rfl,rfl,rfl⟩
  ·rw [if_neg hc] at h3;cases h3
theorem z6ar (s:Pl)(p q:List Int):(jud s p q []).k=0:=by
 rcases Int.lt_trichotomy (jud s p q []).k 0 with h | h | h
 ·obtain ⟨_,x,hx,_⟩:=z6q (s:=s) (p:=p) (q:=q) (l:=[]) (by omega)
  cases hx
 ·exact h
 ·obtain ⟨_,x,hx,_⟩:=z6q (s:=s) (p:=p) (q:=q) (l:=[]) (by omega)
  cases hx
theorem z5aq {s:Pl}{p q:List Int}{l:List Sn}{la:List Nat}(h:(jud s p q (pk l la)).k≠0):(nx (jud s p q (pk l la)) l la).length<la.length:=by
 obtain ⟨_,x,hx,hs,_⟩:=z6q h
 obtain ⟨i,hi,hx'⟩:=z1bn.1 hx
 unfold nx;refine List.length_filter_lt_length_iff_exists.2 ⟨i,hi,?_⟩
 have:dlP (jud s p q (pk l la)).k ⟨(jud s p q (pk l la)).p,(jud s p q (pk l la)).cp,0⟩ l i=true:=by
  unfold dlP;rw [hx'];exact zt hs
 rw [this];decide
theorem z1br {v:Vd}{l:List Sn}{la:List Nat}{i:Nat}(h:i∈nx v l la):i∈la:=(List.mem_filter.1 h).1
theorem z2af (s:Pl)(p q:List Int)(l:List Sn):∀ (f:Nat) (la:List Nat),la.length≤f→lnV s p q l f la=lnV s p q l (f+1) la
 | 0,la,h=>by
  obtain rfl:la=[]:=List.length_eq_zero_iff.1 (Nat.le_zero.1 h)
  show _=(if (jud s p q (pk l [])).k=0 then _ else _)
  rw [if_pos (show (jud s p q (pk l [])).k=0 from z6ar s p q)]
  rfl
 | f+1,la,h=>by
  by_cases e:(jud s p q (pk l la)).k=0
  ·show (if (jud s p q (pk l la)).k=0 then _ else _)=(if (jud s p q (pk l la)).k=0 then _ else _)
   rw [if_pos e,if_pos e]
  ·have ih:=z2af s p q l f (nx (jud s p q (pk l la)) l la) (by have:=z5aq e;omega)
   show (if (jud s p q (pk l la)).k=0 then _ else _)=(if (jud s p q (pk l la)).k=0 then _ else _)
   rw [if_neg e,if_neg e,ih]
theorem z7z {s:Pl}{p q:List Int}{l:List Sn}{la:List Nat}:∀ (d:Nat),lnV s p q l (la.length+d) la=lnF s p q l la
 | 0=>rfl
 | d+1=>(z2af s p q l (la.length+d) la (by omega)).symm.trans (z7z d)
theorem z0bf {s:Pl}{p q:List Int}{l:List Sn}{la:List Nat}(h:(jud s p q (pk l la)).k=0):lnF s p q l la=([],la):=by
 rw [← z7z 1]
 show (if (jud s p q (pk l la)).k=0 then _ else _)=_
 rw [if_pos h]
theorem z6bw {s:Pl}{p q:List Int}{l:List Sn}{la:List Nat}(h:(jud s p q (pk l la)).k≠0):lnF s p q l la=(jud s p q (pk l la) :: (lnF s p q l (nx (jud s p q (pk l la)) l la)).1,(lnF s p q l (nx (jud s p q (pk l la)) l la)).2):=by
 rw [← z7z 1]
 show (if (jud s p q (pk l la)).k=0 then _ else _)=_
 rw [if_neg h];have h1:=z5aq h
 rw [← z7z (la:=nx (jud s p q (pk l la)) l la) (la.length - (nx (jud s p q (pk l la)) l la).length),show (nx (jud s p q (pk l la)) l la).length+(la.length - (nx (jud s p q (pk l la)) l la).length)=la.length by omega]
theorem z6am (s:Pl)(p q:List Int)(l:List Sn):∀ (f:Nat) (la:List Nat),(lnV s p q l f la).1.length+(lnV s p q l f la).2.length≤la.length∧∀ i∈(lnV s p q l f la).2,i∈la
 | 0,la=>⟨by show 0+la.length≤_;omega,fun i h=>h⟩
 | f+1,la=>by
  by_cases e:(jud s p q (pk l la)).k=0
  ·have:lnV s p q l (f+1) la=([],la):=by
    show (if (jud s p q (pk l la)).k=0 then _ else _)=_
    rw [if_pos e]
   rw [this];exact ⟨by show 0+la.length≤_;omega,fun i h=>h⟩
  ·obtain ⟨h1,h2⟩:=z6am s p q l f (nx (jud s p q (pk l la)) l la)
   have h3:=z5aq e
   have:lnV s p q l (f+1) la=(jud s p q (pk l la) :: (lnV s p q l f (nx (jud s p q (pk l la)) l la)).1,(lnV s p q l f (nx (jud s p q (pk l la)) l la)).2):=by
    show (if (jud s p q (pk l la)).k=0 then _ else _)=_
    rw [if_neg e]
   rw [this];refine ⟨?_,fun i h=>z1br (h2 i h)⟩
   show (lnV s p q l f (nx (jud s p q (pk l la)) l la)).1.length+1+(lnV s p q l f (nx (jud s p q (pk l la)) l la)).2.length≤la.length
   omega
theorem z4bx (s:Pl)(p q:List Int)(l:List Sn)(la:List Nat):(lnF s p q l la).1.length+(lnF s p q l la).2.length≤la.length∧∀ i∈(lnF s p q l la).2,i∈la:=z6am s p q l _ la
def lsV (s:Pl)(p q:List Int)(l:List Sn)(gs:List (List Nat)):List Vd:=gs.flatMap fun g=>(lnF s p q l g).1
def lsR (s:Pl)(p q:List Int)(l:List Sn)(gs:List (List Nat)):List Nat:=gs.flatMap fun g=>(lnF s p q l g).2
theorem z1bt (s:Pl)(p q:List Int)(l:List Sn):∀ gs:List (List Nat),(lsV s p q l gs).length+(lsR s p q l gs).length≤gs.flatten.length
 | []=>zqj _
 | g :: gs=>by
  have h1:=z1bt s p q l gs
  have h2:=(z4bx s p q l g).1
  unfold lsV lsR at *
  simp only [List.flatMap_cons,zqm,List.flatten_cons];omega
theorem z0bd (s:Pl)(p q:List Int)(l:List Sn)(gs:List (List Nat))(g:List Nat):lsV s p q l (gs++[g])=lsV s p q l gs++(lnF s p q l g).1:=by
 unfold lsV;rw [List.flatMap_append,List.flatMap_cons,List.flatMap_nil,List.append_nil]
theorem z2ac (s:Pl)(p q:List Int)(l:List Sn)(gs:List (List Nat))(g:List Nat):lsR s p q l (gs++[g])=lsR s p q l gs++(lnF s p q l g).2:=by
 unfold lsR;rw [List.flatMap_append,List.flatMap_cons,List.flatMap_nil,List.append_nil]
theorem z3x (k:Int)(l:List Sn):∀ (i:Nat) (p:Sp×List Nat),i≤l.length→p∈z1t k l i→p.2=(List.range i).filter fun j=>decide ((l[j]?).map (z2g k)=some p.1)
 | 0,p,_,h=>by cases h
 | i+1,p,hi,h=>by
  have hx:l[i]?=some (l[i]'(by omega)):=zql _
  rw [z1i hx] at h;have ih:=z3x k l i
  rw [List.range_succ,List.filter_append];have one:∀ b:Bool,decide ((l[i]?).map (z2g k)=some p.1)=b→([i].filter fun j=>decide ((l[j]?).map (z2g k)=some p.1))=if b then [i] else []:=fun b hb=>by
   rw [List.filter_cons,hb];rfl
  rcases z8l _ _ _ _ (z2d k l i) h with ⟨h1,h2⟩ | ⟨h1,g,h2,h3⟩ | ⟨h1,h2,h3⟩
  ·rw [one false (by rw [hx];exact zn fun e=>h2 (zqk e).symm),← ih p (by omega) h1]
   simp
  ·rw [one true (by rw [hx,h1];exact zt rfl),h3,show g=_ from ih (z2g k (l[i]'(by omega)),g) (by omega) h2,h1]
   rfl
  ·rw [one true (by rw [hx,h1];exact zt rfl),h2]
   have:((List.range i).filter fun j=>decide ((l[j]?).map (z2g k)=some p.1))=[]:=by
    rw [List.filter_eq_nil_iff];intro j hj hd;rw [List.mem_range] at hj;have e:=of_decide_eq_true hd
    have hj':l[j]?=some (l[j]'(by omega)):=zql _
    rw [hj',h1] at e;have hk:=z5a k l i j _ hj hj'
    rw [zqk e] at hk;obtain ⟨p',hp',e'⟩:=List.mem_map.1 hk
    exact h3 p' hp' e'
   rw [this];rfl
theorem z5bf {k:Int}{l:List Sn}{p:Sp×List Nat}(h:p∈z1t k l l.length):∀ z∈p.2,z<l.length:=by
 rw [z3x k l _ p (zqj _) h]
 intro z hz;exact List.mem_range.1 (List.mem_filter.1 hz).1
end Cl
section
variable {w0 W w w':World}{g:Option Nat}{M:List (Nat×Value)}{L S:List Ob}{O R:List Rw}{X:List Rx}
def NewS (W w':World)(S:List Ob):Prop:=∀ o∈S,o.vs.length=o.n∧o.n≤o.c∧o.n≤1000∧Sl w' w'.heap.size o.A o.vs∧∀ ad,o.A=some ad→0<o.n→W.heap.size≤ad.block
theorem Ow.pushW (h:Ow w0 W g M L O)(hb:Below W.heap.size W w')(hS:NewS W w' S):Ow w0 w' g M (L++S) O:=by
 have h':=h.go hb
 refine ⟨⟨h'.st.below,h'.st.lt,h'.st.box,h'.st.one,fun o ho=>?_⟩,h'.own,fun i r hi b hb'=>?_,h'.two⟩
 ·rcases List.mem_append.1 ho with h1 | h1
  ·exact h'.st.held o h1
  ·obtain ⟨a1,a2,a3,a4,a5⟩:=hS o h1
   refine ⟨a1,a2,a3,w'.heap.size,zqj _,a4,fun ad e hn=>⟨fun e2=>?_,fun i b v hi e2=>?_⟩⟩
   ·have:=(h.st.lt _ e2).1;have:=a5 ad e hn;omega
   ·have:=(h.st.box i b v hi).1;have:=a5 ad e hn;omega
 ·obtain ⟨a1,a2,a3⟩:=h'.ap i r hi b hb'
  refine ⟨a1,a2,fun o ho ad e hn e2=>?_⟩
  rcases List.mem_append.1 ho with h1 | h1
  ·exact a3 o h1 ad e hn e2
  ·have:=(h.lt hi hb').1;have:=(hS o h1).2.2.2.2 ad e hn;omega
theorem Ox.pushW (h:Ox w0 W g M L O X)(hb:Below W.heap.size W w')(hS:NewS W w' S):Ox w0 w' g M (L++S) O X:=by
 have h':=h.go hb
 refine ⟨h.ow.pushW hb hS,h'.own,fun i r hi b hb'=>?_,h'.two⟩
 obtain ⟨a1,a2,a3,a4⟩:=h'.ap i r hi b hb'
 refine ⟨a1,a2,fun o ho ad e hn e2=>?_,a4⟩
 rcases List.mem_append.1 ho with h1 | h1
 ·exact a3 o h1 ad e hn e2
 ·have:=(h.lt hi hb').1;have:=(hS o h1).2.2.2.2 ad e hn;omega
theorem Ow.merge (h:Ow w0 W g M L O)(hr:Ow W w' none [] [] R):Ow w0 w' g M L (O++R):=by
 have h':=h.go hr.below
 have key:∀ (i:Nat) (r:Rw),(O++R)[i]?=some r→O[i]?=some r∨(O.length≤i∧R[i - O.length]?=some r):=fun i r hi=>by
  rcases zqi i O.length with h1 | h1
  ·rw [zqn h1] at hi;exact .inl hi
  ·rw [zqo h1] at hi;exact .inr ⟨h1,hi⟩
 refine ⟨h'.st,fun i r hi=>?_,fun i r hi b hb=>?_,fun i j r s hi hj hij b hb e2=>?_⟩
 ·rcases key i r hi with h1 | ⟨_,h1⟩
  ·exact h'.own i r h1
  ·obtain ⟨b1,b2⟩:=hr.own _ r h1
   refine ⟨b1,?_⟩
   rcases b2 with h2 | ⟨g',cap',cur,h2,hb',r'⟩
   ·exact .inl h2
   ·exact .inr ⟨g',cap',cur,h2,zqq h.size hb',r'⟩
 ·rcases key i r hi with h1 | ⟨_,h1⟩
  ·exact h'.ap i r h1 b hb
  ·have h3:=(hr.lt h1 hb).2
   refine ⟨fun e=>by have:=(h.st.lt b e).1;omega,fun j k v hj e=>by have:=(h.st.box j k v hj).1;omega,fun o ho' ad ha h0 e=>?_⟩
   obtain ⟨h4,_,_,B,hB,hs,_⟩:=h.st.held o ho'
   obtain ⟨ad',ha',hlt,_⟩:=hs (by omega)
   rw [ha] at ha';obtain rfl:=zqk ha'
   omega
 ·rcases key i r hi with h1 | ⟨k1,h1⟩ <;> rcases key j s hj with h2 | ⟨k2,h2⟩
  ·exact h'.two i j r s h1 h2 hij b hb e2
  ·have:=(h.lt h1 hb).1;have:=(hr.lt h2 e2).2;omega
  ·have:=(hr.lt h1 hb).2;have:=(h.lt h2 e2).1;omega
  ·exact hr.two _ _ r s h1 h2 (by omega) b hb e2
end
theorem z7ba:(Tryz.prog.info? 42).map (fun i=>(i.zero.map (fun z=>z.cells.size),i.size,i.bytes))=some (some 11,11,120):=by kernel_rfl
theorem z7bf:z8ac Tryz.prog 56 42 11 120:=by
 have h:=z7ba;obtain ⟨i,hi⟩:∃ i,Tryz.prog.info? 42=some i:=by
  cases e:Tryz.prog.info? 42 with
  | none=>rw [e] at h;cases h
  | some i=>exact ⟨i,rfl⟩
 rw [hi] at h;simp only [Option.map_some,Option.some.injEq,Prod.mk.injEq] at h;obtain ⟨h1,h2,h3⟩:=h;obtain ⟨z,hz⟩:∃ z,i.zero=some z:=by
  cases e:i.zero with
  | none=>rw [e] at h1;cases h1
  | some z=>exact ⟨z,rfl⟩
 rw [hz] at h1;exact ⟨Tryz.underlying56,by omega,i,z,hi,hz,h2,h3,by simpa using h1⟩
namespace Cl
set_option maxHeartbeats 8000000
structure VR where
 v:Vd
 A1:Option Addr
 n1:Nat
 c1:Nat
 A2:Option Addr
 n2:Nat
 c2:Nat
def VR.vs (x:VR):Array Value:=x.v.vs x.A1 x.n1 x.c1 x.A2 x.n2 x.c2
def VR.obs (x:VR):List Ob:=[⟨x.A1,x.n1,x.c1,z0c (Na.dig x.v.x)⟩,⟨x.A2,x.n2,x.c2,z0c (Na.dig x.v.y)⟩]
def fvr (V:List VR):List Value:=V.flatMap fun x=>x.vs.toList
def lvr (V:List VR):List Ob:=V.flatMap VR.obs
theorem z0bn (V:List VR)(x:VR):fvr (V++[x])=fvr V++x.vs.toList:=by
 unfold fvr;rw [List.flatMap_append,List.flatMap_cons,List.flatMap_nil,List.append_nil]
theorem z0bc (V:List VR)(x:VR):lvr (V++[x])=lvr V++x.obs:=by
 unfold lvr;rw [List.flatMap_append,List.flatMap_cons,List.flatMap_nil,List.append_nil]
theorem z6bd (x:VR):∀ u∈x.vs.toList,u.oneCell'=true:=fun u hu=>by
 unfold VR.vs Vd.vs at hu;simp only [List.mem_cons,List.mem_nil_iff,or_false] at hu;rcases hu with rfl | rfl | rfl | rfl | rfl | rfl | rfl | rfl | rfl | rfl | rfl <;> rfl
def AllR (w0:World)(g:Option Nat)(M:List (Nat×Value))(L:List Ob)(O:List Rw)(vs:List Vd)(rs:List Int)(er:Int)(en:Ending)(w':World):Prop:=
 ∃ (Ao:Option Addr) (no co:Nat) (Ar:Option Addr) (nr cr:Nat) (V:List VR),V.map VR.v=vs∧V.length=no∧rs.length=nr∧en=.returned (.tuple #[.slice Ao no co,.slice Ar nr cr,.int .i64 er])∧Ow w0 w' g M (L++(⟨Ao,no*11,no*11,fvr V⟩ :: ⟨Ar,nr,cr,z0t rs⟩ :: lvr V)) O
noncomputable def z9u (s:Pl) (p q:List Int) (l:List Sn):List Vd×List Int×Int:=
 if chk s p q l=0 then (lsV s p q l ((z1t 6 l l.length).map (·.2)),srt (Na.up (lsR s p q l ((z1t 6 l l.length).map (·.2)))),0) else ([],[],chk s p q l)
end Cl
end Go.Proofs.YtpmofjomadibmaaGreatDoor
