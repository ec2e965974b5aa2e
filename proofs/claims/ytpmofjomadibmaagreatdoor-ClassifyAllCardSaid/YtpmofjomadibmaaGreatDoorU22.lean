/- Zm Zn Zo Zq Zr Zs -/
import Derived.Test.YtpmofjomadibmaaGreatDoorU21
import Derived.Shelf.SortM.Plain
import Derived.Shelf.SortM.SortNone
import Derived.Sort.OwnSortedInts
namespace Go.Proofs.YtpmofjomadibmaaGreatDoor
set_option maxHeartbeats 8000000
open Go.RowKit Go.Sort
set_option linter.unusedVariables false
set_option maxRecDepth 100000
open Cl
theorem z1o {α:Type}{l:List α}{j:Nat}{z:α}(h:l[j]?=some z):l.take (j+1)=l.take j++[z]:=by rw [List.take_add_one,h];rfl
theorem z7bm {α:Type}{l m:List α}{j:Nat}(h:l.drop j=m.drop j)(k:Nat)(hk:j<=k):l[k]?=m[k]?:=by
 have:=congrArg (fun t=>t[k - j]?) h
 simp only [List.getElem?_drop] at this;rwa [show j+(k - j)=k by omega] at this
def RDl (X:List Rx)(w0:World)(g:Option Nat)(M:List (Nat×Value))(L:List Ob)(O:List Rw)(li gb c n:Nat)(gl:List Nat)(p:Nat->Bool)(x5 x6:Value)(wr:World):Prop:=
 ∃ (i j:Nat) (vs:List Value),x5=.int .i64 i/\x6=.int .i64 j/\i<j/\j<=n/\Hid (vs.length=n)/\Hid (vs.take i=z0c ((gl.take j).filter fun z=>!p z))/\Hid (vs.drop j=(z0c gl).drop j)/\Hid (Oy X w0 wr g M L (O.set li ⟨some ⟨gb,0,none⟩,n,c,3,vs⟩))
theorem z9b {gl:List Nat}{p:Nat->Bool}(h:∀ z∈gl,p z=false):(gl.filter fun z=>!p z)=gl:=List.filter_eq_self.2 fun z hz=>by rw [h z hz];rfl
theorem z0bp:∀ w,(zeroValue 3).run Tryz.prog w=.ok (.int .i64 0) w:=Tryz.zeroValue3
theorem z7bn {X:List Rx}{w0 w:World}{g:Option Nat}{M:List (Nat×Value)}{L:List Ob}{O:List Rw}(h:Oy X w0 w g M L O)(li:Nat){A:Option Addr}{n c N:Nat}{gl:List Nat}(hl:O[li]?=some ⟨A,n,c,3,z0c gl⟩)(hg:gl.length=n)(hn:n<=1000)(hN:∀ z∈gl,z<N)(p:Nat->Bool)(F:FuncId)(c1 c2 c3:Value)
  (eg:∀ args w,(callFunc F args).run Tryz.prog w=.ok (.enter F args) w) (hF:Clo Tryz.prog F [c1,c2,c3] X w0 g M L O li A n c N p) :
  Calls Tryz.prog 51 #[.slice A n c,.func (.func F) #[] #[c1,c2,c3]] w fun e w'=>∃ n':Nat,e=.returned (.slice A n' c)/\(gl.filter fun z=>!p z).length=n'/\n'<=n/\Oy X w0 w' g M L (O.set li ⟨A,n',c,3,z0c (gl.filter fun z=>!p z)⟩):=by
 have HI:=zh (z7bh h li hl hg hn hN p F c1 c2 c3 eg hF)
 have HL:=zh hl;have HG:=zh hg;have HNn:=zh hN;have HF:=zh hF;clear h hl hg hN hF;go_enter Tryz.func51,Tryz.ntmps51
 go_wp2_with fail;refine HI.out.mono ?_;rintro e w1 ⟨r,rfl,ho,⟨rfl,hall⟩|⟨k,z,rfl,hz,hpz,hbef⟩⟩
 ·have HE:=zh ho;have HA:=zh hall;clear HI ho hall;go_wp2_with fail;go_ret;exact ⟨n,rfl,by rw [z9b HA.out];exact HG.out,zqj _,by rw [z9b HA.out,z1p HL.out];exact HE.out⟩
 ·have hkn:k<n:=by have:=z0d hz;have:=HG.out;omega
  have hk1:((k:Int) == -1)=false:=beq_eq_false_iff_ne.2 (by omega)
  have hw1:IntKind.i64.wrap ((k:Int)+1)=((k+1:Nat):Int):=by rw [IntWalk.i64_in _ (by omega)];omega
  obtain ⟨gb,hgb,_,_⟩:=z0n (ho.row li HL.out) (by omega)
  obtain rfl:=hgb
  have hncc:n<=c:=(z1j (ho.row li HL.out)).1
  have HSt:Hid (RDl X w0 g M L O li gb c n gl p (.int .i64 k) (.int .i64 ((k+1:Nat):Int)) w1):=by
   refine ⟨k,k+1,z0c gl,rfl,rfl,by omega,by omega,?_,?_,rfl,?_⟩
   ·unfold Hid z0c;rw [List.length_map];exact HG.out
   ·unfold Hid;rw [z1o hz,List.filter_append,z9b (fun y hy=>by
     obtain ⟨j,hj⟩:=List.getElem?_of_mem hy
     have hjk:j<k:=by have:=z0d hj;rw [zqw] at this;omega
     rw [List.getElem?_take_of_lt hjk] at hj;exact hbef j y hjk hj)]
    simp only [List.filter_cons,hpz]
    show _=z0c (gl.take k++[])
    rw [List.append_nil];unfold z0c;rw [List.map_take]
   ·unfold Hid;rw [z1p HL.out];exact ho
  clear HI ho hz hpz hbef;go_wp2_with fail;go_loopw [5,6] (fun x5 x6 wr=>RDl X w0 g M L O li gb c n gl p x5 x6 wr) (fun _ x6 _=>n+1 - (intOf x6).toNat)
  case atStart=>exact HSt.out
  case round=>
   clear HSt;obtain ⟨i,j,vs,rfl,rfl,hij,hjn,HVl,HTk,HDr,HO⟩:=hrel;have hRow:=HO.out.row li (z0a HL.out)
   rcases zqi j n with hlt|hge
   ·have hd:decide ((j:Int)<n)=true:=zt (by omega)
    have hd2:decide (j<n)=true:=zt (by omega)
    obtain ⟨y,hy⟩:∃ y,gl[j]?=some y:=⟨gl[j]'(by rw [HG.out];exact hlt),zql _⟩
    have HY:=zh hy;have hvj:vs[j]?=some (.int .i64 y):=by
     rw [z7bm HDr.out j (zqj _)]
     unfold z0c;rw [List.getElem?_map,hy];rfl
    have e0:=hRow.cells (g:=gb) rfl j _ hvj
    rw [z6n] at e0;have HC:=zh (HF.out wr vs HO.out y (HNn.out y (List.mem_of_getElem? hy)))
    have HIn:Hid (i<j/\j<n):=⟨hij,hlt⟩
    have hji:(j:Int)<n:=by omega
    have hii:(i:Int)<n:=by omega
    have hw2:IntKind.i64.wrap ((j:Int)+1)=((j+1:Nat):Int):=by rw [IntWalk.i64_in _ (by omega)];omega
    have hw3:IntKind.i64.wrap ((i:Int)+1)=((i+1:Nat):Int):=by rw [IntWalk.i64_in _ (by omega)];omega
    cases hp:p y with
    | true=>
     rw [hp] at HC;have HP:=zh hp;clear hy hvj hRow hp hlt hij hjn HO;go_wp2_with (go_at_fn F;refine HC.out.mono ?_;rintro e w' ⟨rfl,ho⟩)
     go_roundw
     case rel=>
      refine ⟨i,j+1,vs,rfl,rfl,by have:=HIn.out;omega,by have:=HIn.out;omega,HVl.out,?_,?_,ho⟩
      ·unfold Hid;rw [z1o HY.out,List.filter_append,HTk.out];simp only [List.filter_cons,HP.out]
       show _=z0c (_++[])
       rw [List.append_nil]
      ·unfold Hid;have:=congrArg (fun t=>t.drop 1) HDr.out
       simpa only [List.drop_drop] using this
     case measure=>
      have:=HIn.out
      simp [intOf]
      omega
    | false=>
     rw [hp] at HC;have HP:=zh hp;clear hy hvj hRow hp hlt hij hjn HO;go_wp2_with (go_at_fn F;refine HC.out.mono ?_;rintro e w' ⟨rfl,ho⟩;have ei:=(ho.row li (z0a HL.out)).cells (g:=gb) rfl i _ (zql (by have:=HIn.out;have:=HVl.out;omega));rw [z6n] at ei;have fi:=(ho.row li (z0a HL.out)).frozenAt i;have HPs:=zh (ho.put li (z0a HL.out) i (.int .i64 y));clear ho)
     have HPt:=HPs.out;rw [List.set_set] at HPt;go_roundw
     case rel=>
      refine ⟨i+1,j+1,vs.set i (.int .i64 y),rfl,rfl,by have:=HIn.out;omega,by have:=HIn.out;omega,?_,?_,?_,HPt⟩
      ·unfold Hid;rw [List.length_set];exact HVl.out
      ·unfold Hid;have hil:i<vs.length:=by have:=HIn.out;have:=HVl.out;omega
       rw [z1o HY.out,List.filter_append,z1o (List.getElem?_set_self hil),List.take_set_of_le (zqj i),HTk.out]
       simp only [List.filter_cons,HP.out]
       show _=z0c (_++[y])
       rw [z1a]
      ·unfold Hid;have:=congrArg (fun t=>t.drop 1) HDr.out
       simp only [List.drop_drop] at this;rw [List.drop_set_of_lt (by have:=HIn.out;omega)]
       exact this
     case measure=>
      have:=HIn.out
      simp [intOf]
      omega
   ·obtain rfl:n=j:=by omega
    have hd:decide ((n:Int)<n)=false:=zn (by omega)
    have hcl:∀ ty,(Builtin.clear_ #[22] ty #[.slice (some ⟨gb,i,none⟩) (n - i) (c - i)]).run Tryz.prog wr=.ok (.tuple #[]) (wr.setCells gb i (List.replicate (n - i) (.int .i64 0))):=
     fun ty=>Lib.run_clear_slice wr _ _ ty (.int .i64 0) Tryz.underlying22 z0bp rfl rfl gb i _ _ (by omega) (fun t ht=>by
      have:=hRow.cells (g:=gb) rfl (i+t) _ (zql (by have:=HVl.out;omega))
      rw [z6n] at this;rw [this];rfl) (fun t ht=>hRow.frozenAt (i+t))
    have HPs:=zh (Oy.puts (List.replicate (n - i) (.int .i64 0)) i HO.out (z0a HL.out) (by rw [List.length_replicate,HVl.out];omega))
    have hcut:=HPs.out.cut li (z0a (z0a HL.out)) (k:=i) (by omega)
    have hfi:((gl.filter fun z=>!p z).length=i/\z0c (gl.filter fun z=>!p z)=vs.take i):=by
     have h1:=HTk.out;rw [zqp (l:=gl) (i:=n) (by rw [HG.out];exact zqj _)] at h1
     have h2:=congrArg List.length h1
     rw [zqw,HVl.out] at h2;unfold z0c at h2;rw [List.length_map] at h2;exact ⟨by omega,h1.symm⟩
    have HFi:=zh hfi;rw [List.set_set,List.set_set,zqa,List.take_append_of_le_length (by rw [zqw,HVl.out];omega),List.take_take,Nat.min_self,<- hfi.2] at hcut
    have HCu:=zh hcut;have hin:i<n:=hij
    have hic:i<c:=by omega
    have hii:(i:Int)<n:=by omega
    have hii2:(i:Int)<=(n:Int):=by omega
    have hii3:(i:Int)<=(c:Int):=by omega
    clear hRow hcut hfi HO HPs hge hij hjn;go_wp2_with fail;go_ret;exact ⟨i,rfl,HFi.out.1,by omega,HCu.out⟩
open Go.Shelf
def z8au:Go.Shelf.Ren:=⟨fun|5=>54|8=>82|7=>81|19=>114|20=>115|10=>105|11=>106|12=>107|13=>108|14=>109|15=>110|16=>111|17=>112|18=>113|30=>131|31=>132|32=>133|33=>134|34=>135|35=>136|40=>148|n=>n,fun|23=>22|25=>3|3=>3|32=>72|22=>22|0=>0|44=>137|46=>139|4=>4|36=>130|35=>129|41=>101|5=>5|9=>9|53=>152|57=>156|63=>170|64=>171|n=>n,fun|n=>n⟩
theorem z9bf:Go.Proofs.SlLaysM.n5 Tryz.prog z8au:={
 mixed:=by kernel_rfl,
 f5:=⟨Tryz.f54.name,by decide,Tryz.func54.trans (congrArg some (by kernel_rfl))⟩,
 f7:=⟨Tryz.f81.name,by decide,Tryz.func81.trans (congrArg some (by kernel_rfl))⟩,
 f8:=Tryz.func82.trans (congrArg some (by kernel_rfl)),
 f10:=⟨Tryz.f105.name,by decide,Tryz.func105.trans (congrArg some (by kernel_rfl))⟩,
 f11:=⟨Tryz.f106.name,by decide,Tryz.func106.trans (congrArg some (by kernel_rfl))⟩,
 f12:=⟨Tryz.f107.name,by decide,Tryz.func107.trans (congrArg some (by kernel_rfl))⟩,
 f13:=⟨Tryz.f108.name,by decide,Tryz.func108.trans (congrArg some (by kernel_rfl))⟩,
 f14:=⟨Tryz.f109.name,by decide,Tryz.func109.trans (congrArg some (by kernel_rfl))⟩,
 f15:=⟨Tryz.f110.name,by decide,Tryz.func110.trans (congrArg some (by kernel_rfl))⟩,
 f16:=⟨Tryz.f111.name,by decide,Tryz.func111.trans (congrArg some (by kernel_rfl))⟩,
 f17:=⟨Tryz.f112.name,by decide,Tryz.func112.trans (congrArg some (by kernel_rfl))⟩,
 f18:=⟨Tryz.f113.name,by decide,Tryz.func113.trans (congrArg some (by kernel_rfl))⟩,
 f19:=Tryz.func114.trans (congrArg some (by kernel_rfl)),
 f20:=Tryz.func115.trans (congrArg some (by kernel_rfl)),
 f30:=⟨Tryz.f131.name,by decide,Tryz.func131.trans (congrArg some (by kernel_rfl))⟩,
 f31:=Tryz.func132.trans (congrArg some (by kernel_rfl)),
 f32:=Tryz.func133.trans (congrArg some (by kernel_rfl)),
 f33:=⟨Tryz.f134.name,by decide,Tryz.func134.trans (congrArg some (by kernel_rfl))⟩,
 f34:=⟨Tryz.f135.name,by decide,Tryz.func135.trans (congrArg some (by kernel_rfl))⟩,
 f35:=⟨Tryz.f136.name,by decide,Tryz.func136.trans (congrArg some (by kernel_rfl))⟩,
 f40:=⟨Tryz.f148.name,by decide,Tryz.func148.trans (congrArg some (by kernel_rfl))⟩,
 t0:=Tryz.underlying0,
 a0:=Tryz.isAgg0,
 z0:=Tryz.sizeOf0,
 v0:=Tryz.zeroValue0,
 t3:=Tryz.underlying3,
 a3:=Tryz.isAgg3,
 z3:=Tryz.sizeOf3,
 v3:=Tryz.zeroValue3,
 t4:=Tryz.underlying4,
 a4:=Tryz.isAgg4,
 z4:=Tryz.sizeOf4,
 v4:=Tryz.zeroValue4,
 t5:=Tryz.underlying5,
 a5:=Tryz.isAgg5,
 z5:=Tryz.sizeOf5,
 v5:=Tryz.zeroValue5,
 t9:=Tryz.underlying9,
 a9:=Tryz.isAgg9,
 z9:=Tryz.sizeOf9,
 v9:=Tryz.zeroValue9,
 t22:=Tryz.underlying22,
 a22:=Tryz.isAgg22,
 z22:=Tryz.sizeOf22,
 v22:=Tryz.zeroValue22,
 t23:=Tryz.underlying22,
 a23:=Tryz.isAgg22,
 z23:=Tryz.sizeOf22,
 v23:=Tryz.zeroValue22,
 t25:=Tryz.underlying3,
 a25:=Tryz.isAgg3,
 z25:=Tryz.sizeOf3,
 v25:=Tryz.zeroValue3,
 t32:=Tryz.underlying72,
 a32:=Tryz.isAgg72,
 z32:=Tryz.sizeOf72,
 v32:=Tryz.zeroValue72,
 t35:=Tryz.underlying129,
 a35:=Tryz.isAgg129,
 z35:=Tryz.sizeOf129,
 v35:=Tryz.zeroValue129,
 t36:=Tryz.underlying130,
 a36:=Tryz.isAgg130,
 z36:=Tryz.sizeOf130,
 v36:=Tryz.zeroValue130,
 t41:=Tryz.underlying101,
 a41:=Tryz.isAgg101,
 z41:=Tryz.sizeOf101,
 v41:=Tryz.zeroValue101,
 t44:=Tryz.underlying137,
 a44:=Tryz.isAgg137,
 z44:=Tryz.sizeOf137,
 v44:=Tryz.zeroValue137,
 t46:=Tryz.underlying139,
 a46:=Tryz.isAgg139,
 z46:=Tryz.sizeOf139,
 v46:=Tryz.zeroValue139,
 t53:=Tryz.underlying152,
 a53:=Tryz.isAgg152,
 z53:=Tryz.sizeOf152,
 v53:=Tryz.zeroValue152,
 t57:=Tryz.underlying156,
 a57:=Tryz.isAgg156,
 z57:=Tryz.sizeOf156,
 v57:=Tryz.zeroValue156,
 t63:=Tryz.underlying170,
 a63:=Tryz.isAgg170,
 z63:=Tryz.sizeOf170,
 v63:=Tryz.zeroValue170,
 t64:=Tryz.underlying171,
 a64:=Tryz.isAgg171,
 z64:=Tryz.sizeOf171,
 v64:=Tryz.zeroValue171
}
open Go.RowKit Go.Sort Go.Proofs
def srt (zs:List Int):List Int:=zs.mergeSort fun x y=>decide (x<=y)
theorem z1ac (zs:List Int):(srt zs).length=zs.length:=List.length_mergeSort _
theorem z5bc {w0 w:World}{g:Option Nat}{M:List (Nat×Value)}{L:List Ob}{O:List Rw}(h:Ow w0 w g M L O)(li:Nat){A:Option Addr}{n c:Nat}{zs:List Int}(hl:O[li]?=some ⟨A,n,c,3,z0p zs⟩)(hn0:n<=1000):
  Calls Tryz.prog 54 #[.slice A n c] w fun e w'=>e=.returned (.tuple #[])/\Ow w0 w' g M L (O.set li ⟨A,n,c,3,z0p (srt zs)⟩):=by
 have hr:=h.row li hl
 have hn:zs.length=n:=by
  have:=hr.1
  unfold z0p at this;rw [List.length_map] at this;omega
 rcases zqh n with h0|hp
 ·subst h0
  obtain rfl:zs=[]:=List.eq_nil_of_length_eq_zero hn
  refine (AnyM.slices_Sort_int_none z9bf A c w).mono ?_
  rintro e w' ⟨rfl,rfl⟩;refine ⟨rfl,?_⟩
  have e1:srt []=[]:=List.eq_nil_of_length_eq_zero (z1ac [])
  rw [e1,z1p hl];exact h
 ·obtain ⟨gb,rfl,hbg,hgl⟩:=z0n hr hp
  rcases hr.2 with ⟨h',h0⟩|⟨g',cap',cur,h',hb,hg,hnc,hcm,hcs,htake⟩
  ·omega
  ·injection h' with h1 h2 h3
   injection h1 with h1
   injection h1 with h1
   subst h1 h3
   have hH:Holds (Value.int .i64) w gb 0 zs.toArray:=holds_of_blockI hg (by rw [hn];rw [Nat.mul_one] at htake;exact htake)
   refine ((show Calls Tryz.prog 54 #[.slice (some ⟨gb,0,none⟩) zs.length c] w _ from AnyM.slices_Sort_int z9bf gb 0 c zs w hH hgl (by omega))).mono ?_ |> (fun k=>by rw [hn] at k;exact k)
   rintro e w' ⟨rfl,m,os,rfl⟩;refine ⟨rfl,h.turn li hl (r':=⟨some ⟨gb,0,none⟩,n,c,3,z0p (srt zs)⟩) (grownBy_sortedI _) ?_ (.inl rfl)⟩
   have:=ownsRow_sortedI (n:=m) (os:=os) (ss:=zs) (ts:=srt zs) (z1ac zs) hbg hg (by omega) hcm hcs
   rw [hn] at this;exact this
namespace Cl
set_option maxHeartbeats 8000000
def pk (l:List Sn)(la:List Nat):List Sn:=la.filterMap (fun i=>l[i]?)
def nx (v:Vd)(l:List Sn)(la:List Nat):List Nat:=la.filter fun i=>!dlP v.k ⟨v.p,v.cp,0⟩ l i
def lnV (s:Pl)(p q:List Int)(l:List Sn):Nat->List Nat->List Vd×List Nat
 | 0,la=>([],la)
 | f+1,la=>if (jud s p q (pk l la)).k=0 then ([],la) else (jud s p q (pk l la) :: (lnV s p q l f (nx (jud s p q (pk l la)) l la)).1,(lnV s p q l f (nx (jud s p q (pk l la)) l la)).2)
def lnF (s:Pl)(p q:List Int)(l:List Sn)(la:List Nat):List Vd×List Nat:=lnV s p q l la.length la
theorem z9ba {l:List Sn}{la:List Nat}{x:Sn}:x∈pk l la↔∃ i∈la,l[i]?=some x:=by
 unfold pk;rw [List.mem_filterMap]
theorem z7as {l:List Sn}:∀ {la:List Nat},(∀ i∈la,i<l.length)->(pk l la).length=la.length
 | [],_=>rfl
 | i :: la,h=>by
  have h1:l[i]?=some (l[i]'(h i List.mem_cons_self)):=zql _
  unfold pk;rw [List.filterMap_cons,h1]
  show (pk l la).length+1=_
  rw [z7as fun j hj=>h j (List.mem_cons_of_mem _ hj)]
  rfl
theorem z0aa (l:List Sn)(a b:List Nat):pk l (a++b)=pk l a++pk l b:=by
 unfold pk;exact List.filterMap_append
theorem z3bu {l:List Sn}{i:Nat}{x:Sn}(h:l[i]?=some x):pk l [i]=[x]:=by
 unfold pk;rw [List.filterMap_cons,h];rfl
theorem z3ap (s:Pl)(p q:List Int)(l:List Sn):∀ f i:Nat,(z7y s p q l i f).k≠0->∃ j:Nat,i<=j/\j<i+f/\jst s p q l (j:Int)=some (z7y s p q l i f)
 | 0,i,h=>absurd rfl h
 | f+1,i,h=>by
  have e:z7y s p q l i (f+1)=(match jst s p q l (i:Int) with|some v=>v|none=>z7y s p q l (i+1) f):=rfl
  rw [e] at h ⊢
  cases hj:jst s p q l (i:Int) with
  | some v=>exact ⟨i,zqj _,by omega,hj⟩
  | none=>
   rw [hj] at h;obtain ⟨j,h1,h2,h3⟩:=z3ap s p q l f (i+1) h
   exact ⟨j,by omega,by omega,h3⟩
theorem z7n {s:Pl}{p q:List Int}{l:List Sn}(h:(jud s p q l).k≠0):kd (jud s p q l).k/\∃ x∈l,z3u (jud s p q l).k ⟨(jud s p q l).p,(jud s p q l).cp,0⟩=z3u (jud s p q l).k x/\2<=(z6k (jud s p q l).k l).length/\(jud s p q l).h=((z6k (jud s p q l).k l).length:Int)/\(jud s p q l).x=(chc s l (jud s p q l).k).1/\(jud s p q l).y=(chc s l (jud s p q l).k).2.1:=by
 obtain ⟨j,h1,h2,h3⟩:=z3ap s p q l 5 1 h
 have hv:∃ v,z7y s p q l 1 5=v:=⟨_,rfl⟩
 obtain ⟨v,hv⟩:=hv;have hv':jud s p q l=v:=hv
 rw [hv] at h3;rw [hv'];unfold jst at h3;by_cases hl:(z6k (j:Int) l).length<2
 ·rw [if_pos hl] at h3;cases h3
 ·rw [if_neg hl] at h3;by_cases hc:cE (chc s l (j:Int)) p q=0/\cV (chc s l (j:Int)) p q<=0
  ·rw [if_pos hc] at h3;obtain rfl:=zqk h3
   obtain ⟨hh,tl,hg⟩:∃ hh tl,z6k (j:Int) l=hh :: tl:=by
    cases e:z6k (j:Int) l with
    | nil=>rw [e] at hl;simp at hl
    | cons a b=>exact ⟨a,b,rfl⟩
   obtain ⟨x,hx,hf⟩:=z7m hg
   rw [hf];exact ⟨⟨by show (1:Int)<=(j:Int);omega,by show (j:Int)<=6;omega⟩,x,List.mem_of_getElem? hx,z5bb _ _ _ _ _,by show 2<=(z6k (j:Int) l).length;omega,rfl,rfl,rfl⟩
  ·rw [if_neg hc] at h3;cases h3
theorem z9ad (s:Pl)(p q:List Int):(jud s p q []).k=0:=by
 rcases Int.lt_trichotomy (jud s p q []).k 0 with h|h|h
 ·obtain ⟨_,x,hx,_⟩:=z7n (s:=s) (p:=p) (q:=q) (l:=[]) (by omega)
  cases hx
 ·exact h
 ·obtain ⟨_,x,hx,_⟩:=z7n (s:=s) (p:=p) (q:=q) (l:=[]) (by omega)
  cases hx
theorem z5ag {s:Pl}{p q:List Int}{l:List Sn}{la:List Nat}(h:(jud s p q (pk l la)).k≠0):(nx (jud s p q (pk l la)) l la).length<la.length:=by
 obtain ⟨_,x,hx,hs,_⟩:=z7n h
 obtain ⟨i,hi,hx'⟩:=z9ba.1 hx
 unfold nx;refine List.length_filter_lt_length_iff_exists.2 ⟨i,hi,?_⟩
 have:dlP (jud s p q (pk l la)).k ⟨(jud s p q (pk l la)).p,(jud s p q (pk l la)).cp,0⟩ l i=true:=by
  unfold dlP;rw [hx'];exact zt hs
 rw [this];decide
theorem z3bx {v:Vd}{l:List Sn}{la:List Nat}{i:Nat}(h:i∈nx v l la):i∈la:=(List.mem_filter.1 h).1
theorem z3am (s:Pl)(p q:List Int)(l:List Sn):∀ (f:Nat) (la:List Nat),la.length<=f->lnV s p q l f la=lnV s p q l (f+1) la
 | 0,la,h=>by
  obtain rfl:la=[]:=List.length_eq_zero_iff.1 (Nat.le_zero.1 h)
  show _=(if (jud s p q (pk l [])).k=0 then _ else _)
  rw [if_pos (show (jud s p q (pk l [])).k=0 from z9ad s p q)]
  rfl
 | f+1,la,h=>by
  by_cases e:(jud s p q (pk l la)).k=0
  ·show (if (jud s p q (pk l la)).k=0 then _ else _)=(if (jud s p q (pk l la)).k=0 then _ else _)
   rw [if_pos e,if_pos e]
  ·have ih:=z3am s p q l f (nx (jud s p q (pk l la)) l la) (by have:=z5ag e;omega)
   show (if (jud s p q (pk l la)).k=0 then _ else _)=(if (jud s p q (pk l la)).k=0 then _ else _)
   rw [if_neg e,if_neg e,ih]
theorem z8v {s:Pl}{p q:List Int}{l:List Sn}{la:List Nat}:∀ (d:Nat),lnV s p q l (la.length+d) la=lnF s p q l la
 | 0=>rfl
 | d+1=>(z3am s p q l (la.length+d) la (by omega)).symm.trans (z8v d)
theorem z3an {s:Pl}{p q:List Int}{l:List Sn}{la:List Nat}(h:(jud s p q (pk l la)).k=0):lnF s p q l la=([],la):=by
 rw [<- z8v 1]
 show (if (jud s p q (pk l la)).k=0 then _ else _)=_
 rw [if_pos h]
theorem z3bz {s:Pl}{p q:List Int}{l:List Sn}{la:List Nat}(h:(jud s p q (pk l la)).k≠0):lnF s p q l la=(jud s p q (pk l la) :: (lnF s p q l (nx (jud s p q (pk l la)) l la)).1,(lnF s p q l (nx (jud s p q (pk l la)) l la)).2):=by
 rw [<- z8v 1]
 show (if (jud s p q (pk l la)).k=0 then _ else _)=_
 rw [if_neg h];have h1:=z5ag h
 rw [<- z8v (la:=nx (jud s p q (pk l la)) l la) (la.length - (nx (jud s p q (pk l la)) l la).length),show (nx (jud s p q (pk l la)) l la).length+(la.length - (nx (jud s p q (pk l la)) l la).length)=la.length by omega]
theorem z8az (s:Pl)(p q:List Int)(l:List Sn):∀ (f:Nat) (la:List Nat),(lnV s p q l f la).1.length+(lnV s p q l f la).2.length<=la.length/\∀ i∈(lnV s p q l f la).2,i∈la
 | 0,la=>⟨by show 0+la.length<=_;omega,fun i h=>h⟩
 | f+1,la=>by
  by_cases e:(jud s p q (pk l la)).k=0
  ·have:lnV s p q l (f+1) la=([],la):=by
    show (if (jud s p q (pk l la)).k=0 then _ else _)=_
    rw [if_pos e]
   rw [this];exact ⟨by show 0+la.length<=_;omega,fun i h=>h⟩
  ·obtain ⟨h1,h2⟩:=z8az s p q l f (nx (jud s p q (pk l la)) l la)
   have h3:=z5ag e
   have:lnV s p q l (f+1) la=(jud s p q (pk l la) :: (lnV s p q l f (nx (jud s p q (pk l la)) l la)).1,(lnV s p q l f (nx (jud s p q (pk l la)) l la)).2):=by
    show (if (jud s p q (pk l la)).k=0 then _ else _)=_
    rw [if_neg e]
   rw [this];refine ⟨?_,fun i h=>z3bx (h2 i h)⟩
   show (lnV s p q l f (nx (jud s p q (pk l la)) l la)).1.length+1+(lnV s p q l f (nx (jud s p q (pk l la)) l la)).2.length<=la.length
   omega
theorem z7be (s:Pl)(p q:List Int)(l:List Sn)(la:List Nat):(lnF s p q l la).1.length+(lnF s p q l la).2.length<=la.length/\∀ i∈(lnF s p q l la).2,i∈la:=z8az s p q l _ la
def lsV (s:Pl)(p q:List Int)(l:List Sn)(gs:List (List Nat)):List Vd:=gs.flatMap fun g=>(lnF s p q l g).1
def lsR (s:Pl)(p q:List Int)(l:List Sn)(gs:List (List Nat)):List Nat:=gs.flatMap fun g=>(lnF s p q l g).2
theorem z3by (s:Pl)(p q:List Int)(l:List Sn):∀ gs:List (List Nat),(lsV s p q l gs).length+(lsR s p q l gs).length<=gs.flatten.length
 | []=>zqj _
 | g :: gs=>by
  have h1:=z3by s p q l gs
  have h2:=(z7be s p q l g).1
  unfold lsV lsR at *
  simp only [List.flatMap_cons,zqm,List.flatten_cons];omega
theorem z3ai (s:Pl)(p q:List Int)(l:List Sn)(gs:List (List Nat))(g:List Nat):lsV s p q l (gs++[g])=lsV s p q l gs++(lnF s p q l g).1:=by
 unfold lsV;rw [List.flatMap_append,List.flatMap_cons,List.flatMap_nil,List.append_nil]
theorem z3aj (s:Pl)(p q:List Int)(l:List Sn)(gs:List (List Nat))(g:List Nat):lsR s p q l (gs++[g])=lsR s p q l gs++(lnF s p q l g).2:=by
 unfold lsR;rw [List.flatMap_append,List.flatMap_cons,List.flatMap_nil,List.append_nil]
theorem z3z (k:Int)(l:List Sn):∀ (i:Nat) (p:Sp×List Nat),i<=l.length->p∈z2j k l i->p.2=(List.range i).filter fun j=>decide ((l[j]?).map (z3u k)=some p.1)
 | 0,p,_,h=>by cases h
 | i+1,p,hi,h=>by
  have hx:l[i]?=some (l[i]'(by omega)):=zql _
  rw [z3q hx] at h;have ih:=z3z k l i
  rw [List.range_succ,List.filter_append];have one:∀ b:Bool,decide ((l[i]?).map (z3u k)=some p.1)=b->([i].filter fun j=>decide ((l[j]?).map (z3u k)=some p.1))=if b then [i] else []:=fun b hb=>by
   rw [List.filter_cons,hb];rfl
  rcases z0bi _ _ _ _ (z2m k l i) h with ⟨h1,h2⟩|⟨h1,g,h2,h3⟩|⟨h1,h2,h3⟩
  ·rw [one false (by rw [hx];exact zn fun e=>h2 (zqk e).symm),<- ih p (by omega) h1]
   simp
  ·rw [one true (by rw [hx,h1];exact zt rfl),h3,show g=_ from ih (z3u k (l[i]'(by omega)),g) (by omega) h2,h1]
   rfl
  ·rw [one true (by rw [hx,h1];exact zt rfl),h2]
   have:((List.range i).filter fun j=>decide ((l[j]?).map (z3u k)=some p.1))=[]:=by
    rw [List.filter_eq_nil_iff];intro j hj hd;rw [List.mem_range] at hj;have e:=of_decide_eq_true hd
    have hj':l[j]?=some (l[j]'(by omega)):=zql _
    rw [hj',h1] at e;have hk:=z8y k l i j _ hj hj'
    rw [zqk e] at hk;obtain ⟨p',hp',e'⟩:=List.mem_map.1 hk
    exact h3 p' hp' e'
   rw [this];rfl
theorem z1az {k:Int}{l:List Sn}{p:Sp×List Nat}(h:p∈z2j k l l.length):∀ z∈p.2,z<l.length:=by
 rw [z3z k l _ p (zqj _) h]
 intro z hz;exact List.mem_range.1 (List.mem_filter.1 hz).1
end Cl
section
variable {w0 W w w':World}{g:Option Nat}{M:List (Nat×Value)}{L S:List Ob}{O R:List Rw}{X:List Rx}
def NewS (W w':World)(S:List Ob):Prop:=∀ o∈S,o.vs.length=o.n/\o.n<=o.c/\o.n<=1000/\Sl w' w'.heap.size o.A o.vs/\∀ ad,o.A=some ad->0<o.n->W.heap.size<=ad.block
theorem Ow.pushW (h:Ow w0 W g M L O)(hb:Below W.heap.size W w')(hS:NewS W w' S):Ow w0 w' g M (L++S) O:=by
 have h':=h.go hb
 refine ⟨⟨h'.st.below,h'.st.lt,h'.st.box,h'.st.one,fun o ho=>?_⟩,h'.own,fun i r hi b hb'=>?_,h'.two⟩
 ·rcases List.mem_append.1 ho with h1|h1
  ·exact h'.st.held o h1
  ·obtain ⟨a1,a2,a3,a4,a5⟩:=hS o h1
   refine ⟨a1,a2,a3,w'.heap.size,zqj _,a4,fun ad e hn=>⟨fun e2=>?_,fun i b v hi e2=>?_⟩⟩
   ·have:=(h.st.lt _ e2).1;have:=a5 ad e hn;omega
   ·have:=(h.st.box i b v hi).1;have:=a5 ad e hn;omega
 ·obtain ⟨a1,a2,a3⟩:=h'.ap i r hi b hb'
  refine ⟨a1,a2,fun o ho ad e hn e2=>?_⟩
  rcases List.mem_append.1 ho with h1|h1
  ·exact a3 o h1 ad e hn e2
  ·have:=(h.lt hi hb').1;have:=(hS o h1).2.2.2.2 ad e hn;omega
theorem Ox.pushW (h:Ox w0 W g M L O X)(hb:Below W.heap.size W w')(hS:NewS W w' S):Ox w0 w' g M (L++S) O X:=by
 have h':=h.go hb
 refine ⟨h.ow.pushW hb hS,h'.own,fun i r hi b hb'=>?_,h'.two⟩
 obtain ⟨a1,a2,a3,a4⟩:=h'.ap i r hi b hb'
 refine ⟨a1,a2,fun o ho ad e hn e2=>?_,a4⟩
 rcases List.mem_append.1 ho with h1|h1
 ·exact a3 o h1 ad e hn e2
 ·have:=(h.lt hi hb').1;have:=(hS o h1).2.2.2.2 ad e hn;omega
theorem Ow.merge (h:Ow w0 W g M L O)(hr:Ow W w' none [] [] R):Ow w0 w' g M L (O++R):=by
 have h':=h.go hr.below
 have key:∀ (i:Nat) (r:Rw),(O++R)[i]?=some r->O[i]?=some r∨(O.length<=i/\R[i - O.length]?=some r):=fun i r hi=>by
  rcases zqi i O.length with h1|h1
  ·rw [zqn h1] at hi;exact .inl hi
  ·rw [zqo h1] at hi;exact .inr ⟨h1,hi⟩
 refine ⟨h'.st,fun i r hi=>?_,fun i r hi b hb=>?_,fun i j r s hi hj hij b hb e2=>?_⟩
 ·rcases key i r hi with h1|⟨_,h1⟩
  ·exact h'.own i r h1
  ·obtain ⟨b1,b2⟩:=hr.own _ r h1
   refine ⟨b1,?_⟩
   rcases b2 with h2|⟨g',cap',cur,h2,hb',r'⟩
   ·exact .inl h2
   ·exact .inr ⟨g',cap',cur,h2,zqq h.size hb',r'⟩
 ·rcases key i r hi with h1|⟨_,h1⟩
  ·exact h'.ap i r h1 b hb
  ·have h3:=(hr.lt h1 hb).2
   refine ⟨fun e=>by have:=(h.st.lt b e).1;omega,fun j k v hj e=>by have:=(h.st.box j k v hj).1;omega,fun o ho' ad ha h0 e=>?_⟩
   obtain ⟨h4,_,_,B,hB,hs,_⟩:=h.st.held o ho'
   obtain ⟨ad',ha',hlt,_⟩:=hs (by omega)
   rw [ha] at ha';obtain rfl:=zqk ha'
   omega
 ·rcases key i r hi with h1|⟨k1,h1⟩ <;> rcases key j s hj with h2|⟨k2,h2⟩
  ·exact h'.two i j r s h1 h2 hij b hb e2
  ·have:=(h.lt h1 hb).1;have:=(hr.lt h2 e2).2;omega
  ·have:=(hr.lt h1 hb).2;have:=(h.lt h2 e2).1;omega
  ·exact hr.two _ _ r s h1 h2 (by omega) b hb e2
end
theorem z9bj:(Tryz.prog.info? 42).map (fun i=>(i.zero.map (fun z=>z.cells.size),i.size,i.bytes))=some (some 11,11,120):=by kernel_rfl
theorem z4bf:z3bh Tryz.prog 56 42 11 120:=by
 have h:=z9bj;obtain ⟨i,hi⟩:∃ i,Tryz.prog.info? 42=some i:=by
  cases e:Tryz.prog.info? 42 with
  | none=>rw [e] at h;cases h
  | some i=>exact ⟨i,rfl⟩
 rw [hi] at h;simp only [Option.map_some,Option.some.injEq,Prod.mk.injEq] at h;obtain ⟨h1,h2,h3⟩:=h;obtain ⟨z,hz⟩:∃ z,i.zero=some z:=by
  cases e:i.zero with
  | none=>rw [e] at h1;cases h1
  | some z=>exact ⟨z,rfl⟩
 rw [hz] at h1;exact ⟨Tryz.underlying56,by omega,i,z,hi,hz,h2,h3,by simpa using h1⟩
namespace Cl
set_option maxHeartbeats 8000000
structure VR where
 v:Vd
 A1:Option Addr
 n1:Nat
 c1:Nat
 A2:Option Addr
 n2:Nat
 c2:Nat
def VR.vs (x:VR):Array Value:=x.v.vs x.A1 x.n1 x.c1 x.A2 x.n2 x.c2
def VR.obs (x:VR):List Ob:=[⟨x.A1,x.n1,x.c1,z0c (Na.dig x.v.x)⟩,⟨x.A2,x.n2,x.c2,z0c (Na.dig x.v.y)⟩]
def fvr (V:List VR):List Value:=V.flatMap fun x=>x.vs.toList
def lvr (V:List VR):List Ob:=V.flatMap VR.obs
theorem z3au (V:List VR)(x:VR):fvr (V++[x])=fvr V++x.vs.toList:=by
 unfold fvr;rw [List.flatMap_append,List.flatMap_cons,List.flatMap_nil,List.append_nil]
theorem z3ah (V:List VR)(x:VR):lvr (V++[x])=lvr V++x.obs:=by
 unfold lvr;rw [List.flatMap_append,List.flatMap_cons,List.flatMap_nil,List.append_nil]
theorem z2ac:∀ V:List VR,(fvr V).length=V.length*11
 | []=>rfl
 | x :: V=>by
  have:=z2ac V
  unfold fvr at *
  rw [List.flatMap_cons,zqm,this,List.length_cons]
  show 11+_=_
  omega
theorem z3bi (x:VR):∀ u∈x.vs.toList,u.oneCell'=true:=fun u hu=>by
 unfold VR.vs Vd.vs at hu;simp only [List.mem_cons,List.mem_nil_iff,or_false] at hu;rcases hu with rfl|rfl|rfl|rfl|rfl|rfl|rfl|rfl|rfl|rfl|rfl <;> rfl
def AllR (w0:World)(g:Option Nat)(M:List (Nat×Value))(L:List Ob)(O:List Rw)(vs:List Vd)(rs:List Int)(er:Int)(en:Ending)(w':World):Prop:=
 ∃ (Ao:Option Addr) (no co:Nat) (Ar:Option Addr) (nr cr:Nat) (V:List VR),V.map VR.v=vs/\V.length=no/\rs.length=nr/\en=.returned (.tuple #[.slice Ao no co,.slice Ar nr cr,.int .i64 er])/\Ow w0 w' g M (L++(⟨Ao,no*11,no*11,fvr V⟩ :: ⟨Ar,nr,cr,z0p rs⟩ :: lvr V)) O
noncomputable def allS (s:Pl) (p q:List Int) (l:List Sn):List Vd×List Int×Int:=
 if chk s p q l=0 then (lsV s p q l ((z2j 6 l l.length).map (·.2)),srt (Na.up (lsR s p q l ((z2j 6 l l.length).map (·.2)))),0) else ([],[],chk s p q l)
end Cl
open Go.ChangeMaps (setBlock heap_setBlock_same heap_setBlock_other)
namespace Cl
set_option maxHeartbeats 8000000
theorem z4bq:∀ (ks:List (Sp×List Nat))(q:Sp)(i:Nat),((ad ks q i).map (·.2)).flatten.length=(ks.map (·.2)).flatten.length+1
 | [],q,i=>rfl
 | p :: r,q,i=>by
  by_cases e:p.1=q
  ·have h:ad (p :: r) q i=(q,p.2++[i]) :: r:=by show (if p.1=q then _ else _)=_;rw [if_pos e]
   rw [h];simp only [List.map_cons,List.flatten_cons,zqm,List.length_singleton];omega
  ·have h:ad (p :: r) q i=p :: ad r q i:=by show (if p.1=q then _ else _)=_;rw [if_neg e]
   have ih:=z4bq r q i
   rw [h];simp only [List.map_cons,List.flatten_cons,zqm];omega
theorem z8x (k:Int)(l:List Sn):∀ i,((z2j k l i).map (·.2)).flatten.length<=i
 | 0=>zqj _
 | i+1=>by
  have ih:=z8x k l i
  show (((match l[i]? with|some x=>ad (z2j k l i) (z3u k x) i|none=>z2j k l i):List (Sp×List Nat)).map (·.2)).flatten.length<=i+1
  split
  ·rw [z4bq];omega
  ·omega
theorem z9am {gs:List (List Nat)}(i:Nat):(gs.take i).flatten.length<=gs.flatten.length:=by
 conv=>rhs;rw [<- List.take_append_drop i gs]
 rw [List.flatten_append,zqm];omega
theorem z3aw {gs:List (List Nat)}{i:Nat}{x:List Nat}(h:gs[i]?=some x):x.length<=gs.flatten.length:=by
 have:=List.sublist_flatten_of_mem (List.mem_of_getElem? h)
 exact this.length_le
structure Lns (gs:List (List Nat))(inn:List Rw)(n3:Nat):Prop where
 len:gs.length=inn.length
 row:∀ (i:Nat) (r:Rw),inn[i]?=some r->r.e=3/\∃ ga,gs[i]?=some ga/\r.vs=z0c ga
 sum:gs.flatten.length<=n3
 lt:∀ ga∈gs,∀ z∈ga,z<n3
def slN:Value->Nat
 | .slice _ n _=>n
 | _=>0
theorem z8aw {n:Nat}(s:Pl)(p q:List Int)(l:List Sn){gs:List (List Nat)}(i:Nat)(h:gs.flatten.length<=n):(lsV s p q l (gs.take i)).length+(lsR s p q l (gs.take i)).length<=n:=by
 have h1:=z3by s p q l (gs.take i)
 have h2:=z9am (gs:=gs) i
 omega
end Cl
section
variable {P:Program}{w0 w:World}{g:Option Nat}{M:List (Nat×Value)}{L:List Ob}{O:List Rw}{X l:List Rx}{t e:TypeId}{z:Value}{bytes:Nat}
theorem Ox.fewX (h:Ox w0 w g M L O (X++l)):Ox w0 w g M L O X:=by
 have key:∀ (i:Nat) (r:Rx),X[i]?=some r->(X++l)[i]?=some r:=fun i r hi=>by rw [zqn (z0d hi)];exact hi
 exact ⟨h.ow,fun i r hi=>h.own i r (key i r hi),fun i r hi=>h.ap i r (key i r hi),fun i j r s hi hj=>h.two i j r s (key i r hi) (key j s hj)⟩
theorem z5ac {ops:Array Oper}{rest:List Oper}{o:Oper}{a:Act}{Q:Exit->Act->World->Prop}(hE:Elem P t e z bytes)(h:Ox w0 w g M L O X)(i:Nat)(s x:Operand){A:Option Addr}{n c:Nat}{xs:List Value}(hi:O[i]?=some ⟨A,n,c,e,xs⟩)
  {B:Nat} {A2:Option Addr} {m c2:Nat} {news:List Value} (hm:news.length=m) (hr:Sl w B A2 news) (h1:∀ u∈news,u.oneCell'=true) (h63:n+m<=maxLen) (hbytes:(n+m)*bytes<=140737488355328)
  (hgd:o.guard=none) (ho:o.op=.call { callee:=.builtin .append,args:=#[s,x],argTypes:=#[t,t] }) (hs:a.eval s=.slice A n c) (hx:a.eval x=.slice A2 m c2)
  (hk:∀ A' c' w',Ox w0 w' g M L (O.set i ⟨A',n+m,c',e,xs++news⟩) X->wpList P ops Q rest (a.put o.dst (.slice A' (n+m) c')) w'):wpList P ops Q (o :: rest) a w:=by
 obtain ⟨ht,hzc,inf,hi0,hz,hsz,hby⟩:=hE;exact z0h w hgd s x t ho w0.heap.size e inf z bytes ht hi0 hz hsz hby (by rw [hzc];rfl) A n c xs hs (h.ow.own i _ hi) B A2 m c2 news hx hm hr h1 h63 hbytes h.size fun A' c' w' h2 h3 h4=>
  hk A' c' w' (h.turnO i hi (r':=⟨A',n+m,c',e,xs++news⟩) h3 h2 h4)
end
def R1al (s:Pl)(p q:List Int)(l:List Sn)(gs:List (List Nat))(w0:World)(g:Option Nat)(M:List (Nat×Value))(L:List Ob)(O:List Rw)(S P B out:Rw)(inn0:List Rw)(x10 x11 x29:Value)(wr:World):Prop:=
 ∃ (i:Nat) (V:List VR) (Aov:Option Addr) (cov:Nat) (Ar:Option Addr) (nr cr:Nat) (inn:List Rw),i<=gs.length/\x29=.int .i64 i/\x10=.slice Aov V.length cov/\x11=.slice Ar nr cr/\Hid (inn.length=gs.length/\∀ j,i<=j->inn[j]?=inn0[j]?)/\Hid (V.map VR.v=lsV s p q l (gs.take i))/\Hid ((lsR s p q l (gs.take i)).length=nr)/\Hid (Ox w0 wr g M (L++lvr V) (O++(S :: P :: B :: ⟨Ar,nr,cr,3,z0c (lsR s p q l (gs.take i))⟩ :: out :: inn)) [⟨Aov,V.length,cov,42,11,fvr V⟩])
def R2al (s:Pl)(p q:List Int)(l:List Sn)(gs:List (List Nat))(w0:World)(g:Option Nat)(M:List (Nat×Value))(L:List Ob)(O:List Rw)(S P B out:Rw)(inn0:List Rw)(rr:Rw)(i:Nat)(gi:List Nat)(x10 x13:Value)(wr:World):Prop:=
 ∃ (la:List Nat) (A:Option Addr) (n c:Nat) (V:List VR) (Aov:Option Addr) (cov:Nat) (inn:List Rw),x10=.slice Aov V.length cov/\x13=.slice A n c/\Hid (la.length=n/\n<=40/\(∀ z∈la,z<l.length)/\V.length<=40)/\Hid (inn.length=gs.length/\inn[i]?=some ⟨A,n,c,3,z0c la⟩/\∀ j,i+1<=j->inn[j]?=inn0[j]?)/\Hid (V.map VR.v++(lnF s p q l la).1=lsV s p q l (gs.take (i+1)))/\Hid ((lnF s p q l la).2=(lnF s p q l gi).2)/\Hid (Ox w0 wr g M (L++lvr V) (O++(S :: P :: B :: rr :: out :: inn)) [⟨Aov,V.length,cov,42,11,fvr V⟩])
def R3al (l:List Sn)(w0:World)(g:Option Nat)(M:List (Nat×Value))(L:List Ob)(O:List Rw)(X0:Rx)(la:List Nat)(x14 x35:Value)(wr:World):Prop:=
 ∃ (j:Nat) (As:Option Addr) (cs:Nat),j<=la.length/\x35=.int .i64 j/\x14=.slice As j cs/\Hid (Ox w0 wr g M L O [X0,⟨As,j,cs,40,8,fl (pk l (la.take j))⟩])
theorem pAll {w0 w:World}{g:Option Nat}{M:List (Nat×Value)}{L:List Ob}{O:List Rw}{A A2 A3:Option Addr}{n c m c2 n3 c3 e3:Nat}{p q:List Int}{l:List Sn}(s:Pl)(h:Ow w0 w g M L O)(i j k:Nat)(hi:L[i]?=some ⟨A,n,c,z0p p⟩)(hj:L[j]?=some ⟨A2,m,c2,z0p q⟩)(hk:L[k]?=some ⟨A3,n3*8,e3,fl l⟩)(ht:Tab w0):
  Calls Tryz.prog 26 #[.agg s.vs,.agg #[.slice A n c,.slice A2 m c2],.slice A3 n3 c3] w (AllR w0 g M L O (allS s p q l).1 (allS s p q l).2.1 (allS s p q l).2.2):=by
 have H0:=((h.arr s.vs 6 rfl (by omega) 33).pair (.slice A n c) (.slice A2 m c2) 27).arr #[.slice A3 n3 c3] 1 rfl (by omega) 23
 simp only [World.size_alloc,zqa,zqb,zqc] at H0;have HLn:l.length=n3:=by
  have a:=(h.sl hk).1
  rw [z2q] at a;omega
 have HNl:=zh HLn;have HC:=zh (z3bv s H0 i j k hi hj hk ht (c3:=c3))
 have HH:Hid (L[i]?=some ⟨A,n,c,z0p p⟩/\L[j]?=some ⟨A2,m,c2,z0p q⟩/\L[k]?=some ⟨A3,n3*8,e3,fl l⟩):=⟨hi,hj,hk⟩
 have HT:=zh ht;obtain ⟨so,ch,ra,ba,ro,co⟩:=s;unfold Pl.vs at *
 obtain ⟨a0,a1,a2,a3,a4,a5⟩:=zc6 (H0.row (O.length+0) (zk rfl));have b0:=H0.p0 (O.length+1) (zk rfl)
 have b1:=H0.p1 (O.length+1) (zk rfl)
 have d0:=(H0.row (O.length+2) (zk rfl)).cellAt 0 (by decide)
 clear hi hj hk HLn h ht;go_enter Tryz.func26,Tryz.ntmps26
 go_wp2_with fail;refine HC.out.mono ?_;rintro e w1 ⟨rfl,H1⟩;clear HC H0 a0 a1 a2 a3 a4 a5 b0 b1 d0;obtain ⟨er,her⟩:∃ z,chk ⟨so,ch,ra,ba,ro,co⟩ p q l=z:=⟨_,rfl⟩
 rw [her];by_cases he:er=0
 ·subst he
  have HZ:=zh (z9d her)
  have HJ:Hid (allS ⟨so,ch,ra,ba,ro,co⟩ p q l=(lsV ⟨so,ch,ra,ba,ro,co⟩ p q l ((z2j 6 l n3).map (·.2)),srt (Na.up (lsR ⟨so,ch,ra,ba,ro,co⟩ p q l ((z2j 6 l n3).map (·.2)))),0)):=by unfold Hid allS;rw [if_pos her,HNl.out]
  have hn40:n3<=40:=by have:=HZ.out.2.2.2.1;have:=HNl.out;omega
  have HG:=zh (z1am 6 (by decide) A3 n3 c3 l w1 HNl.out (by omega) (H1.sl HH.out.2.2).2.2.2)
  have HSm:Hid (((z2j 6 l n3).map (·.2)).flatten.length<=n3/\∀ ga∈(z2j 6 l n3).map (·.2),∀ z∈ga,z<n3):=⟨z8x 6 l n3,fun ga hga z hz=>by
   obtain ⟨pp,hp,rfl⟩:=List.mem_map.1 hga
   have e:=HNl.out;rw [<- e] at hp;have:=z1az hp z hz
   omega⟩
  have d0:=(H1.row (O.length+2) (zk rfl)).cellAt 0 (by decide)
  have hlg:(z2j 6 l n3).length<=n3:=(z2z 6 l n3).2
  clear her;obtain ⟨gg,hgg⟩:∃ z,z2j 6 l n3=z:=⟨_,rfl⟩
  rw [hgg] at HJ HG HSm hlg;clear hgg;go_wp2_with fail;refine HG.out.mono ?_;rintro e w2 ⟨Ao,ao,inn0,rfl,hV,hE,hO⟩;have H2:=(H1.add (A:=none) (n:=0) (c:=0) (e:=3) (vs:=[]) (World.ownsRow_nil _ _ _ _) (Below.refl _ _)).merge hO
  simp only [zqa,zqb,zqc] at H2;obtain ⟨gs,hgs⟩:∃ z,gg.map (·.2)=z:=⟨_,rfl⟩
  rw [hgs] at HJ HSm;have HLs:Hid (Lns gs inn0 n3):=by
   have hl:=congrArg List.length hV
   rw [List.length_map,List.length_map] at hl;refine ⟨by rw [<- hgs,List.length_map,hl],fun i r hi=>⟨hE r (List.mem_of_getElem? hi),?_⟩,HSm.out.1,HSm.out.2⟩
   have h1:=congrArg (fun t=>t[i]?) hV
   simp only [List.getElem?_map,hi,Option.map_some] at h1;cases hg:gg[i]? with
   | none=>rw [hg] at h1;cases h1
   | some pp=>
    rw [hg] at h1;simp only [Option.map_some,Option.some.injEq] at h1;exact ⟨pp.2,by rw [<- hgs,List.getElem?_map,hg];rfl,h1⟩
  obtain ⟨gn,hgn⟩:∃ z,inn0.length=z:=⟨_,rfl⟩
  have HGn:Hid (inn0.length=gn/\gs.length=gn/\gn<=1000):=by
   have h1:=HLs.out.len;exact ⟨hgn,by omega,by have h3:=hlg;have h4:=congrArg List.length hgs;rw [List.length_map] at h4;omega⟩
  have HX:Hid (Ox w0 w2 g M (L++lvr []) (O++((⟨some ⟨w.heap.size,0,none⟩,6,6,33,[.int .i64 so,.int .i64 ch,.int .i64 ra,.int .i64 ba,.int .i64 ro,.int .i64 co]⟩:Rw) :: Rw.pair (w.heap.size+1) 27 (.slice A n c) (.slice A2 m c2) :: (⟨some ⟨w.heap.size+1+1,0,none⟩,1,1,23,[.slice A3 n3 c3]⟩:Rw) :: (⟨none,0,0,3,z0c (lsR ⟨so,ch,ra,ba,ro,co⟩ p q l (gs.take 0))⟩:Rw) :: z2g Ao ao inn0 :: inn0)) [⟨none,0,0,42,11,fvr []⟩]):=by
   have:=(Ox.of H2).nilX 42 11
   show Ox w0 w2 g M (L++[]) _ _
   rw [List.append_nil];exact this
  rw [hgn];clear HG hV hE hO H1 H2 hgs hgn HSm d0 hlg;go_wp2_with fail;go_loopw [10,11,29] (fun x10 x11 x29 wr=>R1al ⟨so,ch,ra,ba,ro,co⟩ p q l gs w0 g M L O (⟨some ⟨w.heap.size,0,none⟩,6,6,33,[.int .i64 so,.int .i64 ch,.int .i64 ra,.int .i64 ba,.int .i64 ro,.int .i64 co]⟩:Rw) (Rw.pair (w.heap.size+1) 27 (.slice A n c) (.slice A2 m c2)) (⟨some ⟨w.heap.size+1+1,0,none⟩,1,1,23,[.slice A3 n3 c3]⟩:Rw) (z2g Ao ao inn0) inn0 x10 x11 x29 wr) (fun _ _ x29 _=>gn+1 - (intOf x29).toNat)
  case atStart=>exact ⟨0,[],none,0,none,0,0,inn0,zqr _,rfl,rfl,rfl,⟨by rw [HGn.out.1,HGn.out.2.1],fun j _=>rfl⟩,rfl,rfl,HX.out⟩
  case round=>
   clear HX;obtain ⟨i1,V,Aov,cov,Ar,nr,cr,inn,hi1,rfl,rfl,rfl,HIn,HVm,HRl,HX⟩:=hrel;rw [HGn.out.2.1] at hi1;have hbd:=z8aw ⟨so,ch,ra,ba,ro,co⟩ p q l i1 HLs.out.sum
   have HBd:Hid (V.length<=40/\nr<=40):=by
    have h1:=congrArg List.length HVm.out
    rw [List.length_map] at h1;have h2:=HRl.out;exact ⟨by omega,by omega⟩
   clear hbd;rcases Nat.eq_or_lt_of_le hi1 with heq|hlt
   ·have hd:decide ((i1:Int)<gn)=false:=zn (by omega)
    have hd2:decide (i1<gn)=false:=zn (by omega)
    have htk:gs.take i1=gs:=zqp (by have:=HGn.out.2.1;omega)
    rw [htk] at HVm HRl HX;have hb1:=HBd.out.1;have hb2:=HBd.out.2;have hk1:=(HX.out.keepX 0 rfl (m:=V.length*11) rfl (by omega) (by omega)).ow
    rw [<- z0g] at hk1;have HS:=zh (z5bc hk1 (O.length+3) (zk rfl) (by omega))
    clear heq hi1 hk1 htk hb1 hb2 HX;go_wp2_with fail;refine HS.out.mono ?_;rintro e w9 ⟨rfl,ho9⟩;rw [z0o] at ho9;simp only [zqe,zqd] at ho9;have ho10:=ho9.keep (O.length+3) (zk rfl) (by have:=HBd.out.2;omega)
    rw [z0o] at ho10;have HE:=zh ho10.fewO;clear ho10;clear ho9 HS;go_wp2_with fail;refine bodyPost_ret (v:=.tuple #[.slice Aov V.length cov,.slice Ar nr cr,.int .i64 0]) (by simp [results,Tryz.results26,go_sem]) rfl ?_
    rw [HJ.out];refine ⟨Aov,V.length,cov,Ar,nr,cr,V,HVm.out,rfl,?_,rfl,HE.out.few2 (by rw [List.take_length]) fun o ho=>?_⟩
    ·show (srt (Na.up _)).length=nr
     rw [z1ac];unfold Na.up;rw [List.length_map];exact HRl.out
    ·simp only [List.mem_append,List.mem_cons,List.mem_nil_iff,or_false] at ho ⊢
     rcases ho with h|h|h|h
     ·exact .inl (.inl (.inl h))
     ·exact .inl (.inr h)
     ·exact .inr h
     ·exact .inl (.inl (.inr h))
   ·have hd:decide ((i1:Int)<gn)=true:=zt (by omega)
    have hd2:decide (i1<gn)=true:=zt (by omega)
    have hlI:(i1:Int)<gn:=by omega
    have hg1k:=HGn.out.2.2;have hw29:IntKind.i64.wrap ((i1:Int)+1)=((i1+1:Nat):Int):=by rw [IntWalk.i64_in _ (by omega)];omega
    obtain ⟨r0,hr0⟩:∃ z,inn0[i1]?=some z:=⟨inn0[i1]'(by rw [HGn.out.1];exact hlt),zql _⟩
    obtain ⟨hre,ga,hga,hrv⟩:=HLs.out.row i1 r0 hr0
    have hri:inn[i1]?=some r0:=(HIn.out.2 i1 (zqj _)).trans hr0
    have hR:=HX.out.ow.row (O.length+4) (zk rfl)
    obtain ⟨gb,hgb,_,_⟩:=z0n hR (by have:=HGn.out.1;omega)
    obtain rfl:=hgb
    obtain ⟨Al,nl,cl,el,vl⟩:=r0;simp only at hre hrv
    subst hre hrv
    have e0:=hR.cells (g:=gb) rfl i1 (.slice Al nl cl) (by rw [List.getElem?_map,hr0];rfl)
    rw [z6n] at e0;have hgl:ga.length=nl:=by
     have h1:=HX.out.ow.own (O.length+(i1+5)) _ (by rw [z0b];exact hri)
     have h2:=h1.1;rw [z0e] at h2;simpa using h2
    have HGa:Hid (gs[i1]?=some ga/\ga.length=nl/\nl<=40):=⟨hga,hgl,by have h1:=z3aw hga;have h2:=HLs.out.sum;omega⟩
    have H2r:Hid (R2al ⟨so,ch,ra,ba,ro,co⟩ p q l gs w0 g M L O (⟨some ⟨w.heap.size,0,none⟩,6,6,33,[.int .i64 so,.int .i64 ch,.int .i64 ra,.int .i64 ba,.int .i64 ro,.int .i64 co]⟩:Rw) (Rw.pair (w.heap.size+1) 27 (.slice A n c) (.slice A2 m c2)) (⟨some ⟨w.heap.size+1+1,0,none⟩,1,1,23,[.slice A3 n3 c3]⟩:Rw) (z2g (some ⟨gb,0,none⟩) ao inn0) inn0 (⟨Ar,nr,cr,3,z0c (lsR ⟨so,ch,ra,ba,ro,co⟩ p q l (gs.take i1))⟩:Rw) i1 ga (.slice Aov V.length cov) (.slice Al nl cl) wr):=by
     refine ⟨ga,Al,nl,cl,V,Aov,cov,inn,rfl,rfl,⟨hgl,HGa.out.2.2,fun z hz=>?_,HBd.out.1⟩,⟨HIn.out.1,hri,fun j hj=>HIn.out.2 j (by omega)⟩,?_,rfl,HX.out⟩
     ·have h1:=HLs.out.lt ga (List.mem_of_getElem? hga) z hz
      have h2:=HNl.out;omega
     ·unfold Hid;rw [HVm.out,z1o hga,z3ai]
    have HIg:=zh hlt;clear hR hri hga hgl hr0 hlt hi1 HX HVm HIn HBd hg1k;go_wp2_with fail;go_loopw [10,13] (fun x10 x13 wr=>R2al ⟨so,ch,ra,ba,ro,co⟩ p q l gs w0 g M L O (⟨some ⟨w.heap.size,0,none⟩,6,6,33,[.int .i64 so,.int .i64 ch,.int .i64 ra,.int .i64 ba,.int .i64 ro,.int .i64 co]⟩:Rw) (Rw.pair (w.heap.size+1) 27 (.slice A n c) (.slice A2 m c2)) (⟨some ⟨w.heap.size+1+1,0,none⟩,1,1,23,[.slice A3 n3 c3]⟩:Rw) (z2g (some ⟨gb,0,none⟩) ao inn0) inn0 (⟨Ar,nr,cr,3,z0c (lsR ⟨so,ch,ra,ba,ro,co⟩ p q l (gs.take i1))⟩:Rw) i1 ga x10 x13 wr) (fun _ x13 _=>slN x13)
    case atStart=>exact H2r.out
    case round=>
     clear H2r e0;obtain ⟨la,Al,nl,cl,V,Aov,cov,inn,rfl,rfl,HLa,HIn,HVm,HRm,HX⟩:=hrel;obtain ⟨OO,hOO⟩:∃ z,O++((⟨some ⟨w.heap.size,0,none⟩,6,6,33,[.int .i64 so,.int .i64 ch,.int .i64 ra,.int .i64 ba,.int .i64 ro,.int .i64 co]⟩:Rw) :: (Rw.pair (w.heap.size+1) 27 (.slice A n c) (.slice A2 m c2)) :: (⟨some ⟨w.heap.size+1+1,0,none⟩,1,1,23,[.slice A3 n3 c3]⟩:Rw) :: (⟨Ar,nr,cr,3,z0c (lsR ⟨so,ch,ra,ba,ro,co⟩ p q l (gs.take i1))⟩:Rw) :: z2g (some ⟨gb,0,none⟩) ao inn0 :: inn)=z:=⟨_,rfl⟩
     have HOS:Hid (OO[O.length+0]?=some (⟨some ⟨w.heap.size,0,none⟩,6,6,33,[.int .i64 so,.int .i64 ch,.int .i64 ra,.int .i64 ba,.int .i64 ro,.int .i64 co]⟩:Rw)):=by unfold Hid;rw [<- hOO,z0b];rfl
     have HOP:Hid (OO[O.length+1]?=some (Rw.pair (w.heap.size+1) 27 (.slice A n c) (.slice A2 m c2))):=by unfold Hid;rw [<- hOO,z0b];rfl
     have HOB:Hid (OO[O.length+2]?=some (⟨some ⟨w.heap.size+1+1,0,none⟩,1,1,23,[.slice A3 n3 c3]⟩:Rw)):=by unfold Hid;rw [<- hOO,z0b];rfl
     have HOL:Hid (OO[O.length+(i1+5)]?=some (⟨Al,nl,cl,3,z0c la⟩:Rw)):=by unfold Hid;rw [<- hOO,z0b];exact HIn.out.2.1
     have HKl:Hid ((L++lvr V)[k]?=some ⟨A3,n3*8,e3,fl l⟩):=by unfold Hid;rw [z0r _ _ (z0d HH.out.2.2)];exact HH.out.2.2
     rw [hOO] at HX;have HOO:=zh hOO;have H3:Hid (Ox w0 wr g M (L++lvr V) OO [(⟨Aov,V.length,cov,42,11,fvr V⟩:Rx),⟨none,0,0,40,8,fl (pk l (la.take 0))⟩]):=HX.out.nilX _ _
     clear hOO HX;go_wp2_with fail;go_loopw [14,35] (fun x14 x35 wr=>R3al l w0 g M (L++lvr V) OO (⟨Aov,V.length,cov,42,11,fvr V⟩:Rx) la x14 x35 wr) (fun _ x35 _=>nl+1 - (intOf x35).toNat)
     case atStart=>exact ⟨0,none,0,zqr _,rfl,rfl,H3.out⟩
     case round=>
      clear H3;obtain ⟨j1,As,cs,hj1,rfl,rfl,HX⟩:=hrel;rw [HLa.out.1] at hj1;rcases Nat.eq_or_lt_of_le hj1 with heq|hlt
      ·have hd:decide ((j1:Int)<nl)=false:=zn (by omega)
       have hd2:decide (j1<nl)=false:=zn (by omega)
       obtain rfl:nl=j1:=heq.symm
       have htl:la.take nl=la:=zqp (Nat.le_of_eq HLa.out.1)
       rw [htl] at HX;have HPl:Hid ((pk l la).length=nl):=by unfold Hid;rw [z7as HLa.out.2.2.1];exact HLa.out.1
       obtain ⟨a0,a1,a2,a3,a4,a5⟩:=zc6 (HX.out.ow.row (O.length+0) HOS.out);have b0:=HX.out.ow.p0 (O.length+1) HOP.out
       have b1:=HX.out.ow.p1 (O.length+1) HOP.out
       have hnl:=HLa.out.2.1;have HCb:Hid (Ow wr wr none [] [⟨A,n,c,z0p p⟩,⟨A2,m,c2,z0p q⟩,⟨As,nl*8,nl*8,fl (pk l la)⟩] []):=by
        have g1:=HX.out.ow.sl (i:=i) (by rw [z0r _ _ (z0d HH.out.1)];exact HH.out.1)
        have g2:=HX.out.ow.sl (i:=j) (by rw [z0r _ _ (z0d HH.out.2.1)];exact HH.out.2.1)
        have g3:=HX.out.row 1 rfl
        have g4:=(((Ow.of (St.refl wr)).old g1.2.2.2 g1.1 g1.2.1 g1.2.2.1).old g2.2.2.2 g2.1 g2.2.1 g2.2.2.1).old (A:=As) (n:=nl*8) (c:=nl*8) (z7g g3 (by omega)) (by rw [z2q];have:=HPl.out;omega) (zqj _) (by omega)
        exact g4
       have HTw:Hid (Tab wr):=HT.out.below HX.out.ow.below
       have HCj:=zh (z7at ⟨so,ch,ra,ba,ro,co⟩ HZ.out.1 HCb.out 0 1 2 rfl rfl rfl hnl HTw.out (c3:=cs))
       clear heq hj1 htl HCb;unfold Pl.vs at HCj;obtain ⟨vd,hvd⟩:∃ z,jud ⟨so,ch,ra,ba,ro,co⟩ p q (pk l la)=z:=⟨_,rfl⟩
       rw [hvd] at HCj;have HVd:=zh hvd;clear hvd;go_wp2_with fail;refine HCj.out.mono ?_;rintro e w5 ⟨B1,n1,d1,B2,n2,d2,rfl,ho5,hf5⟩;obtain ⟨kk,⟨v0,v1,v2,v3,v4,v5⟩,vc,vh,vx,vy⟩:=vd
       simp only [Vd.vs];simp only at hf5 ho5
       clear HCj a0 a1 a2 a3 a4 a5 b0 b1 HTw;by_cases hk0:kk=0
       ·subst hk0
        have HX9:=zh ((HX.out.go ho5.below).arrO #[.int .i64 0,.int .i64 v0,.int .i64 v1,.int .i64 v2,.int .i64 v3,.int .i64 v4,.int .i64 v5,.int .i64 vc,.int .i64 vh,.slice B1 n1 d1,.slice B2 n2 d2] 11 rfl (by omega) 42)
        have q0:(w5.alloc (.cells #[.int .i64 0,.int .i64 v0,.int .i64 v1,.int .i64 v2,.int .i64 v3,.int .i64 v4,.int .i64 v5,.int .i64 vc,.int .i64 vh,.slice B1 n1 d1,.slice B2 n2 d2] 42)).cell? ⟨w5.heap.size,0,none⟩=some (.int .i64 0):=(HX9.out.ow.row (OO.length+0) (zk rfl)).cellAt 0 (by decide)
        have HOR:Hid (OO[O.length+3]?=some (⟨Ar,nr,cr,3,z0c (lsR ⟨so,ch,ra,ba,ro,co⟩ p q l (gs.take i1))⟩:Rw)):=by unfold Hid;rw [<- HOO.out,z0b];rfl
        have HSt:Hid (lnF ⟨so,ch,ra,ba,ro,co⟩ p q l la=([],la)):=z3an (by rw [HVd.out])
        have HRl2:Hid (nr<=40/\nl<=40):=⟨by have h1:=z8aw ⟨so,ch,ra,ba,ro,co⟩ p q l i1 HLs.out.sum;have h2:=HRl.out;omega,HLa.out.2.1⟩
        have hr1:=HRl2.out.1;have hr2:=HRl2.out.2;clear ho5 hf5 HX;go_wp2_with (at_builtin;refine z5ac z4p HX9.out (O.length+3) (.tmp 66) (.tmp 67) (by rw [z0r _ _ (z0d HOR.out)];exact HOR.out) (m:=nl) (news:=z0c la) (by rw [z0e];exact HLa.out.1) (Sl.of_own (HX9.out.ow.row (O.length+(i1+5)) (by rw [z0r _ _ (z0d HOL.out)];exact HOL.out))) (z3k la) (by unfold maxLen;omega) (by omega) rfl rfl rfl rfl ?_;intro A2' c2' w2' how2;have HX2:=zh how2;clear how2)
        go_roundw
        case rel=>
         refine ⟨i1+1,V,Aov,cov,A2',nr+nl,c2',inn,by have h1:=HIg.out;have h2:=HGn.out.2.1;omega,rfl,rfl,rfl,⟨HIn.out.1,HIn.out.2.2⟩,?_,?_,?_⟩
         ·have h1:=HVm.out;rw [HSt.out,List.append_nil] at h1;exact h1
         ·unfold Hid;rw [z1o HGa.out.1,z3aj,zqm,HRl.out,<- HRm.out,HSt.out]
          show nr+la.length=_
          rw [HLa.out.1]
         ·unfold Hid;have h1:=HX2.out;rw [z1ba _ _ (z0d HOR.out)] at h1
          have h2:=h1.fewO.fewX (X:=[(⟨Aov,V.length,cov,42,11,fvr V⟩:Rx)])
          rw [<- HOO.out,z0o] at h2;rw [z1o HGa.out.1,z3aj,<- HRm.out,HSt.out,z7j];exact h2
        case measure=>
         have:=HIg.out
         simp [intOf]
         omega
       ·have HFr:Hid (NewS wr w5 (VR.obs ⟨⟨kk,⟨v0,v1,v2,v3,v4,v5⟩,vc,vh,vx,vy⟩,B1,n1,d1,B2,n2,d2⟩)):=by
         intro o ho;obtain ⟨hf1,hf2⟩:=hf5 hk0
         have g1:=ho5.sl (i:=3) rfl
         have g2:=ho5.sl (i:=4) rfl
         unfold VR.obs at ho;simp only [List.mem_cons,List.mem_nil_iff,or_false] at ho;rcases ho with rfl|rfl
         ·exact ⟨g1.1,g1.2.1,g1.2.2.1,g1.2.2.2,hf1⟩
         ·exact ⟨g2.1,g2.2.1,g2.2.2.1,g2.2.2.2,hf2⟩
        have HX7':=((HX.out.pushW ho5.below HFr.out).arrO #[.int .i64 kk,.int .i64 v0,.int .i64 v1,.int .i64 v2,.int .i64 v3,.int .i64 v4,.int .i64 v5,.int .i64 vc,.int .i64 vh,.slice B1 n1 d1,.slice B2 n2 d2] 11 rfl (by omega) 42).arrO #[.int .i64 kk,.int .i64 v0,.int .i64 v1,.int .i64 v2,.int .i64 v3,.int .i64 v4,.int .i64 v5,.int .i64 vc,.int .i64 vh,.slice B1 n1 d1,.slice B2 n2 d2] 11 rfl (by omega) 42
        simp only [World.size_alloc] at HX7';have HX7:=zh HX7';clear HX7';have HJn:Hid ((jud ⟨so,ch,ra,ba,ro,co⟩ p q (pk l la)).k≠0):=by unfold Hid;rw [HVd.out];exact hk0
        have HKd:Hid (kd kk):=by
         have h1:=(z7n HJn.out).1
         rw [HVd.out] at h1;exact h1
        have HGo:=zh (z3bz HJn.out)
        have HNx:=zh (z5ag HJn.out)
        rw [HVd.out] at HGo HNx;have HVl:Hid (V.length+1<=40):=by
         have h1:=congrArg List.length HVm.out
         rw [HGo.out,zqm,List.length_map,List.length_cons] at h1;have h2:=z8aw ⟨so,ch,ra,ba,ro,co⟩ p q l (i1+1) HLs.out.sum
         unfold Hid;omega
        have hvl:=HVl.out;have kz:(kk == 0)=false:=z1n hk0
        obtain ⟨q0,q1,q2,q3,q4,q5,q6,q7,q8,q9,q10⟩:=zc11 (((HX.out.pushW ho5.below HFr.out).arrO #[.int .i64 kk,.int .i64 v0,.int .i64 v1,.int .i64 v2,.int .i64 v3,.int .i64 v4,.int .i64 v5,.int .i64 vc,.int .i64 vh,.slice B1 n1 d1,.slice B2 n2 d2] 11 rfl (by omega) 42).ow.row (OO.length+0) (zk rfl));clear ho5 hf5 HX hk0;go_wp2_with (at_builtin;refine z5s z4bf HX7.out 0 (.tmp 54) (.tmp 56) (m:=1) (news:=[.int .i64 kk,.int .i64 v0,.int .i64 v1,.int .i64 v2,.int .i64 v3,.int .i64 v4,.int .i64 v5,.int .i64 vc,.int .i64 vh,.slice B1 n1 d1,.slice B2 n2 d2]) rfl rfl (fun j u hu=>by have:=(HX7.out.ow.row (OO.length+1) (by rw [zqa,z0b];rfl)).cells rfl j u hu;exact this) (z3bi ⟨⟨kk,⟨v0,v1,v2,v3,v4,v5⟩,vc,vh,vx,vy⟩,B1,n1,d1,B2,n2,d2⟩) (by unfold maxLen;omega) (by omega) rfl rfl rfl rfl ?_;intro Ao2 co2 w8 how8;have HX8:=zh how8;clear how8;have r1:w8.cell? ⟨w5.heap.size,1,none⟩=some (.int .i64 v0):=(HX8.out.ow.row (OO.length+0) (by rw [zqa,z0b];rfl)).cellAt 1 (by decide);have r2:w8.cell? ⟨w5.heap.size,2,none⟩=some (.int .i64 v1):=(HX8.out.ow.row (OO.length+0) (by rw [zqa,z0b];rfl)).cellAt 2 (by decide);have r3:w8.cell? ⟨w5.heap.size,3,none⟩=some (.int .i64 v2):=(HX8.out.ow.row (OO.length+0) (by rw [zqa,z0b];rfl)).cellAt 3 (by decide);have r4:w8.cell? ⟨w5.heap.size,4,none⟩=some (.int .i64 v3):=(HX8.out.ow.row (OO.length+0) (by rw [zqa,z0b];rfl)).cellAt 4 (by decide);have r5:w8.cell? ⟨w5.heap.size,5,none⟩=some (.int .i64 v4):=(HX8.out.ow.row (OO.length+0) (by rw [zqa,z0b];rfl)).cellAt 5 (by decide);have r6:w8.cell? ⟨w5.heap.size,6,none⟩=some (.int .i64 v5):=(HX8.out.ow.row (OO.length+0) (by rw [zqa,z0b];rfl)).cellAt 6 (by decide);have r7:w8.cell? ⟨w5.heap.size,7,none⟩=some (.int .i64 vc):=(HX8.out.ow.row (OO.length+0) (by rw [zqa,z0b];rfl)).cellAt 7 (by decide))
        have HX9:=zh (HX8.out.arrO #[.int .i64 v0,.int .i64 v1,.int .i64 v2,.int .i64 v3,.int .i64 v4,.int .i64 v5,.int .i64 vc,.int .i64 0] 8 rfl (by omega) 40)
        have HLi:=zh (z0d HOL.out)
        have hli:=HLi.out;have HDel:=zh (z7bn (⟨HX9.out⟩:Oy _ _ _ _ _ _ _) (O.length+(i1+5)) (N:=n3) (gl:=la) (by rw [zqa,zqa,z0r _ _ hli];exact HOL.out) HLa.out.1 (by have:=HLa.out.2.1;omega) (fun z hz=>by have h1:=HLa.out.2.2.1 z hz;have h2:=HNl.out;omega) (dlP kk ⟨⟨v0,v1,v2,v3,v4,v5⟩,vc,0⟩ l) 52 (.pointer (some ⟨w5.heap.size,0,none⟩)) (.pointer (some ⟨w8.heap.size,0,none⟩)) (.pointer (some ⟨w.heap.size+1+1,0,none⟩)) (enters_of Tryz.func52 (by kernel_rfl) rfl) (fun W vs hO i hi=>z3be hO ⟨⟨v0,v1,v2,v3,v4,v5⟩,vc,0⟩ (vi:=OO.length+0) (ni:=OO.length+2) (bi:=O.length+2) (k:=k) (by rw [zqf (by omega),zqa,zqa,z0b];rfl) (by rw [zqf (by omega),zqa,zqa,z0b];rfl) (by rw [zqf (by omega),zqa,zqa,z0r _ _ (z0d HOB.out)];exact HOB.out) (by rw [z0r _ _ (z0d HKl.out)];exact HKl.out) rfl HKd.out i hi))
        clear hli;clear HX7 HX8 HX9;go_wp2_with fail;refine HDel.out.mono ?_;rintro e w9 ⟨n',rfl,hn',hle,ho9⟩;have HX9:=zh ho9.ox;have HN9:Hid (n'<=nl/\(nx ⟨kk,⟨v0,v1,v2,v3,v4,v5⟩,vc,vh,vx,vy⟩ l la).length=n'):=⟨hle,hn'⟩
        clear ho9 hle hn' HDel;go_wp2_with fail;go_roundw
        case rel=>
         refine ⟨nx ⟨kk,⟨v0,v1,v2,v3,v4,v5⟩,vc,vh,vx,vy⟩ l la,Al,n',cl,V++[⟨⟨kk,⟨v0,v1,v2,v3,v4,v5⟩,vc,vh,vx,vy⟩,B1,n1,d1,B2,n2,d2⟩],Ao2,co2,inn.set i1 ⟨Al,n',cl,3,z0c (nx ⟨kk,⟨v0,v1,v2,v3,v4,v5⟩,vc,vh,vx,vy⟩ l la)⟩,?_,rfl,?_,?_,?_,?_,?_⟩
         ·rw [zqm];rfl
         ·refine ⟨HN9.out.2,?_,fun z hz=>HLa.out.2.2.1 z (z3bx hz),?_⟩
          ·have h1:=HN9.out.1;have h2:=HLa.out.2.1;omega
          ·rw [zqm];exact HVl.out
         ·refine ⟨by rw [List.length_set];exact HIn.out.1,List.getElem?_set_self (z0d HIn.out.2.1),fun j hj=>?_⟩
          rw [zqf (by omega)]
          exact HIn.out.2.2 j hj
         ·have h1:=HVm.out;rw [HGo.out] at h1;unfold Hid;rw [List.map_append,zqa];exact h1
         ·have h1:=HRm.out;rw [HGo.out] at h1;exact h1
         ·unfold Hid;have h1:=HX9.out;rw [zqa,zqa (OO++_),zqa OO,z1ba _ _ HLi.out] at h1
          have h2:=h1.fewO.fewX (X:=[_])
          rw [<- HOO.out,z0o] at h2;rw [z3ah,z3au,zqm];exact h2
        case measure=>
         have h1:=HNx.out;have h2:=HN9.out.2;have h3:=HLa.out.1;simp [slN]
         omega
      ·have hd:decide ((j1:Int)<nl)=true:=zt (by omega)
       have hd2:decide (j1<nl)=true:=zt (by omega)
       have hjI:(j1:Int)<nl:=by omega
       have hn40j:=HLa.out.2.1;have hw35:IntKind.i64.wrap ((j1:Int)+1)=((j1+1:Nat):Int):=by rw [IntWalk.i64_in _ (by omega)];omega
       obtain ⟨z,hz⟩:∃ z,la[j1]?=some z:=⟨la[j1]'(by rw [HLa.out.1];exact hlt),zql _⟩
       have hzl:z<l.length:=HLa.out.2.2.1 z (List.mem_of_getElem? hz)
       have hzi:(z:Int)<n3:=by have:=HNl.out;omega
       obtain ⟨x,hx⟩:∃ x,l[z]?=some x:=⟨l[z]'hzl,zql _⟩
       have HZx:Hid (la[j1]?=some z/\l[z]?=some x/\j1<nl):=⟨hz,hx,hlt⟩
       have hR:=HX.out.ow.row (O.length+(i1+5)) HOL.out
       obtain ⟨gl,hgl,_,_⟩:=z0n hR (by omega)
       obtain rfl:=hgl
       have e0:=hR.cells (g:=gl) rfl j1 (.int .i64 z) (by unfold z0c;rw [List.getElem?_map,hz];rfl)
       rw [z6n] at e0;have d0:wr.cell? ⟨w.heap.size+1+1,0,none⟩=some (.slice A3 n3 c3):=(HX.out.ow.row (O.length+2) HOB.out).cellAt 0 (by decide)
       obtain ⟨a3,rfl,x0,x1,x2,x3,x4,x5,x6,x7⟩:=z2v (HX.out.ow.sl HKl.out).2.2.2 hx
       obtain ⟨⟨y0,y1,y2,y3,y4,y5⟩,y6,y7⟩:=x
       simp only at x0 x1 x2 x3 x4 x5 x6 x7
       have HX9:=zh (HX.out.arrO #[.int .i64 y0,.int .i64 y1,.int .i64 y2,.int .i64 y3,.int .i64 y4,.int .i64 y5,.int .i64 y6,.int .i64 y7] 8 rfl (by omega) 40)
       have HJl:j1<=40:=by omega
       clear hR hz hx hzl hlt hj1 HX hn40j;go_wp2_with (at_builtin;refine z5s z2bx HX9.out 1 (.tmp 39) (.tmp 44) (m:=1) (news:=[.int .i64 y0,.int .i64 y1,.int .i64 y2,.int .i64 y3,.int .i64 y4,.int .i64 y5,.int .i64 y6,.int .i64 y7]) rfl rfl (fun j u hu=>by have:=(HX9.out.ow.row (OO.length+0) (zk rfl)).cells rfl j u hu;exact this) (z2an ⟨⟨y0,y1,y2,y3,y4,y5⟩,y6,y7⟩) (by unfold maxLen;omega) (by omega) rfl rfl rfl rfl ?_;intro A2' c2' w2' how2;have HX2:=zh how2;clear how2)
       go_roundw
       case rel=>
        refine ⟨j1+1,A2',c2',by rw [HLa.out.1];exact HZx.out.2.2,rfl,rfl,?_⟩
        unfold Hid;rw [z1o HZx.out.1,z0aa,z3bu HZx.out.2.1,z7p];exact HX2.out.fewO
       case measure=>
        have:=HZx.out.2.2
        simp [intOf]
        omega
 ·have g1:(er == 0)=false:=z1n he
  have g2:(er != 0)=true:=by rw [bne,g1];rfl
  have HJ:Hid (allS ⟨so,ch,ra,ba,ro,co⟩ p q l=([],[],er)):=by unfold Hid allS;rw [if_neg (by rw [her];exact he),her]
  have HE:=zh H1.fewO;clear H1 her he;go_wp2_with fail;refine bodyPost_ret (v:=.tuple #[.slice none 0 0,.slice none 0 0,.int .i64 er]) (by simp [results,Tryz.results26,go_sem]) rfl ?_
  rw [HJ.out];refine ⟨none,0,0,none,0,0,[],rfl,rfl,rfl,rfl,?_⟩
  have:=(HE.out.old (A:=none) (n:=0) (c:=0) (vs:=[]) (fun hh=>absurd hh (Nat.lt_irrefl _)) rfl (by omega) (by omega)).old (A:=none) (n:=0) (c:=0) (vs:=[]) (fun hh=>absurd hh (Nat.lt_irrefl _)) rfl (by omega) (by omega)
  rw [zqa] at this;exact this
end Go.Proofs.YtpmofjomadibmaaGreatDoor
