/- Zz XZa -/
import Derived.Test.YtpmofjomadibmaaGreatDoorU23
namespace Go.Proofs.YtpmofjomadibmaaGreatDoor
set_option maxHeartbeats 8000000
open Go.RowKit Go.Sort
open Go.ChangeMaps (setBlock heap_setBlock_same heap_setBlock_other)
set_option linter.unusedVariables false
set_option maxRecDepth 100000
open Cl
namespace Cl
set_option maxHeartbeats 8000000
def exL (b:Nat->Bool)(n:Nat):List Value:=(List.range n).map fun i=>.bool (b i)
theorem z7bl (n:Nat):List.replicate n (Value.bool false)=exL (fun _=>false) n:=by
 unfold exL;refine List.ext_getElem? fun i=>?_
 rw [List.getElem?_replicate,List.getElem?_map];by_cases h:i<n
 ·rw [if_pos h,List.getElem?_range h];rfl
 ·rw [if_neg h,List.getElem?_eq_none (by rw [List.length_range];omega)];rfl
theorem z7q {b:Nat->Bool}{n i:Nat}(h:i<n):(exL b n)[i]?=some (.bool (b i)):=by
 unfold exL;rw [List.getElem?_map,List.getElem?_range h];rfl
theorem z7bk {b:Nat->Bool}{n i:Nat}(v:Bool):(exL b n).set i (.bool v)=exL (fun z=>if z=i then v else b z) n:=by
 unfold exL;refine List.ext_getElem? fun j=>?_
 rw [List.getElem?_set,List.getElem?_map,List.getElem?_map,List.length_map,List.length_range];by_cases h:j<n
 ·rw [List.getElem?_range h];by_cases e:i=j
  ·subst e
   rw [if_pos rfl,if_pos h]
   show _=some (Value.bool (if i=i then v else b i))
   rw [if_pos rfl]
  ·rw [if_neg e]
   show some (Value.bool (b j))=some (Value.bool (if j=i then v else b j))
   rw [if_neg fun e2=>e e2.symm]
 ·rw [List.getElem?_eq_none (l:=List.range n) (by rw [List.length_range];omega)]
  by_cases e:i=j
  ·subst e
   rw [if_pos rfl,if_neg h];rfl
  ·rw [if_neg e];rfl
end Cl
theorem z0cy:(Tryz.prog.info? 4).map (fun i=>(i.zero,i.size,i.bytes))=some (some (.bool false),1,1):=by kernel_rfl
theorem z1cb:Elem Tryz.prog 90 4 (.bool false) 1:=by
 obtain ⟨i0,hi,hz0,hz1,hz2⟩:=info_parts z0cy
 exact ⟨Tryz.underlying90,rfl,i0,hi,hz0,hz1,hz2⟩
theorem z7bd {l:List Sn}{n:Nat}{inn:List Rw}(hn:l.length=n)(hV:inn.map (·.vs)=(z2j 6 l n).map (fun p=>z0c p.2))(hE:∀ r∈inn,r.e=3):Lns ((z2j 6 l n).map (·.2)) inn n:=by
 have hl:=congrArg List.length hV
 rw [List.length_map,List.length_map] at hl;refine ⟨by rw [List.length_map,hl],fun i r hi=>⟨hE r (List.mem_of_getElem? hi),?_⟩,z8x 6 l n,fun ga hga z hz=>?_⟩
 ·have h1:=congrArg (fun t=>t[i]?) hV
  simp only [List.getElem?_map,hi,Option.map_some] at h1;cases hg:(z2j 6 l n)[i]? with
  | none=>rw [hg] at h1;cases h1
  | some pp=>
   rw [hg] at h1;simp only [Option.map_some,Option.some.injEq] at h1;exact ⟨pp.2,by rw [List.getElem?_map,hg];rfl,h1⟩
 ·obtain ⟨pp,hp,rfl⟩:=List.mem_map.1 hga
  rw [<- hn] at hp ⊢
  exact z1az hp z hz
def R5el (w0:World)(g:Option Nat)(M:List (Nat×Value))(L:List Ob)(OO:List Rw)(b:Nat->Bool)(n3:Nat)(x20 x106:Value)(wr:World):Prop:=
 ∃ (j:Nat) (Ar:Option Addr) (nr cr:Nat),j<=n3/\x106=.int .i64 j/\x20=.slice Ar nr cr/\Hid (((List.range j).filter fun z=>!b z).length=nr)/\Hid (Ow w0 wr g M L (OO++[(⟨Ar,nr,cr,3,z0c ((List.range j).filter fun z=>!b z)⟩:Rw)]))
def R1el (s:Pl)(p q:List Int)(l:List Sn)(w0:World)(g:Option Nat)(M:List (Nat×Value))(L:List Ob)(O:List Rw)(S P out:Rw)(inn0:List Rw)(eb n3 gn:Nat)(x11 x36:Value)(wr:World):Prop:=
 ∃ (i:Nat) (V:List VR) (Aov:Option Addr) (cov:Nat) (b:Nat->Bool),i<=gn/\x36=.int .i64 i/\x11=.slice Aov V.length cov/\Hid (V.map VR.v=lsV s p q l ((lns l).take i))/\Hid (Ex s p q l i i b)/\Hid (Ox w0 wr g M (L++lvr V) (O++(S :: P :: (⟨some ⟨eb,0,none⟩,n3,n3,4,exL b n3⟩:Rw) :: out :: inn0)) [⟨Aov,V.length,cov,42,11,fvr V⟩])
def exR (eb n3:Nat)(b:Nat->Bool):Rw:=⟨some ⟨eb,0,none⟩,n3,n3,4,exL b n3⟩
theorem z6ap {α:Type}{l:List α}{i:Nat}{a:α}(h:l[i]?=some a):l.set i a=l:=by
 obtain ⟨hi,e⟩:=List.getElem?_eq_some_iff.1 h
 rw [<- e];exact List.set_getElem_self hi
namespace Cl
set_option maxHeartbeats 8000000
theorem z2bm (v:Vd)(l:List Sn)(g:List Nat)(b:Nat->Bool)(z:Nat):(fun u=>if u=z then (b z || dlP v.k ⟨v.p,v.cp,0⟩ l z) else mrk v l g b u)=mrk v l (g++[z]) b:=by
 funext u
 by_cases e:u=z
 ·subst e
  rw [if_pos rfl];unfold mrk;rw [if_pos (List.mem_append_right _ List.mem_cons_self)]
 ·rw [if_neg e];unfold mrk;by_cases h:u∈g
  ·rw [if_pos h,if_pos (List.mem_append_left _ h)]
  ·rw [if_neg h,if_neg fun h2=>?_]
   rcases List.mem_append.1 h2 with h3|h3
   ·exact h h3
   ·exact e (List.mem_singleton.1 h3)
theorem z4aa (v:Vd)(l:List Sn)(g:List Nat)(b:Nat->Bool)(z n:Nat){y:Bool}(h:(b z || dlP v.k ⟨v.p,v.cp,0⟩ l z)=y):(exL (mrk v l g b) n).set z (.bool y)=exL (mrk v l (g++[z]) b) n:=by
 rw [z7bk,<- h,z2bm]
theorem z7ba {v:Vd}{l:List Sn}{g:List Nat}{b:Nat->Bool}{z:Nat}(h:mrk v l g b z=true):(b z || dlP v.k ⟨v.p,v.cp,0⟩ l z)=true:=by
 unfold mrk at h;split at h
 ·exact h
 ·rw [h];rfl
theorem z9be {v:Vd}{l:List Sn}{g:List Nat}{b:Nat->Bool}{z:Nat}{y:Bool}(h:mrk v l g b z=false)(hy:dlP v.k ⟨v.p,v.cp,0⟩ l z=y):(b z || dlP v.k ⟨v.p,v.cp,0⟩ l z)=y:=by
 have hb:b z=false:=by
  unfold mrk at h;split at h
  ·cases e:b z with
   | false=>rfl
   | true=>rw [e] at h;cases h
  ·exact h
 rw [hb,hy];rfl
theorem z7bb (v:Vd)(l:List Sn)(b:Nat->Bool):mrk v l [] b=b:=by
 funext u
 unfold mrk;rw [if_neg (List.not_mem_nil)]
end Cl
def R2el (s:Pl)(p q:List Int)(l:List Sn)(w0:World)(g:Option Nat)(M:List (Nat×Value))(L:List Ob)(O:List Rw)(S P out:Rw)(inn0:List Rw)(eb n3 i:Nat)(ga:List Nat)(x11 x42:Value)(wr:World):Prop:=
 ∃ (V:List VR) (Aov:Option Addr) (cov:Nat) (b:Nat->Bool) (r:Nat),r<=n3/\x42=.int .i64 r/\x11=.slice Aov V.length cov/\Hid ((ga.filter fun z=>!b z).length+r<=n3)/\Hid (V.map VR.v++(lnF s p q l (ga.filter fun z=>!b z)).1=lsV s p q l ((lns l).take (i+1)))/\Hid ((lnF s p q l (ga.filter fun z=>!b z)).2=(lnF s p q l ga).2)/\Hid (Ex s p q l i (i+1) b)/\Hid (Ox w0 wr g M (L++lvr V) (O++(S :: P :: (⟨some ⟨eb,0,none⟩,n3,n3,4,exL b n3⟩:Rw) :: out :: inn0)) [⟨Aov,V.length,cov,42,11,fvr V⟩])
def R3el (l:List Sn)(w0:World)(g:Option Nat)(M:List (Nat×Value))(L:List Ob)(O:List Rw)(X0:Rx)(ga:List Nat)(b:Nat->Bool)(x14 x46:Value)(wr:World):Prop:=
 ∃ (j:Nat) (As:Option Addr) (cs ms:Nat),j<=ga.length/\x46=.int .i64 j/\x14=.slice As ms cs/\Hid (((ga.take j).filter fun z=>!b z).length=ms)/\Hid (Ox w0 wr g M L O [X0,⟨As,ms,cs,40,8,fl (pk l ((ga.take j).filter fun z=>!b z))⟩])
def R4el (w0:World)(g:Option Nat)(M:List (Nat×Value))(L:List Ob)(O:List Rw)(X:List Rx)(ei eb n3:Nat)(v:Vd)(l:List Sn)(ga:List Nat)(b:Nat->Bool)(x76:Value)(wr:World):Prop:=
 ∃ (j:Nat),j<=ga.length/\x76=.int .i64 j/\Hid (Ox w0 wr g M L (O.set ei (exR eb n3 (mrk v l (ga.take j) b))) X)
theorem rAll {w0 w:World}{g:Option Nat}{M:List (Nat×Value)}{L:List Ob}{O:List Rw}{A A2 A3:Option Addr}{n c m c2 n3 c3 e3:Nat}{p q:List Int}{l:List Sn}(s:Pl)(h:Ow w0 w g M L O)(i j k:Nat)(hi:L[i]?=some ⟨A,n,c,z0p p⟩)(hj:L[j]?=some ⟨A2,m,c2,z0p q⟩)(hk:L[k]?=some ⟨A3,n3*8,e3,fl l⟩)(ht:Tab w0):
  Calls Tryz.prog 27 #[.agg s.vs,.agg #[.slice A n c,.slice A2 m c2],.slice A3 n3 c3] w (AllR w0 g M L O (allS s p q l).1 (allS s p q l).2.1 (allS s p q l).2.2):=by
 have H0:=(h.arr s.vs 6 rfl (by omega) 33).pair (.slice A n c) (.slice A2 m c2) 27
 simp only [World.size_alloc,zqa,zqb,zqc] at H0;have HLn:l.length=n3:=by
  have a:=(h.sl hk).1
  rw [z2q] at a;omega
 have HNl:=zh HLn;have HC:=zh (z8bw s H0 i j k hi hj hk (c3:=c3))
 have HH:Hid (L[i]?=some ⟨A,n,c,z0p p⟩/\L[j]?=some ⟨A2,m,c2,z0p q⟩/\L[k]?=some ⟨A3,n3*8,e3,fl l⟩):=⟨hi,hj,hk⟩
 have HT:=zh ht;obtain ⟨so,ch,ra,ba,ro,co⟩:=s;unfold Pl.vs at *
 obtain ⟨a0,a1,a2,a3,a4,a5⟩:=zc6 (H0.row (O.length+0) (zk rfl));have b0:=H0.p0 (O.length+1) (zk rfl)
 have b1:=H0.p1 (O.length+1) (zk rfl)
 clear hi hj hk HLn h ht;go_enter Tryz.func27,Tryz.ntmps27
 go_wp2_with fail;refine HC.out.mono ?_;rintro e w1 ⟨rfl,H1⟩;clear HC H0 a0 a1 a2 a3 a4 a5 b0 b1;obtain ⟨er,her⟩:∃ z,chk ⟨so,ch,ra,ba,ro,co⟩ p q l=z:=⟨_,rfl⟩
 rw [her];by_cases he:er=0
 ·subst he
  have HZ:=zh (z9d her)
  have HJ:Hid (allS ⟨so,ch,ra,ba,ro,co⟩ p q l=(lsV ⟨so,ch,ra,ba,ro,co⟩ p q l ((z2j 6 l n3).map (·.2)),srt (Na.up (lsR ⟨so,ch,ra,ba,ro,co⟩ p q l ((z2j 6 l n3).map (·.2)))),0)):=by unfold Hid allS;rw [if_pos her,HNl.out]
  have hn40:n3<=40:=by have:=HZ.out.2.2.2.1;have:=HNl.out;omega
  have hmk:=z1cb.make .i64 .i64 (n3:Int) (n3:Int) n3 n3 rfl rfl (zqj _) (by omega) (by omega) w1
  have H1m:=H1.made 4 (.bool false) n3 n3 rfl (zqj _) (by unfold maxLen;omega)
  simp only [zqa,zqb,zqc] at H1m;have HG:=zh (z6ax 6 (by decide) A3 n3 c3 l (w1.alloc (.cells (madeCells #[Value.bool false] n3) 4)) HNl.out (by omega) (H1m.sl HH.out.2.2).2.2.2)
  clear her;go_wp2_with fail;refine HG.out.mono ?_;rintro e w2 ⟨Ao,ao,inn0,rfl,hV,hE,hO⟩;have HLs:=zh (z7bd HNl.out hV hE)
  have H2:=H1m.merge hO
  simp only [zqa,zqb,zqc] at H2;have hgs:(z2j 6 l n3).map (·.2)=lns l:=by unfold lns;rw [HNl.out]
  rw [hgs] at HLs HJ;obtain ⟨gn,hgn⟩:∃ z,inn0.length=z:=⟨_,rfl⟩
  have HGn:Hid (inn0.length=gn/\(lns l).length=gn/\gn<=1000):=by
   have h1:=HLs.out.len;have h2:=(z2z 6 l n3).2
   rw [<- hgs,List.length_map] at h1;exact ⟨hgn,by rw [<- hgs,List.length_map];omega,by omega⟩
  have HX:Hid (Ox w0 w2 g M (L++lvr []) (O++((⟨some ⟨w.heap.size,0,none⟩,6,6,33,[.int .i64 so,.int .i64 ch,.int .i64 ra,.int .i64 ba,.int .i64 ro,.int .i64 co]⟩:Rw) :: Rw.pair (w.heap.size+1) 27 (.slice A n c) (.slice A2 m c2) :: (⟨some ⟨w1.heap.size,0,none⟩,n3,n3,4,exL (fun _=>false) n3⟩:Rw) :: z2g Ao ao inn0 :: inn0)) [⟨none,0,0,42,11,fvr []⟩]):=by
   have:=(Ox.of H2).nilX 42 11
   rw [z7bl] at this
   show Ox w0 w2 g M (L++[]) _ _
   rw [List.append_nil];exact this
  rw [hgn];clear HG hV hE hO H1 H1m H2 hgs hgn;go_wp2_with fail;go_loopw [11,36] (fun x11 x36 wr=>R1el ⟨so,ch,ra,ba,ro,co⟩ p q l w0 g M L O (⟨some ⟨w.heap.size,0,none⟩,6,6,33,[.int .i64 so,.int .i64 ch,.int .i64 ra,.int .i64 ba,.int .i64 ro,.int .i64 co]⟩:Rw) (Rw.pair (w.heap.size+1) 27 (.slice A n c) (.slice A2 m c2)) (z2g Ao ao inn0) inn0 w1.heap.size n3 gn x11 x36 wr) (fun _ x36 _=>gn+1 - (intOf x36).toNat)
  case atStart=>exact ⟨0,[],none,0,fun _=>false,zqr _,rfl,rfl,rfl,Ex.start _ _ _ _,HX.out⟩
  case round=>
   clear HX;obtain ⟨i1,V,Aov,cov,b,hi1,rfl,rfl,HVm,HEx,HX⟩:=hrel;have hbd:=z8aw ⟨so,ch,ra,ba,ro,co⟩ p q l i1 HLs.out.sum
   have HBd:Hid (V.length<=40):=by
    have h1:=congrArg List.length HVm.out
    rw [List.length_map] at h1;unfold Hid;omega
   clear hbd;rcases Nat.eq_or_lt_of_le hi1 with heq|hlt
   ·have hd:decide ((i1:Int)<gn)=false:=zn (by omega)
    have hd2:decide (i1<gn)=false:=zn (by omega)
    have htk:(lns l).take i1=lns l:=zqp (by have:=HGn.out.2.1;omega)
    rw [htk] at HVm;have HEe:Hid (Ex ⟨so,ch,ra,ba,ro,co⟩ p q l (lns l).length i1 b):=by
     have h1:i1=(lns l).length:=by have:=HGn.out.2.1;omega
     have h2:=HEx.out;unfold Hid;rw [<- h1];exact h2
    have hb1:=HBd.out;obtain ⟨OO,hOO⟩:∃ z,O++((⟨some ⟨w.heap.size,0,none⟩,6,6,33,[.int .i64 so,.int .i64 ch,.int .i64 ra,.int .i64 ba,.int .i64 ro,.int .i64 co]⟩:Rw) :: Rw.pair (w.heap.size+1) 27 (.slice A n c) (.slice A2 m c2) :: (⟨some ⟨w1.heap.size,0,none⟩,n3,n3,4,exL b n3⟩:Rw) :: z2g Ao ao inn0 :: inn0)=z:=⟨_,rfl⟩
    have HOE:Hid (OO[O.length+2]?=some (⟨some ⟨w1.heap.size,0,none⟩,n3,n3,4,exL b n3⟩:Rw)):=by unfold Hid;rw [<- hOO,z0b];rfl
    rw [hOO] at HX;have HOO:=zh hOO;have H5:Hid (Ow w0 wr g M (L++lvr V++[⟨Aov,V.length*11,V.length*11,fvr V⟩]) (OO++[(⟨none,0,0,3,z0c ((List.range 0).filter fun z=>!b z)⟩:Rw)])):=((HX.out.keepX 0 rfl (m:=V.length*11) rfl (by omega) (by omega)).ow).nil _
    clear heq hi1 htk hb1 HX hOO;go_wp2_with fail;go_loopw [20,106] (fun x20 x106 wr=>R5el w0 g M (L++lvr V++[⟨Aov,V.length*11,V.length*11,fvr V⟩]) OO b n3 x20 x106 wr) (fun _ x106 _=>n3+1 - (intOf x106).toNat)
    case atStart=>exact ⟨0,none,0,0,zqr _,rfl,rfl,rfl,H5.out⟩
    case round=>
     clear H5;obtain ⟨j,Ar,nr,cr,hj1,rfl,rfl,HN,HO⟩:=hrel;rcases Nat.eq_or_lt_of_le hj1 with heq|hlt
     ·have hd:decide ((j:Int)<n3)=false:=zn (by omega)
      have hd2:decide (j<n3)=false:=zn (by omega)
      have hrs:((List.range j).filter fun z=>!b z)=rstN ⟨so,ch,ra,ba,ro,co⟩ p q l:=by
       rw [show j=l.length by have:=HNl.out;omega]
       exact HEe.out.rest
      rw [hrs] at HN HO;have hn:=List.length_filter_le (fun z=>!b z) (List.range j)
      rw [hrs,List.length_range] at hn;have hn2:=HN.out;have HE:=zh (HO.out.keep (OO.length+0) (zk rfl) (by omega))
      clear heq hj1 hrs hn hn2 HO;go_wp2_with fail;refine bodyPost_ret (v:=.tuple #[.slice Aov V.length cov,.slice Ar nr cr,.int .i64 0]) (by simp [results,Tryz.results27,go_sem]) rfl ?_
      rw [HJ.out];have h1:=HE.out;rw [z0o] at h1;have h2:=h1.fewO;rw [<- HOO.out] at h2;refine ⟨Aov,V.length,cov,Ar,nr,cr,V,HVm.out,rfl,?_,rfl,h2.fewO.few2 (by rw [List.take_length]) fun o ho=>?_⟩
      ·show (srt (Na.up (lsR ⟨so,ch,ra,ba,ro,co⟩ p q l (lns l)))).length=nr
       rw [z6am];unfold Na.up;rw [List.length_map];exact HN.out
      ·have e:srt (Na.up (lsR ⟨so,ch,ra,ba,ro,co⟩ p q l (lns l)))=Na.up (rstN ⟨so,ch,ra,ba,ro,co⟩ p q l):=z6am _ _ _ _
       simp only [e,z0g] at ho;simp only [List.mem_append,List.mem_cons,List.mem_nil_iff,or_false] at ho ⊢
       rcases ho with h|h|h|h
       ·exact .inl (.inl (.inl h))
       ·exact .inl (.inr h)
       ·exact .inr h
       ·exact .inl (.inl (.inr h))
     ·have hd:decide ((j:Int)<n3)=true:=zt (by omega)
      have hd2:decide (j<n3)=true:=zt (by omega)
      have hjI:(j:Int)<n3:=by omega
      have hw:IntKind.i64.wrap ((j:Int)+1)=((j+1:Nat):Int):=by rw [IntWalk.i64_in _ (by omega)];omega
      have e0:=(HO.out.row (O.length+2) (by rw [z0r _ _ (z0d HOE.out)];exact HOE.out)).cells (g:=w1.heap.size) rfl j _ (z7q hlt)
      rw [z6n] at e0;have HK:=zh hlt;have hn:=List.length_filter_le (fun z=>!b z) (List.range j)
      rw [List.length_range,HN.out] at hn;cases hb:b j with
      | true=>
       rw [hb] at e0;have HBj:=zh hb;clear hb hlt hj1 hn;go_wp2_with fail;go_roundw
       case rel=>
        have e:((List.range (j+1)).filter fun z=>!b z)=(List.range j).filter fun z=>!b z:=by
         rw [List.range_succ,List.filter_append,List.filter_cons,HBj.out];exact List.append_nil _
        exact ⟨j+1,Ar,nr,cr,HK.out,rfl,rfl,by rw [e];exact HN.out,by rw [e];exact HO.out⟩
       case measure=>
        have:=HK.out
        simp [intOf]
        omega
      | false=>
       rw [hb] at e0;have HBj:=zh hb;clear hb hlt hj1;go_wp2_with (at_builtin;refine z2k z4p HO.out (OO.length+0) (.tmp 113) (.tmp 115) _ _ (zk rfl) rfl (by unfold maxLen;omega) (by omega) rfl rfl rfl rfl ?_;intro A' c' w2' how2;have HX2:=zh how2;clear how2)
       go_roundw
       case rel=>
        have e:((List.range (j+1)).filter fun z=>!b z)=((List.range j).filter fun z=>!b z)++[j]:=by
         rw [List.range_succ,List.filter_append,List.filter_cons,HBj.out];rfl
        refine ⟨j+1,A',nr+1,c',HK.out,rfl,rfl,?_,?_⟩
        ·rw [e,zqm,HN.out];rfl
        ·have h1:=HX2.out;rw [z0o] at h1;rw [e,z7j];exact h1
       case measure=>
        have:=HK.out
        simp [intOf]
        omega
   ·have hd:decide ((i1:Int)<gn)=true:=zt (by omega)
    have hd2:decide (i1<gn)=true:=zt (by omega)
    have hlI:(i1:Int)<gn:=by omega
    have hg1k:=HGn.out.2.2;have hw36:IntKind.i64.wrap ((i1:Int)+1)=((i1+1:Nat):Int):=by rw [IntWalk.i64_in _ (by omega)];omega
    obtain ⟨r0,hr0⟩:∃ z,inn0[i1]?=some z:=⟨inn0[i1]'(by rw [HGn.out.1];exact hlt),zql _⟩
    obtain ⟨hre,ga,hga,hrv⟩:=HLs.out.row i1 r0 hr0
    have hR:=HX.out.ow.row (O.length+3) (zk rfl)
    obtain ⟨gb,hgb,_,_⟩:=z0n hR (by have:=HGn.out.1;omega)
    obtain rfl:=hgb
    obtain ⟨Al,nl,cl,el,vl⟩:=r0;simp only at hre hrv
    subst hre hrv
    have e0:=hR.cells (g:=gb) rfl i1 (.slice Al nl cl) (by rw [List.getElem?_map,hr0];rfl)
    rw [z6n] at e0;have hgl:ga.length=nl:=by
     have h1:=HX.out.ow.own (O.length+(i1+4)) _ (by rw [z0b];exact hr0)
     have h2:=h1.1;rw [z0e] at h2;simpa using h2
    have HGa:Hid ((lns l)[i1]?=some ga/\ga.length=nl/\nl<=n3/\∀ z∈ga,z<n3):=⟨hga,hgl,by have h1:=z3aw hga;have h2:=HLs.out.sum;omega,HLs.out.lt ga (List.mem_of_getElem? hga)⟩
    have HRow:Hid (inn0[i1]?=some ⟨Al,nl,cl,3,z0c ga⟩):=hr0
    have H2r:Hid (R2el ⟨so,ch,ra,ba,ro,co⟩ p q l w0 g M L O (⟨some ⟨w.heap.size,0,none⟩,6,6,33,[.int .i64 so,.int .i64 ch,.int .i64 ra,.int .i64 ba,.int .i64 ro,.int .i64 co]⟩:Rw) (Rw.pair (w.heap.size+1) 27 (.slice A n c) (.slice A2 m c2)) (z2g (some ⟨gb,0,none⟩) ao inn0) inn0 w1.heap.size n3 i1 ga (.slice Aov V.length cov) (.int .i64 ((0:Nat):Int)) wr):=by
     have hf:=HEx.out.first hga
     refine ⟨V,Aov,cov,b,0,zqr _,rfl,rfl,?_,?_,?_,HEx.out.into,HX.out⟩
     ·unfold Hid;rw [hf];have:=HGa.out
      omega
     ·unfold Hid;rw [hf,HVm.out,z1o hga,z3ai]
     ·unfold Hid;rw [hf]
    have HIg:=zh hlt;have hn3k:n3<=40:=hn40
    clear hR hga hgl hr0 hlt hi1 HX HVm HBd HEx hg1k;go_wp2_with fail;go_loopw [11,42] (fun x11 x42 wr=>R2el ⟨so,ch,ra,ba,ro,co⟩ p q l w0 g M L O (⟨some ⟨w.heap.size,0,none⟩,6,6,33,[.int .i64 so,.int .i64 ch,.int .i64 ra,.int .i64 ba,.int .i64 ro,.int .i64 co]⟩:Rw) (Rw.pair (w.heap.size+1) 27 (.slice A n c) (.slice A2 m c2)) (z2g (some ⟨gb,0,none⟩) ao inn0) inn0 w1.heap.size n3 i1 ga x11 x42 wr) (fun _ x42 _=>n3+1 - (intOf x42).toNat)
    case atStart=>exact H2r.out
    case round=>
     clear H2r e0;obtain ⟨V,Aov,cov,b,r,hr1,rfl,rfl,HLe,HVm,HRm,HEx,HX⟩:=hrel;rcases Nat.eq_or_lt_of_le hr1 with heq|hlt
     ·have hd:decide ((r:Int)<n3)=false:=zn (by omega)
      have hd2:decide (r<n3)=false:=zn (by omega)
      have hfn:(ga.filter fun z=>!b z)=[]:=List.length_eq_zero_iff.1 (by have:=HLe.out;omega)
      rw [hfn] at HVm HRm;have HFn:=zh hfn;clear heq hr1 hfn;go_wp2_with fail;go_roundw
      case rel=>
       refine ⟨i1+1,V,Aov,cov,b,by have h1:=HIg.out;omega,rfl,rfl,?_,HEx.out.next HGa.out.1 (by rw [HFn.out,<- HRm.out];rfl),HX.out⟩
       have h1:=HVm.out;unfold Hid;rw [<- h1];exact (List.append_nil _).symm
      case measure=>
       have:=HIg.out
       simp [intOf]
       omega
     ·have hd:decide ((r:Int)<n3)=true:=zt (by omega)
      have hd2:decide (r<n3)=true:=zt (by omega)
      have hrI:(r:Int)<n3:=by omega
      have hw42:IntKind.i64.wrap ((r:Int)+1)=((r+1:Nat):Int):=by rw [IntWalk.i64_in _ (by omega)];omega
      have HRn:=zh hlt;obtain ⟨OO,hOO⟩:∃ z,O++((⟨some ⟨w.heap.size,0,none⟩,6,6,33,[.int .i64 so,.int .i64 ch,.int .i64 ra,.int .i64 ba,.int .i64 ro,.int .i64 co]⟩:Rw) :: (Rw.pair (w.heap.size+1) 27 (.slice A n c) (.slice A2 m c2)) :: (⟨some ⟨w1.heap.size,0,none⟩,n3,n3,4,exL b n3⟩:Rw) :: z2g (some ⟨gb,0,none⟩) ao inn0 :: inn0)=z:=⟨_,rfl⟩
      have HOS:Hid (OO[O.length+0]?=some (⟨some ⟨w.heap.size,0,none⟩,6,6,33,[.int .i64 so,.int .i64 ch,.int .i64 ra,.int .i64 ba,.int .i64 ro,.int .i64 co]⟩:Rw)):=by unfold Hid;rw [<- hOO,z0b];rfl
      have HOP:Hid (OO[O.length+1]?=some (Rw.pair (w.heap.size+1) 27 (.slice A n c) (.slice A2 m c2))):=by unfold Hid;rw [<- hOO,z0b];rfl
      have HOE:Hid (OO[O.length+2]?=some (⟨some ⟨w1.heap.size,0,none⟩,n3,n3,4,exL b n3⟩:Rw)):=by unfold Hid;rw [<- hOO,z0b];rfl
      have HOL:Hid (OO[O.length+(i1+4)]?=some (⟨Al,nl,cl,3,z0c ga⟩:Rw)):=by unfold Hid;rw [<- hOO,z0b];exact HRow.out
      have HKl:Hid ((L++lvr V)[k]?=some ⟨A3,n3*8,e3,fl l⟩):=by unfold Hid;rw [z0r _ _ (z0d HH.out.2.2)];exact HH.out.2.2
      rw [hOO] at HX;have HOO:=zh hOO;have H3:Hid (Ox w0 wr g M (L++lvr V) OO [(⟨Aov,V.length,cov,42,11,fvr V⟩:Rx),⟨none,0,0,40,8,fl (pk l ((ga.take 0).filter fun z=>!b z))⟩]):=HX.out.nilX _ _
      have hnl3:=HGa.out.2.2.1;clear hOO HX hlt hr1;go_wp2_with fail;go_loopw [14,46] (fun x14 x46 wr=>R3el l w0 g M (L++lvr V) OO (⟨Aov,V.length,cov,42,11,fvr V⟩:Rx) ga b x14 x46 wr) (fun _ x46 _=>nl+1 - (intOf x46).toNat)
      case atStart=>exact ⟨0,none,0,0,zqr _,rfl,rfl,rfl,H3.out⟩
      case round=>
       clear H3;obtain ⟨j1,As,cs,ms,hj1,rfl,rfl,HMs,HX⟩:=hrel;rw [HGa.out.2.1] at hj1;rcases Nat.eq_or_lt_of_le hj1 with heq|hlt
       ·have hd:decide ((j1:Int)<nl)=false:=zn (by omega)
        have hd2:decide (j1<nl)=false:=zn (by omega)
        obtain rfl:nl=j1:=heq.symm
        have htl:ga.take nl=ga:=zqp (Nat.le_of_eq HGa.out.2.1)
        rw [htl] at HX HMs;obtain ⟨la,hla⟩:∃ z,(ga.filter fun z=>!b z)=z:=⟨_,rfl⟩
        rw [hla] at HX HMs HVm HRm HLe;have HLa:=zh hla;have hlz:∀ z∈la,z<l.length:=fun z hz=>by
         rw [<- hla] at hz;have:=HGa.out.2.2.2 z (List.mem_filter.1 hz).1
         have:=HNl.out
         omega
        have HPl:Hid ((pk l la).length=ms):=by unfold Hid;rw [z7as hlz];exact HMs.out
        have hms:ms<=40:=by have h1:=HLe.out;rw [HMs.out] at h1;omega
        have HMk:=zh hms;obtain ⟨a0,a1,a2,a3,a4,a5⟩:=zc6 (HX.out.ow.row (O.length+0) HOS.out);have b0:=HX.out.ow.p0 (O.length+1) HOP.out
        have b1:=HX.out.ow.p1 (O.length+1) HOP.out
        have HCb:Hid (Ow wr wr none [] [⟨A,n,c,z0p p⟩,⟨A2,m,c2,z0p q⟩,⟨As,ms*8,ms*8,fl (pk l la)⟩] []):=by
         have g1:=HX.out.ow.sl (i:=i) (by rw [z0r _ _ (z0d HH.out.1)];exact HH.out.1)
         have g2:=HX.out.ow.sl (i:=j) (by rw [z0r _ _ (z0d HH.out.2.1)];exact HH.out.2.1)
         have g3:=HX.out.row 1 rfl
         have g4:=(((Ow.of (St.refl wr)).old g1.2.2.2 g1.1 g1.2.1 g1.2.2.1).old g2.2.2.2 g2.1 g2.2.1 g2.2.2.1).old (A:=As) (n:=ms*8) (c:=ms*8) (z7g g3 (by omega)) (by rw [z2q];have:=HPl.out;omega) (zqj _) (by omega)
         exact g4
        have HCj:=zh (z5bt ⟨so,ch,ra,ba,ro,co⟩ HZ.out.1 HCb.out 0 1 2 rfl rfl rfl HMk.out (c3:=cs))
        clear heq hj1 htl HCb hla hlz hms;unfold Pl.vs at HCj;obtain ⟨vd,hvd⟩:∃ z,jud ⟨so,ch,ra,ba,ro,co⟩ p q (pk l la)=z:=⟨_,rfl⟩
        rw [hvd] at HCj;have HVd:=zh hvd;clear hvd;go_wp2_with fail;refine HCj.out.mono ?_;rintro e w5 ⟨B1,n1,d1,B2,n2,d2,rfl,ho5,hf5⟩;obtain ⟨kk,⟨v0,v1,v2,v3,v4,v5⟩,vc,vh,vx,vy⟩:=vd
        simp only [Vd.vs];simp only at hf5 ho5
        clear HCj a0 a1 a2 a3 a4 a5 b0 b1;by_cases hk0:kk=0
        ·subst hk0
         have HX9:=zh ((HX.out.go ho5.below).arrO #[.int .i64 0,.int .i64 v0,.int .i64 v1,.int .i64 v2,.int .i64 v3,.int .i64 v4,.int .i64 v5,.int .i64 vc,.int .i64 vh,.slice B1 n1 d1,.slice B2 n2 d2] 11 rfl (by omega) 42)
         have q0:(w5.alloc (.cells #[.int .i64 0,.int .i64 v0,.int .i64 v1,.int .i64 v2,.int .i64 v3,.int .i64 v4,.int .i64 v5,.int .i64 vc,.int .i64 vh,.slice B1 n1 d1,.slice B2 n2 d2] 42)).cell? ⟨w5.heap.size,0,none⟩=some (.int .i64 0):=(HX9.out.ow.row (OO.length+0) (zk rfl)).cellAt 0 (by decide)
         have HSt:Hid (lnF ⟨so,ch,ra,ba,ro,co⟩ p q l la=([],la)):=z3an (by rw [HVd.out])
         clear ho5 hf5 HX;go_wp2_with fail;go_roundw
         case rel=>
          refine ⟨i1+1,V,Aov,cov,b,by have h1:=HIg.out;omega,rfl,rfl,?_,HEx.out.next HGa.out.1 ?_,?_⟩
          ·have h1:=HVm.out;rw [HSt.out,List.append_nil] at h1;exact h1
          ·rw [HLa.out,<- HRm.out,HSt.out]
          ·unfold Hid;have h2:=HX9.out.fewO.fewX (X:=[(⟨Aov,V.length,cov,42,11,fvr V⟩:Rx)])
           rw [<- HOO.out] at h2;exact h2
         case measure=>
          have:=HIg.out
          simp [intOf]
          omega
        ·have HFr:Hid (NewS wr w5 (VR.obs ⟨⟨kk,⟨v0,v1,v2,v3,v4,v5⟩,vc,vh,vx,vy⟩,B1,n1,d1,B2,n2,d2⟩)):=by
          intro o ho;obtain ⟨hf1,hf2⟩:=hf5 hk0
          have g1:=ho5.sl (i:=3) rfl
          have g2:=ho5.sl (i:=4) rfl
          unfold VR.obs at ho;simp only [List.mem_cons,List.mem_nil_iff,or_false] at ho;rcases ho with rfl|rfl
          ·exact ⟨g1.1,g1.2.1,g1.2.2.1,g1.2.2.2,hf1⟩
          ·exact ⟨g2.1,g2.2.1,g2.2.2.1,g2.2.2.2,hf2⟩
         have HX7':=((HX.out.pushW ho5.below HFr.out).arrO #[.int .i64 kk,.int .i64 v0,.int .i64 v1,.int .i64 v2,.int .i64 v3,.int .i64 v4,.int .i64 v5,.int .i64 vc,.int .i64 vh,.slice B1 n1 d1,.slice B2 n2 d2] 11 rfl (by omega) 42).arrO #[.int .i64 kk,.int .i64 v0,.int .i64 v1,.int .i64 v2,.int .i64 v3,.int .i64 v4,.int .i64 v5,.int .i64 vc,.int .i64 vh,.slice B1 n1 d1,.slice B2 n2 d2] 11 rfl (by omega) 42
         simp only [World.size_alloc] at HX7';have HX7:=zh HX7';clear HX7';have HJn:Hid ((jud ⟨so,ch,ra,ba,ro,co⟩ p q (pk l la)).k≠0):=by unfold Hid;rw [HVd.out];exact hk0
         have HKd:Hid (kd kk):=by
          have h1:=(z7n HJn.out).1
          rw [HVd.out] at h1;exact h1
         have HGo:=zh (z3bz HJn.out)
         have HNx:=zh (z5ag HJn.out)
         rw [HVd.out] at HGo HNx;have HVl:Hid (V.length+1<=40):=by
          have h1:=congrArg List.length HVm.out
          rw [HGo.out,zqm,List.length_map,List.length_cons] at h1;have h2:=z8aw ⟨so,ch,ra,ba,ro,co⟩ p q l (i1+1) HLs.out.sum
          unfold Hid;omega
         have hvl:=HVl.out;have kz:(kk == 0)=false:=z1n hk0
         obtain ⟨q0,q1,q2,q3,q4,q5,q6,q7,q8,q9,q10⟩:=zc11 (((HX.out.pushW ho5.below HFr.out).arrO #[.int .i64 kk,.int .i64 v0,.int .i64 v1,.int .i64 v2,.int .i64 v3,.int .i64 v4,.int .i64 v5,.int .i64 vc,.int .i64 vh,.slice B1 n1 d1,.slice B2 n2 d2] 11 rfl (by omega) 42).ow.row (OO.length+0) (zk rfl));clear ho5 hf5 HX hk0;go_wp2_with (at_builtin;refine z5s z4bf HX7.out 0 (.tmp 70) (.tmp 72) (m:=1) (news:=[.int .i64 kk,.int .i64 v0,.int .i64 v1,.int .i64 v2,.int .i64 v3,.int .i64 v4,.int .i64 v5,.int .i64 vc,.int .i64 vh,.slice B1 n1 d1,.slice B2 n2 d2]) rfl rfl (fun j u hu=>by have:=(HX7.out.ow.row (OO.length+1) (by rw [zqa,z0b];rfl)).cells rfl j u hu;exact this) (z3bi ⟨⟨kk,⟨v0,v1,v2,v3,v4,v5⟩,vc,vh,vx,vy⟩,B1,n1,d1,B2,n2,d2⟩) (by unfold maxLen;omega) (by omega) rfl rfl rfl rfl ?_;intro Ao2 co2 w8 how8;have HX8:=zh how8;clear how8)
         obtain ⟨O4,hO4⟩:∃ z,OO++[(⟨some ⟨w5.heap.size,0,none⟩,11,11,42,[.int .i64 kk,.int .i64 v0,.int .i64 v1,.int .i64 v2,.int .i64 v3,.int .i64 v4,.int .i64 v5,.int .i64 vc,.int .i64 vh,.slice B1 n1 d1,.slice B2 n2 d2]⟩:Rw)]++[(⟨some ⟨w5.heap.size+1,0,none⟩,11,11,42,[.int .i64 kk,.int .i64 v0,.int .i64 v1,.int .i64 v2,.int .i64 v3,.int .i64 v4,.int .i64 v5,.int .i64 vc,.int .i64 vh,.slice B1 n1 d1,.slice B2 n2 d2]⟩:Rw)]=z:=⟨_,rfl⟩
         have HX8b:=HX8.out;rw [show (OO++[(⟨some ⟨w5.heap.size,0,none⟩,11,11,42,(#[.int .i64 kk,.int .i64 v0,.int .i64 v1,.int .i64 v2,.int .i64 v3,.int .i64 v4,.int .i64 v5,.int .i64 vc,.int .i64 vh,.slice B1 n1 d1,.slice B2 n2 d2]:Array Value).toList⟩:Rw)]++[(⟨some ⟨w5.heap.size+1,0,none⟩,11,11,42,(#[.int .i64 kk,.int .i64 v0,.int .i64 v1,.int .i64 v2,.int .i64 v3,.int .i64 v4,.int .i64 v5,.int .i64 vc,.int .i64 vh,.slice B1 n1 d1,.slice B2 n2 d2]:Array Value).toList⟩:Rw)])=O4 from hO4] at HX8b
         have hoe:O.length+2<OO.length:=z0d HOE.out
         have HEr:Hid (O4[O.length+2]?=some (exR w1.heap.size n3 b)):=by unfold Hid;rw [<- hO4,zqa,z0r _ _ hoe];exact HOE.out
         have HVr:Hid (O4[OO.length+0]?=some (⟨some ⟨w5.heap.size,0,none⟩,11,11,42,[.int .i64 kk,.int .i64 v0,.int .i64 v1,.int .i64 v2,.int .i64 v3,.int .i64 v4,.int .i64 v5,.int .i64 vc,.int .i64 vh,.slice B1 n1 d1,.slice B2 n2 d2]⟩:Rw)):=by unfold Hid;rw [<- hO4,zqa,z0b];rfl
         have HOl4:Hid (O4[O.length+(i1+4)]?=some (⟨Al,nl,cl,3,z0c ga⟩:Rw)):=by unfold Hid;rw [<- hO4,zqa,z0r _ _ (z0d HOL.out)];exact HOL.out
         have HNe:Hid (O.length+2≠OO.length+0):=by unfold Hid;omega
         have HNe2:Hid (O.length+2≠O.length+(i1+4)):=by unfold Hid;omega
         have HO4:=zh hO4;have HK4:Hid ((L++lvr V++VR.obs ⟨⟨kk,⟨v0,v1,v2,v3,v4,v5⟩,vc,vh,vx,vy⟩,B1,n1,d1,B2,n2,d2⟩)[k]?=some ⟨A3,n3*8,e3,fl l⟩):=by unfold Hid;rw [z0r _ _ (z0d HKl.out)];exact HKl.out
         have H4:Hid (R4el w0 g M (L++lvr V++VR.obs ⟨⟨kk,⟨v0,v1,v2,v3,v4,v5⟩,vc,vh,vx,vy⟩,B1,n1,d1,B2,n2,d2⟩) O4 ([(⟨Aov,V.length,cov,42,11,fvr V⟩:Rx),⟨As,ms,cs,40,8,fl (pk l la)⟩].set 0 ⟨Ao2,V.length+1,co2,42,11,fvr V++[.int .i64 kk,.int .i64 v0,.int .i64 v1,.int .i64 v2,.int .i64 v3,.int .i64 v4,.int .i64 v5,.int .i64 vc,.int .i64 vh,.slice B1 n1 d1,.slice B2 n2 d2]⟩) (O.length+2) w1.heap.size n3 ⟨kk,⟨v0,v1,v2,v3,v4,v5⟩,vc,vh,vx,vy⟩ l ga b (.int .i64 ((0:Nat):Int)) w8):=by
          refine ⟨0,zqr _,rfl,?_⟩
          unfold Hid;rw [List.take_zero,z7bb,z6ap HEr.out];exact HX8b
         clear HX7 HX8 HX8b hO4 hoe hvl;go_wp2_with fail;go_loopw [76] (fun x76 wr=>R4el w0 g M (L++lvr V++VR.obs ⟨⟨kk,⟨v0,v1,v2,v3,v4,v5⟩,vc,vh,vx,vy⟩,B1,n1,d1,B2,n2,d2⟩) O4 ([(⟨Aov,V.length,cov,42,11,fvr V⟩:Rx),⟨As,ms,cs,40,8,fl (pk l la)⟩].set 0 ⟨Ao2,V.length+1,co2,42,11,fvr V++[.int .i64 kk,.int .i64 v0,.int .i64 v1,.int .i64 v2,.int .i64 v3,.int .i64 v4,.int .i64 v5,.int .i64 vc,.int .i64 vh,.slice B1 n1 d1,.slice B2 n2 d2]⟩) (O.length+2) w1.heap.size n3 ⟨kk,⟨v0,v1,v2,v3,v4,v5⟩,vc,vh,vx,vy⟩ l ga b x76 wr) (fun x76 _=>nl+1 - (intOf x76).toNat)
         case atStart=>exact H4.out
         case round=>
          clear H4;obtain ⟨j2,hj1,rfl,HX⟩:=hrel;rw [HGa.out.2.1] at hj1;rcases Nat.eq_or_lt_of_le hj1 with heq|hlt
          ·have hd:decide ((j2:Int)<nl)=false:=zn (by omega)
           have hd2:decide (j2<nl)=false:=zn (by omega)
           obtain rfl:nl=j2:=heq.symm
           have htl:ga.take nl=ga:=zqp (Nat.le_of_eq HGa.out.2.1)
           rw [htl] at HX;clear heq hj1 htl;go_wp2_with fail;go_roundw
           case rel=>
            have hml:=z2bn ⟨kk,⟨v0,v1,v2,v3,v4,v5⟩,vc,vh,vx,vy⟩ l ga b
            rw [HLa.out] at hml;refine ⟨V++[⟨⟨kk,⟨v0,v1,v2,v3,v4,v5⟩,vc,vh,vx,vy⟩,B1,n1,d1,B2,n2,d2⟩],Ao2,co2,mrk ⟨kk,⟨v0,v1,v2,v3,v4,v5⟩,vc,vh,vx,vy⟩ l ga b,r+1,HRn.out,rfl,?_,?_,?_,?_,HEx.out.mark HGa.out.1 _,?_⟩
            ·rw [zqm];rfl
            ·unfold Hid;rw [hml];have h1:=HNx.out;have h2:=HLe.out;omega
            ·have h1:=HVm.out;rw [HGo.out] at h1;unfold Hid;rw [hml,List.map_append,zqa];exact h1
            ·have h1:=HRm.out;rw [HGo.out] at h1;unfold Hid;rw [hml];exact h1
            ·unfold Hid;have h1:=HX.out;rw [<- HO4.out,zqa OO,z1ba _ _ (z0d HOE.out)] at h1
             have h2:=h1.fewO.fewX (X:=[_])
             rw [<- HOO.out,z0o] at h2;rw [z3ah,z3au,zqm,<- zqa];exact h2
           case measure=>
            have:=HRn.out
            simp [intOf]
            omega
          ·have hd:decide ((j2:Int)<nl)=true:=zt (by omega)
           have hd2:decide (j2<nl)=true:=zt (by omega)
           have hjI:(j2:Int)<nl:=by omega
           have hw76:IntKind.i64.wrap ((j2:Int)+1)=((j2+1:Nat):Int):=by rw [IntWalk.i64_in _ (by omega)];omega
           obtain ⟨z,hz⟩:∃ z,ga[j2]?=some z:=⟨ga[j2]'(by rw [HGa.out.2.1];exact hlt),zql _⟩
           have hzn:z<n3:=HGa.out.2.2.2 z (List.mem_of_getElem? hz)
           have hzl:z<l.length:=by have:=HNl.out;omega
           have hzi:(z:Int)<n3:=by omega
           have HZn:Hid (z<n3/\(z:Int)<n3):=⟨hzn,hzi⟩
           have HZj:Hid (ga[j2]?=some z/\j2<nl):=⟨hz,hlt⟩
           have hR:=HX.out.ow.row (O.length+(i1+4)) (by rw [zqf HNe2.out];exact HOl4.out)
           obtain ⟨gl,hgl,_,_⟩:=z0n hR (by omega)
           obtain rfl:=hgl
           have e0:=hR.cells (g:=gl) rfl j2 (.int .i64 z) (by unfold z0c;rw [List.getElem?_map,hz];rfl)
           rw [z6n] at e0;obtain ⟨b3,hb3⟩:∃ y,mrk ⟨kk,⟨v0,v1,v2,v3,v4,v5⟩,vc,vh,vx,vy⟩ l (ga.take j2) b=y:=⟨_,rfl⟩
           rw [hb3] at HX;have HB3:=zh hb3;obtain ⟨b4,hb4⟩:∃ y,mrk ⟨kk,⟨v0,v1,v2,v3,v4,v5⟩,vc,vh,vx,vy⟩ l (ga.take (j2+1)) b=y:=⟨_,rfl⟩
           have HB4:=zh hb4;obtain ⟨x,hx⟩:∃ x,l[z]?=some x:=⟨l[z]'hzl,zql _⟩
           have HLx:Hid (l[z]?=some x):=hx
           obtain ⟨ad,rfl,q0,q1,q2,q3,q4,q5,q6,q7⟩:=z2v (HX.out.ow.sl HK4.out).2.2.2 hx
           obtain ⟨bb,hbb⟩:∃ y,decide (z3u kk x=z3u kk ⟨⟨v0,v1,v2,v3,v4,v5⟩,vc,0⟩)=y:=⟨_,rfl⟩
           have HDl:Hid (dlP kk ⟨⟨v0,v1,v2,v3,v4,v5⟩,vc,0⟩ l z=bb):=by
            unfold Hid dlP;rw [hx,<- hbb]
            show decide (_=_)=_
            exact decide_eq_decide.2 ⟨fun h=>h.symm,fun h=>h.symm⟩
           have HSm:=zh (fun W=>z9m kk HKd.out x ⟨⟨v0,v1,v2,v3,v4,v5⟩,vc,0⟩ W)
           rw [hbb] at HSm;obtain ⟨⟨x0,x1,x2,x3,x4,x5⟩,x6,x7⟩:=x
           simp only at q0 q1 q2 q3 q4 q5 q6 q7
           unfold Sn.vs at HSm;have e0b:=(HX.out.ow.row (O.length+2) (z0a (r':=exR w1.heap.size n3 b3) HEr.out)).cells (g:=w1.heap.size) rfl z _ (z7q hzn)
           rw [z6n] at e0b;cases hb:b3 z with
           | true=>
            have HB1:=zh hb;rw [hb] at e0b;have HB2:Hid ((exL b3 n3).set z (.bool true)=exL b4 n3):=by
             have h1:=HB1.out;rw [<- HB3.out] at h1;have h2:=z4aa ⟨kk,⟨v0,v1,v2,v3,v4,v5⟩,vc,vh,vx,vy⟩ l (ga.take j2) b z n3 (z7ba h1)
             unfold Hid;rw [<- HB4.out,z1o HZj.out.1,<- HB3.out];exact h2
            clear hb hR hz hx hzl hlt hj1 hb3 hb4 hbb;go_wp2_with fail;have HXq:=zh HX.out;have k0:=cell_regrown e0b
            have hvr:=HX.out.ow.row (OO.length+0) (by rw [zqf HNe.out];exact HVr.out)
            clear hvr HX e0 e0b q0 q1 q2 q3 q4 q5 q6 q7;refine z2s 21 (by kernel_rfl) (by kernel_rfl) ?_
            simp only [List.take_succ_cons,List.take_zero,List.drop_succ_cons,List.drop_zero]
            repeat (go_big_quiet_step (fail))
            refine wpQuiet_nil ?_
            intro W hW;have H5:=HXq.out.go (z0v hW)
            have hV:=z0a (r':=exR w1.heap.size n3 b3) HEr.out
            have y0:=(H5.ow.row (O.length+2) hV).cells (g:=w1.heap.size) rfl z _ (z7q HZn.out.1)
            rw [z6n] at y0;have fz:=(H5.ow.row (O.length+2) hV).frozenAt z
            have ho:=H5.putO (O.length+2) hV z (.bool true)
            rw [List.set_set,HB2.out] at ho;have HE:=zh ho;clear hW H5 hV ho HXq k0;go_wp2_with fail;go_roundw
            case rel=>
             refine ⟨j2+1,by rw [HGa.out.2.1];exact HZj.out.2,rfl,?_⟩
             unfold Hid;rw [HB4.out];exact HE.out
            case measure=>
             have:=HZj.out.2
             simp [intOf]
             omega
           | false=>
            have HB1:=zh hb;rw [hb] at e0b;have HB2:Hid ((exL b3 n3).set z (.bool bb)=exL b4 n3):=by
             have h1:=HB1.out;rw [<- HB3.out] at h1;have h2:=z4aa ⟨kk,⟨v0,v1,v2,v3,v4,v5⟩,vc,vh,vx,vy⟩ l (ga.take j2) b z n3 (z9be h1 HDl.out)
             unfold Hid;rw [<- HB4.out,z1o HZj.out.1,<- HB3.out];exact h2
            clear hb hR hz hx hzl hlt hj1 hb3 hb4 hbb;go_wp2_with fail;have HXq:=zh HX.out;have k0:=cell_regrown e0b
            have hvr:=HX.out.ow.row (OO.length+0) (by rw [zqf HNe.out];exact HVr.out)
            have v0c:=cell_regrown (hvr.cellAt 0 (by decide))
            have v1c:=cell_regrown (hvr.cellAt 1 (by decide))
            have v2c:=cell_regrown (hvr.cellAt 2 (by decide))
            have v3c:=cell_regrown (hvr.cellAt 3 (by decide))
            have v4c:=cell_regrown (hvr.cellAt 4 (by decide))
            have v5c:=cell_regrown (hvr.cellAt 5 (by decide))
            have v6c:=cell_regrown (hvr.cellAt 6 (by decide))
            have v7c:=cell_regrown (hvr.cellAt 7 (by decide))
            have l0c:=cell_regrown q0
            have l1c:=cell_regrown q1
            have l2c:=cell_regrown q2
            have l3c:=cell_regrown q3
            have l4c:=cell_regrown q4
            have l5c:=cell_regrown q5
            have l6c:=cell_regrown q6
            have l7c:=cell_regrown q7
            have c1:=z1i (P:=Tryz.prog) (w:=wr) (f:=23) (args:=#[.int .i64 kk,.agg #[.int .i64 x0,.int .i64 x1,.int .i64 x2,.int .i64 x3,.int .i64 x4,.int .i64 x5,.int .i64 x6,.int .i64 x7],.agg #[.int .i64 v0,.int .i64 v1,.int .i64 v2,.int .i64 v3,.int .i64 v4,.int .i64 v5,.int .i64 vc,.int .i64 0]]) (v:=.bool bb) (fun W _=>HSm.out W)
            clear hvr HX e0 e0b q0 q1 q2 q3 q4 q5 q6 q7;refine z2s 21 (by kernel_rfl) (by kernel_rfl) ?_
            simp only [List.take_succ_cons,List.take_zero,List.drop_succ_cons,List.drop_zero]
            repeat (go_big_quiet_step (with_reducible exact c1 _ _))
            refine wpQuiet_nil ?_
            intro W hW;have H5:=HXq.out.go (z0v hW)
            have hV:=z0a (r':=exR w1.heap.size n3 b3) HEr.out
            have y0:=(H5.ow.row (O.length+2) hV).cells (g:=w1.heap.size) rfl z _ (z7q HZn.out.1)
            rw [z6n] at y0;have fz:=(H5.ow.row (O.length+2) hV).frozenAt z
            have ho:=H5.putO (O.length+2) hV z (.bool bb)
            rw [List.set_set,HB2.out] at ho;have HE:=zh ho;clear hW H5 hV ho HXq k0 v0c l0c v1c l1c v2c l2c v3c l3c v4c l4c v5c l5c v6c l6c v7c l7c c1;go_wp2_with fail;go_roundw
            case rel=>
             refine ⟨j2+1,by rw [HGa.out.2.1];exact HZj.out.2,rfl,?_⟩
             unfold Hid;rw [HB4.out];exact HE.out
            case measure=>
             have:=HZj.out.2
             simp [intOf]
             omega
       ·have hd:decide ((j1:Int)<nl)=true:=zt (by omega)
        have hd2:decide (j1<nl)=true:=zt (by omega)
        have hjI:(j1:Int)<nl:=by omega
        have hw46:IntKind.i64.wrap ((j1:Int)+1)=((j1+1:Nat):Int):=by rw [IntWalk.i64_in _ (by omega)];omega
        obtain ⟨z,hz⟩:∃ z,ga[j1]?=some z:=⟨ga[j1]'(by rw [HGa.out.2.1];exact hlt),zql _⟩
        have hzn:z<n3:=HGa.out.2.2.2 z (List.mem_of_getElem? hz)
        have hzl:z<l.length:=by have:=HNl.out;omega
        have hzi:(z:Int)<n3:=by omega
        have HZj:Hid (ga[j1]?=some z/\j1<nl):=⟨hz,hlt⟩
        have hR:=HX.out.ow.row (O.length+(i1+4)) HOL.out
        obtain ⟨gl,hgl,_,_⟩:=z0n hR (by omega)
        obtain rfl:=hgl
        have e0:=hR.cells (g:=gl) rfl j1 (.int .i64 z) (by unfold z0c;rw [List.getElem?_map,hz];rfl)
        rw [z6n] at e0;have e1:=(HX.out.ow.row (O.length+2) HOE.out).cells (g:=w1.heap.size) rfl z _ (z7q hzn)
        rw [z6n] at e1;have hfl:=List.length_filter_le (fun z=>!b z) (ga.take j1)
        rw [HMs.out] at hfl;have htl:=List.length_take_le j1 ga
        cases hb:b z with
        | true=>
         rw [hb] at e1;have HBz:=zh hb;clear hb hR hz hzl hlt hj1 hfl htl;go_wp2_with fail;go_roundw
         case rel=>
          have e:((ga.take (j1+1)).filter fun z=>!b z)=(ga.take j1).filter fun z=>!b z:=by
           rw [z1o HZj.out.1,List.filter_append,List.filter_cons,HBz.out];exact List.append_nil _
          exact ⟨j1+1,As,cs,ms,by rw [HGa.out.2.1];exact HZj.out.2,rfl,rfl,by rw [e];exact HMs.out,by rw [e];exact HX.out⟩
         case measure=>
          have:=HZj.out.2
          simp [intOf]
          omega
        | false=>
         rw [hb] at e1;have HBz:=zh hb;obtain ⟨x,hx⟩:∃ x,l[z]?=some x:=⟨l[z]'hzl,zql _⟩
         have HLx:Hid (l[z]?=some x):=hx
         obtain ⟨a3,rfl,x0,x1,x2,x3,x4,x5,x6,x7⟩:=z2v (HX.out.ow.sl HKl.out).2.2.2 hx
         obtain ⟨⟨y0,y1,y2,y3,y4,y5⟩,y6,y7⟩:=x
         simp only at x0 x1 x2 x3 x4 x5 x6 x7
         have HX9:=zh (HX.out.arrO #[.int .i64 y0,.int .i64 y1,.int .i64 y2,.int .i64 y3,.int .i64 y4,.int .i64 y5,.int .i64 y6,.int .i64 y7] 8 rfl (by omega) 40)
         have HJl:ms<=40:=by omega
         clear hb hR hz hx hzl hlt hj1 HX hfl htl;go_wp2_with (at_builtin;refine z5s z2bx HX9.out 1 (.tmp 55) (.tmp 60) (m:=1) (news:=[.int .i64 y0,.int .i64 y1,.int .i64 y2,.int .i64 y3,.int .i64 y4,.int .i64 y5,.int .i64 y6,.int .i64 y7]) rfl rfl (fun j u hu=>by have:=(HX9.out.ow.row (OO.length+0) (zk rfl)).cells rfl j u hu;exact this) (z2an ⟨⟨y0,y1,y2,y3,y4,y5⟩,y6,y7⟩) (by unfold maxLen;omega) (by omega) rfl rfl rfl rfl ?_;intro A2' c2' w2' how2;have HX2:=zh how2;clear how2)
         go_roundw
         case rel=>
          have e:((ga.take (j1+1)).filter fun z=>!b z)=((ga.take j1).filter fun z=>!b z)++[z]:=by
           rw [z1o HZj.out.1,List.filter_append,List.filter_cons,HBz.out];rfl
          refine ⟨j1+1,A2',c2',ms+1,by rw [HGa.out.2.1];exact HZj.out.2,rfl,rfl,?_,?_⟩
          ·rw [e,zqm,HMs.out];rfl
          ·unfold Hid;rw [e,z0aa,z3bu HLx.out,z7p];exact HX2.out.fewO
         case measure=>
          have:=HZj.out.2
          simp [intOf]
          omega
 ·have g1:(er == 0)=false:=z1n he
  have g2:(er != 0)=true:=by rw [bne,g1];rfl
  have HJ:Hid (allS ⟨so,ch,ra,ba,ro,co⟩ p q l=([],[],er)):=by unfold Hid allS;rw [if_neg (by rw [her];exact he),her]
  have HE:=zh H1.fewO;clear H1 her he;go_wp2_with fail;refine bodyPost_ret (v:=.tuple #[.slice none 0 0,.slice none 0 0,.int .i64 er]) (by simp [results,Tryz.results27,go_sem]) rfl ?_
  rw [HJ.out];refine ⟨none,0,0,none,0,0,[],rfl,rfl,rfl,rfl,?_⟩
  have:=(HE.out.old (A:=none) (n:=0) (c:=0) (vs:=[]) (fun hh=>absurd hh (Nat.lt_irrefl _)) rfl (by omega) (by omega)).old (A:=none) (n:=0) (c:=0) (vs:=[]) (fun hh=>absurd hh (Nat.lt_irrefl _)) rfl (by omega) (by omega)
  rw [zqa] at this;exact this
namespace Cl
set_option maxHeartbeats 8000000
theorem z4bd:∀ (l:List VR)(i j:Nat)(x:VR),l[i]?=some x->j<11->(fvr l)[i*11+j]?=x.vs.toList[j]?
 | [],i,j,x,h,_=>by simp at h
 | y :: l,0,j,x,h,hj=>by
  obtain rfl:y=x:=by simpa using h
  show (y.vs.toList++fvr l)[0*11+j]?=_
  rw [Nat.zero_mul,Nat.zero_add,zqn hj]
 | y :: l,i+1,j,x,h,hj=>by
  show (y.vs.toList++fvr l)[(i+1)*11+j]?=_
  rw [zqo (show 11<=_ by omega)]
  have:=z4bd l i j x (by simpa using h) hj
  rw [show (i+1)*11+j - y.vs.toList.length=i*11+j by show (i+1)*11+j - 11=_;omega]
  exact this
def z0ch (w:World)(ad:Addr)(x:VR):Prop:=
 w.cell? ad=some (.int .i64 x.v.k)/\w.cell? ⟨ad.block,ad.off+1,none⟩=some (.int .i64 x.v.p.so)/\w.cell? ⟨ad.block,ad.off+2,none⟩=some (.int .i64 x.v.p.ch)/\w.cell? ⟨ad.block,ad.off+3,none⟩=some (.int .i64 x.v.p.ra)/\w.cell? ⟨ad.block,ad.off+4,none⟩=some (.int .i64 x.v.p.ba)/\w.cell? ⟨ad.block,ad.off+5,none⟩=some (.int .i64 x.v.p.ro)/\w.cell? ⟨ad.block,ad.off+6,none⟩=some (.int .i64 x.v.p.co)/\w.cell? ⟨ad.block,ad.off+7,none⟩=some (.int .i64 x.v.cp)/\w.cell? ⟨ad.block,ad.off+8,none⟩=some (.int .i64 x.v.h)/\w.cell? ⟨ad.block,ad.off+9,none⟩=some (.slice x.A1 x.n1 x.c1)/\w.cell? ⟨ad.block,ad.off+10,none⟩=some (.slice x.A2 x.n2 x.c2)
theorem z2af {w:World}{B:Nat}{A:Option Addr}{l:List VR}(h:Sl w B A (fvr l)){i:Nat}{x:VR}(hx:l[i]?=some x):
  ∃ ad,A=some ad/\z0ch w (ad.add (i*11)) x:=by
 have hi:=z0d hx
 obtain ⟨ad,e,hb,hc⟩:=h (by rw [z2ac];omega)
 have key:∀ j u,j<11->x.vs.toList[j]?=some u->w.cell? ((ad.add (i*11)).add j)=some u:=fun j u hj hu=>by
  rw [add_add];exact hc _ u (by rw [z4bd l i j x hx hj];exact hu)
 exact ⟨ad,e,key 0 _ (by omega) rfl,key 1 _ (by omega) rfl,key 2 _ (by omega) rfl,key 3 _ (by omega) rfl,key 4 _ (by omega) rfl,key 5 _ (by omega) rfl,key 6 _ (by omega) rfl,key 7 _ (by omega) rfl,key 8 _ (by omega) rfl,key 9 _ (by omega) rfl,key 10 _ (by omega) rfl⟩
theorem z8av {V:List VR}{x:VR}(h:x∈V):∀ o∈x.obs,o∈lvr V:=fun o ho=>List.mem_flatMap.2 ⟨x,h,ho⟩
end Cl
def RSa (w0:World)(g:Option Nat)(M:List (Nat×Value))(L:List Ob)(O:List Rw)(n:Nat)(x14:Value)(wr:World):Prop:=
 ∃ i:Nat,i<=n/\x14=.int .i64 i/\Hid (Ow w0 wr g M L O)
theorem z7a {w0 w:World}{g:Option Nat}{M:List (Nat×Value)}{L:List Ob}{O:List Rw}(h:Ow w0 w g M L O)(i j:Nat){A A2:Option Addr}{n m m2 e1 e2 c2 d:Nat}{V U:List VR}(hV:V.map VR.v=U.map VR.v)(hn:V.length=n)(hi:L[i]?=some ⟨A,m,e1,fvr V⟩)(hj:L[j]?=some ⟨A2,m2,e2,fvr U⟩)(hlV:∀ o∈lvr V,o∈L)(hlU:∀ o∈lvr U,o∈L):
  Calls Tryz.prog 28 #[.slice A n c2,.slice A2 n d] w fun e w'=>e=.returned (.bool true)/\Ow w0 w' g M L O:=by
 have hn1:n*11<=1000:=by
  have:=(h.sl hi).1
  have h2:=(h.sl hi).2.2.1
  rw [z2ac] at this;omega
 have hU:U.length=n:=by
  have:=congrArg List.length hV
  rw [List.length_map,List.length_map] at this;omega
 have HO:=zh h;have HI:=zh hi;have HJ:=zh hj;have HL:Hid (V.length=n/\U.length=n/\n*11<=1000/\V.map VR.v=U.map VR.v):=⟨hn,hU,hn1,hV⟩
 have HM:Hid ((∀ o∈lvr V,o∈L)/\(∀ o∈lvr U,o∈L)):=⟨hlV,hlU⟩
 clear h hi hj hn hn1 hU hV hlV hlU;go_enter Tryz.func28,Tryz.ntmps28
 go_wp2_with fail;go_loopw [14] (fun x14 wr=>RSa w0 g M L O n x14 wr) (fun x14 _=>n+1 - (intOf x14).toNat)
 case atStart=>exact ⟨0,zqr _,rfl,HO.out⟩
 case round=>
  clear HO;obtain ⟨k,hk,rfl,HO⟩:=hrel;rcases Nat.eq_or_lt_of_le hk with heq|hlt
  ·have hd:decide ((k:Int)<n)=false:=zn (by omega)
   have hd2:decide (k<n)=false:=zn (by omega)
   clear heq hk;go_wp2_with fail;go_ret;exact ⟨rfl,HO.out⟩
  ·have hd:decide ((k:Int)<n)=true:=zt (by omega)
   have hd2:decide (k<n)=true:=zt (by omega)
   have hkI:(k:Int)<n:=by omega
   have hw1:IntKind.i64.wrap ((k:Int)+1)=((k+1:Nat):Int):=by rw [IntWalk.i64_in _ (by have:=HL.out.2.2.1;omega)];omega
   obtain ⟨x,hx⟩:∃ x,V[k]?=some x:=⟨V[k]'(by rw [HL.out.1];exact hlt),zql _⟩
   obtain ⟨y,hy⟩:∃ y,U[k]?=some y:=⟨U[k]'(by rw [HL.out.2.1];exact hlt),zql _⟩
   have hxy:x.v=y.v:=by
    have h1:=congrArg (fun t=>t[k]?) HL.out.2.2.2
    simp only [List.getElem?_map,hx,hy,Option.map_some,Option.some.injEq] at h1;exact h1
   obtain ⟨a1,rfl,e0,e1,e2,e3,e4,e5,e6,e7,e8,e9,e10⟩:=z2af (HO.out.sl HI.out).2.2.2 hx
   obtain ⟨ad2,rfl,-⟩:=z2af (HO.out.sl HJ.out).2.2.2 hy
   have hmx:=z8av (List.mem_of_getElem? hx)
   have hmy:=z8av (List.mem_of_getElem? hy)
   obtain ⟨⟨kk,⟨v0,v1,v2,v3,v4,v5⟩,vc,vh,vx,vy⟩,B1,n1,d1,B2,n2,d2⟩:=x
   obtain ⟨yv,C1,m1,f1,C2,m2,f2⟩:=y;simp only at hxy e0 e1 e2 e3 e4 e5 e6 e7 e8 e9 e10
   subst hxy
   obtain ⟨i1,hi1⟩:=List.getElem?_of_mem (HM.out.1 _ (hmx _ List.mem_cons_self))
   obtain ⟨i2,hi2⟩:=List.getElem?_of_mem (HM.out.1 _ (hmx _ (List.mem_cons_of_mem _ List.mem_cons_self)))
   obtain ⟨i3,hi3⟩:=List.getElem?_of_mem (HM.out.2 _ (hmy _ List.mem_cons_self))
   obtain ⟨i4,hi4⟩:=List.getElem?_of_mem (HM.out.2 _ (hmy _ (List.mem_cons_of_mem _ List.mem_cons_self)))
   have HSm:Hid (∀ (W:World),Ow W W none [] L []->Calls Tryz.prog 17 #[.agg #[.int .i64 kk,.int .i64 v0,.int .i64 v1,.int .i64 v2,.int .i64 v3,.int .i64 v4,.int .i64 v5,.int .i64 vc,.int .i64 vh,.slice B1 n1 d1,.slice B2 n2 d2],.agg #[.int .i64 kk,.int .i64 v0,.int .i64 v1,.int .i64 v2,.int .i64 v3,.int .i64 v4,.int .i64 v5,.int .i64 vc,.int .i64 vh,.slice C1 m1 f1,.slice C2 m2 f2]] W fun e w'=>e=.returned (.bool true)/\Ow W w' none [] L []):=fun W hW=>z8bq ⟨kk,⟨v0,v1,v2,v3,v4,v5⟩,vc,vh,vx,vy⟩ hW i1 i2 i3 i4 hi1 hi2 hi3 hi4
   have H1:=HO.out.arr #[.int .i64 kk,.int .i64 v0,.int .i64 v1,.int .i64 v2,.int .i64 v3,.int .i64 v4,.int .i64 v5,.int .i64 vc,.int .i64 vh,.slice B1 n1 d1,.slice B2 n2 d2] 11 rfl (by omega) 42
   obtain ⟨OO,hOO⟩:∃ z,O++[(⟨some ⟨wr.heap.size,0,none⟩,11,11,42,[.int .i64 kk,.int .i64 v0,.int .i64 v1,.int .i64 v2,.int .i64 v3,.int .i64 v4,.int .i64 v5,.int .i64 vc,.int .i64 vh,.slice B1 n1 d1,.slice B2 n2 d2]⟩:Rw)]=z:=⟨_,rfl⟩
   have HBx:Hid (OO[O.length+0]?=some (⟨some ⟨wr.heap.size,0,none⟩,11,11,42,[.int .i64 kk,.int .i64 v0,.int .i64 v1,.int .i64 v2,.int .i64 v3,.int .i64 v4,.int .i64 v5,.int .i64 vc,.int .i64 vh,.slice B1 n1 d1,.slice B2 n2 d2]⟩:Rw)):=by unfold Hid;rw [<- hOO,z0b];rfl
   have HS1:Hid (Ow w0 (wr.alloc (.cells #[.int .i64 kk,.int .i64 v0,.int .i64 v1,.int .i64 v2,.int .i64 v3,.int .i64 v4,.int .i64 v5,.int .i64 vc,.int .i64 vh,.slice B1 n1 d1,.slice B2 n2 d2] 42)) g M L OO):=by unfold Hid;rw [<- hOO];exact H1
   have HOO:=zh hOO;have HY:=zh hy;have HKn:Hid (k<n/\(k:Int)<n):=⟨hlt,hkI⟩
   have hvr:=HS1.out.row (O.length+0) HBx.out
   obtain ⟨ad3,hae,p0,p1,p2,p3,p4,p5,p6,p7,p8,p9,p10⟩:=z2af (HS1.out.sl HJ.out).2.2.2 hy
   obtain rfl:=zqk hae
   simp only at p0 p1 p2 p3 p4 p5 p6 p7 p8 p9 p10
   have x0c:=cell_regrown (hvr.cellAt 0 (by decide))
   have l0c:=cell_regrown (w:=wr.alloc (.cells #[.int .i64 kk,.int .i64 v0,.int .i64 v1,.int .i64 v2,.int .i64 v3,.int .i64 v4,.int .i64 v5,.int .i64 vc,.int .i64 vh,.slice B1 n1 d1,.slice B2 n2 d2] 42)) p0
   have x1c:=cell_regrown (hvr.cellAt 1 (by decide))
   have l1c:=cell_regrown (w:=wr.alloc (.cells #[.int .i64 kk,.int .i64 v0,.int .i64 v1,.int .i64 v2,.int .i64 v3,.int .i64 v4,.int .i64 v5,.int .i64 vc,.int .i64 vh,.slice B1 n1 d1,.slice B2 n2 d2] 42)) p1
   have x2c:=cell_regrown (hvr.cellAt 2 (by decide))
   have l2c:=cell_regrown (w:=wr.alloc (.cells #[.int .i64 kk,.int .i64 v0,.int .i64 v1,.int .i64 v2,.int .i64 v3,.int .i64 v4,.int .i64 v5,.int .i64 vc,.int .i64 vh,.slice B1 n1 d1,.slice B2 n2 d2] 42)) p2
   have x3c:=cell_regrown (hvr.cellAt 3 (by decide))
   have l3c:=cell_regrown (w:=wr.alloc (.cells #[.int .i64 kk,.int .i64 v0,.int .i64 v1,.int .i64 v2,.int .i64 v3,.int .i64 v4,.int .i64 v5,.int .i64 vc,.int .i64 vh,.slice B1 n1 d1,.slice B2 n2 d2] 42)) p3
   have x4c:=cell_regrown (hvr.cellAt 4 (by decide))
   have l4c:=cell_regrown (w:=wr.alloc (.cells #[.int .i64 kk,.int .i64 v0,.int .i64 v1,.int .i64 v2,.int .i64 v3,.int .i64 v4,.int .i64 v5,.int .i64 vc,.int .i64 vh,.slice B1 n1 d1,.slice B2 n2 d2] 42)) p4
   have x5c:=cell_regrown (hvr.cellAt 5 (by decide))
   have l5c:=cell_regrown (w:=wr.alloc (.cells #[.int .i64 kk,.int .i64 v0,.int .i64 v1,.int .i64 v2,.int .i64 v3,.int .i64 v4,.int .i64 v5,.int .i64 vc,.int .i64 vh,.slice B1 n1 d1,.slice B2 n2 d2] 42)) p5
   have x6c:=cell_regrown (hvr.cellAt 6 (by decide))
   have l6c:=cell_regrown (w:=wr.alloc (.cells #[.int .i64 kk,.int .i64 v0,.int .i64 v1,.int .i64 v2,.int .i64 v3,.int .i64 v4,.int .i64 v5,.int .i64 vc,.int .i64 vh,.slice B1 n1 d1,.slice B2 n2 d2] 42)) p6
   have x7c:=cell_regrown (hvr.cellAt 7 (by decide))
   have l7c:=cell_regrown (w:=wr.alloc (.cells #[.int .i64 kk,.int .i64 v0,.int .i64 v1,.int .i64 v2,.int .i64 v3,.int .i64 v4,.int .i64 v5,.int .i64 vc,.int .i64 vh,.slice B1 n1 d1,.slice B2 n2 d2] 42)) p7
   have x8c:=cell_regrown (hvr.cellAt 8 (by decide))
   have l8c:=cell_regrown (w:=wr.alloc (.cells #[.int .i64 kk,.int .i64 v0,.int .i64 v1,.int .i64 v2,.int .i64 v3,.int .i64 v4,.int .i64 v5,.int .i64 vc,.int .i64 vh,.slice B1 n1 d1,.slice B2 n2 d2] 42)) p8
   have x9c:=cell_regrown (hvr.cellAt 9 (by decide))
   have l9c:=cell_regrown (w:=wr.alloc (.cells #[.int .i64 kk,.int .i64 v0,.int .i64 v1,.int .i64 v2,.int .i64 v3,.int .i64 v4,.int .i64 v5,.int .i64 vc,.int .i64 vh,.slice B1 n1 d1,.slice B2 n2 d2] 42)) p9
   have x10c:=cell_regrown (hvr.cellAt 10 (by decide))
   have l10c:=cell_regrown (w:=wr.alloc (.cells #[.int .i64 kk,.int .i64 v0,.int .i64 v1,.int .i64 v2,.int .i64 v3,.int .i64 v4,.int .i64 v5,.int .i64 vc,.int .i64 vh,.slice B1 n1 d1,.slice B2 n2 d2] 42)) p10
   have c1:=z1i (P:=Tryz.prog) (w:=wr.alloc (.cells #[.int .i64 kk,.int .i64 v0,.int .i64 v1,.int .i64 v2,.int .i64 v3,.int .i64 v4,.int .i64 v5,.int .i64 vc,.int .i64 vh,.slice B1 n1 d1,.slice B2 n2 d2] 42)) (f:=17) (args:=#[.agg #[.int .i64 kk,.int .i64 v0,.int .i64 v1,.int .i64 v2,.int .i64 v3,.int .i64 v4,.int .i64 v5,.int .i64 vc,.int .i64 vh,.slice B1 n1 d1,.slice B2 n2 d2],.agg #[.int .i64 kk,.int .i64 v0,.int .i64 v1,.int .i64 v2,.int .i64 v3,.int .i64 v4,.int .i64 v5,.int .i64 vc,.int .i64 vh,.slice C1 m1 f1,.slice C2 m2 f2]]) (v:=.bool true) (fun W hW=>(HSm.out W (HS1.out.go hW).self).mono fun e w h=>⟨h.1,h.2.below⟩)
   clear hae hx hy hmx hmy hi1 hi2 hi3 hi4 H1 hOO hlt hk HO hvr p0 p1 p2 p3 p4 p5 p6 p7 p8 p9 p10;go_wp2_with fail;refine wp_region_quiet_below (by kernel_rfl) (by kernel_rfl) ?_
   repeat (go_big_quiet_step (with_reducible exact c1 _ _))
   refine wpQuiet_nil ?_
   intro W hW;have HE:=zh (HS1.out.go (z0v hW))
   clear hW c1 HS1 x0c l0c x1c l1c x2c l2c x3c l3c x4c l4c x5c l5c x6c l6c x7c l7c x8c l8c x9c l9c x10c l10c;go_wp2_with fail;go_roundw
   case rel=>
    refine ⟨k+1,HKn.out.1,rfl,?_⟩
    have h1:=HE.out;rw [<- HOO.out] at h1;exact h1.fewO
   case measure=>
    have:=HKn.out.1
    simp [intOf]
    omega
end Go.Proofs.YtpmofjomadibmaaGreatDoor
