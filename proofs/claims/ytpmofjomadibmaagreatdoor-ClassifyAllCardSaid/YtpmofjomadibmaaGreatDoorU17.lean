/- Tv Tw Td -/
import Derived.Test.YtpmofjomadibmaaGreatDoorU16
namespace Go.Proofs.YtpmofjomadibmaaGreatDoor
set_option maxHeartbeats 16000000
open Go.RowKit Go.Sort
set_option linter.unusedVariables false
set_option maxRecDepth 100000
def Elm (P:Program)(t e:TypeId)(bytes:Nat):Prop:=P.underlying t=some (.slice e)/\∃ (i:TypeInfo) (z:Value),P.info? e=some i/\i.zero=some z/\z.cells.size=1/\i.size=1/\i.bytes=bytes
section
variable {P:Program}{w0 w:World}{g:Option Nat}{M:List (Nat×Value)}{L:List Ob}{O:List Rw}{t e:TypeId}{bytes:Nat}
theorem z1an {o:Oper}{a:Act}{K:Act->World->Prop}{Q:Exit->Act->World->Prop}(hE:Elm P t e bytes)(h:Ow w0 w g M L O)(i:Nat)(s x:Operand)(v:Value)(tt:TypeId){A:Option Addr}{n c:Nat}{xs:List Value}(hi:O[i]?=some ⟨A,n,c,e,xs⟩)
  (h1:v.oneCell'=true) (h63:n+1<=maxLen) (hbytes:(n+1)*bytes<=140737488355328)
  (ho:o.op=.call { callee:=.builtin .append,args:=#[s,x],argTypes:=#[t,t] }) (hs:a.eval s=.slice A n c) (hx:a.eval x=.slice (some ⟨w.heap.size,0,none⟩) 1 1)
  (hk:∀ A' c' w',Ow w0 w' g M L (O.set i ⟨A',n+1,c',e,xs++[v]⟩)->K (a.put o.dst (.slice A' (n+1) c')) w'):o.wp P a (w.alloc (.cells #[v] tt)) K Q:=by
 obtain ⟨ht,inf,z,hi0,hz,hzc,hsz,hby⟩:=hE;have h':=h.go (z0i w (.cells #[v] tt))
 exact z4k (w.alloc (.cells #[v] tt)) s x t ho w0.heap.size e inf z bytes ht hi0 hz hsz hby hzc A n c xs hs (h'.own i _ hi) _ _ 1 1 [v] hx rfl (z2c w tt v) (fun u hu=>by rw [List.mem_singleton] at hu;subst hu;exact h1) h63 hbytes h'.size fun A' c' w' h2 h3 h4=>
  hk A' c' w' (h'.turn i hi (r':=⟨A',n+1,c',e,xs++[v]⟩) h3 h2 h4)
theorem z1v {ops:Array Oper}{rest:List Oper}{o:Oper}{a:Act}{Q:Exit->Act->World->Prop}(hE:Elm P t e bytes)(h:Ow w0 w g M L O)(i:Nat)(s x:Operand)(v:Value)(tt:TypeId){A:Option Addr}{n c:Nat}{xs:List Value}(hi:O[i]?=some ⟨A,n,c,e,xs⟩)
  (h1:v.oneCell'=true) (h63:n+1<=maxLen) (hbytes:(n+1)*bytes<=140737488355328)
  (hgd:o.guard=none) (ho:o.op=.call { callee:=.builtin .append,args:=#[s,x],argTypes:=#[t,t] }) (hs:a.eval s=.slice A n c) (hx:a.eval x=.slice (some ⟨w.heap.size,0,none⟩) 1 1)
  (hk:∀ A' c' w',Ow w0 w' g M L (O.set i ⟨A',n+1,c',e,xs++[v]⟩)->wpList P ops Q rest (a.put o.dst (.slice A' (n+1) c')) w'):wpList P ops Q (o :: rest) a (w.alloc (.cells #[v] tt)):=by
 obtain ⟨ht,inf,z,hi0,hz,hzc,hsz,hby⟩:=hE;have h':=h.go (z0i w (.cells #[v] tt))
 exact z0h (w.alloc (.cells #[v] tt)) hgd s x t ho w0.heap.size e inf z bytes ht hi0 hz hsz hby hzc A n c xs hs (h'.own i _ hi) _ _ 1 1 [v] hx rfl (z2c w tt v) (fun u hu=>by rw [List.mem_singleton] at hu;subst hu;exact h1) h63 hbytes h'.size fun A' c' w' h2 h3 h4=>
  hk A' c' w' (h'.turn i hi (r':=⟨A',n+1,c',e,xs++[v]⟩) h3 h2 h4)
end
theorem elmN:Elm Tryz.prog 73 25 24:=by
 obtain ⟨i0,hi,hz0,hz1,hz2⟩:=info_parts z9bl
 exact ⟨Tryz.underlying73,i0,_,hi,hz0,rfl,hz1,hz2⟩
theorem elmR:Elm Tryz.prog 75 73 24:=by
 obtain ⟨i0,hi,hz0,hz1,hz2⟩:=info_parts z9bk
 exact ⟨Tryz.underlying75,i0,_,hi,hz0,rfl,hz1,hz2⟩
def URow (L:List Ob)(v:Value)(i:Nat):Prop:=∃ (A:Option Addr) (c t:Nat) (vs:List Value),v=.slice A (i+1) c/\L[t]?=some ⟨A,i+1,c,vs⟩/\∀ k,k<=i->∃ u,vs[k]?=some u/\NumIn L u (Na.bin i k)
theorem URow.more {L l:List Ob}{v:Value}{i:Nat}(h:URow L v i):URow (L++l) v i:=by
 obtain ⟨A,c,t,vs,h1,h2,h3⟩:=h;exact ⟨A,c,t,vs,h1,by rw [zqn (z0d h2)];exact h2,fun k hk=>by
  obtain ⟨u,a,b⟩:=h3 k hk
  exact ⟨u,a,b.more⟩⟩
def URows (L:List Ob)(vs:List Value)(m:Nat):Prop:=∀ i,i<m->∃ u,vs[i]?=some u/\URow L u i
theorem URows.more {L l:List Ob}{vs:List Value}{m:Nat}(h:URows L vs m):URows (L++l) vs m:=fun i hi=>by
 obtain ⟨u,a,b⟩:=h i hi
 exact ⟨u,a,b.more⟩
theorem z5m {α:Type}{l:List α}{v:α}{i:Nat}(h:i<l.length):(l++[v])[i]?=l[i]?:=zqn h
theorem z5n {α:Type}(l:List α)(v:α):(l++[v])[l.length]?=some v:=by rw [zqo (zqj _),Nat.sub_self];rfl
theorem URows.snoc {L:List Ob}{vs:List Value}{m:Nat}{v:Value}(h:URows L vs m)(hl:vs.length=m)(hv:URow L v m):URows L (vs++[v]) (m+1):=fun i hi=>by
 rcases zqi i m with h1|h1
 ·obtain ⟨u,a,b⟩:=h i h1
  exact ⟨u,by rw [z5m (by omega)];exact a,b⟩
 ·obtain rfl:i=m:=by omega
  subst hl
  exact ⟨v,z5n _ _,hv⟩
theorem TFst.snoc {L:List Ob}{xs:List Value}{i k:Nat}{v:Value}(h:TFst L xs i k)(hl:xs.length=k)(hv:NumIn L v (Na.bin i k)):TFst L (xs++[v]) i (k+1):=fun q hq=>by
 rcases zqi q k with h1|h1
 ·obtain ⟨u,a,b⟩:=h q h1
  exact ⟨u,by rw [z5m (by omega)];exact a,b⟩
 ·obtain rfl:q=k:=by omega
  subst hl
  exact ⟨v,z5n _ _,hv⟩
def USets (L:List Ob)(A:Option Addr)(c m:Nat):Prop:=∃ (t:Nat) (vs:List Value),L[t]?=some ⟨A,m+1,c,vs⟩/\URows L vs (m+1)
theorem USets.more {L l:List Ob}{A:Option Addr}{c m:Nat}(h:USets L A c m):USets (L++l) A c m:=by
 obtain ⟨t,vs,h2,h3⟩:=h;exact ⟨t,vs,by rw [zqn (z0d h2)];exact h2,h3.more⟩
def RUp (w0:World)(g:Option Nat)(M:List (Nat×Value))(L:List Ob)(O:List Rw)(m:Nat)(v3 v9:Value)(wr:World):Prop:=
 ∃ (i:Nat) (A:Option Addr) (c:Nat) (vs:List Value) (Ls:List Ob),i<=m+1/\v3=.slice A i c/\v9=.int .i64 i/\Hid (URows (L++Ls) vs i)/\Hid (Ow w0 wr g M (L++Ls) (O++[⟨A,i,c,73,vs⟩]))
def RUq (w0:World)(g:Option Nat)(M:List (Nat×Value))(L:List Ob)(O:List Rw)(A:Option Addr)(c:Nat)(vs:List Value)(i:Nat)(v5 v6:Value)(wr:World):Prop:=
 ∃ (j:Nat) (B:Option Addr) (d:Nat) (xs:List Value) (Ls:List Ob),1<=j/\(j=1∨j<=i)/\v5=.slice B j d/\v6=.int .i64 j/\Hid (URows (L++Ls) vs i/\TFst (L++Ls) xs i j)/\Hid (Ow w0 wr g M (L++Ls) (O++[⟨A,i,c,73,vs⟩,⟨B,j,d,25,xs⟩]))
section
variable {w0 w w':World}{g:Option Nat}{M M2:List (Nat×Value)}{L:List Ob}{O:List Rw}{A A2 A3 A4:Option Addr}{b n c m c2 n3 c3 n4 c4 x y:Nat}{p q r s:List Int}
theorem z7ae (h:Ow w0 w g M L O):Calls Tryz.prog 39 #[.int .i64 1] w (GotU w0 g M L O (Na.dig 1)):=r_of h 1 (by omega)
theorem z6o {ob i c i1 k1 k t j d n:Nat}{ad:Addr}{ys xs ws:List Value}{u x1 x2:Value}{e1 e2:TypeId}{B:Option Addr}(h:Ow w0 w g M L (O++[⟨some ⟨ob,0,none⟩,i,c,e1,ys⟩,⟨B,j,d,e2,xs⟩]))(h2:ys[i1]?=some u)(ht:L[t]?=some ⟨some ad,n,c2,ws⟩)(h3:ws[k1]?=some x1)(h4:ws[k]?=some x2)(hi1:i1<i):
  w.cell? ⟨ob,i1,none⟩=some u/\w.cell? (ad.add k1)=some x1/\w.cell? (ad.add k)=some x2:=
 ⟨z2a h (i:=O.length+0) (zk rfl) h2 (by omega),(h.sl ht).2.2.2.c h3,(h.sl ht).2.2.2.c h4⟩
theorem z1bh (h:Ow w0 w g M L O)(m:Nat)(hm:m<=40):
  Calls Tryz.prog 40 #[.int .i64 m] w fun e w'=>∃ (A:Option Addr) (c:Nat) (Ls:List Ob),e=.returned (.slice A (m+1) c)/\Ow w0 w' g M (L++Ls) O/\USets (L++Ls) A c m:=by
 have HO:=zh (h.nil 73)
 clear h;go_enter Tryz.func40,Tryz.ntmps40
 go_wp2_with fail;go_loopw [3,9] (fun v3 v9 wr=>RUp w0 g M L O m v3 v9 wr) (fun _ v9 _=>m+2 - (intOf v9).toNat)
 case atStart=>exact ⟨0,none,0,[],[],by omega,rfl,rfl,fun i hi=>absurd hi (by omega),by rw [List.append_nil];exact HO.out⟩
 case round=>
  clear HO;obtain ⟨i,A,c,vs,Ls,hi,rfl,rfl,HV,HO⟩:=hrel;have hlv:vs.length=i:=z1m (HO.out.row (O.length+0) (zk rfl))
  rcases Nat.eq_or_lt_of_le hi with he|hlt
  ·subst he
   have hd:decide (((m+1:Nat):Int)<(m:Int)+1)=false:=zn (by omega)
   have hd2:decide (m+1<m+1)=false:=zn (by omega)
   go_wp2_with fail;have hk:=HO.out.keep (O.length+0) (zk rfl) (by omega)
   rw [z0o,zqd] at hk;have hr:=hk.fewO;rw [zqa] at hr;refine bodyPost_ret (v:=.slice A (m+1) c) (by simp [results,Tryz.results40,go_sem]) rfl ?_
   refine ⟨A,c,Ls++[⟨A,m+1,c,vs⟩],rfl,hr,L.length+Ls.length,vs,?_,?_⟩
   ·rw [<- zqa,<- zqm,zqo (zqj _),Nat.sub_self];rfl
   ·rw [<- zqa];exact URows.more HV.out
  ·have hd:decide ((i:Int)<m+1)=true:=zt (by omega)
   have hd2:decide (i<m+1)=true:=zt hlt
   have hi40:i<=40:=by omega
   have HC:=zh (z7ae HO.out)
   clear HO;go_wp2_with fail;refine HC.out.mono ?_;rintro e w1 ⟨B0,n0,c0,rfl,G⟩;have H:=G.lit1 (.slice B0 n0 c0) 25
   rw [zqa O,zqa L] at H;have HO:=zh H;have HV1:Hid (URows (L++(Ls++[(⟨B0,n0,c0,z0c (Na.dig 1)⟩:Ob)])) vs i/\TFst (L++(Ls++[(⟨B0,n0,c0,z0c (Na.dig 1)⟩:Ob)])) [.slice B0 n0 c0] i 1):=by
    rw [<- zqa];refine ⟨HV.out.more,fun q hq=>?_⟩
    obtain rfl:q=0:=by omega
    exact ⟨_,rfl,B0,n0,c0,(L++Ls).length+0,rfl,by rw [z0b];rw [Na.bin_zero];rfl⟩
   clear HC G H HV;go_wp2_with fail;go_loopw [5,6] (fun v5 v6 wr=>RUq w0 g M L O A c vs i v5 v6 wr) (fun _ v6 _=>i+2 - (intOf v6).toNat)
   case atStart=>exact ⟨1,_,_,_,_,zqj _,.inl rfl,rfl,rfl,HV1,HO⟩
   case round=>
    clear HO HV1;obtain ⟨j,B,d,xs,Lt,hj1,hji,rfl,rfl,HV,HO⟩:=hrel;have hlx:xs.length=j:=z1m (HO.out.row (O.length+1) (zk rfl))
    rcases zqi j i with hlt2|hge
    ·have hd3:decide ((j:Int)<i)=true:=zt (by omega)
     have hd4:decide (j<i)=true:=zt hlt2
     obtain ⟨i1,hi1⟩:∃ z,i=z+1:=⟨i - 1,by omega⟩
     obtain ⟨j1,hj2⟩:∃ z,j=z+1:=⟨j - 1,by omega⟩
     obtain ⟨ob,rfl,-,-⟩:=z0n (HO.out.row (O.length+0) (zk rfl)) (by omega)
     obtain ⟨u,hu,AR,cR,t,ws,rfl,ht,hnum⟩:=HV.out.1 i1 (by omega)
     obtain ⟨x1,hx1,X1,a1,b1,p1,rfl,hp1⟩:=hnum j1 (by omega)
     obtain ⟨x2,hx2,X2,a2,b2,p2,rfl,hp2⟩:=hnum j (by omega)
     obtain ⟨ad,rfl,-,-⟩:=(HO.out.sl ht).2.2.2.at_ (k:=0) (by rw [(HO.out.sl ht).1];omega)
     have hsum:Na.bin i1 j1+Na.bin i1 j=Na.bin i j:=by rw [hi1,hj2,Na.bin_succ]
     have htop:∀ a b,a<=40->Na.bin a b<Na.top:=fun a b h=>z3y (bin_two a b) (by omega)
     have HD:=zh HO.out.drew;have HC:=zh (z3bq HD.out p1 p2 hp1 hp2 (htop _ _ (by omega)) (htop _ _ (by omega)) (by rw [hsum];exact htop _ _ (by omega)))
     rw [hsum] at HC;have e1:(i:Int) - 1=(i1:Int):=by omega
     have e2:(j:Int) - 1=(j1:Int):=by omega
     have w1':IntKind.i64.wrap ((i:Int) - 1)=(i1:Int):=by rw [e1];exact IntWalk.i64_in _ (by omega)
     have w2':IntKind.i64.wrap ((j:Int) - 1)=(j1:Int):=by rw [e2];exact IntWalk.i64_in _ (by omega)
     have hi1':i1<=40:=by omega
     have hj1':j1<=40:=by omega
     have b1':i1<i:=by omega
     have b2':j1<i1+1:=by omega
     have b3':j<i1+1:=by omega
     have q1:(0:Int)<=(i1:Int):=by omega
     have q2:(i1:Int)<i:=by omega
     have q3:(0:Int)<=(j1:Int):=by omega
     have q4:(j1:Int)<i1+1:=by omega
     have q5:(0:Int)<=(j:Int):=by omega
     have q6:(j:Int)<i1+1:=by omega
     have c0:=z6o HD.out hu ht hx1 hx2 (by omega)
     have HI:=zh (And.intro hi1 hj2)
     clear HO hi1 hj2 e1 e2 hsum htop hp1 hp2;go_upto_region 9 with (fail)
     go_region_held3 (fun W=>W.cell? ⟨ob,i1,none⟩=some (.slice (some ad) (i1+1) cR)/\W.cell? (ad.add j1)=some (.slice X1 a1 b1)/\W.cell? (ad.add j)=some (.slice X2 a2 b2)) (first|exact c0|exact z6o how hu ((z0r _ _ (z0d ht)).trans ht) hx1 hx2 (by omega)|exact z6o (how.go (z0i _ _)) hu ((z0r _ _ (z0d ht)).trans ht) hx1 hx2 (by omega)|exact z6o how2 hu ((z0r _ _ (z0d ht)).trans ht) hx1 hx2 (by omega)) ((first|(go_at_call 70;(with_reducible refine HC.out.mono ?_);rintro e v2 ⟨B1,m1,d1,rfl,how⟩)|(refine z1an elmN how (O.length+1) (.tmp 19) (.tmp 38) _ _ (zk rfl) rfl (by unfold maxLen;omega) (by omega) rfl rfl rfl ?_;intro A' c' w8 how2;rw [z0o,zqe,zqd] at how2)))
     rw [zqa L] at how2;have HG:=zh how2;have HW:Hid (URows (L++(Lt++[(⟨B1,m1,d1,z0c (Na.dig (Na.bin i j))⟩:Ob)])) vs i/\TFst (L++(Lt++[(⟨B1,m1,d1,z0c (Na.dig (Na.bin i j))⟩:Ob)])) (xs++[.slice B1 m1 d1]) i (j+1)):=by
      rw [<- zqa];exact ⟨HV.out.1.more,TFst.snoc HV.out.2.more hlx ⟨B1,m1,d1,(L++Lt).length+0,rfl,by rw [z0b];rfl⟩⟩
     clear how how2 c0 HD HC HV ht hnum hu hx1 hx2;go_wp2_with fail;go_roundw
     case rel=>exact ⟨j+1,A',c',_,_,by omega,.inr (by omega),rfl,z0q (by omega),HW,HG⟩
     case measure=>simp [intOf];omega
    ·have hd3:decide ((j:Int)<i)=false:=zn (by omega)
     have hd4:decide (j<i)=false:=zn (by omega)
     rcases zqh i with hi0|hi0
     ·have hj0:j=1:=by omega
      have hq:decide (0<(i:Int))=false:=zn (by omega)
      have hq2:decide (0<i)=false:=zn (by omega)
      have hk:=HO.out.keep (O.length+1) (zk rfl) (by omega)
      rw [z0o,zqe,zqd] at hk;have hk3:=hk.few (O.length+1)
      rw [List.take_append,zqp (by omega),Nat.add_sub_cancel_left,List.take_succ_cons,List.take_zero,zqa L] at hk3
      have HG:=zh hk3;have HR:Hid (URow (L++(Lt++[(⟨B,j,d,xs⟩:Ob)])) (.slice B j d) i):=by
       subst hj0
       subst hi0
       refine ⟨B,d,(L++Lt).length+0,xs,rfl,by rw [<- zqa,z0b];rfl,fun z hz=>?_⟩
       obtain ⟨u,a,b⟩:=HV.out.2 z (by omega)
       exact ⟨u,a,by rw [<- zqa];exact b.more⟩
      have HW:Hid (URows (L++(Lt++[(⟨B,j,d,xs⟩:Ob)])) vs i):=by rw [<- zqa];exact HV.out.1.more
      clear hk hk3 HO HV hj0 hi0;go_wp2_with (at_builtin;refine z1v elmR HG.out (O.length+0) (.tmp 46) (.tmp 48) _ _ (zk rfl) rfl (by unfold maxLen;omega) (by omega) rfl rfl rfl rfl ?_;intro A' c' w8 how;rw [z0o,zqd] at how)
      have HZ:=zh how;have HW2:Hid (URows (L++(Lt++[(⟨B,j,d,xs⟩:Ob)])) (vs++[_]) (i+1)):=HW.out.snoc hlv HR.out
      clear how HG HW HR;go_wp2_with fail;go_roundw
      case rel=>exact ⟨i+1,A',c',_,_,by omega,rfl,z0q (by omega),HW2,HZ⟩
      case measure=>simp [intOf];omega
     ·obtain rfl:j=i:=by omega
      have hq:decide (0<(j:Int))=true:=zt (by omega)
      have hq2:decide (0<j)=true:=zt hi0
      have HC:=zh (z7ae HO.out)
      have HOk:=HO;clear HO;go_wp2_with fail;refine HC.out.mono ?_;rintro e w3 ⟨B2,m2,d2,rfl,G⟩;have HG:=zh G;clear G HC HOk;go_upto_region 12 with (at_builtin;refine z1v elmN HG.out (O.length+1) (.tmp 42) (.tmp 44) _ _ (zk rfl) rfl (by unfold maxLen;omega) (by omega) rfl rfl rfl rfl ?_;intro A2 c2 w4 how;rw [z0o,zqe,zqd] at how)
      have HW0:Hid (URows (L++(Lt++[(⟨B2,m2,d2,z0c (Na.dig 1)⟩:Ob)])) vs j/\TFst (L++(Lt++[(⟨B2,m2,d2,z0c (Na.dig 1)⟩:Ob)])) (xs++[.slice B2 m2 d2]) j (j+1)):=by
       rw [<- zqa];exact ⟨HV.out.1.more,TFst.snoc HV.out.2.more hlx ⟨B2,m2,d2,(L++Lt).length+0,rfl,by rw [z0b,Na.bin_self];rfl⟩⟩
      have hk:=how.keep (O.length+1) (zk rfl) (by omega)
      rw [z0o,zqe,zqd] at hk;have hk3:=hk.few (O.length+1)
      rw [List.take_append,zqp (by omega),Nat.add_sub_cancel_left,List.take_succ_cons,List.take_zero,zqa L,zqa L] at hk3
      clear HG how;have HG:=zh hk3;have HR:Hid (URow (L++(Lt++[(⟨B2,m2,d2,z0c (Na.dig 1)⟩:Ob)]++[(⟨A2,j+1,c2,xs++[.slice B2 m2 d2]⟩:Ob)])) (.slice A2 (j+1) c2) j):=by
       refine ⟨A2,c2,(L++(Lt++[(⟨B2,m2,d2,z0c (Na.dig 1)⟩:Ob)])).length+0,_,rfl,by rw [<- zqa,z0b];rfl,fun z hz=>?_⟩
       obtain ⟨u,a,b⟩:=HW0.out.2 z (by omega)
       exact ⟨u,a,by rw [<- zqa];exact b.more⟩
      have HW:Hid (URows (L++(Lt++[(⟨B2,m2,d2,z0c (Na.dig 1)⟩:Ob)]++[(⟨A2,j+1,c2,xs++[.slice B2 m2 d2]⟩:Ob)])) vs j):=by rw [<- zqa];exact HW0.out.1.more
      clear hk hk3 HW0 HV hi0;go_wp2_with (at_builtin;refine z1v elmR HG.out (O.length+0) (.tmp 46) (.tmp 48) _ _ (zk rfl) rfl (by unfold maxLen;omega) (by omega) rfl rfl rfl rfl ?_;intro A' c' w8 how;rw [z0o,zqd] at how)
      have HZ:=zh how;have HW2:Hid (URows (L++(Lt++[(⟨B2,m2,d2,z0c (Na.dig 1)⟩:Ob)]++[(⟨A2,j+1,c2,xs++[.slice B2 m2 d2]⟩:Ob)])) (vs++[_]) (j+1)):=HW.out.snoc hlv HR.out
      clear how HG HW HR;go_wp2_with fail;go_roundw
      case rel=>exact ⟨j+1,A',c',_,_,by omega,rfl,z0q (by omega),HW2,HZ⟩
      case measure=>simp [intOf];omega
end
def WaysU (L:List Ob)(vs:List Value)(n:Nat)(f:Nat->Nat):Prop:=∀ i,i<=n->∃ u,vs[i]?=some u/\NumIn L u (f i)
theorem WaysU.more {L l:List Ob}{vs:List Value}{n:Nat}{f:Nat->Nat}(h:WaysU L vs n f):WaysU (L++l) vs n f:=fun i hi=>by
 obtain ⟨u,a,b⟩:=h i hi
 exact ⟨u,a,b.more⟩
def WayTo (L:List Ob)(vs:List Value)(i:Nat)(f:Nat->Nat):Prop:=∀ k,k<i->∃ u,vs[k]?=some u/\NumIn L u (f k)
theorem WayTo.more {L l:List Ob}{vs:List Value}{n:Nat}{f:Nat->Nat}(h:WayTo L vs n f):WayTo (L++l) vs n f:=fun i hi=>by
 obtain ⟨u,a,b⟩:=h i hi
 exact ⟨u,a,b.more⟩
theorem WayTo.snoc {L:List Ob}{xs:List Value}{k:Nat}{v:Value}{f:Nat->Nat}(h:WayTo L xs k f)(hl:xs.length=k)(hv:NumIn L v (f k)):WayTo L (xs++[v]) (k+1) f:=fun q hq=>by
 rcases zqi q k with h1|h1
 ·obtain ⟨u,a,b⟩:=h q h1
  exact ⟨u,by rw [z5m (by omega)];exact a,b⟩
 ·obtain rfl:q=k:=by omega
  subst hl
  exact ⟨v,z5n _ _,hv⟩
theorem dig_len0 {x:Nat}(h:(Na.dig x).length=0):x=0:=by
 have h1:Na.dig x=[]:=List.length_eq_zero_iff.1 h
 rw [<- Na.val_dig x,h1];rfl
theorem z4ac {f q:Nat->Nat}{i k:Nat}(h:f k=0∨q (i - k)=0):cvS f q i (k+1)=cvS f q i k:=by
 show cvS f q i k+Na.bin i k*(f k*q (i - k))=_
 rcases h with h|h <;> rw [h] <;> simp
theorem z5w {L l:List Ob}{t:Nat}{o:Ob}(h:L[t]?=some o):(L++l)[t]?=some o:=(z0r _ _ (z0d h)).trans h
theorem z2br {w0 w:World}{g:Option Nat}{M:List (Nat×Value)}{L:List Ob}{O:List Rw}{sb:Nat}{v x1 x2 x3 u:Value}{ad0 ad1 ad2 ad3:Addr}{n0 n1 n2 n3 c0 c1 c2 c3 t0 t1 t2 t3 i k k1 k2:Nat}{vs0 vs1 vs2 vs3:List Value}(h:Ow w0 w g (M++[(sb,v)]) L O)
  (h0:L[t0]?=some ⟨some ad0,n0,c0,vs0⟩) (h1:L[t1]?=some ⟨some ad1,n1,c1,vs1⟩) (h2:L[t2]?=some ⟨some ad2,n2,c2,vs2⟩) (h3:L[t3]?=some ⟨some ad3,n3,c3,vs3⟩) (e0:vs0[i]?=some u) (e1:vs1[k1]?=some x1) (e2:vs2[k2]?=some x2) (e3:vs3[k]?=some x3) :
  w.cell? ⟨sb,0,none⟩=some v/\w.cell? (ad0.add i)=some u/\w.cell? (ad1.add k1)=some x1/\w.cell? (ad2.add k2)=some x2/\w.cell? (ad3.add k)=some x3:=
 ⟨h.cell (M.length+0) (zk rfl),(h.sl h0).2.2.2.c e0,(h.sl h1).2.2.2.c e1,(h.sl h2).2.2.2.c e2,(h.sl h3).2.2.2.c e3⟩
def RJu (w0:World)(g:Option Nat)(M:List (Nat×Value))(L:List Ob)(O:List Rw)(f q:Nat->Nat)(m:Nat)(v7 v13:Value)(wr:World):Prop:=
 ∃ (i:Nat) (A:Option Addr) (c:Nat) (vs:List Value) (Ls:List Ob),i<=m+1/\v7=.slice A i c/\v13=.int .i64 i/\Hid (WayTo (L++Ls) vs i (conv f q))/\Hid (Ow w0 wr g M (L++Ls) (O++[⟨A,i,c,25,vs⟩]))
def RJv (w0:World)(g:Option Nat)(M:List (Nat×Value))(L:List Ob)(O:List Rw)(f q:Nat->Nat)(sb i:Nat)(v:Value)(wr:World):Prop:=
 ∃ (k s:Nat) (B:Option Addr) (n c t:Nat) (Ls:List Ob),k<=i+1/\v=.int .i64 k/\Hid (s=cvS f q i k/\(L++Ls)[t]?=some ⟨B,n,c,z0c (Na.dig s)⟩)/\Hid (Ow w0 wr g (M++[(sb,.slice B n c)]) (L++Ls) O)
structure JwK (w0:World)(g:Option Nat)(M:List (Nat×Value))(LX:List Ob)(OX:List Rw)(sb:Nat)(ad0 ad1 ad2 ad3:Addr)(m i k z cS ca cb cR:Nat)(X1:Option Addr)(a1 b1:Nat)(X2:Option Addr)(a2 b2:Nat)(X3:Option Addr)(a3 b3:Nat)(BS:Option Addr)(nS cSS:Nat)(x1 x2 x3 s:Nat)(Ld:Nat->Bool)(u0 u1 u2 u3 u4 u5 u6 u7 u8 u9 u10 u11 u12 u13 u14 u15 u16 u17 u18 u19 u20:Value)(va:Value)(Ls:List Ob)(W:World):Prop where
 ow:Ow w0 W g (M++[(sb,va)]) (LX++Ls) OX
 h0:Ld 0=true->u0=.agg #[.slice BS nS cSS]
 h1:Ld 1=true->u1=.slice (some ad0) (m+1) cS
 h2:Ld 2=true->u2=.int .i64 i
 h3:Ld 3=true->u3=.pointer (some (ad0.add i))
 h4:Ld 4=true->u4=.slice (some ad3) (i+1) cR
 h5:Ld 5=true->u5=.int .i64 k
 h6:Ld 6=true->u6=.pointer (some (ad3.add k))
 h7:Ld 7=true->u7=.agg #[.slice X1 a1 b1]
 h8:Ld 8=true->u8=.slice (some ad1) (m+1) ca
 h9:Ld 9=true->u9=.int .i64 k
 h10:Ld 10=true->u10=.pointer (some (ad1.add k))
 h11:Ld 11=true->u11=.agg #[.slice X2 a2 b2]
 h12:Ld 12=true->u12=.slice (some ad2) (m+1) cb
 h13:Ld 13=true->u13=.int .i64 i
 h14:Ld 14=true->u14=.int .i64 k
 h15:Ld 15=true->u15=.int .i64 z
 h16:Ld 16=true->u16=.pointer (some (ad2.add z))
 h17:Ld 17=true->u17=.agg #[.slice X3 a3 b3]
 h18:GN Ld 18 u18 (x2*x3) Ls
 h19:GN Ld 19 u19 (x1*(x2*x3)) Ls
 h20:GN Ld 20 u20 (s+x1*(x2*x3)) Ls
 v0:Ld 21=false->va=.slice BS nS cSS
 v1:GV Ld 21 va (s+x1*(x2*x3)) Ls
def JwI (w0:World)(g:Option Nat)(M:List (Nat×Value))(LX:List Ob)(OX:List Rw)(sb:Nat)(ad0 ad1 ad2 ad3:Addr)(m i k z cS ca cb cR:Nat)(X1:Option Addr)(a1 b1:Nat)(X2:Option Addr)(a2 b2:Nat)(X3:Option Addr)(a3 b3:Nat)(BS:Option Addr)(nS cSS:Nat)(x1 x2 x3 s:Nat)(A0:Act)(Ld:Nat->Bool)(a:Act)(W:World):Prop:=
 ∃ (u0 u1 u2 u3 u4 u5 u6 u7 u8 u9 u10 u11 u12 u13 u14 u15 u16 u17 u18 u19 u20:Value) (va:Value) (Ls:List Ob),a=(((((((((((((((((((((A0.put (some 40) u0).put (some 41) u1).put (some 42) u2).put (some 43) u3).put (some 44) u4).put (some 45) u5).put (some 46) u6).put (some 47) u7).put (some 48) u8).put (some 49) u9).put (some 50) u10).put (some 51) u11).put (some 52) u12).put (some 53) u13).put (some 54) u14).put (some 55) u15).put (some 56) u16).put (some 57) u17).put (some 58) u18).put (some 59) u19).put (some 60) u20)/\JwK w0 g M LX OX sb ad0 ad1 ad2 ad3 m i k z cS ca cb cR X1 a1 b1 X2 a2 b2 X3 a3 b3 BS nS cSS x1 x2 x3 s Ld u0 u1 u2 u3 u4 u5 u6 u7 u8 u9 u10 u11 u12 u13 u14 u15 u16 u17 u18 u19 u20 va Ls W
section
variable {w0 w w':World}{g:Option Nat}{M M2:List (Nat×Value)}{L:List Ob}{O:List Rw}{A A2 A3 A4:Option Addr}{b n c m c2 n3 c3 n4 c4 x y:Nat}{p q r s:List Int}
theorem z1bi (h:Ow w0 w g M L O):Calls Tryz.prog 39 #[.int .i64 0] w (GotU w0 g M L O (Na.dig 0)):=r_of h 0 (by omega)
theorem z3br (h:Ow w0 w g M L O)(m:Nat)(hm:m<=40)(AS A B:Option Addr)(cS ca cb ta tb:Nat)(xs ys:List Value)(f q:Nat->Nat)(e:Nat)(he:e<=1000)(hS:USets L AS cS m)(hA:L[ta]?=some ⟨A,m+1,ca,xs⟩)(hB:L[tb]?=some ⟨B,m+1,cb,ys⟩)(ha:WaysU L xs m f)(hb:WaysU L ys m q)(hf:∀ k,k<=m->f k<=2 ^ e)(hq:∀ k,k<=m->q k<=2 ^ e):
  Calls Tryz.prog 41 #[.slice AS (m+1) cS,.slice A (m+1) ca,.slice B (m+1) cb] w fun e w'=>∃ (D:Option Addr) (c:Nat) (vs:List Value) (Ls:List Ob),e=.returned (.slice D (m+1) c)/\Ow w0 w' g M (L++(Ls++[⟨D,m+1,c,vs⟩])) O/\WaysU (L++(Ls++[⟨D,m+1,c,vs⟩])) vs m (conv f q):=by
 have HO:=zh (h.nil 25)
 have HS:=zh hS;have HF:=zh (And.intro he (And.intro ha (And.intro hb (And.intro hf hq))))
 have HAB:=zh (And.intro hA hB)
 clear h hS ha hb hf hq he hA hB;go_enter Tryz.func41,Tryz.ntmps41
 go_wp2_with fail;go_loopw [7,13] (fun v7 v13 wr=>RJu w0 g M L O f q m v7 v13 wr) (fun _ v13 _=>m+2 - (intOf v13).toNat)
 case atStart=>exact ⟨0,none,0,[],[],by omega,rfl,rfl,fun i hi=>absurd hi (by omega),by rw [List.append_nil];exact HO.out⟩
 case round=>
  clear HO;obtain ⟨i,D,c,vs,Ls,hi,rfl,rfl,HV,HO⟩:=hrel;have hlv:vs.length=i:=z1m (HO.out.row (O.length+0) (zk rfl))
  rcases Nat.eq_or_lt_of_le hi with he|hlt
  ·subst he
   have hd:decide (((m+1:Nat):Int)<((m+1:Nat):Int))=false:=zn (by omega)
   have hd2:decide (m+1<m+1)=false:=zn (by omega)
   go_wp2_with fail;have hk:=HO.out.keep (O.length+0) (zk rfl) (by omega)
   rw [z0o,zqd] at hk;have hr:=hk.fewO;rw [zqa] at hr;refine bodyPost_ret (v:=.slice D (m+1) c) (by simp [results,Tryz.results41,go_sem]) rfl ?_
   refine ⟨D,c,vs,Ls,rfl,hr,fun z hz=>?_⟩
   obtain ⟨u,a,b⟩:=HV.out z (by omega)
   exact ⟨u,a,by rw [<- zqa];exact b.more⟩
  ·have hd:decide ((i:Int)<((m+1:Nat):Int))=true:=zt (by omega)
   have hd2:decide (i<m+1)=true:=zt hlt
   have hd3:decide ((i:Int)<m+1)=true:=zt (by omega)
   have hi40:i<=40:=by omega
   have HC:=zh (z1bi HO.out)
   clear HO;go_wp2_with fail;refine HC.out.mono ?_;rintro e w1 ⟨B0,n0,c0,rfl,G⟩;have H:=G.boxed (.slice B0 n0 c0) 25
   have HO:=zh H;clear HC G H;have hi0:(0:Int)<=(i:Int):=by omega
   have hw:IntKind.i64.wrap ((i:Int)+1)=(i:Int)+1:=IntWalk.i64_in _ (by omega)
   obtain ⟨sb,hsb⟩:∃ r,w1.heap.size=r:=⟨_,rfl⟩
   have HSB:=zh hsb;rw [hsb] at HO;clear hsb;go_wp2_with fail;rw [HSB.out];go_loopw [19] (fun v19 wr=>RJv w0 g M (L++Ls) (O++[⟨D,i,c,25,vs⟩]) f q sb i v19 wr) (fun v19 _=>i+2 - (intOf v19).toNat)
   case atStart=>exact ⟨0,0,B0,n0,c0,(L++Ls).length+0,[(⟨B0,n0,c0,z0c (Na.dig 0)⟩:Ob)],by omega,rfl,⟨rfl,by rw [z0b];rfl⟩,HO⟩
   case round=>
    clear HO;obtain ⟨k,s,BS,nS,cSS,ts,Lt,hk,rfl,HK,HO⟩:=hrel;rcases Nat.eq_or_lt_of_le hk with he|hlt2
    ·subst he
     have hd4:decide (((i+1:Nat):Int)<(i:Int)+1)=false:=zn (by omega)
     have hd5:decide (i+1<i+1)=false:=zn (by omega)
     have cV:=HO.out.cell (M.length+0) (zk rfl)
     go_wp2_with (at_builtin;refine z1v elmN HO.out (O.length+0) (.tmp 62) (.tmp 64) _ _ (zk rfl) rfl (by unfold maxLen;omega) (by omega) rfl rfl rfl rfl ?_;intro A' c' w8 how;rw [z0o,zqd] at how)
     have how2:=how.fewM;rw [zqa L] at how2;have HG:=zh how2;have HW:Hid (WayTo (L++(Ls++Lt)) (vs++[.slice BS nS cSS]) (i+1) (conv f q)):=by
      rw [<- zqa];exact WayTo.snoc HV.out.more hlv ⟨BS,nS,cSS,ts,rfl,by rw [show conv f q i=s from HK.out.1.symm];exact HK.out.2⟩
     clear how how2 HO HV HK cV;go_wp2_with fail;go_roundw
     case rel=>exact ⟨i+1,A',c',_,_,by omega,rfl,z0q (by omega),HW,HG⟩
     case measure=>simp [intOf];omega
    ·have hd4:decide ((k:Int)<i+1)=true:=zt (by omega)
     have hd5:decide (k<i+1)=true:=zt hlt2
     obtain ⟨z,hz⟩:∃ z,i=k+z:=⟨i - k,by omega⟩
     have hzk:i - k=z:=by omega
     have ev:(i:Int) - (k:Int)=(z:Int):=by omega
     have hw2:IntKind.i64.wrap ((i:Int) - (k:Int))=(z:Int):=by rw [ev];exact IntWalk.i64_in _ (by omega)
     obtain ⟨u2,hx2,X2,a2,b2,p2,rfl,hp2⟩:=HF.out.2.1 k (by omega)
     obtain ⟨u3,hx3,X3,a3,b3,p3,rfl,hp3⟩:=HF.out.2.2.1 z (by omega)
     obtain ⟨tS,vS,hS1,hS2⟩:=HS.out;obtain ⟨uS,hxS,AR,cR,tR,wR,rfl,hR1,hR2⟩:=hS2 i (by omega)
     obtain ⟨u1,hx1,X1,a1,b1,p1,rfl,hp1⟩:=hR2 k (by omega)
     have HL:=HAB.out;have gA:=HO.out.sl ((z0r _ _ (by rw [zqm];have:=z0d HL.1;omega)).trans ((z0r _ _ (z0d HL.1)).trans HL.1))
     have gB:=HO.out.sl ((z0r _ _ (by rw [zqm];have:=z0d HL.2;omega)).trans ((z0r _ _ (z0d HL.2)).trans HL.2))
     have gS:=HO.out.sl ((z0r _ _ (by rw [zqm];have:=z0d hS1;omega)).trans ((z0r _ _ (z0d hS1)).trans hS1))
     have gR:=HO.out.sl ((z0r _ _ (by rw [zqm];have:=z0d hR1;omega)).trans ((z0r _ _ (z0d hR1)).trans hR1))
     have R1:=(z0r (L++Ls) Lt (by rw [zqm];have:=z0d hp1;omega)).trans ((z0r L Ls (z0d hp1)).trans hp1)
     have R2:=(z0r (L++Ls) Lt (by rw [zqm];have:=z0d hp2;omega)).trans ((z0r L Ls (z0d hp2)).trans hp2)
     have R3:=(z0r (L++Ls) Lt (by rw [zqm];have:=z0d hp3;omega)).trans ((z0r L Ls (z0d hp3)).trans hp3)
     have l2:(Na.dig (f k)).length=a2:=by have:=(HO.out.sl R2).1;rwa [z0e] at this
     have l3:(Na.dig (q z)).length=a3:=by have:=(HO.out.sl R3).1;rwa [z0e] at this
     obtain ⟨ad1,eA,-,-⟩:=gA.2.2.2.at_ (k:=0) (by rw [gA.1];omega)
     obtain ⟨ad2,eB,-,-⟩:=gB.2.2.2.at_ (k:=0) (by rw [gB.1];omega)
     obtain ⟨ad0,eS,-,-⟩:=gS.2.2.2.at_ (k:=0) (by rw [gS.1];omega)
     obtain ⟨ad3,eR,-,-⟩:=gR.2.2.2.at_ (k:=0) (by rw [gR.1];omega)
     subst eA eB eS eR
     have q1:(k:Int)<m+1:=by omega
     have q2:(z:Int)<m+1:=by omega
     have q3:(0:Int)<=(z:Int):=by omega
     have q4:(0:Int)<=(k:Int):=by omega
     have q5:(i:Int)<m+1:=by omega
     have q6:k<m+1:=by omega
     have q7:z<m+1:=by omega
     have q8:(k:Int)<i+1:=by omega
     have cA:=gA.2.2.2.c hx2
     have cB:=gB.2.2.2.c hx3
     have HZ:=zh (And.intro hz (And.intro hzk ev))
     clear hz hzk ev;rcases zqh a2 with h20|h20
     ·have d2:decide ((0:Int)<a2)=false:=zn (by omega)
      have d2':decide (0<a2)=false:=zn (by omega)
      have HE:Hid (f k=0):=dig_len0 (l2.trans h20)
      clear h20;go_wp2_with fail;go_roundw
      case rel=>exact ⟨k+1,s,BS,nS,cSS,ts,Lt,by omega,z0q (by omega),⟨HK.out.1.trans (z4ac (.inl HE.out)).symm,HK.out.2⟩,HO⟩
      case measure=>simp [intOf];omega
     ·have d2:decide ((0:Int)<a2)=true:=zt (by omega)
      have d2':decide (0<a2)=true:=zt h20
      rcases zqh a3 with h30|h30
      ·have d3:decide ((0:Int)<a3)=false:=zn (by omega)
       have d3':decide (0<a3)=false:=zn (by omega)
       have HE:Hid (q (i - k)=0):=by unfold Hid;rw [HZ.out.2.1];exact dig_len0 (l3.trans h30)
       clear h30;go_wp2_with fail;go_roundw
       case rel=>exact ⟨k+1,s,BS,nS,cSS,ts,Lt,by omega,z0q (by omega),⟨HK.out.1.trans (z4ac (.inr HE.out)).symm,HK.out.2⟩,HO⟩
       case measure=>simp [intOf];omega
      ·have d3:decide ((0:Int)<a3)=true:=zt (by omega)
       have d3':decide (0<a3)=true:=zt h30
       have KB:=z4bl (k:=k) HF.out.1 HF.out.2.2.2.1 HF.out.2.2.2.2 (show i<=m by omega) hm (by omega)
       rw [<- HK.out.1] at KB;have bp:f k*q z<Na.top:=z3y (z6e (HF.out.2.2.2.1 k (by omega)) (HF.out.2.2.2.2 z (by omega))) (by have:=HF.out.1;omega)
       obtain ⟨x1,hx1'⟩:∃ x,Na.bin i k=x:=⟨_,rfl⟩
       obtain ⟨x2,hx2'⟩:∃ x,f k=x:=⟨_,rfl⟩
       obtain ⟨x3,hx3'⟩:∃ x,q z=x:=⟨_,rfl⟩
       have HE:Hid (s+x1*(x2*x3)=cvS f q i (k+1)):=by
        unfold Hid
        show _=cvS f q i k+Na.bin i k*(f k*q (i - k))
        rw [<- HK.out.1,HZ.out.2.1,hx1',hx2',hx3']
       rw [hx1'] at R1;rw [hx2'] at R2 bp;rw [hx3'] at R3 bp;have KC:Hid (s<Na.top/\x1<Na.top/\x2<Na.top/\x3<Na.top/\x2*x3<Na.top/\x1*(x2*x3)<Na.top/\s+x1*(x2*x3)<Na.top):=by
        obtain ⟨k1,k2,k3,k4,k5,k6,k7⟩:=KB;rw [HZ.out.2.1] at k4 k6 k7;rw [hx1',hx2',hx3'] at k6 k7;rw [hx1'] at k2;rw [hx2'] at k3;rw [hx3'] at k4;exact ⟨k1,k2,k3,k4,bp,k6,k7⟩
       have HD:=zh HO.out.drew;have I0:=z5w (l:=Lt) (z5w (l:=Ls) hS1)
       have I1:=z5w (l:=Lt) (z5w (l:=Ls) HL.1)
       have I2:=z5w (l:=Lt) (z5w (l:=Ls) HL.2)
       have I3:=z5w (l:=Lt) (z5w (l:=Ls) hR1)
       have HR:=zh (And.intro R1 (And.intro R2 (And.intro R3 HK.out.2)))
       have HI:=zh (And.intro I0 (And.intro I1 (And.intro I2 I3)))
       obtain ⟨LX,hLX⟩:∃ l,L++Ls++Lt=l:=⟨_,rfl⟩
       obtain ⟨OX,hOX⟩:∃ l,O++[(⟨D,i,c,25,vs⟩:Rw)]=l:=⟨_,rfl⟩
       rw [hLX] at HD HR HI;rw [hOX] at HD;have HLX:=zh hLX;have HOX:=zh hOX;clear KB bp hx1' hx2' hx3' R1 R2 R3 l2 l3 h20 h30 HL hp1 hp2 hp3 I0 I1 I2 I3 gA gB gS gR hS1 hR1 hS2 hR2 hLX hOX;go_upto_region 10 with (fail)
       clear cA cB;refine z1k (JwI w0 g M LX OX sb ad0 ad1 ad2 ad3 m i k z cS ca cb cR X1 a1 b1 X2 a2 b2 X3 a3 b3 BS nS cSS x1 x2 x3 s) (by kernel_rfl) (by kernel_rfl) ?_ ?_ ?_
       ·refine ⟨u40,u41,u42,u43,u44,u45,u46,u47,u48,u49,u50,u51,u52,u53,u54,u55,u56,u57,u58,u59,u60,.slice BS nS cSS,[],?_,⟨by rw [List.append_nil];exact HD.out,?_,?_,?_,?_,?_,?_,?_,?_,?_,?_,?_,?_,?_,?_,?_,?_,?_,?_,?_,?_,?_,fun _=>rfl,?_⟩⟩
        ·simp only [Act.put,zT,zZ,zS]
        all_goals (intro h;cases h)
       ·rintro jj Ld b W hj hf hcl hd ⟨u0,u1,u2,u3,u4,u5,u6,u7,u8,u9,u10,u11,u12,u13,u14,u15,u16,u17,u18,u19,u20,va,Ls,rfl,hC⟩;have hj':jj<22:=hj
        have hcase:jj=0∨jj=1∨jj=2∨jj=3∨jj=4∨jj=5∨jj=6∨jj=7∨jj=8∨jj=9∨jj=10∨jj=11∨jj=12∨jj=13∨jj=14∨jj=15∨jj=16∨jj=17∨jj=18∨jj=19∨jj=20∨jj=21:=by omega
        obtain ⟨cV,c0,c1,c2,c3⟩:=z2br hC.ow (z5w HI.out.1) (z5w HI.out.2.1) (z5w HI.out.2.2.1) (z5w HI.out.2.2.2) hxS hx2 hx3 hx1
        have qz:=hC.ow.free (M.length+0) (zk rfl)
        clear hj hj' HD;simp only [Act.put,zT,zZ,zS];rcases hcase with rfl|rfl|rfl|rfl|rfl|rfl|rfl|rfl|rfl|rfl|rfl|rfl|rfl|rfl|rfl|rfl|rfl|rfl|rfl|rfl|rfl|rfl
        ·have g20:Ld 20=false:=by cases e:Ld 20 with|false=>rfl|true=>(rw [hcl 20 0 e (by kernel_rfl)] at hf;cases hf)
         have g21:Ld 21=false:=by cases e:Ld 21 with|false=>rfl|true=>(rw [hcl 21 20 e (by kernel_rfl)] at g20;cases g20)
         obtain rfl:=hC.v0 g21
         clear hd hcl;refine zw rfl fun K hK=>?_
         go_simp;refine hK _ _ ⟨_,u1,u2,u3,u4,u5,u6,u7,u8,u9,u10,u11,u12,u13,u14,u15,u16,u17,u18,u19,u20,_,Ls,?_,⟨hC.ow,fun _=>rfl,hC.h1,hC.h2,hC.h3,hC.h4,hC.h5,hC.h6,hC.h7,hC.h8,hC.h9,hC.h10,hC.h11,hC.h12,hC.h13,hC.h14,hC.h15,hC.h16,hC.h17,hC.h18,hC.h19,hC.h20,hC.v0,hC.v1⟩⟩;simp only [Act.put,zT,zZ,zS]
        ·clear hd hcl;refine zw rfl fun K hK=>?_
         go_simp;refine hK _ _ ⟨u0,_,u2,u3,u4,u5,u6,u7,u8,u9,u10,u11,u12,u13,u14,u15,u16,u17,u18,u19,u20,va,Ls,?_,⟨hC.ow,hC.h0,fun _=>rfl,hC.h2,hC.h3,hC.h4,hC.h5,hC.h6,hC.h7,hC.h8,hC.h9,hC.h10,hC.h11,hC.h12,hC.h13,hC.h14,hC.h15,hC.h16,hC.h17,hC.h18,hC.h19,hC.h20,hC.v0,hC.v1⟩⟩;simp only [Act.put,zT,zZ,zS]
        ·clear hd hcl;refine zw rfl fun K hK=>?_
         go_simp;refine hK _ _ ⟨u0,u1,_,u3,u4,u5,u6,u7,u8,u9,u10,u11,u12,u13,u14,u15,u16,u17,u18,u19,u20,va,Ls,?_,⟨hC.ow,hC.h0,hC.h1,fun _=>rfl,hC.h3,hC.h4,hC.h5,hC.h6,hC.h7,hC.h8,hC.h9,hC.h10,hC.h11,hC.h12,hC.h13,hC.h14,hC.h15,hC.h16,hC.h17,hC.h18,hC.h19,hC.h20,hC.v0,hC.v1⟩⟩;simp only [Act.put,zT,zZ,zS]
        ·obtain rfl:=hC.h1 (hd 1 (by kernel_rfl));obtain rfl:=hC.h2 (hd 2 (by kernel_rfl));clear hd hcl;refine zw rfl fun K hK=>?_
         go_simp;refine hK _ _ ⟨u0,_,_,_,u4,u5,u6,u7,u8,u9,u10,u11,u12,u13,u14,u15,u16,u17,u18,u19,u20,va,Ls,?_,⟨hC.ow,hC.h0,hC.h1,hC.h2,fun _=>rfl,hC.h4,hC.h5,hC.h6,hC.h7,hC.h8,hC.h9,hC.h10,hC.h11,hC.h12,hC.h13,hC.h14,hC.h15,hC.h16,hC.h17,hC.h18,hC.h19,hC.h20,hC.v0,hC.v1⟩⟩;simp only [Act.put,zT,zZ,zS]
        ·obtain rfl:=hC.h3 (hd 3 (by kernel_rfl));clear hd hcl;refine zw rfl fun K hK=>?_
         go_simp;refine hK _ _ ⟨u0,u1,u2,_,_,u5,u6,u7,u8,u9,u10,u11,u12,u13,u14,u15,u16,u17,u18,u19,u20,va,Ls,?_,⟨hC.ow,hC.h0,hC.h1,hC.h2,hC.h3,fun _=>rfl,hC.h5,hC.h6,hC.h7,hC.h8,hC.h9,hC.h10,hC.h11,hC.h12,hC.h13,hC.h14,hC.h15,hC.h16,hC.h17,hC.h18,hC.h19,hC.h20,hC.v0,hC.v1⟩⟩;simp only [Act.put,zT,zZ,zS]
        ·clear hd hcl;refine zw rfl fun K hK=>?_
         go_simp;refine hK _ _ ⟨u0,u1,u2,u3,u4,_,u6,u7,u8,u9,u10,u11,u12,u13,u14,u15,u16,u17,u18,u19,u20,va,Ls,?_,⟨hC.ow,hC.h0,hC.h1,hC.h2,hC.h3,hC.h4,fun _=>rfl,hC.h6,hC.h7,hC.h8,hC.h9,hC.h10,hC.h11,hC.h12,hC.h13,hC.h14,hC.h15,hC.h16,hC.h17,hC.h18,hC.h19,hC.h20,hC.v0,hC.v1⟩⟩;simp only [Act.put,zT,zZ,zS]
        ·obtain rfl:=hC.h4 (hd 4 (by kernel_rfl));obtain rfl:=hC.h5 (hd 5 (by kernel_rfl));clear hd hcl;refine zw rfl fun K hK=>?_
         go_simp;refine hK _ _ ⟨u0,u1,u2,u3,_,_,_,u7,u8,u9,u10,u11,u12,u13,u14,u15,u16,u17,u18,u19,u20,va,Ls,?_,⟨hC.ow,hC.h0,hC.h1,hC.h2,hC.h3,hC.h4,hC.h5,fun _=>rfl,hC.h7,hC.h8,hC.h9,hC.h10,hC.h11,hC.h12,hC.h13,hC.h14,hC.h15,hC.h16,hC.h17,hC.h18,hC.h19,hC.h20,hC.v0,hC.v1⟩⟩;simp only [Act.put,zT,zZ,zS]
        ·obtain rfl:=hC.h6 (hd 6 (by kernel_rfl));clear hd hcl;refine zw rfl fun K hK=>?_
         go_simp;refine hK _ _ ⟨u0,u1,u2,u3,u4,u5,_,_,u8,u9,u10,u11,u12,u13,u14,u15,u16,u17,u18,u19,u20,va,Ls,?_,⟨hC.ow,hC.h0,hC.h1,hC.h2,hC.h3,hC.h4,hC.h5,hC.h6,fun _=>rfl,hC.h8,hC.h9,hC.h10,hC.h11,hC.h12,hC.h13,hC.h14,hC.h15,hC.h16,hC.h17,hC.h18,hC.h19,hC.h20,hC.v0,hC.v1⟩⟩;simp only [Act.put,zT,zZ,zS]
        ·clear hd hcl;refine zw rfl fun K hK=>?_
         go_simp;refine hK _ _ ⟨u0,u1,u2,u3,u4,u5,u6,u7,_,u9,u10,u11,u12,u13,u14,u15,u16,u17,u18,u19,u20,va,Ls,?_,⟨hC.ow,hC.h0,hC.h1,hC.h2,hC.h3,hC.h4,hC.h5,hC.h6,hC.h7,fun _=>rfl,hC.h9,hC.h10,hC.h11,hC.h12,hC.h13,hC.h14,hC.h15,hC.h16,hC.h17,hC.h18,hC.h19,hC.h20,hC.v0,hC.v1⟩⟩;simp only [Act.put,zT,zZ,zS]
        ·clear hd hcl;refine zw rfl fun K hK=>?_
         go_simp;refine hK _ _ ⟨u0,u1,u2,u3,u4,u5,u6,u7,u8,_,u10,u11,u12,u13,u14,u15,u16,u17,u18,u19,u20,va,Ls,?_,⟨hC.ow,hC.h0,hC.h1,hC.h2,hC.h3,hC.h4,hC.h5,hC.h6,hC.h7,hC.h8,fun _=>rfl,hC.h10,hC.h11,hC.h12,hC.h13,hC.h14,hC.h15,hC.h16,hC.h17,hC.h18,hC.h19,hC.h20,hC.v0,hC.v1⟩⟩;simp only [Act.put,zT,zZ,zS]
        ·obtain rfl:=hC.h8 (hd 8 (by kernel_rfl));obtain rfl:=hC.h9 (hd 9 (by kernel_rfl));clear hd hcl;refine zw rfl fun K hK=>?_
         go_simp;refine hK _ _ ⟨u0,u1,u2,u3,u4,u5,u6,u7,_,_,_,u11,u12,u13,u14,u15,u16,u17,u18,u19,u20,va,Ls,?_,⟨hC.ow,hC.h0,hC.h1,hC.h2,hC.h3,hC.h4,hC.h5,hC.h6,hC.h7,hC.h8,hC.h9,fun _=>rfl,hC.h11,hC.h12,hC.h13,hC.h14,hC.h15,hC.h16,hC.h17,hC.h18,hC.h19,hC.h20,hC.v0,hC.v1⟩⟩;simp only [Act.put,zT,zZ,zS]
        ·obtain rfl:=hC.h10 (hd 10 (by kernel_rfl));clear hd hcl;refine zw rfl fun K hK=>?_
         go_simp;refine hK _ _ ⟨u0,u1,u2,u3,u4,u5,u6,u7,u8,u9,_,_,u12,u13,u14,u15,u16,u17,u18,u19,u20,va,Ls,?_,⟨hC.ow,hC.h0,hC.h1,hC.h2,hC.h3,hC.h4,hC.h5,hC.h6,hC.h7,hC.h8,hC.h9,hC.h10,fun _=>rfl,hC.h12,hC.h13,hC.h14,hC.h15,hC.h16,hC.h17,hC.h18,hC.h19,hC.h20,hC.v0,hC.v1⟩⟩;simp only [Act.put,zT,zZ,zS]
        ·clear hd hcl;refine zw rfl fun K hK=>?_
         go_simp;refine hK _ _ ⟨u0,u1,u2,u3,u4,u5,u6,u7,u8,u9,u10,u11,_,u13,u14,u15,u16,u17,u18,u19,u20,va,Ls,?_,⟨hC.ow,hC.h0,hC.h1,hC.h2,hC.h3,hC.h4,hC.h5,hC.h6,hC.h7,hC.h8,hC.h9,hC.h10,hC.h11,fun _=>rfl,hC.h13,hC.h14,hC.h15,hC.h16,hC.h17,hC.h18,hC.h19,hC.h20,hC.v0,hC.v1⟩⟩;simp only [Act.put,zT,zZ,zS]
        ·clear hd hcl;refine zw rfl fun K hK=>?_
         go_simp;refine hK _ _ ⟨u0,u1,u2,u3,u4,u5,u6,u7,u8,u9,u10,u11,u12,_,u14,u15,u16,u17,u18,u19,u20,va,Ls,?_,⟨hC.ow,hC.h0,hC.h1,hC.h2,hC.h3,hC.h4,hC.h5,hC.h6,hC.h7,hC.h8,hC.h9,hC.h10,hC.h11,hC.h12,fun _=>rfl,hC.h14,hC.h15,hC.h16,hC.h17,hC.h18,hC.h19,hC.h20,hC.v0,hC.v1⟩⟩;simp only [Act.put,zT,zZ,zS]
        ·clear hd hcl;refine zw rfl fun K hK=>?_
         go_simp;refine hK _ _ ⟨u0,u1,u2,u3,u4,u5,u6,u7,u8,u9,u10,u11,u12,u13,_,u15,u16,u17,u18,u19,u20,va,Ls,?_,⟨hC.ow,hC.h0,hC.h1,hC.h2,hC.h3,hC.h4,hC.h5,hC.h6,hC.h7,hC.h8,hC.h9,hC.h10,hC.h11,hC.h12,hC.h13,fun _=>rfl,hC.h15,hC.h16,hC.h17,hC.h18,hC.h19,hC.h20,hC.v0,hC.v1⟩⟩;simp only [Act.put,zT,zZ,zS]
        ·obtain rfl:=hC.h13 (hd 13 (by kernel_rfl));obtain rfl:=hC.h14 (hd 14 (by kernel_rfl));clear hd hcl;refine zw rfl fun K hK=>?_
         go_simp;refine hK _ _ ⟨u0,u1,u2,u3,u4,u5,u6,u7,u8,u9,u10,u11,u12,_,_,_,u16,u17,u18,u19,u20,va,Ls,?_,⟨hC.ow,hC.h0,hC.h1,hC.h2,hC.h3,hC.h4,hC.h5,hC.h6,hC.h7,hC.h8,hC.h9,hC.h10,hC.h11,hC.h12,hC.h13,hC.h14,fun _=>rfl,hC.h16,hC.h17,hC.h18,hC.h19,hC.h20,hC.v0,hC.v1⟩⟩;simp only [Act.put,zT,zZ,zS]
        ·obtain rfl:=hC.h12 (hd 12 (by kernel_rfl));obtain rfl:=hC.h15 (hd 15 (by kernel_rfl));clear hd hcl;refine zw rfl fun K hK=>?_
         go_simp;refine hK _ _ ⟨u0,u1,u2,u3,u4,u5,u6,u7,u8,u9,u10,u11,_,u13,u14,_,_,u17,u18,u19,u20,va,Ls,?_,⟨hC.ow,hC.h0,hC.h1,hC.h2,hC.h3,hC.h4,hC.h5,hC.h6,hC.h7,hC.h8,hC.h9,hC.h10,hC.h11,hC.h12,hC.h13,hC.h14,hC.h15,fun _=>rfl,hC.h17,hC.h18,hC.h19,hC.h20,hC.v0,hC.v1⟩⟩;simp only [Act.put,zT,zZ,zS]
        ·obtain rfl:=hC.h16 (hd 16 (by kernel_rfl));clear hd hcl;refine zw rfl fun K hK=>?_
         go_simp;refine hK _ _ ⟨u0,u1,u2,u3,u4,u5,u6,u7,u8,u9,u10,u11,u12,u13,u14,u15,_,_,u18,u19,u20,va,Ls,?_,⟨hC.ow,hC.h0,hC.h1,hC.h2,hC.h3,hC.h4,hC.h5,hC.h6,hC.h7,hC.h8,hC.h9,hC.h10,hC.h11,hC.h12,hC.h13,hC.h14,hC.h15,hC.h16,fun _=>rfl,hC.h18,hC.h19,hC.h20,hC.v0,hC.v1⟩⟩;simp only [Act.put,zT,zZ,zS]
        ·obtain rfl:=hC.h11 (hd 11 (by kernel_rfl));obtain rfl:=hC.h17 (hd 17 (by kernel_rfl));clear hd hcl;refine zw rfl fun K hK=>?_
         go_simp;refine (z7ad hC.ow p2 p3 (z5w HR.out.2.1) (z5w HR.out.2.2.1) KC.out.2.2.1 KC.out.2.2.2.1 KC.out.2.2.2.2.1).mono ?_
         rintro e W' ⟨Az,nz,cz,rfl,ho⟩;rw [zqa (LX) Ls] at ho
         refine hK _ _ ⟨u0,u1,u2,u3,u4,u5,u6,u7,u8,u9,u10,_,u12,u13,u14,u15,u16,_,_,u19,u20,va,_,?_,⟨ho,hC.h0,hC.h1,hC.h2,hC.h3,hC.h4,hC.h5,hC.h6,hC.h7,hC.h8,hC.h9,hC.h10,hC.h11,hC.h12,hC.h13,hC.h14,hC.h15,hC.h16,hC.h17,GN.new _ _ _ _ _ _ _,hC.h19.more,hC.h20.more,hC.v0,hC.v1.more⟩⟩;simp only [Act.put,zT,zZ,zS]
        ·obtain rfl:=hC.h7 (hd 7 (by kernel_rfl));obtain ⟨t18,A18,n18,c18,rfl,r18⟩:=hC.h18 (hd 18 (by kernel_rfl))
         have R18:(LX++Ls)[(LX).length+t18]?=some ⟨A18,n18,c18,z0c (Na.dig (x2*x3))⟩:=(z0b _ _ _).trans r18
         clear hd hcl;refine zw rfl fun K hK=>?_
         go_simp;refine (z7ad hC.ow p1 _ (z5w HR.out.1) R18 KC.out.2.1 KC.out.2.2.2.2.1 KC.out.2.2.2.2.2.1).mono ?_
         rintro e W' ⟨Az,nz,cz,rfl,ho⟩;rw [zqa (LX) Ls] at ho
         refine hK _ _ ⟨u0,u1,u2,u3,u4,u5,u6,_,u8,u9,u10,u11,u12,u13,u14,u15,u16,u17,_,_,u20,va,_,?_,⟨ho,hC.h0,hC.h1,hC.h2,hC.h3,hC.h4,hC.h5,hC.h6,hC.h7,hC.h8,hC.h9,hC.h10,hC.h11,hC.h12,hC.h13,hC.h14,hC.h15,hC.h16,hC.h17,hC.h18.more,GN.new _ _ _ _ _ _ _,hC.h20.more,hC.v0,hC.v1.more⟩⟩;simp only [Act.put,zT,zZ,zS]
        ·obtain rfl:=hC.h0 (hd 0 (by kernel_rfl));obtain ⟨t19,A19,n19,c19,rfl,r19⟩:=hC.h19 (hd 19 (by kernel_rfl))
         have R19:(LX++Ls)[(LX).length+t19]?=some ⟨A19,n19,c19,z0c (Na.dig (x1*(x2*x3)))⟩:=(z0b _ _ _).trans r19
         clear hd hcl;refine zw rfl fun K hK=>?_
         go_simp;refine (z3bq hC.ow ts _ (z5w HR.out.2.2.2) R19 KC.out.1 KC.out.2.2.2.2.2.1 KC.out.2.2.2.2.2.2).mono ?_
         rintro e W' ⟨Az,nz,cz,rfl,ho⟩;rw [zqa (LX) Ls] at ho
         refine hK _ _ ⟨_,u1,u2,u3,u4,u5,u6,u7,u8,u9,u10,u11,u12,u13,u14,u15,u16,u17,u18,_,_,va,_,?_,⟨ho,hC.h0,hC.h1,hC.h2,hC.h3,hC.h4,hC.h5,hC.h6,hC.h7,hC.h8,hC.h9,hC.h10,hC.h11,hC.h12,hC.h13,hC.h14,hC.h15,hC.h16,hC.h17,hC.h18.more,hC.h19.more,GN.new _ _ _ _ _ _ _,hC.v0,hC.v1.more⟩⟩;simp only [Act.put,zT,zZ,zS]
        ·obtain ⟨t20,A20,n20,c20,rfl,r20⟩:=hC.h20 (hd 20 (by kernel_rfl))
         have R20:(LX++Ls)[(LX).length+t20]?=some ⟨A20,n20,c20,z0c (Na.dig (s+x1*(x2*x3)))⟩:=(z0b _ _ _).trans r20
         clear hd hcl;refine zw rfl fun K hK=>?_
         go_simp;have ho:=hC.ow.setv (M.length+0) (zk rfl) (.slice A20 n20 c20)
         rw [z0o,zqd] at ho;refine hK _ _ ⟨u0,u1,u2,u3,u4,u5,u6,u7,u8,u9,u10,u11,u12,u13,u14,u15,u16,u17,u18,u19,_,_,Ls,?_,⟨ho,hC.h0,hC.h1,hC.h2,hC.h3,hC.h4,hC.h5,hC.h6,hC.h7,hC.h8,hC.h9,hC.h10,hC.h11,hC.h12,hC.h13,hC.h14,hC.h15,hC.h16,hC.h17,hC.h18,hC.h19,hC.h20,fun e=>absurd (show true=false from e) (by decide),fun _=>⟨t20,A20,n20,c20,rfl,r20⟩⟩⟩;simp only [Act.put,zT,zZ,zS]
       ·rintro Ld b W hL ⟨u0,u1,u2,u3,u4,u5,u6,u7,u8,u9,u10,u11,u12,u13,u14,u15,u16,u17,u18,u19,u20,va,Lz,rfl,hC⟩;obtain ⟨tz,Az,nz,cz,rfl,rz⟩:=hC.v1 (hL 21 (by show 21<22;decide))
        obtain rfl:=HLX.out
        obtain rfl:=HOX.out
        have ho:=hC.ow;rw [zqa] at ho;have HG:=zh ho;have HW:Hid (s+x1*(x2*x3)=cvS f q i (k+1)/\∃ t,(L++Ls++(Lt++Lz))[t]?=some (⟨Az,nz,cz,z0c (Na.dig (s+x1*(x2*x3)))⟩:Ob)):=⟨HE.out,(L++Ls++Lt).length+tz,by rw [<- zqa,z0b];exact rz⟩
        obtain ⟨tt,HWt⟩:=HW.out.2;have HW2:=zh (And.intro HW.out.1 HWt)
        clear hL hC rz HO HR HI HK KC HD ho HWt HW;simp only [Act.put,zT,zZ,zS];go_wp2_with fail;go_roundw
        case rel=>exact ⟨k+1,_,Az,nz,cz,tt,_,by omega,z0q (by omega),HW2,HG⟩
        case measure=>simp [intOf];omega
end
theorem z6bs {w0 w:World}{g:Option Nat}{M:List (Nat×Value)}{L:List Ob}{O:List Rw}{A A2:Option Addr}{n c m c2 x y:Nat}(h:Ow w0 w g M L O)(i j:Nat)(hi:L[i]?=some ⟨A,n,c,z0c (Na.dig x)⟩)(hj:L[j]?=some ⟨A2,m,c2,z0c (Na.dig y)⟩)(hx:x<Na.top)(hy:y<Na.top):
  Calls Tryz.prog 94 #[.agg #[.slice A n c],.agg #[.slice A2 m c2]] w (z7v w0 g M L O (if x<y then [] else Na.dig (x - y)) (if x<y then 5 else 0)):=by
 have:=z0ca (zs:=Na.up (Na.dig x)) (ys:=Na.up (Na.dig y)) h i j (by rw [z0g];exact hi) (by rw [z0g];exact hj)
 unfold subL subE at this;rw [Na.vld_dig hx,Na.vld_dig hy,z0l,z0l] at this;exact this
section
variable {w0 w w':World}{g:Option Nat}{M M2:List (Nat×Value)}{L:List Ob}{O:List Rw}{A A2 A3 A4:Option Addr}{b n c m c2 n3 c3 n4 c4 x y:Nat}{p q r s:List Int}
end
end Go.Proofs.YtpmofjomadibmaaGreatDoor
