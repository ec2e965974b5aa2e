/- ClassifyTurnedW LawSl ClsTab -/
import Derived.Test.YtpmofjomadibmaaGreatDoorV21
import Derived.ProofKit
import Derived.OpenShut
import Derived.Carry
import Derived.Test.YtpmofjomadibmaaGreatDoorRows
import Derived.LaidMore
import Derived.Lay
import Derived.SevenTiedAt
import Derived.Stop.Joined
import Derived.Lib.SmallJoins
namespace Go.Proofs.YtpmofjomadibmaaGreatDoor
set_option maxHeartbeats 16000000
open Go.RowKit Go.Sort
open Go.ChangeMaps (setBlock heap_setBlock_same heap_setBlock_other)
set_option linter.unusedVariables false
set_option maxRecDepth 100000
open Cl
theorem z8bc {x y:Nat}(h:frC x y):FrK x y∧x≤1000∧y≤1000:=by
 obtain ⟨z,den,h1,h2,h3,h4⟩:=h;have ht:(1000:Nat)<Na.top:=by decide +kernel
 obtain ⟨n,d,e,F,_,h5,h6⟩:=FrK.of (x:=z) (y:=den) (by omega) (by omega) h2
 rw [h4] at e;simp only [Prod.mk.injEq] at e;obtain ⟨rfl,rfl,_⟩:=e;exact ⟨F,by omega,by omega⟩
theorem z3a {x:Nat}(h:x≤1000):(Na.up (Na.dig x)).length≤20:=by
 rw [Na.up_length];have:=Na.dig_len_le (x:=x) (n:=1) (by omega)
 omega
theorem z9ak {l:List Sn}:∀ x∈l.map Sn.one,z2g 6 x=(⟨0,0,0,0,0,0⟩,1):=fun x hx=>by
 obtain ⟨y,_,rfl⟩:=List.mem_map.1 hx
 rfl
theorem z2be {s:Pl}{p q:List Int}{l:List Sn}(h1:shV s)(h2:rv p q=true)(h3:z4n s l=true)(h4:l.length≤40)(h5:p.length≤20)(h6:q.length≤20):chk s p q l=0:=by
 rw [z1ae (zt h1) h2 h3,zn (by omega),zn (by omega),zn (by omega)]
 rfl
theorem z3aa {s:Pl}{p q:List Int}{l:List Sn}(h:chk s p q l=0):z9u s p q l=(lsV s p q l (lns l),srt (Na.up (lsR s p q l (lns l))),0):=by
 unfold z9u;rw [if_pos h];rfl
theorem z1ba {s:Pl}{p q:List Int}{l m:List Sn}(h:chk s p q l=0)(hm:chk s p q m=0)(h2:(lsV s p q m (lns m)).length=2*(lsV s p q l (lns l)).length∧(lsR s p q m (lns m)).length=2*(lsR s p q l (lns l)).length):
  (z9u s p q m).1.length=2*(z9u s p q l).1.length∧(z9u s p q m).2.1.length=2*(z9u s p q l).2.1.length∧(z9u s p q l).2.2=0∧(z9u s p q m).2.2=0:=by
 rw [z3aa h,z3aa hm];refine ⟨h2.1,?_,rfl,rfl⟩
 show (srt _).length=2*(srt _).length
 rw [z6g,z6g];unfold Na.up;rw [List.length_map,List.length_map];exact h2.2
theorem z5b (l m:List Sn):fl (l++m)=fl l++fl m:=by
 unfold fl;rw [List.flatMap_append]
theorem z7aa (l:List Sn):∀ u∈fl l,u.oneCell'=true:=fun u hu=>by
 unfold fl at hu;obtain ⟨x,hx,h2⟩:=List.mem_flatMap.1 hu
 exact z1am x u h2
theorem z3ba {w:World}{B:Nat}{A:Option Addr}{l:List Sn}(h:Sl w B A (fl l))(k:Nat):Sl w B A (fl (l.take k)):=fun hp=>by
 have e:fl l=fl (l.take k)++fl (l.drop k):=by rw [← z5b,List.take_append_drop]
 obtain ⟨ad,ha,hb,hc⟩:=h (by rw [e,zqm];omega)
 exact ⟨ad,ha,hb,fun j u hu=>hc j u (by rw [e,zqn (z0e hu)];exact hu)⟩
theorem z3bb {w:World}{B:Nat}{A:Option Addr}{l:List Sn}(h:Sl w B A (fl l)){c k:Nat}(hc:l.length≤c)(hk:k≤l.length):Sl w B (if c=k then A else A.map (·.add (k*8))) (fl (l.drop k)):=fun hp=>by
 have hl:=z3f (l.drop k)
 rw [List.length_drop] at hl;rw [if_neg (by omega)]
 have e:fl l=fl (l.take k)++fl (l.drop k):=by rw [← z5b,List.take_append_drop]
 have ht:=z3f (l.take k)
 rw [zqw,Nat.min_eq_left hk] at ht;obtain ⟨ad,ha,hb,hc⟩:=h (by rw [e,zqm];omega)
 refine ⟨ad.add (k*8),by rw [ha];rfl,by rw [z1a];exact hb,fun j u hu=>?_⟩
 rw [z1ah];refine hc _ u ?_
 rw [e,← ht,zqo (Nat.le_add_right _ _),Nat.add_sub_cancel_left]
 exact hu
theorem z6bt {w:World}{B s n c:Nat}{e:TypeId}{A:Option Addr}{xs:List Value}(h:w.ownsRow B e s (.slice A n c) n xs):n≤c:=by
 rcases h.2 with ⟨h',h0⟩ | ⟨g,cap,cur,h',_,_,hnc,_⟩
 ·omega
 ·injection h' with _ _ a3
  omega
theorem z6z {P:Program}(w:World)(base:Nat)(t ty e:TypeId)(i:TypeInfo)(z:Value)(size bytes:Nat)(ht:P.underlying t=some (.slice e))(hi:P.info? e=some i)(hz:i.zero=some z)
  (hsize:i.size=size) (hby:i.bytes=bytes) (hzs:z.cells.size=size) (hsz:0<size)
  (A:Option Addr) (n c:Nat) (xs:List Value) (hown:w.ownsRow base e size (.slice A n c) n xs)
  (B:Nat) (A2:Option Addr) (m c2:Nat) (news:List Value) (hm:news.length=m*size) (hr:Sl w B A2 news) (h1:∀ u∈news,u.oneCell'=true)
  (h63:n+m≤maxLen) (hbytes:(n+m)*bytes≤140737488355328) (hbase:base≤w.heap.size) :
  ∃ A' c' w',(Builtin.append_ #[t,t] ty #[.slice A n c,.slice A2 m c2]).run P w=.ok (.slice A' (n+m) c') w'∧w'.ownsRow base e size (.slice A' (n+m) c') (n+m) (xs++news)∧w.grownBy w' (Value.slice A n c).ownBlock∧
   ((Value.slice A' (n+m) c').ownBlock=(Value.slice A n c).ownBlock∨(Value.slice A' (n+m) c').ownBlock=some w.heap.size):=by
 rcases A2 with _ | ad
 ·have h0:m=0:=by
   rcases zqh m with h0 | h0
   ·exact h0
   ·obtain ⟨ad,h,_⟩:=hr (by rw [hm];exact Nat.mul_pos h0 hsz)
    cases h
  subst h0
  have hn:news=[]:=List.eq_nil_of_length_eq_zero (by rw [hm,Nat.zero_mul])
  subst hn
  refine ⟨A,c,w,?_,by simpa using hown,World.grownBy.refl w _,.inl rfl⟩
  rcases hown.2 with ⟨h',h0⟩ | ⟨g,cap,cur,h',_,_,hnc,_⟩
  ·injection h' with a1 a2 a3
   subst a1 a2 a3
   simp [Builtin.append_,run_underlying ht,sizeOf,typeInfo,hi,Builtin.lenOf,Builtin.firstCells]
  ·injection h' with a1 a2 a3
   subst a1 a3
   simp [Builtin.append_,run_underlying ht,sizeOf,typeInfo,hi,Builtin.lenOf,Builtin.firstCells,hnc,storeCells]
 ·have hc:∀ j u,news[j]?=some u→w.cell? (ad.add j)=some u:=by
   rcases zqh news.length with h0 | h0
   ·have hn:news=[]:=List.eq_nil_of_length_eq_zero h0
    subst hn
    intro j u hu;simp at hu
   ·obtain ⟨ad',h,_,hc⟩:=hr h0
    injection h with h
    subst h
    exact hc
  obtain ⟨v',w',hrun,h2,h3,_,h5⟩:=run_append_own_at (P:=P) w base t ty e i z size bytes ht hi hz hsize hby hzs hsz _ n xs hown ad m c2 news hm hc h1 h63 hbytes hbase
  have hf:∃ A' c',v'=.slice A' (n+m) c':=by
   rcases h2.2 with ⟨h',h0⟩ | ⟨g,cap,cur,h',_⟩
   ·exact ⟨none,0,by rw [h',h0]⟩
   ·exact ⟨_,_,h'⟩
  obtain ⟨A',c',rfl⟩:=hf;exact ⟨_,_,w',hrun,h2,h3,h5⟩
theorem z5v {P:Program}{w0 w:World}{g:Option Nat}{M:List (Nat×Value)}{L:List Ob}{O:List Rw}{X:List Rx}{t e:TypeId}{sz bytes:Nat}{o:Oper}{a:Act}{K:Act→World→Prop}{Q:Exit→Act→World→Prop}(hE:z8ac P t e sz bytes)(h:Ox w0 w g M L O X)(i:Nat)(so x:Operand){A:Option Addr}{n c:Nat}{xs:List Value}(hi:X[i]?=some ⟨A,n,c,e,sz,xs⟩)
  {B:Nat} {A2:Option Addr} {m c2:Nat} {news:List Value} (hm:news.length=m*sz) (hr:Sl w B A2 news) (h1:∀ u∈news,u.oneCell'=true) (h63:n+m≤maxLen) (hbytes:(n+m)*bytes≤140737488355328)
  (ho:o.op=.call { callee:=.builtin .append,args:=#[so,x],argTypes:=#[t,t] }) (hs:a.eval so=.slice A n c) (hx:a.eval x=.slice A2 m c2)
  (hk:∀ A' c' w',Ox w0 w' g M L O (X.set i ⟨A',n+m,c',e,sz,xs++news⟩)→K (a.put o.dst (.slice A' (n+m) c')) w'):o.wp P a w K Q:=by
 obtain ⟨ht,hs0,inf,z,hi0,hz,hsz,hby,hzs⟩:=hE;obtain ⟨A',c',w',hrun,h2,h3,h5⟩:=z6z (P:=P) w w0.heap.size t o.type e inf z sz bytes ht hi0 hz hsz hby hzs hs0 A n c xs (h.own i _ hi) B A2 m c2 news hm hr h1 h63 hbytes h.size
 unfold Oper.wp execOp;simp only [ho,resolve,invoke,builtin,Sem.run_bind,Sem.run_pure,Result.andThen_ok,List.map_toArray,List.map_cons,List.map_nil,hs,hx,hrun];exact hk A' c' w' (h.turnX i hi (r':=⟨A',n+m,c',e,sz,xs++news⟩) h3 h2 h5)
theorem z8ao {P:Program}{t e:TypeId}{inf:TypeInfo}{A:Option Addr}{n c k:Nat}(ht:P.underlying t=some (.slice e))(hi:P.info? e=some inf)(hk:k≤n)(W:World):
  (Instr.slice t (.slice A n c) (some (.int .i64 (k:Int))) none none).run P W=.ok (.slice (if c=k then A else A.map (·.add (k*inf.size))) (n - k) (c - k)) W:=by
 have h1:(0:Int)≤(k:Int)∧(k:Int)≤(n:Int):=by omega
 simp [Instr.slice,Instr.sliceBounds,Instr.sliceBound,run_underlying ht,sizeOf,typeInfo,hi,asIntOf,h1,hk]
theorem z4ap {P:Program}{t e:TypeId}{inf:TypeInfo}{A:Option Addr}{n c k:Nat}(ht:P.underlying t=some (.slice e))(hi:P.info? e=some inf)(hk:k≤c)(W:World):
  (Instr.slice t (.slice A n c) none (some (.int .i64 (k:Int))) none).run P W=.ok (.slice A k c) W:=by
 have h1:(0:Int)≤(k:Int)∧(k:Int)≤(c:Int):=by omega
 have h3:Option.map (fun x:Addr=>x.add 0) A=A:=by
  cases A with
  | none=>rfl
  | some a=>simp [Addr.add]
 simp [Instr.slice,Instr.sliceBounds,Instr.sliceBound,run_underlying ht,sizeOf,typeInfo,hi,asIntOf,h1,hk,h3]
theorem z7am (c:Int)(l:List Sn)(x:Sn):z4t c (l++[x])=z4t c l++[x,chp c x]:=by
 unfold z4t;rw [List.flatMap_append,List.flatMap_cons,List.flatMap_nil,List.append_nil]
theorem z2ax {s:Pl}{l:List Sn}(h:z4n s l=true){x:Sn}(hx:x∈l):snV s x=true:=by
 obtain ⟨i,hi⟩:=List.getElem?_of_mem hx
 exact z2ay h hi
theorem z7au {s:Pl}{l:List Sn}(h:∀ x∈l,snV s x=true):z4n s l=true:=z2az fun j x hx=>h x (List.mem_of_getElem? hx)
theorem z7av {s:Pl}{l:List Sn}(h:z4n s l=true):z4n s (z4t 3 l)=true:=z7au fun y hy=>by
 unfold z4t at hy;obtain ⟨x,hx,h2⟩:=List.mem_flatMap.1 hy
 have hv:=z2ax h hx
 simp only [List.mem_cons,List.mem_nil_iff,or_false] at h2;rcases h2 with rfl | rfl
 ·exact hv
 ·exact z7d (z1g hv).1 ⟨by omega,by omega⟩ (z1g hv).2.2
theorem z4aj (l:List Sn)(k:Nat):l.Perm (l.drop k++l.take k):=by
 have h:=List.perm_append_comm (l₁:=l.take k) (l₂:=l.drop k)
 rwa [List.take_append_drop] at h
def RBo (l:List Sn)(w0:World)(g:Option Nat)(L:List Ob)(O:List Rw)(x15 x94:Value)(wr:World):Prop:=
 ∃ (i:Nat) (B:Option Addr) (d:Nat),i≤l.length∧x94=.int .i64 (i:Int)∧x15=.slice B (2*i) d∧Hid (Ox w0 wr g [] L O [⟨B,2*i,d,40,8,fl (z4t 3 (l.take i))⟩])
structure TnK (w0:World)(g:Option Nat)(L:List Ob)(OO:List Rw)(A:Option Addr)(n c k:Nat)(l:List Sn)(Ld:Nat→Bool)(u0 u1 u2 u3 u4 u5 u6 u7 u8:Value)(W:World):Prop where
 ox:∃ (B:Option Addr) (m d:Nat) (vs:List Value),Ox w0 W g [] L OO [⟨B,m,d,40,8,vs⟩]∧(Ld 3=false→B=none∧m=0∧d=0∧vs=[])∧(Ld 3=true→Ld 7=false→u3=.slice B m d∧n - k=m∧fl (l.drop k)=vs)∧(Ld 7=true→u7=.slice B m d∧n=m∧fl (l.drop k++l.take k)=vs)∧(Ld 8=true→u8=u7)
 h0:Ld 0=true→u0=.slice A n c
 h1:Ld 1=true→u1=.int .i64 (k:Int)
 h2:Ld 2=true→u2=.slice (if c=k then A else A.map (·.add (k*8))) (n - k) (c - k)
 h4:Ld 4=true→u4=.slice A n c
 h5:Ld 5=true→u5=.int .i64 (k:Int)
 h6:Ld 6=true→u6=.slice A k c
def TnI (w0:World)(g:Option Nat)(L:List Ob)(OO:List Rw)(A:Option Addr)(n c k:Nat)(l:List Sn)(A0:Act)(Ld:Nat→Bool)(a:Act)(W:World):Prop:=
 ∃ (u0 u1 u2 u3 u4 u5 u6 u7 u8:Value),a=(((((((((A0.put (some 41) u0).put (some 42) u1).put (some 43) u2).put (some 44) u3).put (some 45) u4).put (some 46) u5).put (some 47) u6).put (some 48) u7).put (some 10) u8)∧TnK w0 g L OO A n c k l Ld u0 u1 u2 u3 u4 u5 u6 u7 u8 W
structure TqK (w0:World)(g:Option Nat)(L:List Ob)(OO:List Rw)(bx by1:Nat)(vk vh:Int)(S:ByteArray)(C1:Option Addr)(s1 t1:Nat)(C2:Option Addr)(s2 t2:Nat)(D1:Option Addr)(o1 z1:Nat)(D2:Option Addr)(o2 z2:Nat)(Ld:Nat→Bool)(u0 u1 u2 u3 u4 u5 u6 u7 u8 u9 u10 u11 u12 u13 u14 u15 u16 u17 u18 u19 u20 u21 u22 u23 u24 u25 u26 u27 u28:Value)(W:World):Prop where
 ow:Ow w0 W g [] L OO
 h0:Ld 0=true→u0=.int .i64 0
 h1:Ld 1=true→u1=.bool false
 h2:Ld 2=true→u2=.bool false
 h3:Ld 3=true→u3=.int .i64 0
 h4:Ld 4=true→u4=.bool false
 h5:Ld 5=true→u5=.bool false
 h6:Ld 6=true→u6=.bool false
 h7:Ld 7=true→u7=.pointer (some ⟨bx,0,none⟩)
 h8:Ld 8=true→u8=.int .i64 vk
 h9:Ld 9=true→u9=.pointer (some ⟨by1,0,none⟩)
 h10:Ld 10=true→u10=.int .i64 vk
 h11:Ld 11=true→u11=.bool false
 h12:Ld 12=true→u12=.bool false
 h13:Ld 13=true→u13=.bool false
 h14:Ld 14=true→u14=.pointer (some ⟨bx,8,none⟩)
 h15:Ld 15=true→u15=.int .i64 vh
 h16:Ld 16=true→u16=.pointer (some ⟨by1,8,none⟩)
 h17:Ld 17=true→u17=.int .i64 vh
 h18:Ld 18=true→u18=.bool false
 h19:Ld 19=true→u19=.bool false
 h20:Ld 20=true→u20=.bool false
 h21:Ld 21=true→u21=.pointer (some ⟨bx,9,none⟩)
 h22:Ld 22=true→u22=.agg #[.slice C1 s1 t1,.slice C2 s2 t2]
 h23:Ld 23=true→u23=.string S
 h24:Ld 24=true→u24=.pointer (some ⟨by1,9,none⟩)
 h25:Ld 25=true→u25=.agg #[.slice D1 o1 z1,.slice D2 o2 z2]
 h26:Ld 26=true→u26=.string S
 h27:Ld 27=true→u27=.bool false
 h28:Ld 28=true→u28=.bool false
def TqI (w0:World)(g:Option Nat)(L:List Ob)(OO:List Rw)(bx by1:Nat)(vk vh:Int)(S:ByteArray)(C1:Option Addr)(s1 t1:Nat)(C2:Option Addr)(s2 t2:Nat)(D1:Option Addr)(o1 z1:Nat)(D2:Option Addr)(o2 z2:Nat)(A0:Act)(Ld:Nat→Bool)(a:Act)(W:World):Prop:=
 ∃ (u0 u1 u2 u3 u4 u5 u6 u7 u8 u9 u10 u11 u12 u13 u14 u15 u16 u17 u18 u19 u20 u21 u22 u23 u24 u25 u26 u27 u28:Value),a=(((((((((((((((((((((((((((((A0.put (some 63) u0).put (some 64) u1).put (some 65) u2).put (some 66) u3).put (some 67) u4).put (some 68) u5).put (some 69) u6).put (some 70) u7).put (some 71) u8).put (some 72) u9).put (some 73) u10).put (some 74) u11).put (some 75) u12).put (some 76) u13).put (some 77) u14).put (some 78) u15).put (some 79) u16).put (some 80) u17).put (some 81) u18).put (some 82) u19).put (some 83) u20).put (some 84) u21).put (some 85) u22).put (some 86) u23).put (some 87) u24).put (some 88) u25).put (some 89) u26).put (some 90) u27).put (some 91) u28)∧TqK w0 g L OO bx by1 vk vh S C1 s1 t1 C2 s2 t2 D1 o1 z1 D2 o2 z2 Ld u0 u1 u2 u3 u4 u5 u6 u7 u8 u9 u10 u11 u12 u13 u14 u15 u16 u17 u18 u19 u20 u21 u22 u23 u24 u25 u26 u27 u28 W
theorem z7bx {α:Type}{L:List α}{a b c:α}(i j k:Nat)(hi:L[i]?=some a)(hj:L[j]?=some b)(hk:L[k]?=some c):∀ o∈[a,b,c],o∈L:=fun o ho=>by
 simp only [List.mem_cons,List.mem_nil_iff,or_false] at ho;rcases ho with rfl | rfl | rfl
 ·exact List.mem_of_getElem? hi
 ·exact List.mem_of_getElem? hj
 ·exact List.mem_of_getElem? hk
theorem z5c (A0:Option Addr)(n0 c0:Nat)(ts:List Int)(turn:Int)(w:World)(hn0:ts.length=n0)(hl0:n0≤9223372036854775807)(hs0:Sl w w.heap.size A0 (z0t ts))(ht:Tab w):
  Calls Tryz.prog 7 #[.slice A0 n0 c0,.int .i64 turn] w fun e w'=>e=.returned (.bool true)∧Below w.heap.size w w':=by
 have HT:=zh ht;have HAw:=zh (z6y w ht)
 clear ht;rcases zqi 400 n0 with hbig | hsm
 ·have HLi:=zh (z0bg A0 n0 c0 w hbig hl0)
  clear hn0 hs0 hbig;go_enter Tryz.func7,Tryz.ntmps7
  go_wp2_with fail;refine HLi.out.mono ?_;rintro e w1 ⟨rfl,rfl⟩;go_wp2_with fail;refine HAw.out.mono ?_;rintro e w2 ⟨rfl,hb⟩;have HB:=zh hb;clear hb;go_wp2_with fail;go_ret;exact ⟨rfl,HB.out⟩
 have HLi:=zh (z6ao A0 n0 c0 w hsm)
 have HR:=zh (z3bh (Ow.of (St.refl w)) A0 n0 c0 w.heap.size ts hn0 (by omega) (zqj _) hs0)
 clear hs0 hn0 hsm hl0;go_enter Tryz.func7,Tryz.ntmps7
 go_wp2_with fail;refine HLi.out.mono ?_;rintro e w1 ⟨rfl,rfl⟩;go_wp2_with fail;refine HR.out.mono ?_;rintro e w1 ⟨g,rfl,hd1,h1⟩;have HBd:Hid (w.heap.size≤w.heap.size):=zqj _
 have HC:=zh (z8ap h1 hd1 HBd.out)
 clear HR HLi hd1 h1;go_wp2_with fail;refine HC.out.mono ?_;rintro e w2 ⟨sh,rfl,hsh,hd2,h2⟩;obtain ⟨so,ch,ra,ba,ro,co,rfl,h12⟩:=z5ai (z6bj hsh)
 have HSm:=zh h12;have HSv:=zh (z6bj hsh)
 have HC2:=zh (z7ak h2 hd2 HBd.out)
 clear HC hd2 h2 hsh h12;go_wp2_with fail;refine HC2.out.mono ?_;rintro e w3 ⟨X1,k1,f1,X2,k2,f2,x,y,rfl,hfr,hd3,h3⟩;have HFr:=zh (z8bc hfr)
 have H4:=(h3.arr #[.int .i64 so,.int .i64 ch,.int .i64 ra,.int .i64 ba,.int .i64 ro,.int .i64 co] 6 rfl (by omega) 33).pair (.slice X1 k1 f1) (.slice X2 k2 f2) 27
 simp only [World.size_alloc,zqb,zqc] at H4;have D4:Dice ((w3.alloc (.cells #[.int .i64 so,.int .i64 ch,.int .i64 ra,.int .i64 ba,.int .i64 ro,.int .i64 co] 33)).alloc (.cells #[.slice X1 k1 f1,.slice X2 k2 f2] 27)) g w.heap.size:=(hd3.below (z0i _ _)).below (z0i _ _)
 obtain ⟨a0,a1,a2,a3,a4,a5⟩:=zc6 (H4.row 0 rfl);have HL:=zh (z5ba H4 D4 HBd.out so ch ra ba ro co HSm.out 10 (by omega))
 clear HC2 hd3 h3 H4 D4 hfr;unfold Pl.vs;go_wp2_with fail;refine HL.out.mono ?_;rintro e w6 ⟨A,n,c,l0,rfl,hl,hn,hv,-,hx6⟩;have hsp:=z9ak (l:=l0)
 have hcp:∀ x∈l0.map Sn.one,x.cp=1:=fun x hx=>by
  obtain ⟨y,_,rfl⟩:=List.mem_map.1 hx
  rfl
 obtain ⟨l,hlz⟩:∃ z,l0.map Sn.one=z:=⟨_,rfl⟩
 rw [hlz] at hl hx6 hv hsp hcp;have hnc:=z6bt (hx6.row 0 rfl)
 have HY:=zh (hx6.keepX 0 rfl (m:=n*8) rfl (by omega) (by omega)).ow
 have HP3:Hid (z4n ⟨(so:Int),ch,ra,ba,ro,co⟩ l=true∧(∀ x∈l,z2g 6 x=(⟨0,0,0,0,0,0⟩,1))∧∀ x∈l,x.cp=1):=⟨hv,hsp,hcp⟩
 have HMo:=zh (z6af turn ((n:Int)+1) w6 (by omega) (by omega))
 obtain ⟨k,hk⟩:=Int.eq_ofNat_of_zero_le (Int.emod_nonneg turn (show (n:Int)+1≠0 by omega))
 have hkn:=Int.emod_lt_of_pos turn (show (0:Int)<(n:Int)+1 by omega)
 rw [hk] at HMo hkn;have hkN:k≤n:=by omega
 have HLn:Hid (l.length=n∧k≤n∧n≤10∧n≤c):=⟨hl,hkN,hn,hnc⟩
 have hw1:IntKind.i64.wrap ((n:Int)+1)=(n:Int)+1:=IntWalk.i64_in _ (by omega)
 clear HL hlz hl hn hv hsp hcp hx6 hnc hk hkn hkN a0 a1 a2 a3 a4 a5;go_wp2_with fail;refine HMo.out.mono ?_;rintro e w7 ⟨rfl,rfl⟩;clear HMo hw1;obtain ⟨htS,_,infS,_,hiS,_,hsS,_,_⟩:=z1ab;have HSl1:Hid (∀ W:World,(Instr.slice 23 (.slice A n c) (some (.int .i64 (k:Int))) none none).run Tryz.prog W=.ok (.slice (if c=k then A else A.map (·.add (k*8))) (n - k) (c - k)) W):=fun W=>by
  have:=z8ao htS hiS HLn.out.2.1 W (A:=A) (c:=c)
  rwa [hsS] at this
 have HSl2:Hid (∀ W:World,(Instr.slice 23 (.slice A n c) none (some (.int .i64 (k:Int))) none).run Tryz.prog W=.ok (.slice A k c) W):=z4ap htS hiS (zqq HLn.out.2.1 HLn.out.2.2.2)
 obtain ⟨LL,hLL⟩:∃ z,[(⟨X1,k1,f1,z0c (Na.dig x)⟩:Ob),⟨X2,k2,f2,z0c (Na.dig y)⟩,⟨A,n*8,n*8,fl l⟩]=z:=⟨_,rfl⟩
 obtain ⟨OO,hOO⟩:∃ z,[(⟨some ⟨w3.heap.size,0,none⟩,6,6,33,[.int .i64 so,.int .i64 ch,.int .i64 ra,.int .i64 ba,.int .i64 ro,.int .i64 co]⟩:Rw),Rw.pair (w3.heap.size+1) 27 (.slice X1 k1 f1) (.slice X2 k2 f2)]=z:=⟨_,rfl⟩
 have hy:=HY.out;simp only [zqb,zqc] at hy;rw [hLL,hOO] at hy;have HZ:=zh hy;have HLs:Hid (LL[2]?=some ⟨A,n*8,n*8,fl l⟩):=by unfold Hid;rw [← hLL];rfl
 have HLL:=zh hLL;have HOO:=zh hOO;clear hy HY hLL hOO htS hiS hsS;go_wp2_with fail;refine z1d (TnI w (some g) LL OO A n c k l) (by kernel_rfl) (by kernel_rfl) ?_ ?_ ?_
 ·refine ⟨undef,undef,undef,undef,undef,undef,undef,undef,undef,?_,⟨⟨none,0,0,[],((Ox.of HZ.out.drew).nilX 40 8),fun _=>⟨rfl,rfl,rfl,rfl⟩,?_,?_,?_⟩,?_,?_,?_,?_,?_,?_⟩⟩
  ·simp only [Act.put,zT,zZ,zS]
  all_goals (intro h;cases h)
 ·rintro jj Ld b W hj hf hcl hd ⟨u0,u1,u2,u3,u4,u5,u6,u7,u8,rfl,hC⟩;have hj':jj<9:=hj
  have hcase:jj=0∨jj=1∨jj=2∨jj=3∨jj=4∨jj=5∨jj=6∨jj=7∨jj=8:=by omega
  clear hj hj';simp only [Act.put,zT,zZ,zS];rcases hcase with rfl | rfl | rfl | rfl | rfl | rfl | rfl | rfl | rfl
  ·clear hd hcl;refine zw rfl fun K hK=>?_
   go_simp;refine hK _ _ ⟨_,_,_,_,_,_,_,_,_,?_,{hC with h0:=fun _=>rfl}⟩;simp only [Act.put,zT,zZ,zS]
  ·clear hd hcl;refine zw rfl fun K hK=>?_
   go_simp;refine hK _ _ ⟨_,_,_,_,_,_,_,_,_,?_,{hC with h1:=fun _=>rfl}⟩;simp only [Act.put,zT,zZ,zS]
  ·obtain rfl:=hC.h0 (hd 0 (by kernel_rfl));obtain rfl:=hC.h1 (hd 1 (by kernel_rfl));have hsl:=HSl1.out W
   clear hd hcl;refine zw rfl fun K hK=>?_
   go_simp;refine hK _ _ ⟨_,_,_,_,_,_,_,_,_,?_,{hC with h2:=fun _=>rfl}⟩;simp only [Act.put,zT,zZ,zS]
  ·obtain rfl:=hC.h2 (hd 2 (by kernel_rfl));obtain ⟨B,m,d,vs,hox,hx0,-,hx7,hx8⟩:=hC.ox
   obtain ⟨rfl,rfl,rfl,rfl⟩:=hx0 hf
   have h7:Ld 7=false:=by
    cases e:Ld 7 with
    | false=>rfl
    | true=>
     have h5:=hcl 7 3 e (by kernel_rfl)
     rw [hf] at h5;cases h5
   have h8:Ld 8=false:=by
    cases e:Ld 8 with
    | false=>rfl
    | true=>
     have h5:=hcl 8 7 e (by kernel_rfl)
     rw [h7] at h5;cases h5
   clear hd hcl;refine zw rfl fun K hK=>?_
   rw [if_pos (by rfl)]
   refine z5v z1ab hox 0 (.const (.slice none 0 0)) (.tmp 43) rfl (news:=fl (l.drop k)) (m:=n - k) (by rw [z3f,List.length_drop,HLn.out.1]) (z3bb (hox.ow.sl HLs.out).2.2.2 (by have:=HLn.out;omega) (by have:=HLn.out;omega)) (z7aa _) (by have:=HLn.out;unfold maxLen;omega) (by have:=HLn.out;omega) rfl rfl rfl ?_
   intro A' c' W' hox2;refine hK _ _ ⟨u0,u1,(.slice (if c=k then A else A.map (·.add (k*8))) (n - k) (c - k)),(.slice A' (0+(n - k)) c'),u4,u5,u6,u7,u8,?_,⟨⟨A',n - k,c',_,(by rw [Nat.zero_add] at hox2;exact hox2),(fun h=>by cases h),(fun _ _=>⟨by rw [Nat.zero_add],rfl,rfl⟩),fun h=>?_,fun h=>?_⟩,hC.h0,hC.h1,hC.h2,hC.h4,hC.h5,hC.h6⟩⟩
   simp only [Act.put,zT,zZ,zS];rfl
   ·exact absurd (h7.symm.trans h) (by decide)
   ·exact absurd (h8.symm.trans h) (by decide)
  ·clear hd hcl;refine zw rfl fun K hK=>?_
   go_simp;refine hK _ _ ⟨_,_,_,_,_,_,_,_,_,?_,{hC with h4:=fun _=>rfl}⟩;simp only [Act.put,zT,zZ,zS]
  ·clear hd hcl;refine zw rfl fun K hK=>?_
   go_simp;refine hK _ _ ⟨_,_,_,_,_,_,_,_,_,?_,{hC with h5:=fun _=>rfl}⟩;simp only [Act.put,zT,zZ,zS]
  ·obtain rfl:=hC.h4 (hd 4 (by kernel_rfl));obtain rfl:=hC.h5 (hd 5 (by kernel_rfl));have hsl:=HSl2.out W
   clear hd hcl;refine zw rfl fun K hK=>?_
   go_simp;refine hK _ _ ⟨_,_,_,_,_,_,_,_,_,?_,{hC with h6:=fun _=>rfl}⟩;simp only [Act.put,zT,zZ,zS]
  ·obtain rfl:=hC.h6 (hd 6 (by kernel_rfl));obtain ⟨B,m,d,vs,hox,hx0,hx3,hx7,hx8⟩:=hC.ox;obtain ⟨rfl,rfl,rfl⟩:=hx3 (hd 3 (by kernel_rfl)) hf
   have h3:Ld 3=true:=hd 3 (by kernel_rfl)
   have h8:Ld 8=false:=by
    cases e:Ld 8 with
    | false=>rfl
    | true=>
     have h5:=hcl 8 7 e (by kernel_rfl)
     rw [hf] at h5;cases h5
   clear hd hcl;refine zw rfl fun K hK=>?_
   rw [if_pos (by rfl)]
   refine z5v z1ab hox 0 (.tmp 44) (.tmp 47) rfl (news:=fl (l.take k)) (m:=k) (by rw [z3f,zqw,HLn.out.1,Nat.min_eq_left HLn.out.2.1]) (z3ba (hox.ow.sl HLs.out).2.2.2 k) (z7aa _) (by have:=HLn.out;unfold maxLen;omega) (by have:=HLn.out;omega) rfl rfl rfl ?_
   intro A' c' W' hox2;refine hK _ _ ⟨u0,u1,u2,(.slice B (n - k) d),u4,u5,(.slice A k c),(.slice A' (n - k+k) c'),u8,?_,⟨⟨A',n,c',_,(by rw [Nat.sub_add_cancel HLn.out.2.1] at hox2;exact hox2),fun h=>?_,(fun _ h=>by cases h),(fun _=>⟨by rw [Nat.sub_add_cancel HLn.out.2.1],rfl,by rw [z5b]⟩),fun h=>?_⟩,hC.h0,hC.h1,hC.h2,hC.h4,hC.h5,hC.h6⟩⟩
   simp only [Act.put,zT,zZ,zS];rfl
   ·exact absurd (h3.symm.trans h) (by decide)
   ·exact absurd (h8.symm.trans h) (by decide)
  ·obtain ⟨B,m,d,vs,hox,hx0,hx3,hx7,hx8⟩:=hC.ox;obtain ⟨rfl,rfl,rfl⟩:=hx7 (hd 7 (by kernel_rfl))
   clear hd hcl;refine zw rfl fun K hK=>?_
   go_simp;refine hK _ _ ⟨u0,u1,u2,u3,u4,u5,u6,(.slice B n d),(.slice B n d),?_,⟨⟨B,_,d,_,hox,hx0,hx3,fun _=>⟨rfl,rfl,rfl⟩,fun _=>rfl⟩,hC.h0,hC.h1,hC.h2,hC.h4,hC.h5,hC.h6⟩⟩;simp only [Act.put,zT,zZ,zS]
 ·rintro Ld b W hL ⟨u0,u1,u2,u3,u4,u5,u6,u7,u8,rfl,hC⟩;obtain ⟨B,m,d,vs,hox,-,-,hx7,hx8⟩:=hC.ox
  obtain ⟨rfl,rfl,rfl⟩:=hx7 (hL 7 (by show 7<9;decide))
  obtain rfl:=hx8 (hL 8 (by show 8<9;decide))
  have H8:=zh (hox.keepX 0 rfl (m:=n*8) rfl (by have:=HLn.out;omega) (by omega)).ow
  clear hC hL hox hx7 hx8;simp only [Act.put,zT,zZ,zS];obtain ⟨lt,hlt⟩:∃ z,l.drop k++l.take k=z:=⟨_,rfl⟩
  have h8:=H8.out;rw [← HLL.out,← HOO.out,hlt] at h8;simp only [zqb,zqc] at h8;have hpm:l.Perm lt:=by rw [← hlt];exact z4aj l k
  have hln:lt.length=n:=by rw [← hpm.length_eq];exact HLn.out.1
  have HJ:=zh (z5ak (p:=Na.up (Na.dig x)) (q:=Na.up (Na.dig y)) (l:=l) (n3:=n) (c3:=c) ⟨(so:Int),ch,ra,ba,ro,co⟩ h8 0 1 2 (by rw [z0g];rfl) (by rw [z0g];rfl) rfl HT.out)
  rw [z6at HSv.out HFr.out.1.rv HP3.out.1 (by have:=HLn.out;omega) (z3a HFr.out.2.1) (z3a HFr.out.2.2) (z1ay HP3.out.2.1)] at HJ
  have HJm:Hid (∀ (W:World) (L2:List Ob) (O2:List Rw) (a b z:Nat),Ow w W (some g) [] L2 O2→L2[a]?=some ⟨X1,k1,f1,z0c (Na.dig x)⟩→L2[b]?=some ⟨X2,k2,f2,z0c (Na.dig y)⟩→L2[z]?=some ⟨B,n*8,n*8,fl lt⟩→Calls Tryz.prog 15 #[.agg #[.int .i64 so,.int .i64 ch,.int .i64 ra,.int .i64 ba,.int .i64 ro,.int .i64 co],.agg #[.slice X1 k1 f1,.slice X2 k2 f2],.slice B n d] W (JdR w (some g) [] L2 O2 (jud ⟨(so:Int),ch,ra,ba,ro,co⟩ (Na.up (Na.dig x)) (Na.up (Na.dig y)) lt,0))):=by
   intro W L2 O2 a b z hW ha hb hz;have h1:=z5ak (p:=Na.up (Na.dig x)) (q:=Na.up (Na.dig y)) (l:=lt) (n3:=n) (c3:=d) ⟨(so:Int),ch,ra,ba,ro,co⟩ hW a b z (by rw [z0g];exact ha) (by rw [z0g];exact hb) hz HT.out
   rw [z6at HSv.out HFr.out.1.rv (z7au fun x hx=>z2ax HP3.out.1 (hpm.mem_iff.2 hx)) (by have:=HLn.out;omega) (z3a HFr.out.2.1) (z3a HFr.out.2.2) (z1ay fun x hx=>HP3.out.2.1 x (hpm.mem_iff.2 hx))] at h1
   exact h1
  have hvq:=z0bk (s:=⟨(so:Int),ch,ra,ba,ro,co⟩) (p:=Na.up (Na.dig x)) (q:=Na.up (Na.dig y)) hpm
  obtain ⟨V,hV⟩:∃ V,jud ⟨(so:Int),ch,ra,ba,ro,co⟩ (Na.up (Na.dig x)) (Na.up (Na.dig y)) l=V:=⟨_,rfl⟩
  obtain ⟨U,hU⟩:∃ U,jud ⟨(so:Int),ch,ra,ba,ro,co⟩ (Na.up (Na.dig x)) (Na.up (Na.dig y)) lt=U:=⟨_,rfl⟩
  rw [hV,hU] at hvq;rw [hV] at HJ;rw [hU] at HJm;obtain ⟨vk,⟨va0,va1,va2,va3,va4,va5⟩,vac,vh,vx,vy⟩:=V
  obtain ⟨uk,⟨vb0,vb1,vb2,vb3,vb4,vb5⟩,vbc,uh,ux,uy⟩:=U
  obtain ⟨e1,e2,e3,e4⟩:=hvq;simp only at e1 e2 e3 e4
  subst e1 e2 e3 e4
  unfold JdR Vd.vs Pl.vs at HJ;unfold JdR Vd.vs at HJm;simp only [zqb,zqc] at HJ;obtain ⟨a0,a1,a2,a3,a4,a5⟩:=zc6 (h8.row 0 rfl);have b0:=h8.p0 1 rfl
  have b1:=h8.p1 1 rfl
  clear h8 hlt hpm hln hV hU H8;go_wp2_with fail;refine HJ.out.mono ?_;rintro e w8 ⟨C1,s1,t1,C2,s2,t2,rfl,G⟩;have H9:=G.arr #[.int .i64 vk,.int .i64 va0,.int .i64 va1,.int .i64 va2,.int .i64 va3,.int .i64 va4,.int .i64 va5,.int .i64 vac,.int .i64 vh,.slice C1 s1 t1,.slice C2 s2 t2] 11 rfl (by omega) 42
  simp only [zqb,zqc] at H9;have HJ2:=zh (HJm.out _ _ _ 0 1 3 H9 rfl rfl rfl)
  simp only [zqb,zqc] at HJ2;clear a0 a1 a2 a3 a4 a5 b0 b1 HJ;obtain ⟨a0,a1,a2,a3,a4,a5⟩:=zc6 (H9.row 0 rfl);have b0:=H9.p0 1 rfl
  have b1:=H9.p1 1 rfl
  clear G H9 HJm;go_wp2_with fail;refine HJ2.out.mono ?_;rintro e w9 ⟨D1,o1,z1,D2,o2,z2,rfl,G⟩;have H10:=G.arr #[.int .i64 vk,.int .i64 vb0,.int .i64 vb1,.int .i64 vb2,.int .i64 vb3,.int .i64 vb4,.int .i64 vb5,.int .i64 vbc,.int .i64 vh,.slice D1 o1 z1,.slice D2 o2 z2] 11 rfl (by omega) 42
  simp only [zqb,zqc] at H10;clear a0 a1 a2 a3 a4 a5 b0 b1 HJ2 G;obtain ⟨S,hS⟩:∃ S,str (rprt (Na.up (Na.dig vx)) (Na.up (Na.dig vy)))=S:=⟨_,rfl⟩
  obtain ⟨LJ,hLJ⟩:∃ z,[(⟨X1,k1,f1,z0c (Na.dig x)⟩:Ob),⟨X2,k2,f2,z0c (Na.dig y)⟩,⟨A,n*8,n*8,fl l⟩,⟨B,n*8,n*8,fl lt⟩,⟨C1,s1,t1,z0c (Na.dig vx)⟩,⟨C2,s2,t2,z0c (Na.dig vy)⟩,⟨D1,o1,z1,z0c (Na.dig vx)⟩,⟨D2,o2,z2,z0c (Na.dig vy)⟩]=z:=⟨_,rfl⟩
  obtain ⟨OJ,hOJ⟩:∃ z,[(⟨some ⟨w3.heap.size,0,none⟩,6,6,33,[.int .i64 so,.int .i64 ch,.int .i64 ra,.int .i64 ba,.int .i64 ro,.int .i64 co]⟩:Rw),Rw.pair (w3.heap.size+1) 27 (.slice X1 k1 f1) (.slice X2 k2 f2),(⟨some ⟨w8.heap.size,0,none⟩,11,11,42,[.int .i64 vk,.int .i64 va0,.int .i64 va1,.int .i64 va2,.int .i64 va3,.int .i64 va4,.int .i64 va5,.int .i64 vac,.int .i64 vh,.slice C1 s1 t1,.slice C2 s2 t2]⟩:Rw),(⟨some ⟨w9.heap.size,0,none⟩,11,11,42,[.int .i64 vk,.int .i64 vb0,.int .i64 vb1,.int .i64 vb2,.int .i64 vb3,.int .i64 vb4,.int .i64 vb5,.int .i64 vbc,.int .i64 vh,.slice D1 o1 z1,.slice D2 o2 z2]⟩:Rw)]=z:=⟨_,rfl⟩
  rw [hLJ,hOJ] at H10;have HW:=zh H10;have HV1:Hid (OJ[2]?=some (⟨some ⟨w8.heap.size,0,none⟩,11,11,42,[.int .i64 vk,.int .i64 va0,.int .i64 va1,.int .i64 va2,.int .i64 va3,.int .i64 va4,.int .i64 va5,.int .i64 vac,.int .i64 vh,.slice C1 s1 t1,.slice C2 s2 t2]⟩:Rw)):=by unfold Hid;rw [← hOJ];rfl
  have HV2:Hid (OJ[3]?=some (⟨some ⟨w9.heap.size,0,none⟩,11,11,42,[.int .i64 vk,.int .i64 vb0,.int .i64 vb1,.int .i64 vb2,.int .i64 vb3,.int .i64 vb4,.int .i64 vb5,.int .i64 vbc,.int .i64 vh,.slice D1 o1 z1,.slice D2 o2 z2]⟩:Rw)):=by unfold Hid;rw [← hOJ];rfl
  have HP1:Hid (∀ (W:World),Ow w W (some g) [] LJ OJ→Calls Tryz.prog 24 #[.agg #[.slice C1 s1 t1,.slice C2 s2 t2]] W fun e w'=>e=.returned (.string S)∧Ow w w' (some g) [] LJ OJ):=fun W how=>by
   have:=z4q (p:=Na.up (Na.dig vx)) (q:=Na.up (Na.dig vy)) how 4 5 (by rw [z0g,← hLJ];rfl) (by rw [z0g,← hLJ];rfl)
   rwa [hS] at this
  have HP2:Hid (∀ (W:World),Ow w W (some g) [] LJ OJ→Calls Tryz.prog 24 #[.agg #[.slice D1 o1 z1,.slice D2 o2 z2]] W fun e w'=>e=.returned (.string S)∧Ow w w' (some g) [] LJ OJ):=fun W how=>by
   have:=z4q (p:=Na.up (Na.dig vx)) (q:=Na.up (Na.dig vy)) how 6 7 (by rw [z0g,← hLJ];rfl) (by rw [z0g,← hLJ];rfl)
   rwa [hS] at this
  have HLJ:=zh hLJ;have HOJ:=zh hOJ;clear H10 hS hLJ hOJ;go_wp2_with fail;refine z1d (TqI w (some g) LJ OJ w8.heap.size w9.heap.size vk vh S C1 s1 t1 C2 s2 t2 D1 o1 z1 D2 o2 z2) (by kernel_rfl) (by kernel_rfl) ?_ ?_ ?_
  ·refine ⟨undef,undef,undef,undef,undef,undef,undef,undef,undef,undef,undef,undef,undef,undef,undef,undef,undef,undef,undef,undef,undef,undef,undef,undef,undef,undef,undef,undef,undef,?_,⟨HW.out.drew,?_,?_,?_,?_,?_,?_,?_,?_,?_,?_,?_,?_,?_,?_,?_,?_,?_,?_,?_,?_,?_,?_,?_,?_,?_,?_,?_,?_,?_⟩⟩
   ·simp only [Act.put,zT,zZ,zS]
   all_goals (intro h;cases h)
  ·rintro jj Ld b W hj hf hcl hd ⟨u0,u1,u2,u3,u4,u5,u6,u7,u8,u9,u10,u11,u12,u13,u14,u15,u16,u17,u18,u19,u20,u21,u22,u23,u24,u25,u26,u27,u28,rfl,hC⟩;have hj':jj<29:=hj
   have hcase:jj=0∨jj=1∨jj=2∨jj=3∨jj=4∨jj=5∨jj=6∨jj=7∨jj=8∨jj=9∨jj=10∨jj=11∨jj=12∨jj=13∨jj=14∨jj=15∨jj=16∨jj=17∨jj=18∨jj=19∨jj=20∨jj=21∨jj=22∨jj=23∨jj=24∨jj=25∨jj=26∨jj=27∨jj=28:=by omega
   clear hj hj';simp only [Act.put,zT,zZ,zS];rcases hcase with rfl | rfl | rfl | rfl | rfl | rfl | rfl | rfl | rfl | rfl | rfl | rfl | rfl | rfl | rfl | rfl | rfl | rfl | rfl | rfl | rfl | rfl | rfl | rfl | rfl | rfl | rfl | rfl | rfl
   ·clear hd hcl;refine zw rfl fun K hK=>?_
    go_simp;refine hK _ _ ⟨_,_,_,_,_,_,_,_,_,_,_,_,_,_,_,_,_,_,_,_,_,_,_,_,_,_,_,_,_,?_,{hC with h0:=fun _=>rfl}⟩;simp only [Act.put,zT,zZ,zS]
   ·obtain rfl:=hC.h0 (hd 0 (by kernel_rfl));clear hd hcl;refine zw rfl fun K hK=>?_
    go_simp;refine hK _ _ ⟨_,_,_,_,_,_,_,_,_,_,_,_,_,_,_,_,_,_,_,_,_,_,_,_,_,_,_,_,_,?_,{hC with h1:=fun _=>rfl}⟩;simp only [Act.put,zT,zZ,zS]
   ·obtain rfl:=hC.h1 (hd 1 (by kernel_rfl));clear hd hcl;refine zw rfl fun K hK=>?_
    go_simp;refine hK _ _ ⟨_,_,_,_,_,_,_,_,_,_,_,_,_,_,_,_,_,_,_,_,_,_,_,_,_,_,_,_,_,?_,{hC with h2:=fun _=>rfl}⟩;simp only [Act.put,zT,zZ,zS]
   ·obtain rfl:=hC.h2 (hd 2 (by kernel_rfl));clear hd hcl;refine zw rfl fun K hK=>?_
    go_simp;refine hK _ _ ⟨_,_,_,_,_,_,_,_,_,_,_,_,_,_,_,_,_,_,_,_,_,_,_,_,_,_,_,_,_,?_,{hC with h3:=fun _=>rfl}⟩;simp only [Act.put,zT,zZ,zS]
   ·obtain rfl:=hC.h3 (hd 3 (by kernel_rfl));obtain rfl:=hC.h2 (hd 2 (by kernel_rfl));clear hd hcl;refine zw rfl fun K hK=>?_
    go_simp;refine hK _ _ ⟨_,_,_,_,_,_,_,_,_,_,_,_,_,_,_,_,_,_,_,_,_,_,_,_,_,_,_,_,_,?_,{hC with h4:=fun _=>rfl}⟩;simp only [Act.put,zT,zZ,zS]
   ·obtain rfl:=hC.h2 (hd 2 (by kernel_rfl));obtain rfl:=hC.h4 (hd 4 (by kernel_rfl));clear hd hcl;refine zw rfl fun K hK=>?_
    go_simp;refine hK _ _ ⟨_,_,_,_,_,_,_,_,_,_,_,_,_,_,_,_,_,_,_,_,_,_,_,_,_,_,_,_,_,?_,{hC with h5:=fun _=>rfl}⟩;simp only [Act.put,zT,zZ,zS]
   ·obtain rfl:=hC.h5 (hd 5 (by kernel_rfl));clear hd hcl;refine zw rfl fun K hK=>?_
    go_simp;refine hK _ _ ⟨_,_,_,_,_,_,_,_,_,_,_,_,_,_,_,_,_,_,_,_,_,_,_,_,_,_,_,_,_,?_,{hC with h6:=fun _=>rfl}⟩;simp only [Act.put,zT,zZ,zS]
   ·obtain rfl:=hC.h6 (hd 6 (by kernel_rfl));clear hd hcl;refine zw rfl fun K hK=>?_
    go_simp;refine hK _ _ ⟨_,_,_,_,_,_,_,_,_,_,_,_,_,_,_,_,_,_,_,_,_,_,_,_,_,_,_,_,_,?_,{hC with h7:=fun _=>rfl}⟩;simp only [Act.put,zT,zZ,zS]
   ·obtain rfl:=hC.h7 (hd 7 (by kernel_rfl));obtain rfl:=hC.h6 (hd 6 (by kernel_rfl));have hvr:=hC.ow.row 2 HV1.out
    have y0:=hvr.cellAt 0 (by decide)
    clear hd hcl;refine zw rfl fun K hK=>?_
    go_simp;refine hK _ _ ⟨_,_,_,_,_,_,_,_,_,_,_,_,_,_,_,_,_,_,_,_,_,_,_,_,_,_,_,_,_,?_,{hC with h8:=fun _=>rfl}⟩;simp only [Act.put,zT,zZ,zS]
   ·obtain rfl:=hC.h6 (hd 6 (by kernel_rfl));clear hd hcl;refine zw rfl fun K hK=>?_
    go_simp;refine hK _ _ ⟨_,_,_,_,_,_,_,_,_,_,_,_,_,_,_,_,_,_,_,_,_,_,_,_,_,_,_,_,_,?_,{hC with h9:=fun _=>rfl}⟩;simp only [Act.put,zT,zZ,zS]
   ·obtain rfl:=hC.h9 (hd 9 (by kernel_rfl));obtain rfl:=hC.h6 (hd 6 (by kernel_rfl));have hvr:=hC.ow.row 3 HV2.out
    have y0:=hvr.cellAt 0 (by decide)
    clear hd hcl;refine zw rfl fun K hK=>?_
    go_simp;refine hK _ _ ⟨_,_,_,_,_,_,_,_,_,_,_,_,_,_,_,_,_,_,_,_,_,_,_,_,_,_,_,_,_,?_,{hC with h10:=fun _=>rfl}⟩;simp only [Act.put,zT,zZ,zS]
   ·obtain rfl:=hC.h8 (hd 8 (by kernel_rfl));obtain rfl:=hC.h10 (hd 10 (by kernel_rfl));obtain rfl:=hC.h6 (hd 6 (by kernel_rfl));have hne:(vk != vk)=false:=bne_self_eq_false _
    clear hd hcl;refine zw rfl fun K hK=>?_
    go_simp;refine hK _ _ ⟨_,_,_,_,_,_,_,_,_,_,_,_,_,_,_,_,_,_,_,_,_,_,_,_,_,_,_,_,_,?_,{hC with h11:=fun _=>rfl}⟩;simp only [Act.put,zT,zZ,zS]
   ·obtain rfl:=hC.h6 (hd 6 (by kernel_rfl));obtain rfl:=hC.h11 (hd 11 (by kernel_rfl));clear hd hcl;refine zw rfl fun K hK=>?_
    go_simp;refine hK _ _ ⟨_,_,_,_,_,_,_,_,_,_,_,_,_,_,_,_,_,_,_,_,_,_,_,_,_,_,_,_,_,?_,{hC with h12:=fun _=>rfl}⟩;simp only [Act.put,zT,zZ,zS]
   ·obtain rfl:=hC.h12 (hd 12 (by kernel_rfl));clear hd hcl;refine zw rfl fun K hK=>?_
    go_simp;refine hK _ _ ⟨_,_,_,_,_,_,_,_,_,_,_,_,_,_,_,_,_,_,_,_,_,_,_,_,_,_,_,_,_,?_,{hC with h13:=fun _=>rfl}⟩;simp only [Act.put,zT,zZ,zS]
   ·obtain rfl:=hC.h13 (hd 13 (by kernel_rfl));clear hd hcl;refine zw rfl fun K hK=>?_
    go_simp;refine hK _ _ ⟨_,_,_,_,_,_,_,_,_,_,_,_,_,_,_,_,_,_,_,_,_,_,_,_,_,_,_,_,_,?_,{hC with h14:=fun _=>rfl}⟩;simp only [Act.put,zT,zZ,zS]
   ·obtain rfl:=hC.h14 (hd 14 (by kernel_rfl));obtain rfl:=hC.h13 (hd 13 (by kernel_rfl));have hvr:=hC.ow.row 2 HV1.out
    have y8:=hvr.cellAt 8 (by decide)
    clear hd hcl;refine zw rfl fun K hK=>?_
    go_simp;refine hK _ _ ⟨_,_,_,_,_,_,_,_,_,_,_,_,_,_,_,_,_,_,_,_,_,_,_,_,_,_,_,_,_,?_,{hC with h15:=fun _=>rfl}⟩;simp only [Act.put,zT,zZ,zS]
   ·obtain rfl:=hC.h13 (hd 13 (by kernel_rfl));clear hd hcl;refine zw rfl fun K hK=>?_
    go_simp;refine hK _ _ ⟨_,_,_,_,_,_,_,_,_,_,_,_,_,_,_,_,_,_,_,_,_,_,_,_,_,_,_,_,_,?_,{hC with h16:=fun _=>rfl}⟩;simp only [Act.put,zT,zZ,zS]
   ·obtain rfl:=hC.h16 (hd 16 (by kernel_rfl));obtain rfl:=hC.h13 (hd 13 (by kernel_rfl));have hvr:=hC.ow.row 3 HV2.out
    have y8:=hvr.cellAt 8 (by decide)
    clear hd hcl;refine zw rfl fun K hK=>?_
    go_simp;refine hK _ _ ⟨_,_,_,_,_,_,_,_,_,_,_,_,_,_,_,_,_,_,_,_,_,_,_,_,_,_,_,_,_,?_,{hC with h17:=fun _=>rfl}⟩;simp only [Act.put,zT,zZ,zS]
   ·obtain rfl:=hC.h15 (hd 15 (by kernel_rfl));obtain rfl:=hC.h17 (hd 17 (by kernel_rfl));obtain rfl:=hC.h13 (hd 13 (by kernel_rfl));have hne:(vh != vh)=false:=bne_self_eq_false _
    clear hd hcl;refine zw rfl fun K hK=>?_
    go_simp;refine hK _ _ ⟨_,_,_,_,_,_,_,_,_,_,_,_,_,_,_,_,_,_,_,_,_,_,_,_,_,_,_,_,_,?_,{hC with h18:=fun _=>rfl}⟩;simp only [Act.put,zT,zZ,zS]
   ·obtain rfl:=hC.h13 (hd 13 (by kernel_rfl));obtain rfl:=hC.h18 (hd 18 (by kernel_rfl));clear hd hcl;refine zw rfl fun K hK=>?_
    go_simp;refine hK _ _ ⟨_,_,_,_,_,_,_,_,_,_,_,_,_,_,_,_,_,_,_,_,_,_,_,_,_,_,_,_,_,?_,{hC with h19:=fun _=>rfl}⟩;simp only [Act.put,zT,zZ,zS]
   ·obtain rfl:=hC.h19 (hd 19 (by kernel_rfl));clear hd hcl;refine zw rfl fun K hK=>?_
    go_simp;refine hK _ _ ⟨_,_,_,_,_,_,_,_,_,_,_,_,_,_,_,_,_,_,_,_,_,_,_,_,_,_,_,_,_,?_,{hC with h20:=fun _=>rfl}⟩;simp only [Act.put,zT,zZ,zS]
   ·obtain rfl:=hC.h20 (hd 20 (by kernel_rfl));clear hd hcl;refine zw rfl fun K hK=>?_
    go_simp;refine hK _ _ ⟨_,_,_,_,_,_,_,_,_,_,_,_,_,_,_,_,_,_,_,_,_,_,_,_,_,_,_,_,_,?_,{hC with h21:=fun _=>rfl}⟩;simp only [Act.put,zT,zZ,zS]
   ·obtain rfl:=hC.h21 (hd 21 (by kernel_rfl));obtain rfl:=hC.h20 (hd 20 (by kernel_rfl));have hvr:=hC.ow.row 2 HV1.out
    have y9:=hvr.cellAt 9 (by decide)
    have y10:=hvr.cellAt 10 (by decide)
    clear hd hcl;refine zw rfl fun K hK=>?_
    go_simp;refine hK _ _ ⟨_,_,_,_,_,_,_,_,_,_,_,_,_,_,_,_,_,_,_,_,_,_,_,_,_,_,_,_,_,?_,{hC with h22:=fun _=>rfl}⟩;simp only [Act.put,zT,zZ,zS]
   ·obtain rfl:=hC.h22 (hd 22 (by kernel_rfl));obtain rfl:=hC.h20 (hd 20 (by kernel_rfl));have hcall:=HP1.out W hC.ow
    clear hd hcl;refine zw rfl fun K hK=>?_
    go_simp;refine (hcall).mono ?_
    rintro e W' ⟨rfl,hb⟩;refine hK _ _ ⟨_,_,_,_,_,_,_,_,_,_,_,_,_,_,_,_,_,_,_,_,_,_,_,_,_,_,_,_,_,?_,{hC with ow:=hb,h23:=fun _=>rfl}⟩;simp only [Act.put,zT,zZ,zS]
   ·obtain rfl:=hC.h20 (hd 20 (by kernel_rfl));clear hd hcl;refine zw rfl fun K hK=>?_
    go_simp;refine hK _ _ ⟨_,_,_,_,_,_,_,_,_,_,_,_,_,_,_,_,_,_,_,_,_,_,_,_,_,_,_,_,_,?_,{hC with h24:=fun _=>rfl}⟩;simp only [Act.put,zT,zZ,zS]
   ·obtain rfl:=hC.h24 (hd 24 (by kernel_rfl));obtain rfl:=hC.h20 (hd 20 (by kernel_rfl));have hvr:=hC.ow.row 3 HV2.out
    have y9:=hvr.cellAt 9 (by decide)
    have y10:=hvr.cellAt 10 (by decide)
    clear hd hcl;refine zw rfl fun K hK=>?_
    go_simp;refine hK _ _ ⟨_,_,_,_,_,_,_,_,_,_,_,_,_,_,_,_,_,_,_,_,_,_,_,_,_,_,_,_,_,?_,{hC with h25:=fun _=>rfl}⟩;simp only [Act.put,zT,zZ,zS]
   ·obtain rfl:=hC.h25 (hd 25 (by kernel_rfl));obtain rfl:=hC.h20 (hd 20 (by kernel_rfl));have hcall:=HP2.out W hC.ow
    clear hd hcl;refine zw rfl fun K hK=>?_
    go_simp;refine (hcall).mono ?_
    rintro e W' ⟨rfl,hb⟩;refine hK _ _ ⟨_,_,_,_,_,_,_,_,_,_,_,_,_,_,_,_,_,_,_,_,_,_,_,_,_,_,_,_,_,?_,{hC with ow:=hb,h26:=fun _=>rfl}⟩;simp only [Act.put,zT,zZ,zS]
   ·obtain rfl:=hC.h23 (hd 23 (by kernel_rfl));obtain rfl:=hC.h26 (hd 26 (by kernel_rfl));obtain rfl:=hC.h20 (hd 20 (by kernel_rfl));clear hd hcl;refine zw rfl fun K hK=>?_
    go_simp;refine hK _ _ ⟨_,_,_,_,_,_,_,_,_,_,_,_,_,_,_,_,_,_,_,_,_,_,_,_,_,_,_,_,_,?_,{hC with h27:=fun _=>rfl}⟩;simp only [Act.put,zT,zZ,zS]
   ·obtain rfl:=hC.h20 (hd 20 (by kernel_rfl));obtain rfl:=hC.h27 (hd 27 (by kernel_rfl));clear hd hcl;refine zw rfl fun K hK=>?_
    go_simp;refine hK _ _ ⟨_,_,_,_,_,_,_,_,_,_,_,_,_,_,_,_,_,_,_,_,_,_,_,_,_,_,_,_,_,?_,{hC with h28:=fun _=>rfl}⟩;simp only [Act.put,zT,zZ,zS]
  ·rintro Ld b W hL ⟨u0,u1,u2,u3,u4,u5,u6,u7,u8,u9,u10,u11,u12,u13,u14,u15,u16,u17,u18,u19,u20,u21,u22,u23,u24,u25,u26,u27,u28,rfl,hC⟩;obtain rfl:=hC.h28 (hL 28 (by show 28<29;decide))
   have hw:=hC.ow;rw [← HLJ.out,← HOJ.out] at hw;have HX:=zh ((Ox.of (hw.less (L':=[(⟨X1,k1,f1,z0c (Na.dig x)⟩:Ob),⟨X2,k2,f2,z0c (Na.dig y)⟩,⟨A,n*8,n*8,fl l⟩]) (z7bx 0 1 2 rfl rfl rfl))).nilX 40 8)
   clear hC hL hw HW HP1 HP2 HV1 HV2;simp only [Act.put,zT,zZ,zS];obtain ⟨OK,hOK⟩:∃ z,[(⟨some ⟨w3.heap.size,0,none⟩,6,6,33,[.int .i64 so,.int .i64 ch,.int .i64 ra,.int .i64 ba,.int .i64 ro,.int .i64 co]⟩:Rw),Rw.pair (w3.heap.size+1) 27 (.slice X1 k1 f1) (.slice X2 k2 f2),(⟨some ⟨w8.heap.size,0,none⟩,11,11,42,[.int .i64 vk,.int .i64 va0,.int .i64 va1,.int .i64 va2,.int .i64 va3,.int .i64 va4,.int .i64 va5,.int .i64 vac,.int .i64 vh,.slice C1 s1 t1,.slice C2 s2 t2]⟩:Rw),(⟨some ⟨w9.heap.size,0,none⟩,11,11,42,[.int .i64 vk,.int .i64 vb0,.int .i64 vb1,.int .i64 vb2,.int .i64 vb3,.int .i64 vb4,.int .i64 vb5,.int .i64 vbc,.int .i64 vh,.slice D1 o1 z1,.slice D2 o2 z2]⟩:Rw)]=z:=⟨_,rfl⟩
   have HX2:=HX.out;rw [hOK] at HX2;have HXa:=zh HX2;have HOK:=zh hOK;have HN:=HLn.out.1;have hn10:=HLn.out.2.2.1;clear HX HX2 hOK;go_wp2_with fail;go_loopw [15,94] (fun x15 x94 wr=>RBo l w (some g) [⟨X1,k1,f1,z0c (Na.dig x)⟩,⟨X2,k2,f2,z0c (Na.dig y)⟩,⟨A,n*8,n*8,fl l⟩] OK x15 x94 wr) (fun _ x94 _=>n+1 - (intOf x94).toNat)
   case atStart=>exact ⟨0,none,0,zqr _,rfl,rfl,HXa.out⟩
   case round=>
    clear HXa;obtain ⟨i,E,d2,hi,rfl,rfl,HX⟩:=hrel;rw [HN] at hi;rcases Nat.eq_or_lt_of_le hi with heq | hlt
    ·have hd:decide ((i:Int)<(n:Int))=false:=zn (by omega)
     have hd2:decide (i<n)=false:=zn (by omega)
     obtain rfl:n=i:=heq.symm
     have htl:l.take n=l:=zqp (Nat.le_of_eq HN)
     rw [htl] at HX;have h1:=(HX.out.keepX 0 rfl (m:=2*n*8) rfl (by omega) (by omega)).ow
     rw [← HOK.out] at h1;have hbl:(z4t 3 l).length=2*n:=by rw [z8k,HN]
     have hc1:chk ⟨(so:Int),ch,ra,ba,ro,co⟩ (Na.up (Na.dig x)) (Na.up (Na.dig y)) l=0:=z2be HSv.out HFr.out.1.rv HP3.out.1 (by omega) (z3a HFr.out.2.1) (z3a HFr.out.2.2)
     have hc2:chk ⟨(so:Int),ch,ra,ba,ro,co⟩ (Na.up (Na.dig x)) (Na.up (Na.dig y)) (z4t 3 l)=0:=z2be HSv.out HFr.out.1.rv (z7av HP3.out.1) (by omega) (z3a HFr.out.2.1) (z3a HFr.out.2.2)
     have hal:=z1ba hc1 hc2 (z0bv (s:=⟨(so:Int),ch,ra,ba,ro,co⟩) (p:=Na.up (Na.dig x)) (q:=Na.up (Na.dig y)) (c:=3) HP3.out.2.2 (by decide) HP3.out.2.1)
     obtain ⟨va,ra1,ea,hSa⟩:∃ va ra1 ea,z9u ⟨(so:Int),ch,ra,ba,ro,co⟩ (Na.up (Na.dig x)) (Na.up (Na.dig y)) l=(va,ra1,ea):=⟨_,_,_,rfl⟩
     obtain ⟨vb,rb1,eb,hSb⟩:∃ vb rb1 eb,z9u ⟨(so:Int),ch,ra,ba,ro,co⟩ (Na.up (Na.dig x)) (Na.up (Na.dig y)) (z4t 3 l)=(vb,rb1,eb):=⟨_,_,_,rfl⟩
     rw [hSa,hSb] at hal;simp only at hal
     obtain ⟨hl1,hl2,rfl,rfl⟩:=hal;have HLe:Hid (vb.length=2*va.length∧rb1.length=2*ra1.length):=⟨hl1,hl2⟩
     have HP:=zh (pAll (p:=Na.up (Na.dig x)) (q:=Na.up (Na.dig y)) (l:=l) (n3:=n) (c3:=c) ⟨(so:Int),ch,ra,ba,ro,co⟩ h1 0 1 2 (by rw [z0g];rfl) (by rw [z0g];rfl) rfl HT.out)
     rw [hSa] at HP;unfold AllR Pl.vs at HP;have HSb:=zh hSb;obtain ⟨a0,a1,a2,a3,a4,a5⟩:=zc6 (h1.row 0 rfl);have b0:=h1.p0 1 rfl
     have b1:=h1.p1 1 rfl
     clear heq hi htl HX h1 hbl hc1 hc2 hl1 hl2 hSa hSb;go_wp2_with fail;refine HP.out.mono ?_;rintro e wa ⟨Ao,no,co',Ar,nr,cr,V,hV,hno,hnr,rfl,h7⟩;have HQ:=zh (pAll (p:=Na.up (Na.dig x)) (q:=Na.up (Na.dig y)) (l:=z4t 3 l) (n3:=2*n) (c3:=d2) ⟨(so:Int),ch,ra,ba,ro,co⟩ h7 0 1 3 (by rw [z0g];rfl) (by rw [z0g];rfl) rfl HT.out)
     rw [HSb.out] at HQ;unfold AllR Pl.vs at HQ;clear a0 a1 a2 a3 a4 a5 b0 b1 HP;obtain ⟨a0,a1,a2,a3,a4,a5⟩:=zc6 (h7.row 0 rfl);have b0:=h7.p0 1 rfl
     have b1:=h7.p1 1 rfl
     have hbd1:=(h7.sl (i:=4) rfl).2.2.1
     have hbd2:=(h7.sl (i:=5) rfl).2.2.1
     have HV:Hid (va.length=no∧ra1.length=nr∧no*11≤1000∧nr≤1000):=⟨by rw [← hV,List.length_map,hno],hnr,hbd1,hbd2⟩
     clear h7 hV hno hnr hbd1 hbd2;go_wp2_with fail;refine HQ.out.mono ?_;rintro e wb ⟨Bo,mo,do',Br,mr,dr,U,hU,hmo,hmr,rfl,h8⟩;obtain rfl:mo=2*no:=by
      have h1:=congrArg List.length hU
      rw [List.length_map,HLe.out.1,HV.out.1] at h1;omega
     obtain rfl:mr=2*nr:=by rw [← hmr,HLe.out.2,HV.out.2.1]
     have g1:IntKind.i64.wrap (2*(no:Int))=((2*no:Nat):Int):=by rw [IntWalk.i64_in _ (by have:=HV.out;omega)];omega
     have g2:IntKind.i64.wrap (2*(nr:Int))=((2*nr:Nat):Int):=by rw [IntWalk.i64_in _ (by have:=HV.out;omega)];omega
     have HB:=zh h8.below;have HA:=zh (z6y wb (HT.out.below h8.below))
     clear a0 a1 a2 a3 a4 a5 b0 b1 HQ HV hU hmo hmr h8 HLe;go_wp2_with fail;refine HA.out.mono ?_;rintro e wc ⟨rfl,hb⟩;have HB2:=zh (HB.out.trans (hb.mono HB.out.size))
     clear hb;go_wp2_with fail;go_ret;exact ⟨rfl,HB2.out⟩
    ·have hd:decide ((i:Int)<(n:Int))=true:=zt (by omega)
     have hd2:decide (i<n)=true:=zt (by omega)
     have hiI:(i:Int)<(n:Int):=by omega
     have hw94:IntKind.i64.wrap ((i:Int)+1)=((i+1:Nat):Int):=by rw [IntWalk.i64_in _ (by omega)];omega
     obtain ⟨v,hv⟩:∃ v,l[i]?=some v:=⟨l[i]'(by omega),zql _⟩
     have HVi:Hid (l[i]?=some v∧i<n):=⟨hv,hlt⟩
     obtain ⟨a3,rfl,q0,q1,q2,q3,q4,q5,q6,q7⟩:=z3m (HX.out.ow.sl (i:=2) rfl).2.2.2 hv
     obtain ⟨⟨y0,y1,y2,y3,y4,y5⟩,y6,y7⟩:=v
     simp only at q0 q1 q2 q3 q4 q5 q6 q7
     have G1:=(HX.out.arrO #[.int .i64 y0,.int .i64 y1,.int .i64 y2,.int .i64 y3,.int .i64 y4,.int .i64 y5,.int .i64 y6,.int .i64 y7] 8 rfl (by omega) 40).arrO #[.int .i64 y0,.int .i64 y1,.int .i64 y2,.int .i64 y3,.int .i64 y4,.int .i64 y5,.int .i64 y6,.int .i64 y7] 8 rfl (by omega) 40
     simp only [World.size_alloc,zqa,zqb,zqc] at G1;obtain ⟨u0,u1,u2,u3,u4,u5,u6,u7⟩:=zc8 ((HX.out.arrO #[.int .i64 y0,.int .i64 y1,.int .i64 y2,.int .i64 y3,.int .i64 y4,.int .i64 y5,.int .i64 y6,.int .i64 y7] 8 rfl (by omega) 40).ow.row (OK.length+0) (zk rfl));have G2:=(HX.out.arrO #[.int .i64 y0,.int .i64 y1,.int .i64 y2,.int .i64 y3,.int .i64 y4,.int .i64 y5,.int .i64 y6,.int .i64 y7] 8 rfl (by omega) 40).arrO #[.int .i64 y0,.int .i64 y1,.int .i64 y2,.int .i64 y3,.int .i64 y4,.int .i64 y5,.int .i64 3,.int .i64 y7] 8 rfl (by omega) 40
     simp only [World.size_alloc,zqa,zqb,zqc] at G2;have p0:=(G2.ow.row (OK.length+0) (zk rfl)).cellAt 0 (by decide)
     have r0:=(G2.ow.row (OK.length+1) (zk rfl)).cellAt 0 (by decide)
     have p1:=(G2.ow.row (OK.length+0) (zk rfl)).cellAt 1 (by decide)
     have r1:=(G2.ow.row (OK.length+1) (zk rfl)).cellAt 1 (by decide)
     have p2:=(G2.ow.row (OK.length+0) (zk rfl)).cellAt 2 (by decide)
     have r2:=(G2.ow.row (OK.length+1) (zk rfl)).cellAt 2 (by decide)
     have p3:=(G2.ow.row (OK.length+0) (zk rfl)).cellAt 3 (by decide)
     have r3:=(G2.ow.row (OK.length+1) (zk rfl)).cellAt 3 (by decide)
     have p4:=(G2.ow.row (OK.length+0) (zk rfl)).cellAt 4 (by decide)
     have r4:=(G2.ow.row (OK.length+1) (zk rfl)).cellAt 4 (by decide)
     have p5:=(G2.ow.row (OK.length+0) (zk rfl)).cellAt 5 (by decide)
     have r5:=(G2.ow.row (OK.length+1) (zk rfl)).cellAt 5 (by decide)
     have p6:=(G2.ow.row (OK.length+0) (zk rfl)).cellAt 6 (by decide)
     have r6:=(G2.ow.row (OK.length+1) (zk rfl)).cellAt 6 (by decide)
     have p7:=(G2.ow.row (OK.length+0) (zk rfl)).cellAt 7 (by decide)
     have r7:=(G2.ow.row (OK.length+1) (zk rfl)).cellAt 7 (by decide)
     have G3:=G2.arrO #[.int .i64 y0,.int .i64 y1,.int .i64 y2,.int .i64 y3,.int .i64 y4,.int .i64 y5,.int .i64 y6,.int .i64 y7,.int .i64 y0,.int .i64 y1,.int .i64 y2,.int .i64 y3,.int .i64 y4,.int .i64 y5,.int .i64 3,.int .i64 y7] 16 rfl (by omega) 40
     simp only [World.size_alloc,zqa,zqb,zqc] at G3;have HG3:=zh G3;clear hv hlt hi HX G1 G2 G3;go_wp2_with (at_builtin;refine z6m z1ab HG3.out 0 (.tmp 100) (.tmp 103) (m:=2) (news:=[.int .i64 y0,.int .i64 y1,.int .i64 y2,.int .i64 y3,.int .i64 y4,.int .i64 y5,.int .i64 y6,.int .i64 y7,.int .i64 y0,.int .i64 y1,.int .i64 y2,.int .i64 y3,.int .i64 y4,.int .i64 y5,.int .i64 3,.int .i64 y7]) rfl rfl (fun j u hu=>by have:=(HG3.out.ow.row (OK.length+2) (zk rfl)).cells rfl j u hu;exact this) (fun u hu=>by simp only [List.mem_cons,List.mem_nil_iff,or_false] at hu;rcases hu with rfl | rfl | rfl | rfl | rfl | rfl | rfl | rfl | rfl | rfl | rfl | rfl | rfl | rfl | rfl | rfl <;> rfl) (by unfold maxLen;omega) (by omega) rfl rfl rfl rfl ?_;intro A2' c2' w2' how2;have HX2:=zh how2;clear how2)
     go_roundw
     case rel=>
      refine ⟨i+1,A2',c2',by rw [HN];exact HVi.out.2,rfl,rfl,?_⟩
      unfold Hid;rw [z1s HVi.out.1,z7am,z5b];exact HX2.out.fewO
     case measure=>
      have:=HVi.out.2
      simp [intOf]
      omega
open Go.ChangeShapes Go.WideShapes Go.ChangeAt Go.RowKit
section
variable {H:Type}{enc:TypeId×Value→H}{P:Program}
theorem z7aq (hl:laidOutB P=true){W W':World}(hb:Below W.heap.size W W'){sp:Nat→Bool}:∀ {ts:List TypeId} {vs:List Value} {ds:List (DataW H)} {ps:List MemPlace},
  (∀ t∈ts,P.readableRec t=true∧t<P.types.size)→DataW.TrodAll enc P W 0 (fun _=>true) true ts vs ds ps→(∀ x∈ps,x.block<W.heap.size)→(∀ p∈ps,sp p.block=true)→
  DataW.TrodAll enc P W' 0 sp true ts vs ds ps:=by
 intro ts
 induction ts with
 | nil=>
  intro vs ds ps _ h _ _;cases vs <;> cases ds <;> simp [DataW.TrodAll] at h ⊢
  exact h
 | cons t ts ih=>
  intro vs ds ps ht h hlt hs;obtain ⟨v,vs',d,ds',p,q,rfl,rfl,rfl,h0,h1⟩:=trodAll_cons h
  refine ⟨p,q,?_,?_,rfl⟩
  ·exact WideElems.Trod_stays hl (ht t (by simp)).1 (ht t (by simp)).2 h0 (fun x hx=>hb.same (hlt x (by simp [hx]))) (fun x hx=>hs x (by simp [hx]))
  ·exact ih (fun u hu=>ht u (by simp [hu])) h1 (fun x hx=>hlt x (by simp [hx])) (fun x hx=>hs x (by simp [hx]))
theorem z9ae (hl:laidOutB P=true){f:Func}{s:ChangeSpec}{W W':World}{args:Array Value}{ds gs:List (DataW H)}{before:List MemPlace}{tb:TypeId}(hb:Below W.heap.size W W')
  (hvars:s.vars=[]) (hW:DataW.Whole enc P f.params.toList s.vars false W args.toList ds gs before)
  (hfn:s.fn H (ds++gs)={ results:=[.lit (.bool true)],args:=ds,vars:=[] }) (hres:f.resultTypes=#[tb]) (htb:P.underlying tb=some .bool)
  (hts:∀ t∈f.params.toList,P.readableRec t=true∧t<P.types.size) :
  s.post enc P f false true false false W args (.bool true) W':=by
 have hlt:∀ p∈before,p.block<W.heap.size:=fun p hp=>hW.lt p hp
 have hW':=hW
 obtain ⟨p,q,hA,hV,rfl,hz,hn⟩:=hW;rw [hvars] at hV;have hq:q=[]:=by
  cases gs with
  | nil=>exact hV
  | cons g r=>exact absurd hV (by intro h;cases h)
 subst hq
 refine ⟨ds,gs,_,[],p,[],hW',?_,?_,?_,hb.frame _,fun h=>by cases h⟩
 ·rw [hfn,hres];exact trodAll_mk1 (shut_bool htb true)
 ·rw [hfn];exact z7aq hl hb hts hA (fun x hx=>hlt x (by simp [hx])) (fun x hx=>by simpa using hlt x (by simp [hx]))
 ·rw [hfn,hvars];rfl
end
set_option linter.unusedVariables false
theorem z0bw {W:World}{a:Addr}{v:Value}(h:W.cell? a=some v):a.block<W.heap.size:=by
 rcases zqi a.block W.heap.size with h1 | h1
 ·exact h1
 ·have h2:W.heap[a.block]?=none:=Array.getElem?_eq_none h1
  simp [World.cell?,h2] at h
section
variable {H:Type}{enc:TypeId×Value→H}{P:Program}{W:World}
theorem z4bh {t e:TypeId}{k:IntKind}(ht:P.underlying t=some (.slice e))(he:P.underlying e=some (.int k))(hc:P.cellsOf e=1){r:Reach}{b0:Nat}{v:Value}{d:DataW H}{ps:List MemPlace}
  (hval:Value.okWide P W r b0 t v) (h:DataW.Trod enc P W 0 (fun _=>true) true t v d ps) :
  ∃ (A:Option Addr) (n c:Nat) (zs:List Int),v=.slice A n c∧zs.length=n∧n≤c∧c≤maxLen∧Sl W W.heap.size A (zs.map (Value.int k))∧∀ z∈zs,(Lit.int k z).wf=true:=by
 obtain ⟨a0,n,c,rfl⟩:=okWide_slice ht hval
 obtain ⟨fuel,hf⟩:=h;rcases Go.ChangeShapes.open_ints ht he hc hf with ⟨hcs,_⟩ | ⟨a,len,cap,zs,hcs,_,hle,hmx,hall,_,hcell,hwf⟩
 ·have e1:(Value.slice a0 n c)=.slice none 0 0:=(List.cons.inj (show [Value.slice a0 n c]=_ from hcs)).1
  injection e1 with h1 h2 h3
  subst h1 h2 h3
  exact ⟨none,0,0,[],rfl,rfl,zqj _,zqr _,Sl.nil _ _ _,fun z hz=>by cases hz⟩
 ·have e1:(Value.slice a0 n c)=.slice (some a) len cap:=(List.cons.inj (show [Value.slice a0 n c]=_ from hcs)).1
  injection e1 with h1 h2 h3
  subst h1 h2 h3
  have hz:zs.length=c:=by simpa using hall
  refine ⟨some a,n,c,zs.take n,rfl,by rw [zqw];omega,hle,hmx,fun hn=>?_,fun z hz=>hwf z (List.mem_of_mem_take hz)⟩
  rw [List.length_map,zqw] at hn;refine ⟨a,rfl,?_,fun j u hu=>?_⟩
  ·have h0:=hcell 0 (by omega)
   have:=z0bw h0
   rwa [z1a] at this
  ·rw [List.getElem?_map,List.getElem?_take] at hu;by_cases hj:j<n
   ·rw [if_pos hj,zql (by omega)] at hu
    rw [hcell j (by omega),List.getD_eq_getElem?_getD,zql (by omega)]
    exact hu
   ·rw [if_neg hj] at hu;cases hu
end
set_option maxRecDepth 100000
theorem z6bg {W:World}(h:laidMetH Tryz.prog Rows.classifyJudgesRow.laid W):Tab W:=by
 rw [MakeChecks.laidMetH_plain _ _ _ (by kernel_rfl)] at h
 obtain ⟨ps,⟨g,t,cs,fuel,p,q,hg,ht,hv,hd,_,_⟩,_⟩:=h
 obtain rfl := zqk ((show Tryz.prog.globalNamed "math/bits.deBruijn64tab" = some 0 by kernel_rfl).symm.trans hg)
 obtain rfl:=zqk ((show (Tryz.prog.globals[0]?).map (·.type)=some 180 by kernel_rfl).symm.trans ht)
 obtain ⟨xs,m,_,ex,_,hl,hel⟩:=DataW.trod_array Tryz.underlying180 hd
 have c5:Tryz.prog.cellsOf 5=1:=by kernel_rfl
 have hlen:Lib.deBruijn64tab.length=64:=by kernel_rfl
 have e3:(xs.map (·.1))=Lib.deBruijn64tab.map fun n:Nat=>.lit (.int .u8 (n:Int)):=(DataW.agg.inj (Prod.mk.inj ex).1).symm
 have hcell:∀ k v:Nat,Lib.deBruijn64tab[k]?=some v→W.cell? ⟨0,k,none⟩=some (.int .u8 (v:Int)):=by
  intro r v hr;have hr64:r<64:=by
   rcases zqi r 64 with h | h
   ·exact h
   ·rw [List.getElem?_eq_none (by omega)] at hr;cases hr
  have hE:=hel r hr64
  rw [c5,Nat.mul_one,zql (by omega)] at hE
  obtain ⟨z,e1,e2,_⟩:=DataW.trod_int Tryz.underlying5 hE
  have e4:(xs.map (·.1))[r]?=(Lib.deBruijn64tab.map fun n:Nat=>(DataW.lit (.int .u8 (n:Int)):DataW Unit))[r]?:=by rw [e3]
  rw [List.getElem?_map,List.getElem?_map,zql (by omega:r<xs.length),hr,e2] at e4
  have hz:z=(v:Int):=by
   simp only [Option.map_some,Option.some.injEq,DataW.lit.injEq,Lit.int.injEq,true_and] at e4;exact e4
  rw [World.var?_cell hg hv r,← hz];have:cs.toList[r]?=some (.int .u8 z):=by
   have h0:((cs.toList.drop r).take 1)[0]?=some (.int .u8 z):=by rw [e1];rfl
   simpa using h0
  simpa using this
 refine ⟨?_,hcell⟩
 have h0:=hcell 0 0 (by kernel_rfl)
 rcases zqh W.heap.size with h | h
 ·exfalso
  unfold World.cell? at h0
  rw [Array.getElem?_eq_none (by simp only;omega)] at h0
  cases h0
 ·exact h
end Go.Proofs.YtpmofjomadibmaaGreatDoor
