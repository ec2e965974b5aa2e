/- Np NatD NatE -/
import Derived.Test.YtpmofjomadibmaaGreatDoorU01
import Derived.Deep.Cut
namespace Go.Proofs.YtpmofjomadibmaaGreatDoor
set_option maxHeartbeats 2000000
set_option linter.unusedVariables false
namespace Na
set_option maxHeartbeats 2000000
theorem lt_of_get {α:Type}{l:List α}{k:Nat}{b:α}(hk:l[k]?=some b):k<l.length:=by
 rcases zqi k l.length with h|h
 ·exact h
 ·rw [List.getElem?_eq_none h] at hk;cases hk
def at0 (l:List Nat)(k:Nat):Nat:=l[k]?.getD 0
theorem at0_some {l:List Nat}{k a:Nat}(h:l[k]?=some a):at0 l k=a:=by unfold at0;rw [h];rfl
theorem at0_none {l:List Nat}{k:Nat}(h:l.length<=k):at0 l k=0:=by unfold at0;rw [List.getElem?_eq_none h];rfl
theorem at0_lt {l:List Nat}(h:Lim l)(k:Nat):at0 l k<16777216:=by
 rcases zqi k l.length with h1|h1
 ·exact zqu (Nat.le_of_eq (at0_some (zql h1))) (h.at (zql h1))
 ·rw [at0_none h1];decide
theorem val_take_at0 (l:List Nat)(k:Nat):val (l.take (k+1))=val (l.take k)+16777216 ^ k*at0 l k:=by
 rcases zqi k l.length with h1|h1
 ·rw [at0_some (zql h1),val_take_succ l k _ (zql h1)]
 ·rw [at0_none h1,Nat.mul_zero,zqp (by omega),zqp (by omega),Nat.add_zero]
theorem split24 (P t:Nat):P*(t % 16777216)+P*16777216*(t / 16777216)=P*t:=by
 rw [zqs,<- zqt,Nat.mod_add_div]
theorem add_step (X Y o:List Nat)(k cr t:Nat)(ho:o.length=k)(h:val o+16777216 ^ k*cr=val (X.take k)+val (Y.take k))(ht:t=cr+at0 X k+at0 Y k):
  val (o++[t % 16777216])+16777216 ^ (k+1)*(t / 16777216)=val (X.take (k+1))+val (Y.take (k+1)):=by
 rw [val_snoc,ho,val_take_at0,val_take_at0,Nat.pow_succ];have h1:=split24 (16777216 ^ k) t
 have h2:16777216 ^ k*t=16777216 ^ k*cr+16777216 ^ k*at0 X k+16777216 ^ k*at0 Y k:=by rw [ht,zqt,zqt]
 omega
theorem add_end (X Y o:List Nat)(k cr:Nat)(ho:o.length=k)(h:val o+16777216 ^ k*cr=val (X.take k)+val (Y.take k))(hX:X.length<=k)(hY:Y.length<=k):val (o++[cr])=val X+val Y:=by
 rw [val_snoc,ho,h,zqp hX,zqp hY]
theorem sub_yes (X Y o:List Nat)(k bw d:Nat)(ho:o.length=k)(h:val o+val (Y.take k)=val (X.take k)+16777216 ^ k*bw)(hd:d+bw+at0 Y k=at0 X k):
  val (o++[d])+val (Y.take (k+1))=val (X.take (k+1))+16777216 ^ (k+1)*0:=by
 rw [val_snoc,ho,val_take_at0,val_take_at0,<- hd,zqt,zqt];omega
theorem sub_no (X Y o:List Nat)(k bw d:Nat)(ho:o.length=k)(h:val o+val (Y.take k)=val (X.take k)+16777216 ^ k*bw)(hd:d+bw+at0 Y k=at0 X k+16777216):
  val (o++[d])+val (Y.take (k+1))=val (X.take (k+1))+16777216 ^ (k+1)*1:=by
 rw [val_snoc,ho,val_take_at0,val_take_at0,Nat.pow_succ];have h1:16777216 ^ k*d+16777216 ^ k*bw+16777216 ^ k*at0 Y k=16777216 ^ k*at0 X k+16777216 ^ k*16777216:=by
  rw [<- zqt,<- zqt,hd,zqt]
 omega
theorem sub_end (X Y o:List Nat)(k bw:Nat)(hl:Lim o)(ho:o.length=k)(h:val o+val (Y.take k)=val (X.take k)+16777216 ^ k*bw)(hX:X.length<=k)(hY:Y.length<=k)(hle:val Y<=val X):val o=val X - val Y:=by
 rw [zqp hX,zqp hY] at h;have h1:=val_lt hl
 rw [ho] at h1;rcases zqh bw with rfl|hb
 ·omega
 ·have h2:=Nat.mul_le_mul_left (16777216 ^ k) hb
  rw [Nat.mul_one] at h2;omega
theorem set_mid (o X:List Nat)(k d:Nat)(ho:o.length=k)(hk:k<X.length):(o++X.drop k).set k d=(o++[d])++X.drop (k+1):=by
 rw [List.set_append_right _ _ (by omega),ho,Nat.sub_self,List.drop_eq_getElem_cons hk,zqa]
 rfl
theorem get_mid (o X:List Nat)(k a:Nat)(ho:o.length=k)(h:X[k]?=some a):(o++X.drop k)[k]?=some a:=by
 rw [zqo (by omega),ho,Nat.sub_self,List.getElem?_drop]
 exact h
theorem prod_step (out X Y:List Nat)(i k e a b S:Nat)(he:out[i+k]?=some e)(h:val out=S+16777216 ^ i*(a*val (Y.take k)))(hb:Y[k]?=some b):
  val (out.set (i+k) (e+a*b))=S+16777216 ^ i*(a*val (Y.take (k+1))):=by
 have h1:=val_set out (i+k) e (e+a*b) he
 rw [val_take_succ Y k b hb,zqt,zqt,<- Nat.add_assoc,<- h];have h2:16777216 ^ i*(a*(16777216 ^ k*b))=16777216 ^ (i+k)*(a*b):=by
  rw [Nat.pow_add,Nat.mul_left_comm a,zqs]
 rw [zqt] at h1;omega
theorem prod_row (X Y:List Nat)(i a:Nat)(ha:X[i]?=some a):val (X.take i)*val Y+16777216 ^ i*(a*val Y)=val (X.take (i+1))*val Y:=by
 rw [val_take_succ X i a ha,Nat.add_mul,zqs]
def Cols (out:List Nat)(C i k:Nat):Prop:=∀ j e,out[j]?=some e->e<=(i+1)*C/\(i+k<=j->e<=i*C)
theorem cols_zero (n C:Nat):Cols (List.replicate n 0) C 0 0:=fun j e h=>by
 have h1:=List.eq_of_mem_replicate (List.mem_of_getElem? h)
 subst h1
 exact ⟨zqr _,fun _=>zqr _⟩
theorem cols_step {out:List Nat}{C i k e p:Nat}(h:Cols out C i k)(he:out[i+k]?=some e)(hp:p<=C):Cols (out.set (i+k) (e+p)) C i (k+1):=fun j x hx=>by
 by_cases hj:j=i+k
 ·subst hj
  rw [List.getElem?_set_self (lt_of_get he)] at hx
  obtain rfl:=zqk hx
  have h1:=(h _ _ he).2 (zqj _)
  refine ⟨?_,fun h2=>by omega⟩
  rw [Nat.add_mul,Nat.one_mul];omega
 ·rw [zqf (fun e=>hj e.symm)] at hx
  have h1:=h _ _ hx
  exact ⟨h1.1,fun h2=>h1.2 (by omega)⟩
theorem cols_row {out:List Nat}{C i k:Nat}(h:Cols out C i k):Cols out C (i+1) 0:=fun j e he=>by
 have h1:=(h j e he).1
 exact ⟨zqq h1 (Nat.mul_le_mul_right C (by omega)),fun _=>h1⟩
theorem prod24 {a b:Nat}(ha:a<16777216)(hb:b<16777216):a*b<=281474976710656:=by
 have:=Nat.mul_le_mul (Nat.le_of_lt ha) (Nat.le_of_lt hb)
 simpa using this
theorem carry_step (o out:List Nat)(k cr e t V:Nat)(ho:o.length=k)(he:out[k]?=some e)(h:val o+16777216 ^ k*(cr+val (out.drop k))=V)(ht:t=cr+e):
  val (o++[t % 16777216])+16777216 ^ (k+1)*(t / 16777216+val (out.drop (k+1)))=V:=by
 rw [val_snoc,ho,<- h,val_drop_cons out k e he,Nat.pow_succ,zqt,zqt,zqt];have h1:=split24 (16777216 ^ k) t
 rw [ht,zqt] at h1;rw [ht];have h2:16777216 ^ k*(16777216*val (out.drop (k+1)))=16777216 ^ k*16777216*val (out.drop (k+1)):=(zqs _ _ _).symm
 omega
theorem carry_end (o out:List Nat)(n cr V:Nat)(ho:o.length=n)(hout:out.length<=n)(h:val o+16777216 ^ n*(cr+val (out.drop n))=V)(hV:V<16777216 ^ n):val o=V:=by
 rw [List.drop_of_length_le hout] at h;rcases zqh cr with rfl|hb
 ·simp [val] at h
  exact h
 ·have h2:=Nat.mul_le_mul_left (16777216 ^ n) (zqq hb (Nat.le_add_right cr (val [])))
  rw [Nat.mul_one] at h2;omega
theorem val_mul_lt {X Y:List Nat}(hX:Lim X)(hY:Lim Y):val X*val Y<16777216 ^ (X.length+Y.length):=by
 rw [Nat.pow_add];exact Nat.mul_lt_mul_of_lt_of_lt (val_lt hX) (val_lt hY)
theorem dig_len_mul (x y:Nat):(dig (x*y)).length<=(dig x).length+(dig y).length:=by
 have h:=val_mul_lt (dig_lim x) (dig_lim y)
 rw [val_dig,val_dig] at h;exact dig_len_le h
end Na
namespace Na
set_option maxHeartbeats 2000000
def bin:Nat->Nat->Nat
 | _,0=>1
 | 0,_+1=>0
 | n+1,k+1=>bin n k+bin n (k+1)
theorem bin_zero (n:Nat):bin n 0=1:=by cases n <;> rfl
theorem bin_succ (n k:Nat):bin (n+1) (k+1)=bin n k+bin n (k+1):=rfl
theorem bin_more {n k:Nat}(h:n<k):bin n k=0:=by
 induction n generalizing k with
 | zero=>
  cases k with
  | zero=>omega
  | succ k=>rfl
 | succ n ih=>
  cases k with
  | zero=>omega
  | succ k=>rw [bin_succ,ih (by omega),ih (by omega)]
theorem bin_self (n:Nat):bin n n=1:=by
 induction n with
 | zero=>rfl
 | succ n ih=>rw [bin_succ,ih,bin_more (by omega)]
theorem bin_two (n k:Nat):bin n k<=2 ^ n:=by
 induction n generalizing k with
 | zero=>
  cases k with
  | zero=>exact zqj _
  | succ k=>exact zqr _
 | succ n ih=>
  cases k with
  | zero=>rw [bin_zero];exact Nat.one_le_two_pow
  | succ k=>
   rw [bin_succ,Nat.pow_succ];have:=ih k
   have:=ih (k+1)
   omega
theorem pow24 (n:Nat):16777216 ^ n=2 ^ (24*n):=by rw [Nat.pow_mul]
theorem grow_step (L o:List Nat)(k a t mr m0 s:Nat)(ho:o.length=k)(ha:L[k]?=some a)(h:val o+16777216 ^ k*mr=val (L.take k)*t+m0)(hs:s=mr+a*t):
  val (o++[s % 16777216])+16777216 ^ (k+1)*(s / 16777216)=val (L.take (k+1))*t+m0:=by
 rw [val_snoc,ho,val_take_succ L k a ha,Nat.pow_succ,Nat.add_mul];have h1:=split24 (16777216 ^ k) s
 rw [hs,zqt,<- zqs] at h1;rw [hs];omega
end Na
namespace De
set_option maxHeartbeats 2000000
def dig (x:Nat):List Nat:=if x=0 then [] else (x % 10) :: dig (x / 10)
termination_by x
decreasing_by omega
def val:List Nat->Nat
 | []=>0
 | a :: l=>a+10*val l
def Lim (l:List Nat):Prop:=∀ a∈l,a<10
theorem dig_zero:dig 0=[]:=by unfold dig;rfl
theorem dig_pos (x:Nat)(h:0<x):dig x=(x % 10) :: dig (x / 10):=by
 rw [dig,if_neg (by omega)]
theorem dig_small (x:Nat)(h:0<x)(h2:x<10):dig x=[x]:=by
 rw [dig_pos x h,Nat.mod_eq_of_lt h2,Nat.div_eq_of_lt h2,dig_zero]
theorem val_dig (x:Nat):val (dig x)=x:=by
 induction x using Nat.strongRecOn with
 | ind x ih=>
  rcases zqh x with rfl|h
  ·rw [dig_zero];rfl
  ·rw [dig_pos x h,val,ih _ (by omega)]
   omega
theorem dig_inj {x y:Nat}(h:dig x=dig y):x=y:=by rw [<- val_dig x,h,val_dig]
theorem dig_lim (x:Nat):Lim (dig x):=by
 induction x using Nat.strongRecOn with
 | ind x ih=>
  rcases zqh x with rfl|h
  ·rw [dig_zero];intro a ha;cases ha
  ·rw [dig_pos x h];intro a ha;rcases List.mem_cons.1 ha with rfl|ha
   ·omega
   ·exact ih _ (by omega) a ha
theorem Lim.tail {a:Nat}{l:List Nat}(h:Lim (a :: l)):Lim l:=fun b hb=>h b (List.mem_cons_of_mem _ hb)
theorem Lim.head {a:Nat}{l:List Nat}(h:Lim (a :: l)):a<10:=h a (List.mem_cons_self ..)
theorem Lim.at {l:List Nat}(h:Lim l){k a:Nat}(hk:l[k]?=some a):a<10:=h a (List.mem_of_getElem? hk)
theorem Lim.nil:Lim []:=fun a h=>by cases h
theorem Lim.cons {a:Nat}{l:List Nat}(h:a<10)(hl:Lim l):Lim (a :: l):=fun b hb=>by
 rcases List.mem_cons.1 hb with rfl|hb
 ·exact h
 ·exact hl b hb
theorem Lim.append {l m:List Nat}(h:Lim l)(hm:Lim m):Lim (l++m):=fun b hb=>by
 rcases List.mem_append.1 hb with hb|hb
 ·exact h b hb
 ·exact hm b hb
theorem Lim.one {a:Nat}(h:a<10):Lim [a]:=Lim.cons h Lim.nil
theorem Lim.take {l:List Nat}(h:Lim l)(k:Nat):Lim (l.take k):=fun b hb=>h b (List.mem_of_mem_take hb)
theorem Lim.drop {l:List Nat}(h:Lim l)(k:Nat):Lim (l.drop k):=fun b hb=>h b (List.mem_of_mem_drop hb)
theorem Lim.set {l:List Nat}(h:Lim l)(k:Nat){a:Nat}(ha:a<10):Lim (l.set k a):=fun b hb=>by
 rcases List.mem_or_eq_of_mem_set hb with hb|rfl
 ·exact h b hb
 ·exact ha
theorem Lim.zeros (n:Nat):Lim (List.replicate n 0):=fun b hb=>by
 have:=List.eq_of_mem_replicate hb
 omega
theorem val_lt {l:List Nat}(h:Lim l):val l<10 ^ l.length:=by
 induction l with
 | nil=>simp [val]
 | cons a l ih=>
  have h1:=ih h.tail
  have h2:=h.head;rw [val,List.length_cons,Nat.pow_succ];omega
theorem val_append (l m:List Nat):val (l++m)=val l+10 ^ l.length*val m:=by
 induction l with
 | nil=>simp [val]
 | cons a l ih=>
  rw [zqb,val,val,ih,List.length_cons,Nat.pow_succ,zqt,<- zqs,Nat.mul_comm 10 (10 ^ l.length)]
  omega
theorem val_snoc (l:List Nat)(a:Nat):val (l++[a])=val l+10 ^ l.length*a:=by
 rw [val_append];simp [val]
theorem val_zeros (n:Nat):val (List.replicate n 0)=0:=by
 induction n with
 | zero=>rfl
 | succ n ih=>rw [List.replicate_succ,val,ih]
theorem val_split (l:List Nat)(k:Nat)(h:k<=l.length):val l=val (l.take k)+10 ^ k*val (l.drop k):=by
 have h1:=val_append (l.take k) (l.drop k)
 rw [List.take_append_drop,zqw,Nat.min_eq_left h] at h1;exact h1
theorem val_take_succ (l:List Nat)(k a:Nat)(h:l[k]?=some a):val (l.take (k+1))=val (l.take k)+10 ^ k*a:=by
 have hlt:k<l.length:=by
  rcases zqi k l.length with h1|h1
  ·exact h1
  ·rw [List.getElem?_eq_none h1] at h;cases h
 rw [List.take_add_one,h,Option.toList_some,val_snoc,zqw,Nat.min_eq_left (by omega)]
theorem val_drop_cons (l:List Nat)(k a:Nat)(h:l[k]?=some a):val (l.drop k)=a+10*val (l.drop (k+1)):=by
 have hlt:k<l.length:=by
  rcases zqi k l.length with h1|h1
  ·exact h1
  ·rw [List.getElem?_eq_none h1] at h;cases h
 have ha:l[k]=a:=by rw [zql hlt] at h;exact zqk h
 rw [List.drop_eq_getElem_cons hlt,val,ha]
theorem val_set (l:List Nat)(k a b:Nat)(h:l[k]?=some a):val (l.set k b)+10 ^ k*a=val l+10 ^ k*b:=by
 induction l generalizing k with
 | nil=>simp at h
 | cons c l ih=>
  cases k with
  | zero=>
   have hc:c=a:=by simpa using h
   subst hc
   simp [val]
   omega
  | succ k=>
   have h1:=ih k (by simpa using h)
   rw [zqe,val,val,Nat.pow_succ,Nat.mul_comm (10 ^ k) 10,zqs,zqs]
   omega
def tl (l:List Nat):Nat->Nat
 | 0=>0
 | n+1=>if l[n]?=some 0 then tl l n else n+1
theorem tl_le (l:List Nat):∀ n,tl l n<=n:=by
 intro n
 induction n with
 | zero=>exact zqj _
 | succ n ih=>
  unfold tl;split
  ·omega
  ·exact zqj _
theorem tl_zero (l:List Nat)(n:Nat)(h:l[n]?=some 0):tl l (n+1)=tl l n:=by rw [tl,if_pos h]
theorem tl_stop (l:List Nat)(n:Nat)(h:l[n]?≠some 0):tl l (n+1)=n+1:=by rw [tl,if_neg h]
theorem tl_last (l:List Nat):∀ n,tl l n=0∨l[tl l n - 1]?≠some 0:=by
 intro n
 induction n with
 | zero=>exact .inl rfl
 | succ n ih=>
  by_cases h:l[n]?=some 0
  ·rw [tl_zero l n h];exact ih
  ·rw [tl_stop l n h];exact .inr h
theorem val_tl (l:List Nat):∀ n,n<=l.length->val (l.take (tl l n))=val (l.take n):=by
 intro n
 induction n with
 | zero=>intro _;rfl
 | succ n ih=>
  intro hn;by_cases h:l[n]?=some 0
  ·rw [tl_zero l n h,ih (by omega),val_take_succ l n 0 h,Nat.mul_zero,Nat.add_zero]
  ·rw [tl_stop l n h]
def trim (l:List Nat):List Nat:=l.take (tl l l.length)
theorem trim_length (l:List Nat):(trim l).length=tl l l.length:=by
 unfold trim;rw [zqw];have:=tl_le l l.length
 omega
theorem dig_val {l:List Nat}(h:Lim l)(h0:l.length=0∨l[l.length - 1]?≠some 0):dig (val l)=l:=by
 induction l with
 | nil=>exact dig_zero
 | cons a l ih=>
  have ha:=h.head;rw [val];cases l with
  | nil=>
   have:a≠0:=by simpa using h0
   rw [show a+10*val []=a from by simp [val]]
   exact dig_small a (by omega) ha
  | cons b l=>
   have h1:(b :: l).length=0∨(b :: l)[(b :: l).length - 1]?≠some 0:=by
    right
    rcases h0 with h0|h0
    ·simp at h0
    ·simpa using h0
   have h2:=ih h.tail h1
   have hv:val (b :: l)≠0:=by
    intro e;rw [e,dig_zero] at h2;cases h2
   rw [dig_pos _ (by omega),show (a+10*val (b :: l)) / 10=val (b :: l) by omega,show (a+10*val (b :: l)) % 10=a by omega,h2]
theorem dig_last (x:Nat):(dig x).length=0∨(dig x)[(dig x).length - 1]?≠some 0:=by
 induction x using Nat.strongRecOn with
 | ind x ih=>
  rcases zqh x with rfl|h
  ·left;rw [dig_zero];rfl
  ·right
   have h1:=ih (x / 10) (by omega)
   rw [dig_pos x h];rcases h1 with h1|h1
   ·have h2:dig (x / 10)=[]:=List.eq_nil_of_length_eq_zero h1
    have h3:x / 10=0:=by rw [<- val_dig (x / 10),h2];rfl
    rw [h2];simp
    omega
   ·cases hd:dig (x / 10) with
    | nil=>
     have h3:x / 10=0:=by rw [<- val_dig (x / 10),hd];rfl
     simp
     omega
    | cons b l=>
     rw [hd] at h1;simpa using h1
theorem trim_dig {l:List Nat}(h:Lim l):trim l=dig (val l):=by
 have h1:=val_tl l l.length (zqj _)
 rw [List.take_length] at h1;have h2:(trim l).length=0∨(trim l)[(trim l).length - 1]?≠some 0:=by
  rw [trim_length];rcases tl_last l l.length with h2|h2
  ·exact .inl h2
  ·rcases zqh (tl l l.length) with h3|h3
   ·exact .inl h3
   ·right
    unfold trim;rw [List.getElem?_take,if_pos (by omega)]
    exact h2
 have h3:=dig_val (h.take (tl l l.length)) h2
 have h4:val (l.take (tl l l.length))=val l:=h1
 rw [h4] at h3;exact h3.symm
theorem trim_len {l:List Nat}(h:Lim l):tl l l.length=(dig (val l)).length:=by rw [<- trim_dig h,trim_length]
theorem dig_len_le {x n:Nat}(h:x<10 ^ n):(dig x).length<=n:=by
 induction n generalizing x with
 | zero=>
  have:x=0:=by simpa using h
  rw [this,dig_zero];exact zqj _
 | succ n ih=>
  rcases zqh x with rfl|h0
  ·rw [dig_zero];exact zqr _
  ·rw [dig_pos x h0,List.length_cons];have:=ih (x:=x / 10) (by rw [Nat.pow_succ] at h;omega)
   omega
theorem dig_len_ge {x n:Nat}(h:10 ^ n<=x):n<(dig x).length:=by
 rcases zqi n (dig x).length with h1|h1
 ·exact h1
 ·have h2:=val_lt (dig_lim x)
  rw [val_dig] at h2;have h3:=Nat.pow_le_pow_right (show 0<10 by omega) h1
  omega
theorem dig_len_iff (x n:Nat):(dig x).length<=n↔x<10 ^ n:=by
 constructor
 ·intro h;rcases zqi x (10 ^ n) with h1|h1
  ·exact h1
  ·have:=dig_len_ge h1
   omega
 ·exact dig_len_le
theorem dig_len_mono {x y:Nat}(h:x<=y):(dig x).length<=(dig y).length:=
 dig_len_le (zqu h (by have:=val_lt (dig_lim y);rwa [val_dig] at this))
theorem dig_len0 {x:Nat}:(dig x).length=0↔x=0:=by
 constructor
 ·intro h;have h1:dig x=[]:=List.eq_nil_of_length_eq_zero h
  rw [<- val_dig x,h1];rfl
 ·rintro rfl;rw [dig_zero];rfl
theorem dig_low (x k:Nat)(h:k+1=(dig x).length):10 ^ k<=x:=by
 rcases zqi x (10 ^ k) with h1|h1
 ·have:=dig_len_le h1
  omega
 ·exact h1
def asc (d:Nat):UInt8:=UInt8.ofNat (48+d)
def text (x:Nat):List UInt8:=if x=0 then [48] else ((dig x).map asc).reverse
theorem asc_toNat {d:Nat}(h:d<10):(asc d).toNat=48+d:=by unfold asc;rw [UInt8.toNat_ofNat'];omega
end De
open Go.RowKit
set_option maxRecDepth 100000
theorem z1y (A A2:Option Addr)(n c m c2 B:Nat)(zs ys:List Int)(w:World)(hn:zs.length=n)(hm:ys.length=m)(hs:Sl w B A (z0p zs))(hs2:Sl w B A2 (z0p ys))(hB:B<=w.heap.size)(hl:n<=140737488351232)(hl2:m<=140737488351232):
  Calls Tryz.prog 117 #[.agg #[.slice A n c],.agg #[.slice A2 m c2]] w fun e w'=>e=.returned (.bool (Na.vld zs && Na.vld ys))/\Below w.heap.size w w':=by
 obtain ⟨w0,hw0⟩:∃ w0,(w.alloc (.cells #[.slice A n c] 25)).alloc (.cells #[.slice A2 m c2] 25)=w0:=⟨_,rfl⟩
 have HW:Hid ((w.alloc (.cells #[.slice A n c] 25)).alloc (.cells #[.slice A2 m c2] 25)=w0):=hw0
 have hb0:Below w.heap.size w w0:=by rw [<- hw0];exact bal (bal (Below.refl _ _) _) _
 have HB0:=zh hb0;have HV1:=zh (z4u A n c w0.heap.size zs w0 hn ((hs.more hB |>.below hb0).more hb0.size) (zqj _) (by omega))
 have hzw:w0.heap.size=w.heap.size+2:=by rw [<- hw0];simp
 have hc1:w0.cell? ⟨w.heap.size+1,0,none⟩=some (.slice A2 m c2):=by rw [<- hw0];simp [go_sem]
 have HV2:Hid (∀ W,Below w0.heap.size w0 W->Calls Tryz.prog 84 #[.agg #[.slice A2 m c2]] W fun e w'=>e=.returned (.bool (Na.vld ys))/\Below W.heap.size W w'):=fun W hW=>
  z4u A2 m c2 w0.heap.size ys W hm (((hs2.more hB).below hb0).more hb0.size |>.below hW) hW.size (by omega)
 clear hs hs2 hn hm hb0 hw0;cases hv:Na.vld zs
 ·rw [hv] at HV1;clear hv;go_enter Tryz.func117,Tryz.ntmps117
  go_wp2_with fail;rw [HW.out];refine HV1.out.mono ?_;rintro e w1 ⟨rfl,hb⟩;have HB:=zh (btr HB0.out hb)
  clear hb;go_wp2_with fail;go_ret;exact ⟨rfl,HB.out⟩
 ·rw [hv] at HV1;clear hv;go_enter Tryz.func117,Tryz.ntmps117
  go_wp2_with fail;rw [HW.out];refine HV1.out.mono ?_;rintro e w1 ⟨rfl,hb⟩;have hc2:w1.cell? ⟨w.heap.size+1,0,none⟩=some (.slice A2 m c2):=(hb.cell (p:=⟨w.heap.size+1,0,none⟩) (by simp [hzw])).trans hc1
  have HB:=zh hb;clear hb;go_wp2_with fail;refine (HV2.out _ HB.out).mono ?_
  rintro e w2 ⟨rfl,hb⟩;have HB2:=zh (btr (btr HB0.out HB.out) hb)
  clear hb;go_wp2_with fail;go_ret;exact ⟨by simp,HB2.out⟩
theorem z3x (A:Option Addr)(n c B:Nat)(l:List Nat)(w:World)(hn:l.length=n)(hs:Sl w B A (z0c l))(hB:B<=w.heap.size)(hl:n<=17592186044416):
  Calls Tryz.prog 118 #[.slice A n c] w (z4ao w l):=by
 obtain ⟨i0,hi,hz0,hz1,hz2⟩:=info_parts z4y
 cases A with
 | none=>
  have h0:n=0:=by
   rcases zqh n with h|h
   ·exact h
   ·obtain ⟨ad,h,_⟩:=hs (by rw [z0e];omega)
    cases h
  subst h0
  have hl0:l=[]:=List.eq_nil_of_length_eq_zero hn
  subst hl0
  have heq:=fun w=>Lib.run_eql_slice_nil (P:=Tryz.prog) w 22 3 none 0 c 0 0 Tryz.underlying22
  clear hs hn;go_enter Tryz.func118,Tryz.ntmps118
  go_wp2_with fail;go_ret;exact ⟨none,0,0,rfl,rfl,World.ownsRow_nil _ _ _ _,Below.refl _ _⟩
 | some ad=>
  have heq:=fun w=>Lib.run_eql_slice_nil (P:=Tryz.prog) w 22 3 (some ad) n c 0 0 Tryz.underlying22
  have HN:=zh ((z0e l).trans hn)
  have HN2:=zh hn;have hbw:=(Below.refl w.heap.size w).alloc (zqj _) (.cells #[] 3)
  have HS:Hid (Sl (w.alloc (.cells #[] 3)) B (some ad) (z0c l)):=hs.alloc hB _
  have HO:=zh (z7av w 3)
  clear hn hs;go_enter Tryz.func118,Tryz.ntmps118
  go_wp2_with (at_builtin;refine z0h _ rfl (.tmp 5) (.tmp 6) 22 rfl w.heap.size 3 i0 (.int .i64 0) 8 Tryz.underlying22 hi hz0 hz1 hz2 rfl _ _ _ _ rfl HO.out B _ _ _ _ rfl HN.out HS.out (z3k l) (by unfold maxLen;omega) (by omega) (by simp) ?_;intro A' c' w1 hown hgrow hblk)
  go_ret;rw [Nat.zero_add] at hown;exact ⟨_,_,_,rfl,HN2.out,hown,hbw.grown hgrow (by simp) (fun g hg=>by cases hg;exact zqj _)⟩
def num (zs:List Int):Nat:=Na.val (zs.map Int.toNat)
theorem z9bd (l:List Nat):num (Na.up l)=Na.val l:=by
 unfold num Na.up;rw [List.map_map];congr 1
 exact (List.map_congr_left (fun a _=>rfl)).trans (List.map_id l)
theorem z0l (x:Nat):num (Na.up (Na.dig x))=x:=by rw [z9bd,Na.val_dig]
def NAdd (w:World)(B:Nat)(X Y:List Nat)(n:Nat)(i cr o:Value)(wr:World):Prop:=
 ∃ (k c:Nat) (A:Option Addr) (ca:Nat) (l:List Nat),k<=n/\i=.int .i64 k/\cr=.int .i64 c/\o=.slice A k ca/\c<=1/\Hid (l.length=k/\Na.Lim l/\Na.val l+16777216 ^ k*c=Na.val (X.take k)+Na.val (Y.take k))/\wr.ownsRow B 3 1 (.slice A k ca) k (z0c l)/\Below B w wr
def addL (zs ys:List Int):List Nat:=if Na.vld zs && Na.vld ys then z4j (num zs+num ys) else []
def addE (zs ys:List Int):Int:=if Na.vld zs && Na.vld ys then z3v (num zs+num ys) else 1
theorem z8o (w:World)(z:Value)(n:Nat)(e:TypeId)(hz:z.cells=#[z])(hc:n<=maxLen):(w.alloc (.cells (madeCells z.cells n) e)).ownsRow w.heap.size e 1 (.slice (some ⟨w.heap.size,0,none⟩) 0 n) 0 []:=
 z4d w e z 0 n hz (zqr _) hc
theorem z6bw (A A2:Option Addr)(n c m c2:Nat)(x y:Nat)(w:World)(hn:(Na.dig x).length=n)(hm:(Na.dig y).length=m)(hs:Sl w w.heap.size A (z0c (Na.dig x)))(hs2:Sl w w.heap.size A2 (z0c (Na.dig y)))(hx:x<Na.top)(hy:y<Na.top)(hcmp:m<=n):
  Calls Tryz.prog 146 #[.agg #[.slice A n c],.agg #[.slice A2 m c2]] w (z3m w (z4j (x+y)) (z3v (x+y))):=by
 obtain ⟨i0,hi,hz0,hz1,hz2⟩:=info_parts z4y
 have hn2:n<=200:=by rw [<- hn];exact (Na.dig_200 x).2 hx
 have hm2:m<=200:=by rw [<- hm];exact (Na.dig_200 y).2 hy
 obtain ⟨w0,hw0⟩:∃ w0,((w.alloc (.cells #[.slice A n c] 25)).alloc (.cells #[.slice A2 m c2] 25)).alloc (.cells #[.slice none 0 0] 25)=w0:=⟨_,rfl⟩
 have HW:Hid (((w.alloc (.cells #[.slice A n c] 25)).alloc (.cells #[.slice A2 m c2] 25)).alloc (.cells #[.slice none 0 0] 25)=w0):=hw0
 have hb0:Below w.heap.size w w0:=by rw [<- hw0];exact bal (bal (bal (Below.refl _ _) _) _) _
 have HB0:=zh hb0;have hzw:w0.heap.size=w.heap.size+3:=by rw [<- hw0];simp
 have hc0:w0.cell? ⟨w.heap.size,0,none⟩=some (.slice A n c):=by rw [<- hw0];simp [go_sem]
 have hc1:w0.cell? ⟨w.heap.size+1,0,none⟩=some (.slice A2 m c2):=by rw [<- hw0];simp [go_sem]
 have hc2:w0.cell? ⟨w.heap.size+2,0,none⟩=some (.slice none 0 0):=by rw [<- hw0];simp [go_sem]
 have hf2:w0.frozen? ⟨w.heap.size+2,0,none⟩=false:=by rw [<- hw0];simp [go_sem]
 have hvv:(Na.vld (Na.up (Na.dig x)) && Na.vld (Na.up (Na.dig y)))=true:=by rw [Na.vld_dig hx,Na.vld_dig hy];rfl
 have HV:=zh (z1y A A2 n c m c2 w0.heap.size _ _ w0 (by rw [Na.up_length];exact hn) (by rw [Na.up_length];exact hm) (by rw [z0g];exact (hs.below hb0).more hb0.size) (by rw [z0g];exact (hs2.below hb0).more hb0.size) (zqj _) (by omega) (by omega))
 rw [hvv] at HV;have HN:=zh hn;have HM:=zh hm;have HS:=zh hs;have HS2:=zh hs2;have HX:=zh hx;have HY:=zh hy;have hdc:decide (n<m)=false:=zn (by omega)
 have hmk:=z1h (P:=Tryz.prog) 22 3 i0 (.int .i64 0) Tryz.underlying22 hi hz0 hz1 .i64 .i64 0 ((n:Int)+1) 0 (n+1) (by omega) (by omega) (zqr _) (by rw [hz2];omega) (by omega)
 clear hs hs2 hn hm hb0 hw0 hvv hx hy;go_enter Tryz.func146,Tryz.ntmps146
 go_wp2_with fail;rw [HW.out];refine HV.out.mono ?_;rintro e w1 ⟨rfl,hb⟩;have HB1:=zh (btr HB0.out hb)
 have hd0:w1.cell? ⟨w.heap.size,0,none⟩=some (.slice A n c):=(hb.cell (p:=⟨w.heap.size,0,none⟩) (by simp [hzw])).trans hc0
 have hd1:w1.cell? ⟨w.heap.size+1,0,none⟩=some (.slice A2 m c2):=(hb.cell (p:=⟨w.heap.size+1,0,none⟩) (by simp [hzw])).trans hc1
 have hd2:w1.cell? ⟨w.heap.size+2,0,none⟩=some (.slice none 0 0):=(hb.cell (p:=⟨w.heap.size+2,0,none⟩) (by simp [hzw])).trans hc2
 have hg2:w1.frozen? ⟨w.heap.size+2,0,none⟩=false:=(hb.frozen (p:=⟨w.heap.size+2,0,none⟩) (by simp [hzw])).trans hf2
 have hsz1:w.heap.size+3<=w1.heap.size:=by rw [<- hzw];exact hb.size
 clear hb hc0 hc1 hc2 hf2 HV HW hzw HB0;go_wp2_with fail;go_quiet (fail)
 go_wp2_with fail;clear hmk;have HO0:Hid (((w1.drewN nq).alloc (.cells (madeCells #[Value.int .i64 0] (n+1)) 3)).ownsRow w1.heap.size 3 1 (.slice (some ⟨w1.heap.size,0,none⟩) 0 (n+1)) 0 (z0c [])):=z8o (w1.drewN nq) (.int .i64 0) (n+1) 3 rfl (by unfold maxLen;omega)
 have HBB:Hid (Below w1.heap.size w1 ((w1.drewN nq).alloc (.cells (madeCells #[Value.int .i64 0] (n+1)) 3))):=(z0w (Below.refl w1.heap.size w1) nq).alloc (zqj _) _
 go_loopw [34,9,8] (fun i cr o wr=>NAdd w1 w1.heap.size (Na.dig x) (Na.dig y) n i cr o wr) (fun i _ _ _=>n - (intOf i).toNat)
 case atStart=>exact ⟨0,0,_,_,[],zqr _,rfl,rfl,rfl,zqr _,⟨rfl,Na.Lim.nil,by simp [Na.val]⟩,HO0.out,HBB.out⟩
 case round=>
  clear HO0 HBB;obtain ⟨k,cr,Ao,co,l,hk,rfl,rfl,rfl,hcr,HP,ho,hb⟩:=hrel;have HO:=zh ho;have HB:=zh hb;rcases zqi k n with hkn|hkn
  ·obtain ⟨a,ha⟩:=z0m (Na.dig x) k (by rw [HN.out];exact hkn)
   obtain ⟨ad,rfl,hbk,hca⟩:=(HS.out.below (HB1.out.trans (hb.mono HB1.out.size))).nat ha
   have ha24:=(Na.dig_lim x).at ha
   have hea:=Na.at0_some ha
   clear ho hb;rcases zqi k m with hkm|hkm
   ·obtain ⟨b,hbb⟩:=z0m (Na.dig y) k (by rw [HM.out];exact hkm)
    obtain ⟨ad2,rfl,hbk2,hcb⟩:=(HS2.out.below (HB1.out.trans (HB.out.mono HB1.out.size))).nat hbb
    have hb24:=(Na.dig_lim y).at hbb
    have heb:=Na.at0_some hbb
    obtain ⟨t,ht⟩:∃ t,cr+a+b=t:=⟨_,rfl⟩
    obtain ⟨r,hr⟩:∃ r,t % 16777216=r:=⟨_,rfl⟩
    obtain ⟨q,hq⟩:∃ q,t / 16777216=q:=⟨_,rfl⟩
    have HST:=zh (Na.add_step (Na.dig x) (Na.dig y) l k cr t HP.out.1 HP.out.2.2 (by rw [hea,heb];omega))
    rw [hr,hq] at HST;have hand:bits .and .i64 ((cr:Int)+(a:Int)+(b:Int)) 16777215=(r:Int):=by rw [z6m];omega
    have hshr:((cr:Int)+(a:Int)+(b:Int)) / 16777216=(q:Int):=by omega
    have hq1:q<=1:=by omega
    have hr24:r<16777216:=by omega
    have HLr:=zh (HP.out.2.1.append (Na.Lim.one hr24))
    have HLl:Hid ((l++[r]).length=k+1):=by unfold Hid;rw [zqm,HP.out.1];rfl
    clear ht hr hq ha hbb hea heb;have HO3:Hid ((wr.alloc (.cells #[.int .i64 r] 3)).ownsRow w1.heap.size 3 1 (.slice Ao k co) k (z0c l)):=z0x HO.out _
    have HSl:=zh (z2c wr 3 (.int .i64 r))
    have HBW:Hid (w1.heap.size<=wr.heap.size):=HB.out.size
    have hrow:∀ y,(Value.slice Ao k co).ownBlock=some y->w1.heap.size<=y:=z1r HO.out
    go_wp2_with (at_builtin;refine z0h _ rfl (.tmp 52) (.tmp 55) 22 rfl w1.heap.size 3 i0 (.int .i64 0) 8 Tryz.underlying22 hi hz0 hz1 hz2 rfl _ _ _ _ rfl HO3.out _ _ 1 _ _ rfl rfl HSl.out (fun u hu=>by simp at hu;subst hu;rfl) (by unfold maxLen;omega) (by omega) (by have:=HBW.out;simp;omega) ?_;intro A' c' w8 hown hgrow hblk)
    go_roundw
    case rel=>
     rw [z1a] at hown;exact ⟨k+1,q,A',c',l++[r],by omega,by go_num,rfl,rfl,hq1,⟨HLl.out,HLr.out,HST.out⟩,hown,(HB.out.alloc HBW.out _).grown hgrow (by have:=HBW.out;simp;omega) hrow⟩
    case measure=>simp [intOf];omega
   ·obtain ⟨t,ht⟩:∃ t,cr+a=t:=⟨_,rfl⟩
    have heb:Na.at0 (Na.dig y) k=0:=Na.at0_none (by rw [HM.out];exact hkm)
    obtain ⟨r,hr⟩:∃ r,t % 16777216=r:=⟨_,rfl⟩
    obtain ⟨q,hq⟩:∃ q,t / 16777216=q:=⟨_,rfl⟩
    have HST:=zh (Na.add_step (Na.dig x) (Na.dig y) l k cr t HP.out.1 HP.out.2.2 (by rw [hea,heb];omega))
    rw [hr,hq] at HST;have hand:bits .and .i64 ((cr:Int)+(a:Int)) 16777215=(r:Int):=by rw [z6m];omega
    have hshr:((cr:Int)+(a:Int)) / 16777216=(q:Int):=by omega
    have hq1:q<=1:=by omega
    have hr24:r<16777216:=by omega
    have HLr:=zh (HP.out.2.1.append (Na.Lim.one hr24))
    have HLl:Hid ((l++[r]).length=k+1):=by unfold Hid;rw [zqm,HP.out.1];rfl
    clear ht hr hq ha hea heb;have HO3:Hid ((wr.alloc (.cells #[.int .i64 r] 3)).ownsRow w1.heap.size 3 1 (.slice Ao k co) k (z0c l)):=z0x HO.out _
    have HSl:=zh (z2c wr 3 (.int .i64 r))
    have HBW:Hid (w1.heap.size<=wr.heap.size):=HB.out.size
    have hrow:∀ y,(Value.slice Ao k co).ownBlock=some y->w1.heap.size<=y:=z1r HO.out
    go_wp2_with (at_builtin;refine z0h _ rfl (.tmp 52) (.tmp 55) 22 rfl w1.heap.size 3 i0 (.int .i64 0) 8 Tryz.underlying22 hi hz0 hz1 hz2 rfl _ _ _ _ rfl HO3.out _ _ 1 _ _ rfl rfl HSl.out (fun u hu=>by simp at hu;subst hu;rfl) (by unfold maxLen;omega) (by omega) (by have:=HBW.out;simp;omega) ?_;intro A' c' w8 hown hgrow hblk)
    go_roundw
    case rel=>
     rw [z1a] at hown;exact ⟨k+1,q,A',c',l++[r],by omega,by go_num,rfl,rfl,hq1,⟨HLl.out,HLr.out,HST.out⟩,hown,(HB.out.alloc HBW.out _).grown hgrow (by have:=HBW.out;simp;omega) hrow⟩
    case measure=>simp [intOf];omega
  ·have hkn':k=n:=by omega
   have HEnd:Hid (Na.val (l++[cr])=x+y):=by
    have h1:=Na.add_end (Na.dig x) (Na.dig y) l k cr HP.out.1 HP.out.2.2 (by rw [HN.out];omega) (by rw [HM.out];omega)
    rw [Na.val_dig,Na.val_dig] at h1;unfold Hid;omega
   have HLr:=zh (HP.out.2.1.append (Na.Lim.one (show cr<16777216 by omega)))
   have HLl:Hid ((l++[cr]).length=k+1):=by unfold Hid;rw [zqm,HP.out.1];rfl
   have HO3:Hid ((wr.alloc (.cells #[.int .i64 cr] 3)).ownsRow w1.heap.size 3 1 (.slice Ao k co) k (z0c l)):=z0x HO.out _
   have HSl:=zh (z2c wr 3 (.int .i64 cr))
   have HBW:Hid (w1.heap.size<=wr.heap.size):=HB.out.size
   have hrow:∀ y,(Value.slice Ao k co).ownBlock=some y->w1.heap.size<=y:=z1r HO.out
   clear ho hb hkn';go_wp2_with (at_builtin;refine z0h _ rfl (.tmp 60) (.tmp 62) 22 rfl w1.heap.size 3 i0 (.int .i64 0) 8 Tryz.underlying22 hi hz0 hz1 hz2 rfl _ _ _ _ rfl HO3.out _ _ 1 _ _ rfl rfl HSl.out (fun u hu=>by simp at hu;subst hu;rfl) (by unfold maxLen;omega) (by omega) (by have:=HBW.out;simp;omega) ?_;intro A' c' w8 hown hgrow hblk)
   rw [z1a] at hown;have HB8:=zh ((HB.out.alloc HBW.out (.cells #[.int .i64 cr] 3)).grown hgrow (by have:=HBW.out;simp;omega) hrow)
   refine (z2u A' (k+1) c' w1.heap.size (l++[cr]) w8 HLl.out hown HLr.out (by omega)).mono ?_
   rw [HEnd.out];rintro e w9 ⟨A9,n9,c9,rfl,hn9,ho9,hb9⟩;have HN9:=zh hn9;have HO9:=zh ho9;have HB9:=zh (btr HB8.out hb9)
   have hk9:w9.cell? ⟨w.heap.size+2,0,none⟩=some (.slice none 0 0):=(HB9.out.cell (p:=⟨w.heap.size+2,0,none⟩) (by simp;omega)).trans hd2
   have hk9f:w9.frozen? ⟨w.heap.size+2,0,none⟩=false:=(HB9.out.frozen (p:=⟨w.heap.size+2,0,none⟩) (by simp;omega)).trans hg2
   clear hn9 ho9 hb9 hown hgrow hblk hrow hd0 hd1 hd2 hg2;go_wp2_with fail;refine bodyPost_ret (v:=.tuple #[.agg #[.slice A9 n9 c9],.int .i64 (z3v (x+y))]) (by simp [results,Tryz.results146,go_sem,hk9]) rfl ?_
   exact z2b HO9.out HN9.out (by omega) (by omega) (HB1.out.trans (HB9.out.mono HB1.out.size)) (by omega) _ _
theorem z6bv (A A2:Option Addr)(n c m c2:Nat)(x y:Nat)(w:World)(hn:(Na.dig x).length=n)(hm:(Na.dig y).length=m)(hs:Sl w w.heap.size A (z0c (Na.dig x)))(hs2:Sl w w.heap.size A2 (z0c (Na.dig y)))(hx:x<Na.top)(hy:y<Na.top)(hcmp:n<m):
  Calls Tryz.prog 146 #[.agg #[.slice A n c],.agg #[.slice A2 m c2]] w (z3m w (z4j (x+y)) (z3v (x+y))):=by
 obtain ⟨i0,hi,hz0,hz1,hz2⟩:=info_parts z4y
 have hn2:n<=200:=by rw [<- hn];exact (Na.dig_200 x).2 hx
 have hm2:m<=200:=by rw [<- hm];exact (Na.dig_200 y).2 hy
 obtain ⟨w0,hw0⟩:∃ w0,((w.alloc (.cells #[.slice A n c] 25)).alloc (.cells #[.slice A2 m c2] 25)).alloc (.cells #[.slice none 0 0] 25)=w0:=⟨_,rfl⟩
 have HW:Hid (((w.alloc (.cells #[.slice A n c] 25)).alloc (.cells #[.slice A2 m c2] 25)).alloc (.cells #[.slice none 0 0] 25)=w0):=hw0
 have hb0:Below w.heap.size w w0:=by rw [<- hw0];exact bal (bal (bal (Below.refl _ _) _) _) _
 have HB0:=zh hb0;have hzw:w0.heap.size=w.heap.size+3:=by rw [<- hw0];simp
 have hc0:w0.cell? ⟨w.heap.size,0,none⟩=some (.slice A n c):=by rw [<- hw0];simp [go_sem]
 have hc1:w0.cell? ⟨w.heap.size+1,0,none⟩=some (.slice A2 m c2):=by rw [<- hw0];simp [go_sem]
 have hc2:w0.cell? ⟨w.heap.size+2,0,none⟩=some (.slice none 0 0):=by rw [<- hw0];simp [go_sem]
 have hf2:w0.frozen? ⟨w.heap.size+2,0,none⟩=false:=by rw [<- hw0];simp [go_sem]
 have hvv:(Na.vld (Na.up (Na.dig x)) && Na.vld (Na.up (Na.dig y)))=true:=by rw [Na.vld_dig hx,Na.vld_dig hy];rfl
 have HV:=zh (z1y A A2 n c m c2 w0.heap.size _ _ w0 (by rw [Na.up_length];exact hn) (by rw [Na.up_length];exact hm) (by rw [z0g];exact (hs.below hb0).more hb0.size) (by rw [z0g];exact (hs2.below hb0).more hb0.size) (zqj _) (by omega) (by omega))
 rw [hvv] at HV;have HN:=zh hn;have HM:=zh hm;have HS:=zh hs;have HS2:=zh hs2;have HX:=zh hx;have HY:=zh hy;have hdc:decide (n<m)=true:=zt hcmp
 have hmk:=z1h (P:=Tryz.prog) 22 3 i0 (.int .i64 0) Tryz.underlying22 hi hz0 hz1 .i64 .i64 0 ((m:Int)+1) 0 (m+1) (by omega) (by omega) (zqr _) (by rw [hz2];omega) (by omega)
 clear hs hs2 hn hm hb0 hw0 hvv hx hy;go_enter Tryz.func146,Tryz.ntmps146
 go_wp2_with fail;rw [HW.out];refine HV.out.mono ?_;rintro e w1 ⟨rfl,hb⟩;have HB1:=zh (btr HB0.out hb)
 have hd0:w1.cell? ⟨w.heap.size,0,none⟩=some (.slice A n c):=(hb.cell (p:=⟨w.heap.size,0,none⟩) (by simp [hzw])).trans hc0
 have hd1:w1.cell? ⟨w.heap.size+1,0,none⟩=some (.slice A2 m c2):=(hb.cell (p:=⟨w.heap.size+1,0,none⟩) (by simp [hzw])).trans hc1
 have hd2:w1.cell? ⟨w.heap.size+2,0,none⟩=some (.slice none 0 0):=(hb.cell (p:=⟨w.heap.size+2,0,none⟩) (by simp [hzw])).trans hc2
 have hg2:w1.frozen? ⟨w.heap.size+2,0,none⟩=false:=(hb.frozen (p:=⟨w.heap.size+2,0,none⟩) (by simp [hzw])).trans hf2
 have hsz1:w.heap.size+3<=w1.heap.size:=by rw [<- hzw];exact hb.size
 clear hb hc0 hc1 hc2 hf2 HV HW hzw HB0;go_wp2_with fail;go_quiet (fail)
 go_wp2_with fail;clear hmk;have HO0:Hid (((w1.drewN nq).alloc (.cells (madeCells #[Value.int .i64 0] (m+1)) 3)).ownsRow w1.heap.size 3 1 (.slice (some ⟨w1.heap.size,0,none⟩) 0 (m+1)) 0 (z0c [])):=z8o (w1.drewN nq) (.int .i64 0) (m+1) 3 rfl (by unfold maxLen;omega)
 have HBB:Hid (Below w1.heap.size w1 ((w1.drewN nq).alloc (.cells (madeCells #[Value.int .i64 0] (m+1)) 3))):=(z0w (Below.refl w1.heap.size w1) nq).alloc (zqj _) _
 go_loopw [34,9,8] (fun i cr o wr=>NAdd w1 w1.heap.size (Na.dig y) (Na.dig x) m i cr o wr) (fun i _ _ _=>m - (intOf i).toNat)
 case atStart=>exact ⟨0,0,_,_,[],zqr _,rfl,rfl,rfl,zqr _,⟨rfl,Na.Lim.nil,by simp [Na.val]⟩,HO0.out,HBB.out⟩
 case round=>
  clear HO0 HBB;obtain ⟨k,cr,Ao,co,l,hk,rfl,rfl,rfl,hcr,HP,ho,hb⟩:=hrel;have HO:=zh ho;have HB:=zh hb;rcases zqi k m with hkn|hkn
  ·obtain ⟨a,ha⟩:=z0m (Na.dig y) k (by rw [HM.out];exact hkn)
   obtain ⟨ad,rfl,hbk,hca⟩:=(HS2.out.below (HB1.out.trans (hb.mono HB1.out.size))).nat ha
   have ha24:=(Na.dig_lim y).at ha
   have hea:=Na.at0_some ha
   clear ho hb;rcases zqi k n with hkm|hkm
   ·obtain ⟨b,hbb⟩:=z0m (Na.dig x) k (by rw [HN.out];exact hkm)
    obtain ⟨ad2,rfl,hbk2,hcb⟩:=(HS.out.below (HB1.out.trans (HB.out.mono HB1.out.size))).nat hbb
    have hb24:=(Na.dig_lim x).at hbb
    have heb:=Na.at0_some hbb
    obtain ⟨t,ht⟩:∃ t,cr+a+b=t:=⟨_,rfl⟩
    obtain ⟨r,hr⟩:∃ r,t % 16777216=r:=⟨_,rfl⟩
    obtain ⟨q,hq⟩:∃ q,t / 16777216=q:=⟨_,rfl⟩
    have HST:=zh (Na.add_step (Na.dig y) (Na.dig x) l k cr t HP.out.1 HP.out.2.2 (by rw [hea,heb];omega))
    rw [hr,hq] at HST;have hand:bits .and .i64 ((cr:Int)+(a:Int)+(b:Int)) 16777215=(r:Int):=by rw [z6m];omega
    have hshr:((cr:Int)+(a:Int)+(b:Int)) / 16777216=(q:Int):=by omega
    have hq1:q<=1:=by omega
    have hr24:r<16777216:=by omega
    have HLr:=zh (HP.out.2.1.append (Na.Lim.one hr24))
    have HLl:Hid ((l++[r]).length=k+1):=by unfold Hid;rw [zqm,HP.out.1];rfl
    clear ht hr hq ha hbb hea heb;have HO3:Hid ((wr.alloc (.cells #[.int .i64 r] 3)).ownsRow w1.heap.size 3 1 (.slice Ao k co) k (z0c l)):=z0x HO.out _
    have HSl:=zh (z2c wr 3 (.int .i64 r))
    have HBW:Hid (w1.heap.size<=wr.heap.size):=HB.out.size
    have hrow:∀ y,(Value.slice Ao k co).ownBlock=some y->w1.heap.size<=y:=z1r HO.out
    go_wp2_with (at_builtin;refine z0h _ rfl (.tmp 52) (.tmp 55) 22 rfl w1.heap.size 3 i0 (.int .i64 0) 8 Tryz.underlying22 hi hz0 hz1 hz2 rfl _ _ _ _ rfl HO3.out _ _ 1 _ _ rfl rfl HSl.out (fun u hu=>by simp at hu;subst hu;rfl) (by unfold maxLen;omega) (by omega) (by have:=HBW.out;simp;omega) ?_;intro A' c' w8 hown hgrow hblk)
    go_roundw
    case rel=>
     rw [z1a] at hown;exact ⟨k+1,q,A',c',l++[r],by omega,by go_num,rfl,rfl,hq1,⟨HLl.out,HLr.out,HST.out⟩,hown,(HB.out.alloc HBW.out _).grown hgrow (by have:=HBW.out;simp;omega) hrow⟩
    case measure=>simp [intOf];omega
   ·obtain ⟨t,ht⟩:∃ t,cr+a=t:=⟨_,rfl⟩
    have heb:Na.at0 (Na.dig x) k=0:=Na.at0_none (by rw [HN.out];exact hkm)
    obtain ⟨r,hr⟩:∃ r,t % 16777216=r:=⟨_,rfl⟩
    obtain ⟨q,hq⟩:∃ q,t / 16777216=q:=⟨_,rfl⟩
    have HST:=zh (Na.add_step (Na.dig y) (Na.dig x) l k cr t HP.out.1 HP.out.2.2 (by rw [hea,heb];omega))
    rw [hr,hq] at HST;have hand:bits .and .i64 ((cr:Int)+(a:Int)) 16777215=(r:Int):=by rw [z6m];omega
    have hshr:((cr:Int)+(a:Int)) / 16777216=(q:Int):=by omega
    have hq1:q<=1:=by omega
    have hr24:r<16777216:=by omega
    have HLr:=zh (HP.out.2.1.append (Na.Lim.one hr24))
    have HLl:Hid ((l++[r]).length=k+1):=by unfold Hid;rw [zqm,HP.out.1];rfl
    clear ht hr hq ha hea heb;have HO3:Hid ((wr.alloc (.cells #[.int .i64 r] 3)).ownsRow w1.heap.size 3 1 (.slice Ao k co) k (z0c l)):=z0x HO.out _
    have HSl:=zh (z2c wr 3 (.int .i64 r))
    have HBW:Hid (w1.heap.size<=wr.heap.size):=HB.out.size
    have hrow:∀ y,(Value.slice Ao k co).ownBlock=some y->w1.heap.size<=y:=z1r HO.out
    go_wp2_with (at_builtin;refine z0h _ rfl (.tmp 52) (.tmp 55) 22 rfl w1.heap.size 3 i0 (.int .i64 0) 8 Tryz.underlying22 hi hz0 hz1 hz2 rfl _ _ _ _ rfl HO3.out _ _ 1 _ _ rfl rfl HSl.out (fun u hu=>by simp at hu;subst hu;rfl) (by unfold maxLen;omega) (by omega) (by have:=HBW.out;simp;omega) ?_;intro A' c' w8 hown hgrow hblk)
    go_roundw
    case rel=>
     rw [z1a] at hown;exact ⟨k+1,q,A',c',l++[r],by omega,by go_num,rfl,rfl,hq1,⟨HLl.out,HLr.out,HST.out⟩,hown,(HB.out.alloc HBW.out _).grown hgrow (by have:=HBW.out;simp;omega) hrow⟩
    case measure=>simp [intOf];omega
  ·have hkn':k=m:=by omega
   have HEnd:Hid (Na.val (l++[cr])=x+y):=by
    have h1:=Na.add_end (Na.dig y) (Na.dig x) l k cr HP.out.1 HP.out.2.2 (by rw [HM.out];omega) (by rw [HN.out];omega)
    rw [Na.val_dig,Na.val_dig] at h1;unfold Hid;omega
   have HLr:=zh (HP.out.2.1.append (Na.Lim.one (show cr<16777216 by omega)))
   have HLl:Hid ((l++[cr]).length=k+1):=by unfold Hid;rw [zqm,HP.out.1];rfl
   have HO3:Hid ((wr.alloc (.cells #[.int .i64 cr] 3)).ownsRow w1.heap.size 3 1 (.slice Ao k co) k (z0c l)):=z0x HO.out _
   have HSl:=zh (z2c wr 3 (.int .i64 cr))
   have HBW:Hid (w1.heap.size<=wr.heap.size):=HB.out.size
   have hrow:∀ y,(Value.slice Ao k co).ownBlock=some y->w1.heap.size<=y:=z1r HO.out
   clear ho hb hkn';go_wp2_with (at_builtin;refine z0h _ rfl (.tmp 60) (.tmp 62) 22 rfl w1.heap.size 3 i0 (.int .i64 0) 8 Tryz.underlying22 hi hz0 hz1 hz2 rfl _ _ _ _ rfl HO3.out _ _ 1 _ _ rfl rfl HSl.out (fun u hu=>by simp at hu;subst hu;rfl) (by unfold maxLen;omega) (by omega) (by have:=HBW.out;simp;omega) ?_;intro A' c' w8 hown hgrow hblk)
   rw [z1a] at hown;have HB8:=zh ((HB.out.alloc HBW.out (.cells #[.int .i64 cr] 3)).grown hgrow (by have:=HBW.out;simp;omega) hrow)
   refine (z2u A' (k+1) c' w1.heap.size (l++[cr]) w8 HLl.out hown HLr.out (by omega)).mono ?_
   rw [HEnd.out];rintro e w9 ⟨A9,n9,c9,rfl,hn9,ho9,hb9⟩;have HN9:=zh hn9;have HO9:=zh ho9;have HB9:=zh (btr HB8.out hb9)
   have hk9:w9.cell? ⟨w.heap.size+2,0,none⟩=some (.slice none 0 0):=(HB9.out.cell (p:=⟨w.heap.size+2,0,none⟩) (by simp;omega)).trans hd2
   have hk9f:w9.frozen? ⟨w.heap.size+2,0,none⟩=false:=(HB9.out.frozen (p:=⟨w.heap.size+2,0,none⟩) (by simp;omega)).trans hg2
   clear hn9 ho9 hb9 hown hgrow hblk hrow hd0 hd1 hd2 hg2;go_wp2_with fail;refine bodyPost_ret (v:=.tuple #[.agg #[.slice A9 n9 c9],.int .i64 (z3v (x+y))]) (by simp [results,Tryz.results146,go_sem,hk9]) rfl ?_
   exact z2b HO9.out HN9.out (by omega) (by omega) (HB1.out.trans (HB9.out.mono HB1.out.size)) (by omega) _ _
theorem z2bi (A A2:Option Addr)(n c m c2:Nat)(zs ys:List Int)(w:World)(hn:zs.length=n)(hm:ys.length=m)(hs:Sl w w.heap.size A (z0p zs))(hs2:Sl w w.heap.size A2 (z0p ys))(hl:n<=140737488351232)(hl2:m<=140737488351232)(hv:(Na.vld zs && Na.vld ys)=false):
  Calls Tryz.prog 146 #[.agg #[.slice A n c],.agg #[.slice A2 m c2]] w (z3m w [] 1):=by
 obtain ⟨w0,hw0⟩:∃ w0,((w.alloc (.cells #[.slice A n c] 25)).alloc (.cells #[.slice A2 m c2] 25)).alloc (.cells #[.slice none 0 0] 25)=w0:=⟨_,rfl⟩
 have HW:Hid (((w.alloc (.cells #[.slice A n c] 25)).alloc (.cells #[.slice A2 m c2] 25)).alloc (.cells #[.slice none 0 0] 25)=w0):=hw0
 have hb0:Below w.heap.size w w0:=by rw [<- hw0];exact bal (bal (bal (Below.refl _ _) _) _) _
 have HB0:=zh hb0;have hzw:w0.heap.size=w.heap.size+3:=by rw [<- hw0];simp
 have hc0:w0.cell? ⟨w.heap.size,0,none⟩=some (.slice A n c):=by rw [<- hw0];simp [go_sem]
 have hc1:w0.cell? ⟨w.heap.size+1,0,none⟩=some (.slice A2 m c2):=by rw [<- hw0];simp [go_sem]
 have hc2:w0.cell? ⟨w.heap.size+2,0,none⟩=some (.slice none 0 0):=by rw [<- hw0];simp [go_sem]
 have hf2:w0.frozen? ⟨w.heap.size+2,0,none⟩=false:=by rw [<- hw0];simp [go_sem]
 have HV:=zh (z1y A A2 n c m c2 w0.heap.size zs ys w0 hn hm ((hs.below hb0).more hb0.size) ((hs2.below hb0).more hb0.size) (zqj _) hl hl2)
 rw [hv] at HV;clear hs hs2 hn hm hb0 hw0 hv;go_enter Tryz.func146,Tryz.ntmps146
 go_wp2_with fail;rw [HW.out];refine HV.out.mono ?_;rintro e w1 ⟨rfl,hb⟩;have HB1:=zh (btr HB0.out hb)
 have hd0:w1.cell? ⟨w.heap.size,0,none⟩=some (.slice A n c):=(hb.cell (p:=⟨w.heap.size,0,none⟩) (by simp [hzw])).trans hc0
 have hd1:w1.cell? ⟨w.heap.size+1,0,none⟩=some (.slice A2 m c2):=(hb.cell (p:=⟨w.heap.size+1,0,none⟩) (by simp [hzw])).trans hc1
 have hd2:w1.cell? ⟨w.heap.size+2,0,none⟩=some (.slice none 0 0):=(hb.cell (p:=⟨w.heap.size+2,0,none⟩) (by simp [hzw])).trans hc2
 have hg2:w1.frozen? ⟨w.heap.size+2,0,none⟩=false:=(hb.frozen (p:=⟨w.heap.size+2,0,none⟩) (by simp [hzw])).trans hf2
 have hsz1:w.heap.size+3<=w1.heap.size:=by rw [<- hzw];exact hb.size
 clear hb hc0 hc1 hc2 hf2 HV HW hzw HB0;go_wp2_with fail;refine bodyPost_ret (v:=.tuple #[.agg #[.slice none 0 0],.int .i64 1]) (by simp [results,Tryz.results146,go_sem,hd2]) rfl ?_
 exact z0y _ _ _ (z4z HB1.out _ (by show w.heap.size<=w.heap.size+2;omega) _)
theorem z4ak {x y:Nat}(hx:x<Na.top)(hy:y<Na.top):addL (Na.up (Na.dig x)) (Na.up (Na.dig y))=z4j (x+y)/\addE (Na.up (Na.dig x)) (Na.up (Na.dig y))=z3v (x+y):=by
 unfold addL addE;rw [Na.vld_dig hx,Na.vld_dig hy,z0l,z0l];exact ⟨rfl,rfl⟩
theorem z6bu (A A2:Option Addr)(n c m c2:Nat)(x y:Nat)(w:World)(hn:(Na.dig x).length=n)(hm:(Na.dig y).length=m)(hs:Sl w w.heap.size A (z0c (Na.dig x)))(hs2:Sl w w.heap.size A2 (z0c (Na.dig y)))(hx:x<Na.top)(hy:y<Na.top):
  Calls Tryz.prog 146 #[.agg #[.slice A n c],.agg #[.slice A2 m c2]] w (z3m w (z4j (x+y)) (z3v (x+y))):=by
 rcases zqi n m with h|h
 ·exact z6bv A A2 n c m c2 x y w hn hm hs hs2 hx hy h
 ·exact z6bw A A2 n c m c2 x y w hn hm hs hs2 hx hy h
theorem z9f {zs ys:List Int}(h:(Na.vld zs && Na.vld ys)=true):∃ x y,x<Na.top/\y<Na.top/\zs=Na.up (Na.dig x)/\ys=Na.up (Na.dig y):=by
 rw [Bool.and_eq_true] at h;obtain ⟨x,hx,rfl⟩:=Na.vld_ex h.1
 obtain ⟨y,hy,rfl⟩:=Na.vld_ex h.2
 exact ⟨x,y,hx,hy,rfl,rfl⟩
theorem z2bj (A A2:Option Addr)(n c m c2:Nat)(zs ys:List Int)(w:World)(hn:zs.length=n)(hm:ys.length=m)(hs:Sl w w.heap.size A (z0p zs))(hs2:Sl w w.heap.size A2 (z0p ys))(hl:n<=140737488351232)(hl2:m<=140737488351232):
  Calls Tryz.prog 146 #[.agg #[.slice A n c],.agg #[.slice A2 m c2]] w (z3m w (addL zs ys) (addE zs ys)):=by
 cases hv:(Na.vld zs && Na.vld ys)
 ·have e1:addL zs ys=[]:=by unfold addL;rw [hv];rfl
  have e2:addE zs ys=1:=by unfold addE;rw [hv];rfl
  rw [e1,e2];exact z2bi A A2 n c m c2 zs ys w hn hm hs hs2 hl hl2 hv
 ·obtain ⟨x,y,hx,hy,rfl,rfl⟩:=z9f hv
  rw [(z4ak hx hy).1,(z4ak hx hy).2]
  rw [z0g] at hs hs2;rw [Na.up_length] at hn hm;exact z6bu A A2 n c m c2 x y w hn hm hs hs2 hx hy
def subL (zs ys:List Int):List Nat:=if Na.vld zs && Na.vld ys then (if num zs<num ys then [] else Na.dig (num zs - num ys)) else []
def subE (zs ys:List Int):Int:=if Na.vld zs && Na.vld ys then (if num zs<num ys then 5 else 0) else 1
def NSub (w:World)(B:Nat)(X Y:List Nat)(n:Nat)(A:Option Addr)(ca:Nat)(i bw:Value)(wr:World):Prop:=
 ∃ (k b:Nat) (l:List Nat),k<=n/\i=.int .i64 k/\bw=.int .i64 b/\b<=1/\Hid (l.length=k/\Na.Lim l/\Na.val l+Na.val (Y.take k)=Na.val (X.take k)+16777216 ^ k*b)/\wr.ownsRow B 3 1 (.slice A n ca) n (z0c (l++X.drop k))/\Below B w wr
theorem z1x {W:World}{base n c g:Nat}{e:TypeId}{xs:List Value}(h:W.ownsRow base e 1 (.slice (some ⟨g,0,none⟩) n c) n xs)(k:Nat)(v:Value):(W.setCell ⟨g,k,none⟩ v).ownsRow base e 1 (.slice (some ⟨g,0,none⟩) n c) n (xs.set k v):=(h.stored k v).1
theorem z1bx (A A2:Option Addr)(n c m c2:Nat)(zs ys:List Int)(w:World)(hn:zs.length=n)(hm:ys.length=m)(hs:Sl w w.heap.size A (z0p zs))(hs2:Sl w w.heap.size A2 (z0p ys))(hl:n<=140737488351232)(hl2:m<=140737488351232)(hv:(Na.vld zs && Na.vld ys)=false):
  Calls Tryz.prog 94 #[.agg #[.slice A n c],.agg #[.slice A2 m c2]] w (z3m w [] 1):=by
 obtain ⟨w0,hw0⟩:∃ w0,((w.alloc (.cells #[.slice A n c] 25)).alloc (.cells #[.slice A2 m c2] 25)).alloc (.cells #[.slice none 0 0] 25)=w0:=⟨_,rfl⟩
 have HW:Hid (((w.alloc (.cells #[.slice A n c] 25)).alloc (.cells #[.slice A2 m c2] 25)).alloc (.cells #[.slice none 0 0] 25)=w0):=hw0
 have hb0:Below w.heap.size w w0:=by rw [<- hw0];exact bal (bal (bal (Below.refl _ _) _) _) _
 have HB0:=zh hb0;have hzw:w0.heap.size=w.heap.size+3:=by rw [<- hw0];simp
 have hc0:w0.cell? ⟨w.heap.size,0,none⟩=some (.slice A n c):=by rw [<- hw0];simp [go_sem]
 have hc1:w0.cell? ⟨w.heap.size+1,0,none⟩=some (.slice A2 m c2):=by rw [<- hw0];simp [go_sem]
 have hc2:w0.cell? ⟨w.heap.size+2,0,none⟩=some (.slice none 0 0):=by rw [<- hw0];simp [go_sem]
 have hf2:w0.frozen? ⟨w.heap.size+2,0,none⟩=false:=by rw [<- hw0];simp [go_sem]
 have HV:=zh (z1y A A2 n c m c2 w0.heap.size zs ys w0 hn hm ((hs.below hb0).more hb0.size) ((hs2.below hb0).more hb0.size) (zqj _) hl hl2)
 rw [hv] at HV;clear hs hs2 hn hm hb0 hw0 hv;go_enter Tryz.func94,Tryz.ntmps94
 go_wp2_with fail;rw [HW.out];refine HV.out.mono ?_;rintro e w1 ⟨rfl,hb⟩;have HB1:=zh (btr HB0.out hb)
 have hd0:w1.cell? ⟨w.heap.size,0,none⟩=some (.slice A n c):=(hb.cell (p:=⟨w.heap.size,0,none⟩) (by simp [hzw])).trans hc0
 have hd1:w1.cell? ⟨w.heap.size+1,0,none⟩=some (.slice A2 m c2):=(hb.cell (p:=⟨w.heap.size+1,0,none⟩) (by simp [hzw])).trans hc1
 have hd2:w1.cell? ⟨w.heap.size+2,0,none⟩=some (.slice none 0 0):=(hb.cell (p:=⟨w.heap.size+2,0,none⟩) (by simp [hzw])).trans hc2
 have hg2:w1.frozen? ⟨w.heap.size+2,0,none⟩=false:=(hb.frozen (p:=⟨w.heap.size+2,0,none⟩) (by simp [hzw])).trans hf2
 have hsz1:w.heap.size+3<=w1.heap.size:=by rw [<- hzw];exact hb.size
 clear hb hc0 hc1 hc2 hf2 HV HW hzw HB0;go_wp2_with fail;refine bodyPost_ret (v:=.tuple #[.agg #[.slice none 0 0],.int .i64 1]) (by simp [results,Tryz.results94,go_sem,hd2]) rfl ?_
 exact z0y _ _ _ (z4z HB1.out _ (by show w.heap.size<=w.heap.size+2;omega) _)
theorem z1bw (A A2:Option Addr)(n c m c2:Nat)(x y:Nat)(w:World)(hn:(Na.dig x).length=n)(hm:(Na.dig y).length=m)(hs:Sl w w.heap.size A (z0c (Na.dig x)))(hs2:Sl w w.heap.size A2 (z0c (Na.dig y)))(hx:x<Na.top)(hy:y<Na.top)(hcmp:x<y):
  Calls Tryz.prog 94 #[.agg #[.slice A n c],.agg #[.slice A2 m c2]] w (z3m w [] 5):=by
 obtain ⟨i0,hi,hz0,hz1,hz2⟩:=info_parts z4y
 have hn2:n<=200:=by rw [<- hn];exact (Na.dig_200 x).2 hx
 have hm2:m<=200:=by rw [<- hm];exact (Na.dig_200 y).2 hy
 obtain ⟨w0,hw0⟩:∃ w0,((w.alloc (.cells #[.slice A n c] 25)).alloc (.cells #[.slice A2 m c2] 25)).alloc (.cells #[.slice none 0 0] 25)=w0:=⟨_,rfl⟩
 have HW:Hid (((w.alloc (.cells #[.slice A n c] 25)).alloc (.cells #[.slice A2 m c2] 25)).alloc (.cells #[.slice none 0 0] 25)=w0):=hw0
 have hb0:Below w.heap.size w w0:=by rw [<- hw0];exact bal (bal (bal (Below.refl _ _) _) _) _
 have HB0:=zh hb0;have hzw:w0.heap.size=w.heap.size+3:=by rw [<- hw0];simp
 have hc0:w0.cell? ⟨w.heap.size,0,none⟩=some (.slice A n c):=by rw [<- hw0];simp [go_sem]
 have hc1:w0.cell? ⟨w.heap.size+1,0,none⟩=some (.slice A2 m c2):=by rw [<- hw0];simp [go_sem]
 have hc2:w0.cell? ⟨w.heap.size+2,0,none⟩=some (.slice none 0 0):=by rw [<- hw0];simp [go_sem]
 have hf2:w0.frozen? ⟨w.heap.size+2,0,none⟩=false:=by rw [<- hw0];simp [go_sem]
 have hvv:(Na.vld (Na.up (Na.dig x)) && Na.vld (Na.up (Na.dig y)))=true:=by rw [Na.vld_dig hx,Na.vld_dig hy];rfl
 have HV:=zh (z1y A A2 n c m c2 w0.heap.size _ _ w0 (by rw [Na.up_length];exact hn) (by rw [Na.up_length];exact hm) (by rw [z0g];exact (hs.below hb0).more hb0.size) (by rw [z0g];exact (hs2.below hb0).more hb0.size) (zqj _) (by omega) (by omega))
 rw [hvv] at HV;have HN:=zh hn;have HM:=zh hm;have HS:=zh hs;have HS2:=zh hs2;have HC:Hid (∀ W,Below w.heap.size w W->Calls Tryz.prog 87 #[.agg #[.slice A n c],.agg #[.slice A2 m c2]] W fun e w'=>e=.returned (.int .i64 (Na.sgn x y))/\Below W.heap.size W w'):=fun W hW=>
  z8r A A2 n c m c2 W.heap.size x y W HN.out HM.out ((HS.out.below hW).more hW.size) ((HS2.out.below hW).more hW.size) (zqj _) (by omega) (by omega)
 clear hs hs2 hn hm hb0 hw0 hvv hx hy;go_enter Tryz.func94,Tryz.ntmps94
 go_wp2_with fail;rw [HW.out];refine HV.out.mono ?_;rintro e w1 ⟨rfl,hb⟩;have HB1:=zh (btr HB0.out hb)
 have hd0:w1.cell? ⟨w.heap.size,0,none⟩=some (.slice A n c):=(hb.cell (p:=⟨w.heap.size,0,none⟩) (by simp [hzw])).trans hc0
 have hd1:w1.cell? ⟨w.heap.size+1,0,none⟩=some (.slice A2 m c2):=(hb.cell (p:=⟨w.heap.size+1,0,none⟩) (by simp [hzw])).trans hc1
 have hd2:w1.cell? ⟨w.heap.size+2,0,none⟩=some (.slice none 0 0):=(hb.cell (p:=⟨w.heap.size+2,0,none⟩) (by simp [hzw])).trans hc2
 have hg2:w1.frozen? ⟨w.heap.size+2,0,none⟩=false:=(hb.frozen (p:=⟨w.heap.size+2,0,none⟩) (by simp [hzw])).trans hf2
 have hsz1:w.heap.size+3<=w1.heap.size:=by rw [<- hzw];exact hb.size
 clear hb hc0 hc1 hc2 hf2 HV HW hzw HB0;go_wp2_with fail;refine (HC.out _ HB1.out).mono ?_
 rintro e w2 ⟨rfl,hb⟩;have he0:w2.cell? ⟨w.heap.size,0,none⟩=some (.slice A n c):=(hb.cell (p:=⟨w.heap.size,0,none⟩) (by simp;omega)).trans hd0
 have he1:w2.cell? ⟨w.heap.size+1,0,none⟩=some (.slice A2 m c2):=(hb.cell (p:=⟨w.heap.size+1,0,none⟩) (by simp;omega)).trans hd1
 have he2:w2.cell? ⟨w.heap.size+2,0,none⟩=some (.slice none 0 0):=(hb.cell (p:=⟨w.heap.size+2,0,none⟩) (by simp;omega)).trans hd2
 have hh2:w2.frozen? ⟨w.heap.size+2,0,none⟩=false:=(hb.frozen (p:=⟨w.heap.size+2,0,none⟩) (by simp;omega)).trans hg2
 have HB2:=zh (btr HB1.out hb)
 have hsz2:w.heap.size+3<=w2.heap.size:=zqq hsz1 hb.size
 clear hb hd0 hd1 hd2 hg2 HC;rw [Na.sgn_lt hcmp];go_wp2_with fail;refine bodyPost_ret (v:=.tuple #[.agg #[.slice none 0 0],.int .i64 5]) (by simp [results,Tryz.results94,go_sem,he2]) rfl ?_
 exact z0y _ _ _ (z4z HB2.out _ (by show w.heap.size<=w.heap.size+2;omega) _)
theorem z1bv (A A2:Option Addr)(n c m c2:Nat)(x y:Nat)(w:World)(hn:(Na.dig x).length=n)(hm:(Na.dig y).length=m)(hs:Sl w w.heap.size A (z0c (Na.dig x)))(hs2:Sl w w.heap.size A2 (z0c (Na.dig y)))(hx:x<Na.top)(hy:y<Na.top)(hcmp:y<=x):
  Calls Tryz.prog 94 #[.agg #[.slice A n c],.agg #[.slice A2 m c2]] w (z3m w (Na.dig (x - y)) 0):=by
 obtain ⟨i0,hi,hz0,hz1,hz2⟩:=info_parts z4y
 have hn2:n<=200:=by rw [<- hn];exact (Na.dig_200 x).2 hx
 have hm2:m<=200:=by rw [<- hm];exact (Na.dig_200 y).2 hy
 obtain ⟨w0,hw0⟩:∃ w0,((w.alloc (.cells #[.slice A n c] 25)).alloc (.cells #[.slice A2 m c2] 25)).alloc (.cells #[.slice none 0 0] 25)=w0:=⟨_,rfl⟩
 have HW:Hid (((w.alloc (.cells #[.slice A n c] 25)).alloc (.cells #[.slice A2 m c2] 25)).alloc (.cells #[.slice none 0 0] 25)=w0):=hw0
 have hb0:Below w.heap.size w w0:=by rw [<- hw0];exact bal (bal (bal (Below.refl _ _) _) _) _
 have HB0:=zh hb0;have hzw:w0.heap.size=w.heap.size+3:=by rw [<- hw0];simp
 have hc0:w0.cell? ⟨w.heap.size,0,none⟩=some (.slice A n c):=by rw [<- hw0];simp [go_sem]
 have hc1:w0.cell? ⟨w.heap.size+1,0,none⟩=some (.slice A2 m c2):=by rw [<- hw0];simp [go_sem]
 have hc2:w0.cell? ⟨w.heap.size+2,0,none⟩=some (.slice none 0 0):=by rw [<- hw0];simp [go_sem]
 have hf2:w0.frozen? ⟨w.heap.size+2,0,none⟩=false:=by rw [<- hw0];simp [go_sem]
 have hvv:(Na.vld (Na.up (Na.dig x)) && Na.vld (Na.up (Na.dig y)))=true:=by rw [Na.vld_dig hx,Na.vld_dig hy];rfl
 have HV:=zh (z1y A A2 n c m c2 w0.heap.size _ _ w0 (by rw [Na.up_length];exact hn) (by rw [Na.up_length];exact hm) (by rw [z0g];exact (hs.below hb0).more hb0.size) (by rw [z0g];exact (hs2.below hb0).more hb0.size) (zqj _) (by omega) (by omega))
 rw [hvv] at HV;have HN:=zh hn;have HM:=zh hm;have HS:=zh hs;have HS2:=zh hs2;have HC:Hid (∀ W,Below w.heap.size w W->Calls Tryz.prog 87 #[.agg #[.slice A n c],.agg #[.slice A2 m c2]] W fun e w'=>e=.returned (.int .i64 (Na.sgn x y))/\Below W.heap.size W w'):=fun W hW=>
  z8r A A2 n c m c2 W.heap.size x y W HN.out HM.out ((HS.out.below hW).more hW.size) ((HS2.out.below hW).more hW.size) (zqj _) (by omega) (by omega)
 clear hs hs2 hn hm hb0 hw0 hvv hx hy;go_enter Tryz.func94,Tryz.ntmps94
 go_wp2_with fail;rw [HW.out];refine HV.out.mono ?_;rintro e w1 ⟨rfl,hb⟩;have HB1:=zh (btr HB0.out hb)
 have hd0:w1.cell? ⟨w.heap.size,0,none⟩=some (.slice A n c):=(hb.cell (p:=⟨w.heap.size,0,none⟩) (by simp [hzw])).trans hc0
 have hd1:w1.cell? ⟨w.heap.size+1,0,none⟩=some (.slice A2 m c2):=(hb.cell (p:=⟨w.heap.size+1,0,none⟩) (by simp [hzw])).trans hc1
 have hd2:w1.cell? ⟨w.heap.size+2,0,none⟩=some (.slice none 0 0):=(hb.cell (p:=⟨w.heap.size+2,0,none⟩) (by simp [hzw])).trans hc2
 have hg2:w1.frozen? ⟨w.heap.size+2,0,none⟩=false:=(hb.frozen (p:=⟨w.heap.size+2,0,none⟩) (by simp [hzw])).trans hf2
 have hsz1:w.heap.size+3<=w1.heap.size:=by rw [<- hzw];exact hb.size
 clear hb hc0 hc1 hc2 hf2 HV HW hzw HB0;go_wp2_with fail;refine (HC.out _ HB1.out).mono ?_
 rintro e w2 ⟨rfl,hb⟩;have he0:w2.cell? ⟨w.heap.size,0,none⟩=some (.slice A n c):=(hb.cell (p:=⟨w.heap.size,0,none⟩) (by simp;omega)).trans hd0
 have he1:w2.cell? ⟨w.heap.size+1,0,none⟩=some (.slice A2 m c2):=(hb.cell (p:=⟨w.heap.size+1,0,none⟩) (by simp;omega)).trans hd1
 have he2:w2.cell? ⟨w.heap.size+2,0,none⟩=some (.slice none 0 0):=(hb.cell (p:=⟨w.heap.size+2,0,none⟩) (by simp;omega)).trans hd2
 have hh2:w2.frozen? ⟨w.heap.size+2,0,none⟩=false:=(hb.frozen (p:=⟨w.heap.size+2,0,none⟩) (by simp;omega)).trans hg2
 have HB2:=zh (btr HB1.out hb)
 have hsz2:w.heap.size+3<=w2.heap.size:=zqq hsz1 hb.size
 clear hb hd0 hd1 hd2 hg2 HC;have hsg:Hid (0<=Na.sgn x y):=by
  unfold Hid;rcases zqi y x with h|h
  ·rw [Na.sgn_gt h];decide
  ·rw [Na.sgn_eq (Nat.le_antisymm h hcmp)];decide
 have hsg2:decide (Na.sgn x y<0)=false:=zn (by have:=hsg.out;omega)
 obtain ⟨sg,hsgn⟩:∃ sg,Na.sgn x y=sg:=⟨_,rfl⟩
 rw [hsgn] at hsg2 ⊢
 clear hsgn;have HCl:=zh (z3x A n c w2.heap.size (Na.dig x) w2 HN.out ((HS.out.below HB2.out).more HB2.out.size) (zqj _) (by omega))
 go_wp2_with fail;refine HCl.out.mono ?_;rintro e w3 ⟨A3,n3,ca,rfl,hn3,ho3,hb3⟩;obtain rfl:n3=n:=by rw [<- hn3];exact HN.out
 have HO3:=zh ho3;have HB3:=zh hb3;clear ho3 hb3 hn3 HCl he0 hsg hsg2;go_wp2_with fail;go_loopw [26,7] (fun i bw wr=>NSub w2 w2.heap.size (Na.dig x) (Na.dig y) n3 A3 ca i bw wr) (fun i _ _=>n3 - (intOf i).toNat)
 case atStart=>exact ⟨0,0,[],zqr _,rfl,rfl,zqr _,⟨rfl,Na.Lim.nil,by simp [Na.val]⟩,by simpa using HO3.out,HB3.out⟩
 case round=>
  clear HO3 HB3;obtain ⟨k,bw,l,hk,rfl,rfl,hbw,HP,ho,hb⟩:=hrel;have HO:=zh ho;have HB:=zh hb;rcases zqi k n3 with hkn|hkn
  ·obtain ⟨a,ha⟩:=z0m (Na.dig x) k (by rw [HN.out];exact hkn)
   obtain ⟨g,rfl,hgb,hgw⟩:=z0n ho (by omega)
   have hca:=z1b ho (Na.get_mid l (Na.dig x) k a HP.out.1 ha)
   have hfz:=ho.frozenAt k
   have ha24:=(Na.dig_lim x).at ha
   have hea:=Na.at0_some ha
   clear ho hb;rcases zqi k m with hkm|hkm
   ·obtain ⟨b,hbb⟩:=z0m (Na.dig y) k (by rw [HM.out];exact hkm)
    obtain ⟨ad2,rfl,hbk2,hcb⟩:=(HS2.out.below (HB2.out.trans (HB.out.mono HB2.out.size))).nat hbb
    have hb24:=(Na.dig_lim y).at hbb
    have heb:=Na.at0_some hbb
    have HYb:=zh hbb;clear hcb;by_cases hlt:bw+b<=a
    ·obtain ⟨d,hd⟩:∃ d,d+bw+b=a:=⟨a - bw - b,by omega⟩
     have HST:=zh (Na.sub_yes (Na.dig x) (Na.dig y) l k bw d HP.out.1 HP.out.2.2 (by rw [hea,heb];exact hd))
     have HLr:=zh (HP.out.2.1.append (Na.Lim.one (show d<16777216 by omega)))
     have HLl:Hid ((l++[d]).length=k+1):=by unfold Hid;rw [zqm,HP.out.1];rfl
     have HSet:=zh (Na.set_mid l (Na.dig x) k d HP.out.1 (by rw [HN.out];exact hkn))
     clear ha hbb hea heb;have hv1:Hid True:=trivial
     have HF5:Hid (∃ w5,wr.setCell ⟨g,k,none⟩ (.int .i64 ((a:Int) - (bw:Int)))=w5/\w5.cell? ⟨g,k,none⟩=some (.int .i64 ((a:Int) - (bw:Int)))/\w5.frozen? ⟨g,k,none⟩=false/\w5.cell? ⟨w.heap.size+1,0,none⟩=some (.slice (some ad2) m c2)/\w5.ownsRow w2.heap.size 3 1 (.slice (some ⟨g,0,none⟩) n3 ca) n3 ((z0c (l++(Na.dig x).drop k)).set k (.int .i64 ((a:Int) - (bw:Int))))/\Below w2.heap.size w2 w5):=by
      have o1:=z1x HO.out k (.int .i64 ((a:Int) - (bw:Int)))
      have b1:=z4z HB.out ⟨g,k,none⟩ hgb (.int .i64 ((a:Int) - (bw:Int)))
      exact ⟨_,rfl,z0k _ hca,o1.frozenAt k,(b1.cell (p:=⟨w.heap.size+1,0,none⟩) (by simp;omega)).trans he1,o1,b1⟩
     go_upto_region 11 with (fail)
     obtain ⟨w5,hw5,f1,f2,f3,f4,f5⟩:=HF5.out;rw [hw5];have HO5:=zh f4;have HB5:=zh f5;clear HF5 hw5 f4 f5;have hcb5:w5.cell? (ad2.add k)=some (.int .i64 b):=by
      obtain ⟨ad9,h9,_,hc9⟩:=(HS2.out.below (HB2.out.trans (HB5.out.mono HB2.out.size))).nat HYb.out
      cases h9
      exact hc9
     go_wp2_with fail;refine wp_region_still_tail 11 (by kernel_rfl) (by kernel_rfl) ?_
     simp only [List.take_succ_cons,List.take_zero,List.drop_succ_cons,List.drop_zero]
     repeat (first|still_step)
     refine wpStill_nil ?_
     change wpList _ _ _ _ _ w5.drew
     have HF6:Hid (∃ w6,(w5.setCell ⟨g,k,none⟩ (.int .i64 ((a:Int) - (bw:Int) - (b:Int)))).drew=w6/\w6.cell? ⟨g,k,none⟩=some (.int .i64 ((a:Int) - (bw:Int) - (b:Int)))/\w6.frozen? ⟨g,k,none⟩=false/\w6.ownsRow w2.heap.size 3 1 (.slice (some ⟨g,0,none⟩) n3 ca) n3 ((z0c (l++(Na.dig x).drop k)).set k (.int .i64 ((a:Int) - (bw:Int) - (b:Int))))/\Below w2.heap.size w2 w6):=by
      have o1:=(z1x HO5.out k (.int .i64 ((a:Int) - (bw:Int) - (b:Int)))).drew
      rw [List.set_set] at o1;exact ⟨_,rfl,z0k _ f1,o1.frozenAt k,o1,(z4z HB5.out ⟨g,k,none⟩ hgb _).drew⟩
     go_upto_region 13 with (fail)
     obtain ⟨w6,hw6,g1,g2,g4,g5⟩:=HF6.out;rw [hw6];have HO6:=zh g4;have HB6:=zh g5;clear HF6 hw6 g4 g5 f1 f2 f3 HO5 HB5 hcb5;have hpos:0<=((a:Int) - (bw:Int) - (b:Int)):=by omega
     have HVal:Hid (((a:Int) - (bw:Int) - (b:Int))=(d:Int)):=by unfold Hid;omega
     go_wp2_with fail;go_roundw
     case rel=>
      have o1:=HO6.out;rw [HVal.out,z1s,HSet.out] at o1;exact ⟨k+1,0,l++[d],by omega,by go_num,rfl,by omega,⟨HLl.out,HLr.out,HST.out⟩,o1,HB6.out⟩
     case measure=>simp [intOf];omega
    ·obtain ⟨d,hd⟩:∃ d,d+bw+b=a+16777216:=⟨a+16777216 - bw - b,by omega⟩
     have HST:=zh (Na.sub_no (Na.dig x) (Na.dig y) l k bw d HP.out.1 HP.out.2.2 (by rw [hea,heb];exact hd))
     have HLr:=zh (HP.out.2.1.append (Na.Lim.one (show d<16777216 by omega)))
     have HLl:Hid ((l++[d]).length=k+1):=by unfold Hid;rw [zqm,HP.out.1];rfl
     have HSet:=zh (Na.set_mid l (Na.dig x) k d HP.out.1 (by rw [HN.out];exact hkn))
     clear ha hbb hea heb;have hv1:Hid True:=trivial
     have HF5:Hid (∃ w5,wr.setCell ⟨g,k,none⟩ (.int .i64 ((a:Int) - (bw:Int)))=w5/\w5.cell? ⟨g,k,none⟩=some (.int .i64 ((a:Int) - (bw:Int)))/\w5.frozen? ⟨g,k,none⟩=false/\w5.cell? ⟨w.heap.size+1,0,none⟩=some (.slice (some ad2) m c2)/\w5.ownsRow w2.heap.size 3 1 (.slice (some ⟨g,0,none⟩) n3 ca) n3 ((z0c (l++(Na.dig x).drop k)).set k (.int .i64 ((a:Int) - (bw:Int))))/\Below w2.heap.size w2 w5):=by
      have o1:=z1x HO.out k (.int .i64 ((a:Int) - (bw:Int)))
      have b1:=z4z HB.out ⟨g,k,none⟩ hgb (.int .i64 ((a:Int) - (bw:Int)))
      exact ⟨_,rfl,z0k _ hca,o1.frozenAt k,(b1.cell (p:=⟨w.heap.size+1,0,none⟩) (by simp;omega)).trans he1,o1,b1⟩
     go_upto_region 11 with (fail)
     obtain ⟨w5,hw5,f1,f2,f3,f4,f5⟩:=HF5.out;rw [hw5];have HO5:=zh f4;have HB5:=zh f5;clear HF5 hw5 f4 f5;have hcb5:w5.cell? (ad2.add k)=some (.int .i64 b):=by
      obtain ⟨ad9,h9,_,hc9⟩:=(HS2.out.below (HB2.out.trans (HB5.out.mono HB2.out.size))).nat HYb.out
      cases h9
      exact hc9
     go_wp2_with fail;refine wp_region_still_tail 11 (by kernel_rfl) (by kernel_rfl) ?_
     simp only [List.take_succ_cons,List.take_zero,List.drop_succ_cons,List.drop_zero]
     repeat (first|still_step)
     refine wpStill_nil ?_
     change wpList _ _ _ _ _ w5.drew
     have HF6:Hid (∃ w6,(w5.setCell ⟨g,k,none⟩ (.int .i64 ((a:Int) - (bw:Int) - (b:Int)))).drew=w6/\w6.cell? ⟨g,k,none⟩=some (.int .i64 ((a:Int) - (bw:Int) - (b:Int)))/\w6.frozen? ⟨g,k,none⟩=false/\w6.ownsRow w2.heap.size 3 1 (.slice (some ⟨g,0,none⟩) n3 ca) n3 ((z0c (l++(Na.dig x).drop k)).set k (.int .i64 ((a:Int) - (bw:Int) - (b:Int))))/\Below w2.heap.size w2 w6):=by
      have o1:=(z1x HO5.out k (.int .i64 ((a:Int) - (bw:Int) - (b:Int)))).drew
      rw [List.set_set] at o1;exact ⟨_,rfl,z0k _ f1,o1.frozenAt k,o1,(z4z HB5.out ⟨g,k,none⟩ hgb _).drew⟩
     go_upto_region 13 with (fail)
     obtain ⟨w6,hw6,g1,g2,g4,g5⟩:=HF6.out;rw [hw6];have HO6:=zh g4;have HB6:=zh g5;clear HF6 hw6 g4 g5 f1 f2 f3 HO5 HB5 hcb5;have hneg:((a:Int) - (bw:Int) - (b:Int))<0:=by omega
     have hsum:((a:Int) - (bw:Int) - (b:Int))+16777216=(d:Int):=by omega
     go_wp2_with fail;go_roundw
     case rel=>
      have o1:=z1x HO6.out k (.int .i64 d)
      rw [List.set_set,z1s,HSet.out] at o1;exact ⟨k+1,1,l++[d],by omega,by go_num,rfl,by omega,⟨HLl.out,HLr.out,HST.out⟩,o1,z4z HB6.out ⟨g,k,none⟩ hgb _⟩
     case measure=>simp [intOf];omega
   ·have heb:Na.at0 (Na.dig y) k=0:=Na.at0_none (by rw [HM.out];exact hkm)
    by_cases hlt:bw<=a
    ·obtain ⟨d,hd⟩:∃ d,d+bw=a:=⟨a - bw,by omega⟩
     have HST:=zh (Na.sub_yes (Na.dig x) (Na.dig y) l k bw d HP.out.1 HP.out.2.2 (by rw [hea,heb];omega))
     have HLr:=zh (HP.out.2.1.append (Na.Lim.one (show d<16777216 by omega)))
     have HLl:Hid ((l++[d]).length=k+1):=by unfold Hid;rw [zqm,HP.out.1];rfl
     have HSet:=zh (Na.set_mid l (Na.dig x) k d HP.out.1 (by rw [HN.out];exact hkn))
     clear ha hea heb;have hv1:Hid True:=trivial
     have HF5:Hid (∃ w5,wr.setCell ⟨g,k,none⟩ (.int .i64 ((a:Int) - (bw:Int)))=w5/\w5.cell? ⟨g,k,none⟩=some (.int .i64 ((a:Int) - (bw:Int)))/\w5.frozen? ⟨g,k,none⟩=false/\w5.cell? ⟨w.heap.size+1,0,none⟩=some (.slice A2 m c2)/\w5.ownsRow w2.heap.size 3 1 (.slice (some ⟨g,0,none⟩) n3 ca) n3 ((z0c (l++(Na.dig x).drop k)).set k (.int .i64 ((a:Int) - (bw:Int))))/\Below w2.heap.size w2 w5):=by
      have o1:=z1x HO.out k (.int .i64 ((a:Int) - (bw:Int)))
      have b1:=z4z HB.out ⟨g,k,none⟩ hgb (.int .i64 ((a:Int) - (bw:Int)))
      exact ⟨_,rfl,z0k _ hca,o1.frozenAt k,(b1.cell (p:=⟨w.heap.size+1,0,none⟩) (by simp;omega)).trans he1,o1,b1⟩
     go_upto_region 11 with (fail)
     obtain ⟨w5,hw5,f1,f2,f3,f4,f5⟩:=HF5.out;rw [hw5];have HO5:=zh f4;have HB5:=zh f5;clear HF5 hw5 f4 f5;have hpos:0<=((a:Int) - (bw:Int)):=by omega
     have HVal:Hid (((a:Int) - (bw:Int))=(d:Int)):=by unfold Hid;omega
     go_wp2_with fail;go_roundw
     case rel=>
      have o1:=HO5.out;rw [HVal.out,z1s,HSet.out] at o1;exact ⟨k+1,0,l++[d],by omega,by go_num,rfl,by omega,⟨HLl.out,HLr.out,HST.out⟩,o1,HB5.out⟩
     case measure=>simp [intOf];omega
    ·obtain ⟨d,hd⟩:∃ d,d+bw=a+16777216:=⟨a+16777216 - bw,by omega⟩
     have HST:=zh (Na.sub_no (Na.dig x) (Na.dig y) l k bw d HP.out.1 HP.out.2.2 (by rw [hea,heb];omega))
     have HLr:=zh (HP.out.2.1.append (Na.Lim.one (show d<16777216 by omega)))
     have HLl:Hid ((l++[d]).length=k+1):=by unfold Hid;rw [zqm,HP.out.1];rfl
     have HSet:=zh (Na.set_mid l (Na.dig x) k d HP.out.1 (by rw [HN.out];exact hkn))
     clear ha hea heb;have hv1:Hid True:=trivial
     have HF5:Hid (∃ w5,wr.setCell ⟨g,k,none⟩ (.int .i64 ((a:Int) - (bw:Int)))=w5/\w5.cell? ⟨g,k,none⟩=some (.int .i64 ((a:Int) - (bw:Int)))/\w5.frozen? ⟨g,k,none⟩=false/\w5.cell? ⟨w.heap.size+1,0,none⟩=some (.slice A2 m c2)/\w5.ownsRow w2.heap.size 3 1 (.slice (some ⟨g,0,none⟩) n3 ca) n3 ((z0c (l++(Na.dig x).drop k)).set k (.int .i64 ((a:Int) - (bw:Int))))/\Below w2.heap.size w2 w5):=by
      have o1:=z1x HO.out k (.int .i64 ((a:Int) - (bw:Int)))
      have b1:=z4z HB.out ⟨g,k,none⟩ hgb (.int .i64 ((a:Int) - (bw:Int)))
      exact ⟨_,rfl,z0k _ hca,o1.frozenAt k,(b1.cell (p:=⟨w.heap.size+1,0,none⟩) (by simp;omega)).trans he1,o1,b1⟩
     go_upto_region 11 with (fail)
     obtain ⟨w5,hw5,f1,f2,f3,f4,f5⟩:=HF5.out;rw [hw5];have HO5:=zh f4;have HB5:=zh f5;clear HF5 hw5 f4 f5;have hneg:((a:Int) - (bw:Int))<0:=by omega
     have hsum:((a:Int) - (bw:Int))+16777216=(d:Int):=by omega
     go_wp2_with fail;go_roundw
     case rel=>
      have o1:=z1x HO5.out k (.int .i64 d)
      rw [List.set_set,z1s,HSet.out] at o1;exact ⟨k+1,1,l++[d],by omega,by go_num,rfl,by omega,⟨HLl.out,HLr.out,HST.out⟩,o1,z4z HB5.out ⟨g,k,none⟩ hgb _⟩
     case measure=>simp [intOf];omega
  ·have hkn':k=n3:=by omega
   have HLl:Hid (l.length=n3):=by unfold Hid;rw [<- hkn'];exact HP.out.1
   have HLr:=zh HP.out.2.1;have HEnd:Hid (Na.val l=x - y):=by
    have h1:=Na.sub_end (Na.dig x) (Na.dig y) l k bw HP.out.2.1 HP.out.1 HP.out.2.2 (by rw [HN.out];omega) (by rw [HM.out,hkn'];have:=Na.dig_len_mono hcmp;rw [HN.out,HM.out] at this;exact this) (by rw [Na.val_dig,Na.val_dig];exact hcmp)
    rw [Na.val_dig,Na.val_dig] at h1;exact h1
   have hown:wr.ownsRow w2.heap.size 3 1 (.slice A3 n3 ca) n3 (z0c l):=by
    have h1:=ho;rw [List.drop_of_length_le (by rw [HN.out];exact hkn),List.append_nil] at h1
    exact h1
   have hf:z4j (x - y)=Na.dig (x - y)/\z3v (x - y)=0:=by
    have:x - y<Na.top:=zqu (Nat.sub_le _ _) (by rw [<- Na.dig_200,HN.out];exact hn2)
    exact ⟨z1t this,z1u this⟩
   have HR:=zh (z2u A3 n3 ca w2.heap.size l wr HLl.out hown HLr.out (by omega))
   rw [HEnd.out,hf.1,hf.2] at HR;clear ho hb hkn' hown hf;go_wp2_with fail;refine HR.out.mono ?_;rintro e w9 ⟨A9,n9,c9,rfl,hn9,ho9,hb9⟩;have HN9:=zh hn9;have HO9:=zh ho9;have HB9:=zh (btr HB.out hb9)
   have hk9:w9.cell? ⟨w.heap.size+2,0,none⟩=some (.slice none 0 0):=(HB9.out.cell (p:=⟨w.heap.size+2,0,none⟩) (by simp;omega)).trans he2
   have hk9f:w9.frozen? ⟨w.heap.size+2,0,none⟩=false:=(HB9.out.frozen (p:=⟨w.heap.size+2,0,none⟩) (by simp;omega)).trans hh2
   clear hn9 ho9 hb9 he1 he2 hh2;go_wp2_with fail;refine bodyPost_ret (v:=.tuple #[.agg #[.slice A9 n9 c9],.int .i64 0]) (by simp [results,Tryz.results94,go_sem,hk9]) rfl ?_
   exact z2b HO9.out HN9.out (by omega) (by omega) (HB2.out.trans (HB9.out.mono HB2.out.size)) (by omega) _ _
theorem z2al {x y:Nat}(hx:x<Na.top)(hy:y<Na.top):subL (Na.up (Na.dig x)) (Na.up (Na.dig y))=(if x<y then [] else Na.dig (x - y))/\subE (Na.up (Na.dig x)) (Na.up (Na.dig y))=(if x<y then 5 else 0):=by
 unfold subL subE;rw [Na.vld_dig hx,Na.vld_dig hy,z0l,z0l];exact ⟨rfl,rfl⟩
theorem z1by (A A2:Option Addr)(n c m c2:Nat)(zs ys:List Int)(w:World)(hn:zs.length=n)(hm:ys.length=m)(hs:Sl w w.heap.size A (z0p zs))(hs2:Sl w w.heap.size A2 (z0p ys))(hl:n<=140737488351232)(hl2:m<=140737488351232):
  Calls Tryz.prog 94 #[.agg #[.slice A n c],.agg #[.slice A2 m c2]] w (z3m w (subL zs ys) (subE zs ys)):=by
 cases hv:(Na.vld zs && Na.vld ys)
 ·have e1:subL zs ys=[]:=by unfold subL;rw [hv];rfl
  have e2:subE zs ys=1:=by unfold subE;rw [hv];rfl
  rw [e1,e2];exact z1bx A A2 n c m c2 zs ys w hn hm hs hs2 hl hl2 hv
 ·obtain ⟨x,y,hx,hy,rfl,rfl⟩:=z9f hv
  rw [(z2al hx hy).1,(z2al hx hy).2]
  rw [z0g] at hs hs2;rw [Na.up_length] at hn hm;by_cases h:x<y
  ·rw [if_pos h,if_pos h];exact z1bw A A2 n c m c2 x y w hn hm hs hs2 hx hy h
  ·rw [if_neg h,if_neg h];exact z1bv A A2 n c m c2 x y w hn hm hs hs2 hx hy (by omega)
end Go.Proofs.YtpmofjomadibmaaGreatDoor
