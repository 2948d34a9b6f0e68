/-
  Several texts in one: each says what it proves.
  Conditions: none. Lemmas only.
-/
import Derived.Test.YtcncplameclkfaaGreatDoorAbsG1
set_option linter.all false
section
namespace Go.Sha
def pJ(w x n:Nat):Nat:=x/2^n+x % 2^n*2^(w-n)
theorem rot_zero(w x:Nat):pJ w x 0=x:=by simp[pJ,Nat.mod_one]
theorem rot_lt{w x n:Nat}(hx:x<2^w)(hn:n≤w):pJ w x n<2^w:=by
 unfold pJ
 have e:2^w=2^n*2^(w-n):=by rw[←Nat.pow_add];congr 1;omega
 have h1:x/2^n<2^(w-n):=by
  rw[e]at hx
  exact Nat.div_lt_of_lt_mul hx
 have h2:x % 2^n+1≤2^n:=Nat.mod_lt _ (Nat.two_pow_pos n)
 have h3:=Nat.mul_le_mul_right (2^(w-n)) h2
 rw[Nat.add_mul,Nat.one_mul]at h3
 omega
theorem rot_step{w x n:Nat}(hx:x<2^w)(hn:n<w):pJ w x n/2+pJ w x n % 2*2^(w-1)=pJ w x (n+1):=by
 unfold pJ
 obtain⟨k,hk⟩:∃k,w=n+1+k:=⟨w-(n+1),by omega⟩
 subst hk
 rw[show n+1+k-n=k+1 by omega,show n+1+k-(n+1)=k by omega,show n+1+k-1=n+k by omega]
 have e1:(x/2^n+x % 2^n*2^(k+1))/2=x/2^(n+1)+x % 2^n*2^k:=by
  rw[Nat.pow_succ 2 k,←Nat.mul_assoc,Nat.add_mul_div_right _ _ (by decide),Nat.div_div_eq_div_mul,←Nat.pow_succ]
 have e2:(x/2^n+x % 2^n*2^(k+1)) % 2=x/2^n % 2:=by
  rw[Nat.pow_succ 2 k,←Nat.mul_assoc,Nat.add_mul_mod_self_right]
 have e3:x % 2^(n+1)=x % 2^n+2^n*(x/2^n % 2):=by
  rw[Nat.pow_succ,Nat.mod_mul]
 rw[e1,e2,e3,Nat.add_mul,Nat.add_assoc]
 congr 2
 rw[Nat.pow_add,←Nat.mul_assoc,Nat.mul_comm (x/2^n % 2)]
theorem rot_or{w x n:Nat}(hx:x<2^w)(hn:n≤w):(x/2^n) ||| (x*2^(w-n) % 2^w)=pJ w x n:=by
 have e:2^w=2^n*2^(w-n):=by rw[←Nat.pow_add];congr 1;omega
 have h1:x/2^n<2^(w-n):=by
  rw[e]at hx
  exact Nat.div_lt_of_lt_mul hx
 rw[e,Nat.mul_mod_mul_right,Nat.or_comm,Nat.mul_comm (x % 2^n),←Nat.two_pow_add_eq_or_of_lt h1]
 unfold pJ
 rw[Nat.add_comm,Nat.mul_comm]
theorem xor_lt{w a b:Nat}(ha:a<2^w)(hb:b<2^w):a ^^^ b<2^w:=Nat.xor_lt_two_pow ha hb
def turM(w x a b c:Nat):Nat:=pJ w x a ^^^ pJ w x b ^^^ pJ w x c
def shfM(w x a b c:Nat):Nat:=pJ w x a ^^^ pJ w x b ^^^ x/2^c
theorem tur_lt{w x a b c:Nat}(hx:x<2^w)(ha:a≤w)(hb:b≤w)(hc:c≤w):turM w x a b c<2^w:=xor_lt (xor_lt (rot_lt hx ha) (rot_lt hx hb)) (rot_lt hx hc)
theorem shf_lt{w x a b c:Nat}(hx:x<2^w)(ha:a≤w)(hb:b≤w):shfM w x a b c<2^w:=xor_lt (xor_lt (rot_lt hx ha) (rot_lt hx hb)) (Nat.lt_of_le_of_lt (Nat.div_le_self _ _) hx)
def valL:List Nat→Nat
 |[]=>0
 |x::l=>x+65536*valL l
def mulK(ai:Nat)(b:List Nat)(i:Nat):Nat→List Nat × Nat→List Nat × Nat
 |0,s=>s
 |k+1,s=>((mulK ai b i k s).1.set (i+k) (((mulK ai b i k s).1.getD (i+k) 0+ai*b.getD k 0+(mulK ai b i k s).2) % 65536),((mulK ai b i k s).1.getD (i+k) 0+ai*b.getD k 0+(mulK ai b i k s).2)/65536)
def mulI(a b:List Nat):Nat→List Nat
 |0=>List.replicate (a.length+b.length) 0
 |i+1=>(mulK (a.getD i 0) b i b.length (mulI a b i,0)).1.set (i+b.length) (mulK (a.getD i 0) b i b.length (mulI a b i,0)).2
def mulM(a b:List Nat):List Nat:=mulI a b a.length
def qt(d:List Nat)(p n:Nat):Bool:=
 if (d.drop (n+1)).any (fun x=>decide (0<x)) then true
 else if d.length≤n∨d.getD n 0<p then false
 else if p<d.getD n 0 then true
 else (d.take n).any (fun x=>decide (0<x))
def powM(d:List Nat)(power:Nat):List Nat:=if power=3 then mulM (mulM d d) d else mulM d d
def rL(p power i:Nat):Nat→List Nat→List Nat
 |0,d=>d
 |s+1,d=>rL p power i s (if qt (powM (d.set i (d.getD i 0+2^s)) power) p (4*power) then d else d.set i (d.getD i 0+2^s))
def iZ(p power:Nat):Nat→List Nat→List Nat
 |0,d=>d
 |i+1,d=>iZ p power i (rL p power i 16 d)
abbrev Dig(l:List Nat):Prop:=∀x∈l,x<65536
theorem dig_getD{l:List Nat}(h:Dig l)(i:Nat):l.getD i 0<65536:=by
 by_cases hi:i<l.length
 ·simp only[List.getD,List.getElem?_eq_getElem hi,Option.getD_some]
  exact h _ (List.getElem_mem hi)
 ·simp[List.getD,List.getElem?_eq_none (by omega:l.length≤i)]
theorem qI{l:List Nat}(h:Dig l)(i:Nat){y:Nat}(hy:y<65536):Dig (l.set i y):=fun x hx=>by
 rcases List.mem_or_eq_of_mem_set hx with hx|rfl
 ·exact h x hx
 ·exact hy
theorem pO:∀ {l:List Nat} {i:Nat} (y:Nat),i<l.length→valL (l.set i y)+l.getD i 0*65536^i=valL l+y*65536^i
 |[],i,y,h=>by simp at h
 |x::l,0,y,h=>by simp[valL];omega
 |x::l,i+1,y,h=>by
  have ih:=pO (l:=l) (i:=i) y (by simpa using h)
  simp only[List.set_cons_succ,valL,List.getD_cons_succ]
  have e1:l.getD i 0*65536^(i+1)=65536*(l.getD i 0*65536^i):=by rw[Nat.pow_succ,Nat.mul_comm 65536,Nat.mul_assoc]
  have e2:y*65536^(i+1)=65536*(y*65536^i):=by rw[Nat.pow_succ,Nat.mul_comm 65536,Nat.mul_assoc]
  rw[e1,e2]
  omega
theorem oK:∀ {l:List Nat} {i:Nat},i<l.length→valL (l.take (i+1))=valL (l.take i)+l.getD i 0*65536^i
 |[],i,h=>by simp at h
 |x::l,0,h=>by simp[valL]
 |x::l,i+1,h=>by
  have ih:=oK (l:=l) (i:=i) (by simpa using h)
  simp only[List.take_succ_cons,valL,List.getD_cons_succ]
  have e1:l.getD i 0*65536^(i+1)=65536*(l.getD i 0*65536^i):=by rw[Nat.pow_succ,Nat.mul_comm 65536,Nat.mul_assoc]
  rw[ih,e1,Nat.mul_add,Nat.add_assoc]
theorem val_rep(n:Nat):valL (List.replicate n 0)=0:=by
 induction n with
 |zero=>rfl
 |succ n ih=>rw[List.replicate_succ,valL,ih]
theorem getD_set_ne{l:List Nat}{i j y:Nat}(h:i≠j):(l.set i y).getD j 0=l.getD j 0:=by
 simp only[List.getD,List.getElem?_set_ne h]
theorem mulK_spec{ai:Nat}{b:List Nat}{i:Nat}(ha:ai<65536)(hb:Dig b):∀(k:Nat) {o:List Nat}, Dig o→k≤b.length→i+b.length≤o.length→
    Dig (mulK ai b i k (o,0)).1∧(mulK ai b i k (o,0)).2<65536∧(mulK ai b i k (o,0)).1.length=o.length∧(∀j,i+k≤j→(mulK ai b i k (o,0)).1.getD j 0=o.getD j 0)∧
     valL (mulK ai b i k (o,0)).1+(mulK ai b i k (o,0)).2*65536^(i+k)=valL o+ai*valL (b.take k)*65536^i
 |0,o,ho,_,_=>⟨ho,by show(0:Nat)<_;omega,rfl,fun _ _=>rfl,by show valL o+0*_=_;simp[valL]⟩
 |k+1,o,ho,hk,hl=>by
  obtain⟨h1,h2,h3,h4,h5⟩:=mulK_spec ha hb k ho (by omega) hl
  have hg:=dig_getD h1 (i+k)
  have hbk:=dig_getD hb k
  have hp:ai*b.getD k 0≤65535*65535:=Nat.mul_le_mul (by omega) (by omega)
  have hi:i+k<(mulK ai b i k (o,0)).1.length:=by omega
  have hs:=oK (l:=b) (i:=k) (by omega)
  unfold mulK
  generalize mulK ai b i k (o,0)=S at *
  obtain⟨q,c⟩:=S
  simp only[]at *
  have hv:=pO (l:=q) (i:=i+k) ((q.getD (i+k) 0+ai*b.getD k 0+c) % 65536) hi
  have hdm:=Nat.div_add_mod (q.getD (i+k) 0+ai*b.getD k 0+c) 65536
  generalize hT:q.getD (i+k) 0+ai*b.getD k 0+c=t at *
  refine⟨qI h1 _ (Nat.mod_lt _ (by decide)),by omega,by rw[List.length_set];exact h3,fun j hj=>by rw[getD_set_ne (by omega)];exact h4 j (by omega),?_⟩
  have e1:t/65536*65536^(i+(k+1))=65536*(t/65536)*65536^(i+k):=by
   rw[←Nat.add_assoc,Nat.pow_succ,Nat.mul_comm (65536^(i+k)),←Nat.mul_assoc,Nat.mul_comm (t/65536)]
  have e2:ai*(b.getD k 0*65536^k)*65536^i=ai*b.getD k 0*65536^(i+k):=by
   rw[Nat.pow_add,Nat.mul_comm (65536^i),←Nat.mul_assoc,←Nat.mul_assoc]
  rw[e1,hs,Nat.mul_add,Nat.add_mul,e2]
  have hM:t % 65536*65536^(i+k)+65536*(t/65536)*65536^(i+k)=q.getD (i+k) 0*65536^(i+k)+ai*b.getD k 0*65536^(i+k)+c*65536^(i+k):=by
   rw[←Nat.add_mul,←Nat.add_mul,←Nat.add_mul,hT]
   congr 1
   omega
  omega
theorem mulI_spec{a b:List Nat}(ha:Dig a)(hb:Dig b):∀i,i≤a.length→Dig (mulI a b i)∧(mulI a b i).length=a.length+b.length∧(∀j,i+b.length≤j→(mulI a b i).getD j 0=0)∧valL (mulI a b i)=valL (a.take i)*valL b
 |0,_=>by
  refine⟨fun x hx=>?_,List.length_replicate,fun j _=>?_,?_⟩
  ·have:x=0:=List.eq_of_mem_replicate hx
   omega
  ·show(List.replicate _ 0).getD j 0=0
   simp only[List.getD,List.getElem?_replicate]
   split<;>rfl
  ·show valL (List.replicate _ 0)=_
   rw[val_rep];simp[valL]
 |i+1,hi=>by
  obtain⟨h1,h2,h3,h4⟩:=mulI_spec ha hb i (by omega)
  obtain⟨k1,k2,k3,k4,k5⟩:=mulK_spec (i:=i) (dig_getD ha i) hb b.length h1 (Nat.le_refl _) (by omega)
  have hs:=oK (l:=a) (i:=i) (by omega)
  unfold mulI
  generalize mulK (a.getD i 0) b i b.length (mulI a b i,0)=S at *
  obtain⟨q,c⟩:=S
  simp only[]at *
  have hz:=k4 (i+b.length) (Nat.le_refl _)
  rw[h3 _ (Nat.le_refl _)]at hz
  have hv:=pO (l:=q) (i:=i+b.length) c (by omega)
  rw[hz]at hv
  refine⟨qI k1 _ k2,by rw[List.length_set];omega,fun j hj=>by rw[getD_set_ne (by omega),k4 j (by omega)];exact h3 j (by omega),?_⟩
  rw[List.take_length]at k5
  rw[hs,Nat.add_mul]
  have e:a.getD i 0*65536^i*valL b=a.getD i 0*valL b*65536^i:=by rw[Nat.mul_assoc,Nat.mul_comm (65536^i),←Nat.mul_assoc]
  rw[e]
  omega
theorem mulM_spec{a b:List Nat}(ha:Dig a)(hb:Dig b):Dig (mulM a b)∧(mulM a b).length=a.length+b.length∧valL (mulM a b)=valL a*valL b:=by
 obtain⟨h1,h2,h3,h4⟩:=mulI_spec ha hb a.length (Nat.le_refl _)
 rw[List.take_length]at h4
 exact⟨h1,h2,h4⟩
theorem val_lt:∀ {l:List Nat},Dig l→valL l<65536^l.length
 |[],_=>by simp[valL]
 |x::l,h=>by
  have h1:=val_lt (l:=l) fun y hy=>h y (List.mem_cons_of_mem _ hy)
  have h2:=h x List.mem_cons_self
  rw[List.length_cons,Nat.pow_succ,valL]
  omega
theorem val_pos:∀ {l:List Nat},(l.any fun x=>decide (0<x))=decide (0<valL l)
 |[]=>rfl
 |x::l=>by
  rw[List.any_cons,val_pos (l:=l),valL,Bool.eq_iff_iff,Bool.or_eq_true,decide_eq_true_eq,decide_eq_true_eq,decide_eq_true_eq]
  omega
theorem val_split:∀(l:List Nat) (n:Nat),valL l=valL (l.take n)+65536^n*valL (l.drop n)
 |[],n=>by simp[valL]
 |x::l,0=>by simp[valL]
 |x::l,n+1=>by
  have ih:=val_split l n
  rw[List.take_succ_cons,List.drop_succ_cons,valL,valL,Nat.pow_succ,Nat.mul_comm (65536^n),Nat.mul_assoc]
  omega
theorem mostM_spec{d:List Nat}{p n:Nat}(hd:Dig d)(hp:1≤p)(hp2:p<65536):qt d p n=decide (p*65536^n<valL d):=by
 unfold qt
 by_cases hl:d.length≤n
 ·have hv:=val_lt hd
  have hm:65536^d.length≤65536^n:=Nat.pow_le_pow_right (by decide) hl
  have hd0:d.drop (n+1)=[]:=List.drop_eq_nil_of_le (by omega)
  rw[hd0,if_neg (by simp),if_pos (.inl hl)]
  have:¬p*65536^n<valL d:=by
   have:=Nat.mul_le_mul_right (65536^n) hp
   omega
  rw[decide_eq_false this]
 ·have hn:n<d.length:=by omega
  have hs:=val_split d (n+1)
  have hs1:=oK hn
  have hlt:=val_lt (l:=d.take n) fun x hx=>hd x (List.mem_of_mem_take hx)
  rw[List.length_take,Nat.min_eq_left (by omega)]at hlt
  have hdn:=dig_getD hd n
  rw[val_pos,val_pos]
  generalize valL (d.drop (n+1))=hi at *
  generalize valL (d.take n)=lo at *
  generalize d.getD n 0=x at *
  have hP:0<65536^n:=Nat.pow_pos (by decide)
  rw[hs1,Nat.pow_succ]at hs
  generalize 65536^n=B at *
  by_cases h0:0<hi
  ·rw[if_pos (by simpa using h0)]
   have:p*B<valL d:=by
    have h1:B*65536*1≤B*65536*hi:=Nat.mul_le_mul_left _ h0
    have h2:p*B<65536*B:=Nat.mul_lt_mul_of_pos_right hp2 hP
    rw[Nat.mul_comm 65536 B]at h2
    omega
   rw[decide_eq_true this]
  ·have hi0:hi=0:=by omega
   subst hi0
   rw[if_neg (by simp),Nat.mul_zero,Nat.add_zero]at *
   rw[hs]
   by_cases h1:x<p
   ·rw[if_pos (.inr h1)]
    have:¬p*B<lo+x*B:=by
     have:(x+1)*B≤p*B:=Nat.mul_le_mul_right _ h1
     rw[Nat.add_mul,Nat.one_mul]at this
     omega
    rw[decide_eq_false this]
   ·rw[if_neg (by omega)]
    by_cases h2:p<x
    ·rw[if_pos h2]
     have:p*B<lo+x*B:=by
      have:(p+1)*B≤x*B:=Nat.mul_le_mul_right _ h2
      rw[Nat.add_mul,Nat.one_mul]at this
      omega
     rw[decide_eq_true this]
    ·rw[if_neg h2]
     have:p=x:=by omega
     subst this
     rw[Bool.eq_iff_iff,decide_eq_true_eq,decide_eq_true_eq]
     omega
def bitN(p power e:Nat):Nat→Nat→Nat
 |0,r=>r
 |s+1,r=>bitN p power e s (if p*65536^(4*power)<(r+2^s*65536^e)^power then r else r+2^s*65536^e)
def ib(p power:Nat):Nat→Nat→Nat
 |0,r=>r
 |i+1,r=>ib p power i (bitN p power i 16 r)
def oW(p power:Nat):Nat:=ib p power 5 0 % 2^64
theorem powM_spec{d:List Nat}{power:Nat}(hd:Dig d)(hp:power=2∨power=3):Dig (powM d power)∧valL (powM d power)=valL d^power:=by
 obtain⟨h1,h2,h3⟩:=mulM_spec hd hd
 unfold powM
 rcases hp with rfl|rfl
 ·rw[if_neg (by decide)]
  exact⟨h1,by rw[h3,Nat.pow_two]⟩
 ·rw[if_pos rfl]
  obtain⟨k1,k2,k3⟩:=mulM_spec h1 hd
  exact⟨k1,by rw[k3,h3,Nat.pow_succ,Nat.pow_two]⟩
theorem bitM_spec{p power i:Nat}(hp:power=2∨power=3)(h1:1≤p)(h2:p<65536):∀(s:Nat) {d:List Nat}, Dig d→i<d.length→d.getD i 0+2^s≤65536→
    Dig (rL p power i s d)∧(rL p power i s d).length=d.length∧valL (rL p power i s d)=bitN p power i s (valL d)∧∀j,j≠i→(rL p power i s d).getD j 0=d.getD j 0
 |0,d,hd,_,_=>⟨hd,rfl,rfl,fun _ _=>rfl⟩
 |s+1,d,hd,hi,hb=>by
  rw[Nat.pow_succ]at hb
  have hpos:0<2^s:=Nat.pow_pos (by decide)
  have hd':=qI hd i (y:=d.getD i 0+2^s) (by omega)
  obtain⟨q1,q2⟩:=powM_spec hd' hp
  have hv:=pO (d.getD i 0+2^s) hi
  have hv':valL (d.set i (d.getD i 0+2^s))=valL d+2^s*65536^i:=by
   rw[Nat.add_mul]at hv
   omega
  have hm:=mostM_spec (n:=4*power) q1 h1 h2
  rw[q2,hv']at hm
  unfold rL bitN
  rw[hm]
  by_cases c:p*65536^(4*power)<(valL d+2^s*65536^i)^power
  ·rw[decide_eq_true c,if_pos rfl,if_pos c]
   exact bitM_spec hp h1 h2 s hd hi (by omega)
  ·rw[decide_eq_false c,if_neg (by simp),if_neg c,←hv']
   have hg:(d.set i (d.getD i 0+2^s)).getD i 0=d.getD i 0+2^s:=by simp[List.getD,hi]
   obtain⟨a1,a2,a3,a4⟩:=bitM_spec (i:=i) hp h1 h2 s hd' (by rw[List.length_set];exact hi) (by rw[hg];omega)
   exact⟨a1,by rw[a2,List.length_set],a3,fun j hj=>by rw[a4 j hj,getD_set_ne (fun e=>hj e.symm)]⟩
theorem digM_spec{p power:Nat}(hp:power=2∨power=3)(h1:1≤p)(h2:p<65536):∀(i:Nat) {d:List Nat},Dig d→i≤d.length→(∀j,j<i→d.getD j 0=0)→Dig (iZ p power i d)∧(iZ p power i d).length=d.length∧valL (iZ p power i d)=ib p power i (valL d)
 |0,d,hd,_,_=>⟨hd,rfl,rfl⟩
 |i+1,d,hd,hi,hz=>by
  obtain⟨a1,a2,a3,a4⟩:=bitM_spec (i:=i) hp h1 h2 16 hd (by omega) (by rw[hz i (by omega)];decide)
  unfold iZ ib
  obtain⟨b1,b2,b3⟩:=digM_spec hp h1 h2 i a1 (by omega) fun j hj=>by rw[a4 j (by omega)];exact hz j (by omega)
  exact⟨b1,b2.trans a2,by rw[b3,a3]⟩
theorem root_val{d:List Nat}(hd:Dig d)(hl:d.length=5):(d.getD 3 0*281474976710656+d.getD 2 0*4294967296+d.getD 1 0*65536+d.getD 0 0)=valL d % 2^64:=by
 match d,hl with
 |[a,b,c,e,f],_=>
  have h0:=hd a (by simp)
  have h1:=hd b (by simp)
  have h2:=hd c (by simp)
  have h3:=hd e (by simp)
  simp only[valL,List.getD_cons_zero,List.getD_cons_succ]
  omega
theorem root_spec{p power:Nat}(hp:power=2∨power=3)(h1:1≤p)(h2:p<65536):∀d,d=iZ p power 5 [0,0,0,0,0]→d.getD 3 0*281474976710656+d.getD 2 0*4294967296+d.getD 1 0*65536+d.getD 0 0=oW p power:=by
 rintro d rfl
 have hz:Dig [0,0,0,0,0]:=by intro x hx;simp at hx;omega
 obtain⟨a1,a2,a3⟩:=digM_spec hp h1 h2 5 hz (by decide) (by intro j hj;match j,hj with|0,_=>rfl|1,_=>rfl|2,_=>rfl|3,_=>rfl|4,_=>rfl)
 rw[root_val a1 a2,a3]
 rfl
def qE(p:Nat):List Nat→Nat
 |[]=>p
 |q::l=>if p % q=0 then q else qE p l
def nD:Nat→List Nat
 |0=>[]
 |k+1=>if qE (k+2) (nD k)=k+2 then nD k++[k+2] else nD k
def keys256:List Nat:=[0x428a2f98,0x71374491,0xb5c0fbcf,0xe9b5dba5,0x3956c25b,0x59f111f1,0x923f82a4,0xab1c5ed5,
 0xd807aa98,0x12835b01,0x243185be,0x550c7dc3,0x72be5d74,0x80deb1fe,0x9bdc06a7,0xc19bf174,
 0xe49b69c1,0xefbe4786,0x0fc19dc6,0x240ca1cc,0x2de92c6f,0x4a7484aa,0x5cb0a9dc,0x76f988da,
 0x983e5152,0xa831c66d,0xb00327c8,0xbf597fc7,0xc6e00bf3,0xd5a79147,0x06ca6351,0x14292967,
 0x27b70a85,0x2e1b2138,0x4d2c6dfc,0x53380d13,0x650a7354,0x766a0abb,0x81c2c92e,0x92722c85,
 0xa2bfe8a1,0xa81a664b,0xc24b8b70,0xc76c51a3,0xd192e819,0xd6990624,0xf40e3585,0x106aa070,
 0x19a4c116,0x1e376c08,0x2748774c,0x34b0bcb5,0x391c0cb3,0x4ed8aa4a,0x5b9cca4f,0x682e6ff3,
 0x748f82ee,0x78a5636f,0x84c87814,0x8cc70208,0x90befffa,0xa4506ceb,0xbef9a3f7,0xc67178f2]
def first256:List Nat:=[0x6a09e667,0xbb67ae85,0x3c6ef372,0xa54ff53a,0x510e527f,0x9b05688c,0x1f83d9ab,0x5be0cd19]
theorem prim_8:(nD 18).length=8:=by decide +kernel
theorem keys_eq:(nD 310).map (fun p=>oW p 3/4294967296)=keys256:=by decide +kernel
theorem first_eq:(nD 18).map (fun p=>oW p 2/4294967296)=first256:=by decide +kernel
theorem prim_le{k j:Nat}(h:k≤j):(nD k).length≤(nD j).length:=by
 induction j with
 | zero => obtain rfl : k = 0 := by omega
           exact Nat.le_refl _
 |succ j ih=>
  rcases Nat.lt_or_ge j k with hj|hj
  ·obtain rfl:k=j+1:=by omega
   exact Nat.le_refl _
  ·refine Nat.le_trans (ih hj) ?_
   rw[nD]
   split
   ·rw[List.length_append];omega
   ·exact Nat.le_refl _
theorem prim_lt_8:(nD 17).length=7:=by decide +kernel
theorem prim_mem:∀ {k p:Nat},p∈nD k→2≤p∧p≤k+1
 |0,p,h=>by simp[nD]at h
 |k+1,p,h=>by
  rw[nD]at h
  split at h
  ·rcases List.mem_append.1 h with h|h
   ·have:=prim_mem h;omega
   ·rw[List.mem_singleton.1 h];omega
  ·have:=prim_mem h;omega
end Go.Sha
end
