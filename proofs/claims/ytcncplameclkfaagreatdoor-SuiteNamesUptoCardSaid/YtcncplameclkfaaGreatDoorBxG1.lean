/-
  Several texts in one: each says what it proves.
  Conditions: none. Lemmas only.
-/
import Derived.Test.YtcncplameclkfaaGreatDoorAbsG1
import Derived.Test.YtcncplameclkfaaGreatDoorShaG1
set_option linter.all false
section
namespace Go.Box
def pG:List Nat→Nat
 |[]=>0
 |x::l=>x+256*pG l
abbrev Dg(l:List Nat):Prop:=∀x∈l,x<256
def digF:Nat→Nat→List Nat
 |0,_=>[]
 |f+1,n=>if n=0 then [] else (n % 256)::digF f (n/256)
def digs(n:Nat):List Nat:=digF n n
def qX(l:List Nat):List Nat:=digs (pG l)
theorem valD_append(a b:List Nat):pG (a++b)=pG a+256^a.length*pG b:=by
 induction a with
 |nil=>simp[pG]
 |cons x l ih=>
  simp only[List.cons_append,pG,ih,List.length_cons,Nat.pow_succ]
  rw[Nat.mul_add,←Nat.mul_assoc,Nat.mul_comm 256 (256^l.length),Nat.add_assoc]
theorem valD_lt:∀ {l:List Nat},Dg l→pG l<256^l.length
 |[],_=>by simp[pG]
 |x::l,h=>by
  have h1:=h x (List.mem_cons_self ..)
  have h2:=valD_lt (l:=l) fun y hy=>h y (List.mem_cons_of_mem _ hy)
  simp only[pG,List.length_cons,Nat.pow_succ]
  omega
theorem digF_up:∀(f n:Nat),n≤f→digF (f+1) n=digF f n
 |0,n,h=>by
  obtain rfl:n=0:=by omega
  rfl
 |f+1,n,h=>by
  by_cases h0:n=0
  ·subst h0;rfl
  ·show(if n=0 then [] else (n % 256)::digF (f+1) (n/256))=(if n=0 then [] else (n % 256)::digF f (n/256))
   rw[if_neg h0,if_neg h0,digF_up f (n/256) (by omega)]
theorem digF_enough:∀(f n:Nat),n≤f→digF f n=digs n
 |0,n,h=>by
  obtain rfl:n=0:=by omega
  rfl
 |f+1,n,h=>by
  by_cases he:n=f+1
  ·subst he;rfl
  ·rw[digF_up f n (by omega)]
   exact digF_enough f n (by omega)
theorem qQ:digs 0=[]:=rfl
theorem qH{n:Nat}(h:0<n):digs n=(n % 256)::digs (n/256):=by
 obtain⟨g,hg⟩:∃g,n=g+1:=⟨n-1,by omega⟩
 have h1:digs n=digF (g+1) n:=by unfold digs;rw[←hg]
 rw[h1,digF,if_neg (by omega),digF_enough g (n/256) (by omega)]
theorem digs_ok:∀n,Dg (digs n):=by
 intro n
 induction n using Nat.strongRecOn with
 |ind n ih=>
  by_cases h0:n=0
  ·subst h0;intro x hx;cases hx
  ·rw[qH (by omega)]
   intro x hx
   rcases List.mem_cons.1 hx with rfl|hx
   ·exact Nat.mod_lt _ (by decide)
   ·exact ih (n/256) (by omega) x hx
theorem val_digs:∀n,pG (digs n)=n:=by
 intro n
 induction n using Nat.strongRecOn with
 |ind n ih=>
  by_cases h0:n=0
  ·subst h0;rfl
  ·rw[qH (by omega),pG,ih (n/256) (by omega)]
   omega
theorem digs_len_le:∀ {k n:Nat},n<256^k→(digs n).length≤k
 |0,n,h=>by
  obtain rfl:n=0:=by simpa using h
  exact Nat.le_refl _
 |k+1,n,h=>by
  by_cases h0:n=0
  ·subst h0;exact Nat.zero_le _
  ·rw[qH (by omega),List.length_cons]
   have:=digs_len_le (k:=k) (n:=n/256) (by rw[Nat.pow_succ]at h;omega)
   omega
theorem nE(n:Nat):n<256^(digs n).length:=by
 have:=valD_lt (digs_ok n)
 rwa [val_digs]at this
theorem digs_of:∀ {l:List Nat},Dg l→(∀x,l.getLast? = some x→x≠0)→digs (pG l)=l
 |[],_,_=>rfl
 |x::l,h,ht=>by
  have hx:=h x (List.mem_cons_self ..)
  have hl:Dg l:=fun y hy=>h y (List.mem_cons_of_mem _ hy)
  have ih:=digs_of (l:=l) hl fun y hy=>ht y (by
   cases l with
   |nil=>cases hy
   |cons z l=>rw[List.getLast?_cons_cons];exact hy)
  have hpos:0<pG (x::l):=by
   unfold pG
   rcases Nat.eq_zero_or_pos x with h0|h0
   ·cases l with
    |nil=>
     exact absurd h0 (ht x rfl)
    |cons z l=>
     have:0<pG (z::l):=by
      rcases Nat.eq_zero_or_pos (pG (z::l)) with h1|h1
      ·rw[h1]at ih;cases ih
      ·exact h1
     omega
   ·omega
  rw[qH hpos]
  have e0:pG (x::l)=x+256*pG l:=rfl
  have e1:pG (x::l) % 256=x:=by rw[e0];omega
  have e2:pG (x::l)/256=pG l:=by rw[e0];omega
  rw[e1,e2,ih]
theorem trim_zero(l:List Nat):qX (l++[0])=qX l:=by
 unfold qX
 rw[valD_append]
 simp[pG]
theorem trim_stop{l:List Nat}(h:Dg l)(ht:∀x,l.getLast? = some x→x≠0):qX l=l:=digs_of h ht
end Go.Box
end
section
namespace Go.Box
open Go.Sha
def rlM(x n:Nat):Nat:=pJ 32 x (32-n)
theorem rl_lt{x n:Nat}(hx:x<4294967296):rlM x n<4294967296:=rot_lt (w:=32) hx (by omega)
structure Q4 where
 a:Nat
 b:Nat
 c:Nat
 d:Nat
def eU(x y:Nat):Nat:=(x+y) % 4294967296
theorem addM_lt(x y:Nat):eU x y<4294967296:=Nat.mod_lt _ (by decide)
def halfM(q:Q4)(m n:Nat):Q4:=
 ⟨eU q.a q.b,rlM (q.b ^^^ eU q.c (rlM (q.d ^^^ eU q.a q.b) m)) n,eU q.c (rlM (q.d ^^^ eU q.a q.b) m),rlM (q.d ^^^ eU q.a q.b) m⟩
def quartM(q:Q4):Q4:=halfM (halfM q 16 12) 8 7
structure OkQ(q:Q4):Prop where
 a:q.a<4294967296
 b:q.b<4294967296
 c:q.c<4294967296
 d:q.d<4294967296
theorem x32{a b:Nat}(ha:a<4294967296)(hb:b<4294967296):a ^^^ b<4294967296:=xor_lt (w:=32) ha hb
theorem half_ok{q:Q4}(h:OkQ q)(m n:Nat):OkQ (halfM q m n):=
 ⟨addM_lt _ _,rl_lt (x32 h.b (addM_lt _ _)),addM_lt _ _,rl_lt (x32 h.d (addM_lt _ _))⟩
theorem quart_ok{q:Q4}(h:OkQ q):OkQ (quartM q):=half_ok (half_ok h _ _) _ _
def placesL:List (Nat × Nat × Nat × Nat):=[(0,4,8,12),(1,5,9,13),(2,6,10,14),(3,7,11,15),(0,5,10,15),(1,6,11,12),(2,7,8,13),(3,4,9,14)]
def getQ(w:List Nat)(p:Nat × Nat × Nat × Nat):Q4:=⟨w.getD p.1 0,w.getD p.2.1 0,w.getD p.2.2.1 0,w.getD p.2.2.2 0⟩
def putQ(w:List Nat)(p:Nat × Nat × Nat × Nat)(q:Q4):List Nat:=(((w.set p.1 q.a).set p.2.1 q.b).set p.2.2.1 q.c).set p.2.2.2 q.d
def oneM(w:List Nat)(p:Nat × Nat × Nat × Nat):List Nat:=putQ w p (quartM (getQ w p))
def someM(w:List Nat):Nat→List Nat
 |0=>w
 |j+1=>oneM (someM w j) (placesL.getD j (0,0,0,0))
def ln(w:List Nat):Nat→List Nat
 |0=>w
 |n+1=>someM (ln w n) 8
structure OkW(w:List Nat):Prop where
 len:w.length=16
 lt:∀x∈w,x<4294967296
theorem OkW.get{w:List Nat}(h:OkW w)(i:Nat):w.getD i 0<4294967296:=by
 by_cases hi:i<w.length
 ·simp only[List.getD,List.getElem?_eq_getElem hi,Option.getD_some]
  exact h.lt _ (List.getElem_mem hi)
 ·simp only[List.getD,List.getElem?_eq_none (Nat.le_of_not_lt hi),Option.getD_none]
  decide
theorem OkW.getQ{w:List Nat}(h:OkW w)(p:Nat × Nat × Nat × Nat):OkQ (getQ w p):=⟨h.get _,h.get _,h.get _,h.get _⟩
theorem OkW.set{w:List Nat}(h:OkW w)(i:Nat){x:Nat}(hx:x<4294967296):OkW (w.set i x):=
 ⟨by rw[List.length_set];exact h.len,fun y hy=>by
  rcases List.mem_or_eq_of_mem_set hy with h1|h1
  ·exact h.lt y h1
  ·rw[h1];exact hx⟩
theorem OkW.one{w:List Nat}(h:OkW w)(p:Nat × Nat × Nat × Nat):OkW (oneM w p):=by
 have q:=quart_ok (h.getQ p)
 exact(((h.set _ q.a).set _ q.b).set _ q.c).set _ q.d
theorem OkW.some{w:List Nat}(h:OkW w):∀j,OkW (someM w j)
 |0=>h
 |j+1=>(OkW.some h j).one _
end Go.Box
end
section
namespace Go.Box
def P:Nat:=1361129467683753853853498429727072845819
def lY(b:List UInt8):Nat:=pG (b.map UInt8.toNat)
theorem pq(b:List UInt8):lY b<256^b.length:=by
 have:=valD_lt (l:=b.map UInt8.toNat) fun x hx=>by
  obtain⟨y,-,rfl⟩:=List.mem_map.1 hx
  exact y.toNat_lt
 simpa [lY] using this
theorem numL_append(a b:List UInt8):lY (a++b)=lY a+256^a.length*lY b:=by
 unfold lY
 rw[List.map_append,valD_append,List.length_map]
def lQ:Nat→Nat→List UInt8
 |0,_=>[]
 |k+1,n=>UInt8.ofNat n::lQ k (n/256)
theorem mL:∀(k n:Nat),(lQ k n).length=k
 |0,_=>rfl
 |k+1,n=>by rw[lQ,List.length_cons,mL]
def valW:List Nat→Nat
 |[]=>0
 |x::l=>x+18446744073709551616*valW l
abbrev W64(l:List Nat):Prop:=∀x∈l,x<18446744073709551616
theorem and_top(a b n:Nat):(a &&& b)/2^n=(a/2^n) &&& (b/2^n):=by
 rw[←Nat.shiftRight_eq_div_pow,←Nat.shiftRight_eq_div_pow,←Nat.shiftRight_eq_div_pow,Nat.shiftRight_and_distrib]
theorem or_top(a b n:Nat):(a ||| b)/2^n=(a/2^n) ||| (b/2^n):=by
 rw[←Nat.shiftRight_eq_div_pow,←Nat.shiftRight_eq_div_pow,←Nat.shiftRight_eq_div_pow,Nat.shiftRight_or_distrib]
theorem xor_top(a b n:Nat):(a ^^^ b)/2^n=(a/2^n) ^^^ (b/2^n):=by
 rw[←Nat.shiftRight_eq_div_pow,←Nat.shiftRight_eq_div_pow,←Nat.shiftRight_eq_div_pow,Nat.shiftRight_xor_distrib]
def carM(a b s:Nat):Nat:=((a &&& b) ||| ((a ||| b) &&& (18446744073709551615-s)))/2^63
theorem carM_eq{a b c:Nat}(ha:a<18446744073709551616)(hb:b<18446744073709551616)(hc:c≤1):
    carM a b ((a+b+c) % 18446744073709551616)=(a+b+c)/18446744073709551616:=by
 unfold carM
 rw[or_top,and_top,and_top,or_top]
 rw[show(2:Nat)^63=9223372036854775808 from rfl]
 have e1:a/9223372036854775808=0∨a/9223372036854775808=1:=by omega
 have e2:b/9223372036854775808=0∨b/9223372036854775808=1:=by omega
 have e3:(18446744073709551615-(a+b+c) % 18446744073709551616)/9223372036854775808=0∨(18446744073709551615-(a+b+c) % 18446744073709551616)/9223372036854775808=1:=by omega
 rcases e1 with e1|e1<;>rcases e2 with e2|e2<;>rcases e3 with e3|e3<;>rw[e1,e2,e3]<;>simp<;>omega
def borM(a b d:Nat):Nat:=(((18446744073709551615-a) &&& b) ||| ((18446744073709551615-(a ^^^ b)) &&& d))/2^63
theorem not_top{x:Nat}(h:x<18446744073709551616):(18446744073709551615-x)/9223372036854775808=1-x/9223372036854775808:=by omega
theorem borM_eq{a b c:Nat}(ha:a<18446744073709551616)(hb:b<18446744073709551616)(hc:c≤1):
    borM a b ((a+36893488147419103232-b-c) % 18446744073709551616)=if a<b+c then 1 else 0:=by
 have hx:a ^^^ b<18446744073709551616:=Nat.xor_lt_two_pow (n:=64) ha hb
 have ht:=not_top hx
 have hu:=not_top ha
 have hxt:=xor_top a b 63
 unfold borM
 rw[or_top,and_top,and_top]
 rw[show(2:Nat)^63=9223372036854775808 from rfl]at *
 rw[ht,hu,hxt]
 have e1:a/9223372036854775808=0∨a/9223372036854775808=1:=by omega
 have e2:b/9223372036854775808=0∨b/9223372036854775808=1:=by omega
 have e3:((a+36893488147419103232-b-c) % 18446744073709551616)/9223372036854775808=0∨((a+36893488147419103232-b-c) % 18446744073709551616)/9223372036854775808=1:=by omega
 rcases e1 with e1|e1<;>rcases e2 with e2|e2<;>rcases e3 with e3|e3<;>rw[e1,e2,e3]<;>simp<;>omega
end Go.Box
end
section
namespace Go.Box.D32
def valL:List Nat→Nat
 |[]=>0
 |x::l=>x+4294967296*valL l
def mulK(ai:Nat)(b:List Nat)(i:Nat):Nat→List Nat × Nat→List Nat × Nat
 |0,s=>s
 |k+1,s=>((mulK ai b i k s).1.set (i+k) (((mulK ai b i k s).1.getD (i+k) 0+ai*b.getD k 0+(mulK ai b i k s).2) % 4294967296),((mulK ai b i k s).1.getD (i+k) 0+ai*b.getD k 0+(mulK ai b i k s).2)/4294967296)
def mulI(a b:List Nat):Nat→List Nat
 |0=>List.replicate (a.length+b.length) 0
 |i+1=>(mulK (a.getD i 0) b i b.length (mulI a b i,0)).1.set (i+b.length) (mulK (a.getD i 0) b i b.length (mulI a b i,0)).2
def mulM(a b:List Nat):List Nat:=mulI a b a.length
abbrev Dig(l:List Nat):Prop:=∀x∈l,x<4294967296
theorem dig_getD{l:List Nat}(h:Dig l)(i:Nat):l.getD i 0<4294967296:=by
 by_cases hi:i<l.length
 ·simp only[List.getD,List.getElem?_eq_getElem hi,Option.getD_some]
  exact h _ (List.getElem_mem hi)
 ·simp[List.getD,List.getElem?_eq_none (by omega:l.length≤i)]
theorem qI{l:List Nat}(h:Dig l)(i:Nat){y:Nat}(hy:y<4294967296):Dig (l.set i y):=fun x hx=>by
 rcases List.mem_or_eq_of_mem_set hx with hx|rfl
 ·exact h x hx
 ·exact hy
theorem pO:∀ {l:List Nat} {i:Nat} (y:Nat),i<l.length→valL (l.set i y)+l.getD i 0*4294967296^i=valL l+y*4294967296^i
 |[],i,y,h=>by simp at h
 |x::l,0,y,h=>by simp[valL];omega
 |x::l,i+1,y,h=>by
  have ih:=pO (l:=l) (i:=i) y (by simpa using h)
  simp only[List.set_cons_succ,valL,List.getD_cons_succ]
  have e1:l.getD i 0*4294967296^(i+1)=4294967296*(l.getD i 0*4294967296^i):=by rw[Nat.pow_succ,Nat.mul_comm 4294967296,Nat.mul_assoc]
  have e2:y*4294967296^(i+1)=4294967296*(y*4294967296^i):=by rw[Nat.pow_succ,Nat.mul_comm 4294967296,Nat.mul_assoc]
  rw[e1,e2]
  omega
theorem oK:∀ {l:List Nat} {i:Nat},i<l.length→valL (l.take (i+1))=valL (l.take i)+l.getD i 0*4294967296^i
 |[],i,h=>by simp at h
 |x::l,0,h=>by simp[valL]
 |x::l,i+1,h=>by
  have ih:=oK (l:=l) (i:=i) (by simpa using h)
  simp only[List.take_succ_cons,valL,List.getD_cons_succ]
  have e1:l.getD i 0*4294967296^(i+1)=4294967296*(l.getD i 0*4294967296^i):=by rw[Nat.pow_succ,Nat.mul_comm 4294967296,Nat.mul_assoc]
  rw[ih,e1,Nat.mul_add,Nat.add_assoc]
theorem val_rep(n:Nat):valL (List.replicate n 0)=0:=by
 induction n with
 |zero=>rfl
 |succ n ih=>rw[List.replicate_succ,valL,ih]
theorem getD_set_ne{l:List Nat}{i j y:Nat}(h:i≠j):(l.set i y).getD j 0=l.getD j 0:=by
 simp only[List.getD,List.getElem?_set_ne h]
theorem mulK_spec{ai:Nat}{b:List Nat}{i:Nat}(ha:ai<4294967296)(hb:Dig b):∀(k:Nat) {o:List Nat}, Dig o→k≤b.length→i+b.length≤o.length→
    Dig (mulK ai b i k (o,0)).1∧(mulK ai b i k (o,0)).2<4294967296∧(mulK ai b i k (o,0)).1.length=o.length∧(∀j,i+k≤j→(mulK ai b i k (o,0)).1.getD j 0=o.getD j 0)∧
     valL (mulK ai b i k (o,0)).1+(mulK ai b i k (o,0)).2*4294967296^(i+k)=valL o+ai*valL (b.take k)*4294967296^i
 |0,o,ho,_,_=>⟨ho,by show(0:Nat)<_;omega,rfl,fun _ _=>rfl,by show valL o+0*_=_;simp[valL]⟩
 |k+1,o,ho,hk,hl=>by
  obtain⟨h1,h2,h3,h4,h5⟩:=mulK_spec ha hb k ho (by omega) hl
  have hg:=dig_getD h1 (i+k)
  have hbk:=dig_getD hb k
  have hp:ai*b.getD k 0≤4294967295*4294967295:=Nat.mul_le_mul (by omega) (by omega)
  have hi:i+k<(mulK ai b i k (o,0)).1.length:=by omega
  have hs:=oK (l:=b) (i:=k) (by omega)
  unfold mulK
  generalize mulK ai b i k (o,0)=S at *
  obtain⟨q,c⟩:=S
  simp only[]at *
  have hv:=pO (l:=q) (i:=i+k) ((q.getD (i+k) 0+ai*b.getD k 0+c) % 4294967296) hi
  have hdm:=Nat.div_add_mod (q.getD (i+k) 0+ai*b.getD k 0+c) 4294967296
  generalize hT:q.getD (i+k) 0+ai*b.getD k 0+c=t at *
  refine⟨qI h1 _ (Nat.mod_lt _ (by decide)),by omega,by rw[List.length_set];exact h3,fun j hj=>by rw[getD_set_ne (by omega)];exact h4 j (by omega),?_⟩
  have e1:t/4294967296*4294967296^(i+(k+1))=4294967296*(t/4294967296)*4294967296^(i+k):=by
   rw[←Nat.add_assoc,Nat.pow_succ,Nat.mul_comm (4294967296^(i+k)),←Nat.mul_assoc,Nat.mul_comm (t/4294967296)]
  have e2:ai*(b.getD k 0*4294967296^k)*4294967296^i=ai*b.getD k 0*4294967296^(i+k):=by
   rw[Nat.pow_add,Nat.mul_comm (4294967296^i),←Nat.mul_assoc,←Nat.mul_assoc]
  rw[e1,hs,Nat.mul_add,Nat.add_mul,e2]
  have hM:t % 4294967296*4294967296^(i+k)+4294967296*(t/4294967296)*4294967296^(i+k)=q.getD (i+k) 0*4294967296^(i+k)+ai*b.getD k 0*4294967296^(i+k)+c*4294967296^(i+k):=by
   rw[←Nat.add_mul,←Nat.add_mul,←Nat.add_mul,hT]
   congr 1
   omega
  omega
theorem mulI_spec{a b:List Nat}(ha:Dig a)(hb:Dig b):∀i,i≤a.length→Dig (mulI a b i)∧(mulI a b i).length=a.length+b.length∧(∀j,i+b.length≤j→(mulI a b i).getD j 0=0)∧valL (mulI a b i)=valL (a.take i)*valL b
 |0,_=>by
  refine⟨fun x hx=>?_,List.length_replicate,fun j _=>?_,?_⟩
  ·have:x=0:=List.eq_of_mem_replicate hx
   omega
  ·show(List.replicate _ 0).getD j 0=0
   simp only[List.getD,List.getElem?_replicate]
   split<;>rfl
  ·show valL (List.replicate _ 0)=_
   rw[val_rep];simp[valL]
 |i+1,hi=>by
  obtain⟨h1,h2,h3,h4⟩:=mulI_spec ha hb i (by omega)
  obtain⟨k1,k2,k3,k4,k5⟩:=mulK_spec (i:=i) (dig_getD ha i) hb b.length h1 (Nat.le_refl _) (by omega)
  have hs:=oK (l:=a) (i:=i) (by omega)
  unfold mulI
  generalize mulK (a.getD i 0) b i b.length (mulI a b i,0)=S at *
  obtain⟨q,c⟩:=S
  simp only[]at *
  have hz:=k4 (i+b.length) (Nat.le_refl _)
  rw[h3 _ (Nat.le_refl _)]at hz
  have hv:=pO (l:=q) (i:=i+b.length) c (by omega)
  rw[hz]at hv
  refine⟨qI k1 _ k2,by rw[List.length_set];omega,fun j hj=>by rw[getD_set_ne (by omega),k4 j (by omega)];exact h3 j (by omega),?_⟩
  rw[List.take_length]at k5
  rw[hs,Nat.add_mul]
  have e:a.getD i 0*4294967296^i*valL b=a.getD i 0*valL b*4294967296^i:=by rw[Nat.mul_assoc,Nat.mul_comm (4294967296^i),←Nat.mul_assoc]
  rw[e]
  omega
theorem mulM_spec{a b:List Nat}(ha:Dig a)(hb:Dig b):Dig (mulM a b)∧(mulM a b).length=a.length+b.length∧valL (mulM a b)=valL a*valL b:=by
 obtain⟨h1,h2,h3,h4⟩:=mulI_spec ha hb a.length (Nat.le_refl _)
 rw[List.take_length]at h4
 exact⟨h1,h2,h4⟩
end Go.Box.D32
end
section
namespace Go.Box
theorem oP(n:Nat):∀i,(digs n).getD i 0=n/256^i % 256:=by
 induction n using Nat.strongRecOn with
 |ind n ih=>
  intro i
  by_cases h0:n=0
  ·subst h0
   rw[qQ]
   simp[List.getD]
  ·rw[qH (by omega)]
   cases i with
   |zero=>simp[List.getD]
   |succ i=>
    rw[List.getD_cons_succ,ih (n/256) (by omega),Nat.div_div_eq_div_mul,Nat.pow_succ,Nat.mul_comm 256]
def oZ(k n:Nat):List Nat:=(List.range k).map fun j=>n/256^j % 256
theorem nW(k n:Nat):(oZ k n).length=k:=by simp[oZ]
theorem ql(k n:Nat):oZ (k+1) n=oZ k n++[n/256^k % 256]:=by simp[oZ,List.range_succ]
theorem fstD_ok(k n:Nat):Dg (oZ k n):=fun x hx=>by
 obtain⟨j,-,rfl⟩:=List.mem_map.1 hx
 exact Nat.mod_lt _ (by decide)
theorem fstD_val(n:Nat):∀k,pG (oZ k n)=n % 256^k
 |0=>by simp[oZ,pG,Nat.mod_one]
 |k+1=>by
  rw[ql,valD_append,fstD_val n k,nW]
  simp only[pG,Nat.mul_zero,Nat.add_zero]
  rw[Nat.pow_succ,Nat.mod_mul]
theorem trim_fst{k n:Nat}(h:n<256^k):qX (oZ k n)=digs n:=by
 unfold qX
 rw[fstD_val,Nat.mod_eq_of_lt h]
theorem sum_digit{B:Nat}(a b p:Nat)(hp:0<p)(hB:0<B):
    (a/p % B+b/p % B+(a % p+b % p)/p) % B=(a+b)/p % B∧(a/p % B+b/p % B+(a % p+b % p)/p)/B=(a % (p*B)+b % (p*B))/(p*B):=by
 have ea:=Nat.div_add_mod a p
 have eb:=Nat.div_add_mod b p
 have e1:(a+b)/p=a/p+b/p+(a % p+b % p)/p:=by
  conv=>lhs;rw[←ea,←eb]
  rw[show p*(a/p)+a % p+(p*(b/p)+b % p)=(a % p+b % p)+p*(a/p+b/p) by rw[Nat.mul_add];omega,Nat.add_mul_div_left _ _ hp]
  omega
 constructor
 ·rw[e1]
  have dA:=Nat.div_add_mod (a/p) B
  have dB:=Nat.div_add_mod (b/p) B
  have h1:a/p+b/p+(a % p+b % p)/p=(a/p % B+b/p % B+(a % p+b % p)/p)+B*(a/p/B+b/p/B):=by rw[Nat.mul_add];omega
  rw[h1,Nat.add_mul_mod_self_left]
 ·have f1:a % (p*B)=a % p+p*(a/p % B):=Nat.mod_mul
  have f2:b % (p*B)=b % p+p*(b/p % B):=Nat.mod_mul
  rw[f1,f2,show a % p+p*(a/p % B)+(b % p+p*(b/p % B))=(a % p+b % p)+p*(a/p % B+b/p % B) by rw[Nat.mul_add];omega,←Nat.div_div_eq_div_mul,Nat.add_mul_div_left _ _ hp]
  congr 1
  omega
theorem car_le(a b p:Nat)(hp:0<p):(a % p+b % p)/p≤1:=by
 have h1:=Nat.mod_lt a hp
 have h2:=Nat.mod_lt b hp
 have:(a % p+b % p)/p<2:=Nat.div_lt_of_lt_mul (by omega)
 omega
def bor(a b p:Nat):Nat:=if a % p<b % p then 1 else 0
theorem bor_le(a b p:Nat):bor a b p≤1:=by unfold bor;split<;>omega
theorem sub_digit{B:Nat}(a b p:Nat)(hp:0<p)(hB:0<B)(hab:b≤a):
    (B+a/p % B-b/p % B-bor a b p) % B=(a-b)/p % B∧1-(B+a/p % B-b/p % B-bor a b p)/B=bor a b (p*B):=by
 have ea:=Nat.div_add_mod a p
 have eb:=Nat.div_add_mod b p
 have la:=Nat.mod_lt a hp
 have lb:=Nat.mod_lt b hp
 have mA:=Nat.mod_lt (a/p) hB
 have mB:=Nat.mod_lt (b/p) hB
 have dA:=Nat.div_add_mod (a/p) B
 have dB:=Nat.div_add_mod (b/p) B
 have hle:=bor_le a b p
 have hqle:b/p+bor a b p≤a/p:=by
  have h1:b/p≤a/p:=Nat.div_le_div_right hab
  unfold bor
  split
  ·rename_i h
   rcases Nat.lt_or_ge (b/p) (a/p) with h2|h2
   ·omega
   ·have:b/p=a/p:=by omega
    rw[this]at eb
    omega
  ·omega
 have e1:(a-b)/p=a/p-b/p-bor a b p:=by
  have:a-b=p*(a/p-b/p-bor a b p)+(p*bor a b p+a % p-b % p):=by
   rw[Nat.mul_sub,Nat.mul_sub]
   have m1:p*(b/p)+p*bor a b p≤p*(a/p):=by rw[←Nat.mul_add];exact Nat.mul_le_mul_left _ hqle
   have m2:b % p≤p*bor a b p+a % p:=by
    unfold bor
    split
    ·rw[Nat.mul_one];omega
    ·omega
   omega
  rw[this,Nat.mul_add_div hp]
  have:(p*bor a b p+a % p-b % p)/p=0:=by
   apply Nat.div_eq_of_lt
   unfold bor
   split
   ·rw[Nat.mul_one];omega
   ·omega
  omega
 have e2:bor a b (p*B)=if a/p % B<b/p % B+bor a b p then 1 else 0:=by
  unfold bor
  have f1:a % (p*B)=a % p+p*(a/p % B):=Nat.mod_mul
  have f2:b % (p*B)=b % p+p*(b/p % B):=Nat.mod_mul
  rw[f1,f2]
  by_cases c:a/p % B<b/p % B
  ·have:p*(a/p % B)+p≤p*(b/p % B):=by
    have h:=Nat.mul_le_mul_left p (show a/p % B+1≤b/p % B by omega)
    rw[Nat.mul_add,Nat.mul_one]at h
    exact h
   rw[if_pos (by omega),if_pos (by omega)]
  ·by_cases c2:a/p % B=b/p % B
   ·rw[c2]
    by_cases c3:a % p<b % p
    ·rw[if_pos c3,if_pos (by omega),if_pos (by omega)]
    ·rw[if_neg c3,if_neg (by omega),if_neg (by omega)]
   ·have:p*(b/p % B)+p≤p*(a/p % B):=by
     have h:=Nat.mul_le_mul_left p (show b/p % B+1≤a/p % B by omega)
     rw[Nat.mul_add,Nat.mul_one]at h
     exact h
    rw[if_neg (by omega)]
    split
    ·rw[if_neg (by omega)]
    ·rw[if_neg (by omega)]
 constructor
 ·rw[e1]
  generalize hx:a/p=x at *
  generalize hy:b/p=y at *
  generalize bor a b p=c at *
  have hm:(B+x % B-y % B-c) % B=(x-y-c) % B:=by
   have:x-y-c+B*(y/B)+B=(B+x % B-y % B-c)+B*(x/B):=by omega
   have h1:(x-y-c+B*(y/B)+B) % B=(x-y-c) % B:=by rw[Nat.add_mod_right,Nat.add_mul_mod_self_left]
   have h2:((B+x % B-y % B-c)+B*(x/B)) % B=(B+x % B-y % B-c) % B:=Nat.add_mul_mod_self_left _ _ _
   rw[←h2,←this,h1]
  exact hm
 ·rw[e2]
  split
  ·rename_i h
   rw[Nat.div_eq_of_lt (by omega)]
  ·rename_i h
   have:(B+a/p % B-b/p % B-bor a b p)/B=1:=by
    apply Nat.div_eq_of_lt_le<;>omega
   omega
end Go.Box
end
section
namespace Go.Box.D8
def valL:List Nat→Nat
 |[]=>0
 |x::l=>x+256*valL l
def mulK(ai:Nat)(b:List Nat)(i:Nat):Nat→List Nat × Nat→List Nat × Nat
 |0,s=>s
 |k+1,s=>((mulK ai b i k s).1.set (i+k) (((mulK ai b i k s).1.getD (i+k) 0+ai*b.getD k 0+(mulK ai b i k s).2) % 256),((mulK ai b i k s).1.getD (i+k) 0+ai*b.getD k 0+(mulK ai b i k s).2)/256)
def mulI(a b:List Nat):Nat→List Nat
 |0=>List.replicate (a.length+b.length) 0
 |i+1=>(mulK (a.getD i 0) b i b.length (mulI a b i,0)).1.set (i+b.length) (mulK (a.getD i 0) b i b.length (mulI a b i,0)).2
def mulM(a b:List Nat):List Nat:=mulI a b a.length
abbrev Dig(l:List Nat):Prop:=∀x∈l,x<256
theorem dig_getD{l:List Nat}(h:Dig l)(i:Nat):l.getD i 0<256:=by
 by_cases hi:i<l.length
 ·simp only[List.getD,List.getElem?_eq_getElem hi,Option.getD_some]
  exact h _ (List.getElem_mem hi)
 ·simp[List.getD,List.getElem?_eq_none (by omega:l.length≤i)]
theorem qI{l:List Nat}(h:Dig l)(i:Nat){y:Nat}(hy:y<256):Dig (l.set i y):=fun x hx=>by
 rcases List.mem_or_eq_of_mem_set hx with hx|rfl
 ·exact h x hx
 ·exact hy
theorem pO:∀ {l:List Nat} {i:Nat} (y:Nat),i<l.length→valL (l.set i y)+l.getD i 0*256^i=valL l+y*256^i
 |[],i,y,h=>by simp at h
 |x::l,0,y,h=>by simp[valL];omega
 |x::l,i+1,y,h=>by
  have ih:=pO (l:=l) (i:=i) y (by simpa using h)
  simp only[List.set_cons_succ,valL,List.getD_cons_succ]
  have e1:l.getD i 0*256^(i+1)=256*(l.getD i 0*256^i):=by rw[Nat.pow_succ,Nat.mul_comm 256,Nat.mul_assoc]
  have e2:y*256^(i+1)=256*(y*256^i):=by rw[Nat.pow_succ,Nat.mul_comm 256,Nat.mul_assoc]
  rw[e1,e2]
  omega
theorem oK:∀ {l:List Nat} {i:Nat},i<l.length→valL (l.take (i+1))=valL (l.take i)+l.getD i 0*256^i
 |[],i,h=>by simp at h
 |x::l,0,h=>by simp[valL]
 |x::l,i+1,h=>by
  have ih:=oK (l:=l) (i:=i) (by simpa using h)
  simp only[List.take_succ_cons,valL,List.getD_cons_succ]
  have e1:l.getD i 0*256^(i+1)=256*(l.getD i 0*256^i):=by rw[Nat.pow_succ,Nat.mul_comm 256,Nat.mul_assoc]
  rw[ih,e1,Nat.mul_add,Nat.add_assoc]
theorem val_rep(n:Nat):valL (List.replicate n 0)=0:=by
 induction n with
 |zero=>rfl
 |succ n ih=>rw[List.replicate_succ,valL,ih]
theorem getD_set_ne{l:List Nat}{i j y:Nat}(h:i≠j):(l.set i y).getD j 0=l.getD j 0:=by
 simp only[List.getD,List.getElem?_set_ne h]
theorem mulK_spec{ai:Nat}{b:List Nat}{i:Nat}(ha:ai<256)(hb:Dig b):∀(k:Nat) {o:List Nat}, Dig o→k≤b.length→i+b.length≤o.length→
    Dig (mulK ai b i k (o,0)).1∧(mulK ai b i k (o,0)).2<256∧(mulK ai b i k (o,0)).1.length=o.length∧(∀j,i+k≤j→(mulK ai b i k (o,0)).1.getD j 0=o.getD j 0)∧
     valL (mulK ai b i k (o,0)).1+(mulK ai b i k (o,0)).2*256^(i+k)=valL o+ai*valL (b.take k)*256^i
 |0,o,ho,_,_=>⟨ho,by show(0:Nat)<_;omega,rfl,fun _ _=>rfl,by show valL o+0*_=_;simp[valL]⟩
 |k+1,o,ho,hk,hl=>by
  obtain⟨h1,h2,h3,h4,h5⟩:=mulK_spec ha hb k ho (by omega) hl
  have hg:=dig_getD h1 (i+k)
  have hbk:=dig_getD hb k
  have hp:ai*b.getD k 0≤255*255:=Nat.mul_le_mul (by omega) (by omega)
  have hi:i+k<(mulK ai b i k (o,0)).1.length:=by omega
  have hs:=oK (l:=b) (i:=k) (by omega)
  unfold mulK
  generalize mulK ai b i k (o,0)=S at *
  obtain⟨q,c⟩:=S
  simp only[]at *
  have hv:=pO (l:=q) (i:=i+k) ((q.getD (i+k) 0+ai*b.getD k 0+c) % 256) hi
  have hdm:=Nat.div_add_mod (q.getD (i+k) 0+ai*b.getD k 0+c) 256
  generalize hT:q.getD (i+k) 0+ai*b.getD k 0+c=t at *
  refine⟨qI h1 _ (Nat.mod_lt _ (by decide)),by omega,by rw[List.length_set];exact h3,fun j hj=>by rw[getD_set_ne (by omega)];exact h4 j (by omega),?_⟩
  have e1:t/256*256^(i+(k+1))=256*(t/256)*256^(i+k):=by
   rw[←Nat.add_assoc,Nat.pow_succ,Nat.mul_comm (256^(i+k)),←Nat.mul_assoc,Nat.mul_comm (t/256)]
  have e2:ai*(b.getD k 0*256^k)*256^i=ai*b.getD k 0*256^(i+k):=by
   rw[Nat.pow_add,Nat.mul_comm (256^i),←Nat.mul_assoc,←Nat.mul_assoc]
  rw[e1,hs,Nat.mul_add,Nat.add_mul,e2]
  have hM:t % 256*256^(i+k)+256*(t/256)*256^(i+k)=q.getD (i+k) 0*256^(i+k)+ai*b.getD k 0*256^(i+k)+c*256^(i+k):=by
   rw[←Nat.add_mul,←Nat.add_mul,←Nat.add_mul,hT]
   congr 1
   omega
  omega
theorem mulI_spec{a b:List Nat}(ha:Dig a)(hb:Dig b):∀i,i≤a.length→Dig (mulI a b i)∧(mulI a b i).length=a.length+b.length∧(∀j,i+b.length≤j→(mulI a b i).getD j 0=0)∧valL (mulI a b i)=valL (a.take i)*valL b
 |0,_=>by
  refine⟨fun x hx=>?_,List.length_replicate,fun j _=>?_,?_⟩
  ·have:x=0:=List.eq_of_mem_replicate hx
   omega
  ·show(List.replicate _ 0).getD j 0=0
   simp only[List.getD,List.getElem?_replicate]
   split<;>rfl
  ·show valL (List.replicate _ 0)=_
   rw[val_rep];simp[valL]
 |i+1,hi=>by
  obtain⟨h1,h2,h3,h4⟩:=mulI_spec ha hb i (by omega)
  obtain⟨k1,k2,k3,k4,k5⟩:=mulK_spec (i:=i) (dig_getD ha i) hb b.length h1 (Nat.le_refl _) (by omega)
  have hs:=oK (l:=a) (i:=i) (by omega)
  unfold mulI
  generalize mulK (a.getD i 0) b i b.length (mulI a b i,0)=S at *
  obtain⟨q,c⟩:=S
  simp only[]at *
  have hz:=k4 (i+b.length) (Nat.le_refl _)
  rw[h3 _ (Nat.le_refl _)]at hz
  have hv:=pO (l:=q) (i:=i+b.length) c (by omega)
  rw[hz]at hv
  refine⟨qI k1 _ k2,by rw[List.length_set];omega,fun j hj=>by rw[getD_set_ne (by omega),k4 j (by omega)];exact h3 j (by omega),?_⟩
  rw[List.take_length]at k5
  rw[hs,Nat.add_mul]
  have e:a.getD i 0*256^i*valL b=a.getD i 0*valL b*256^i:=by rw[Nat.mul_assoc,Nat.mul_comm (256^i),←Nat.mul_assoc]
  rw[e]
  omega
theorem mulM_spec{a b:List Nat}(ha:Dig a)(hb:Dig b):Dig (mulM a b)∧(mulM a b).length=a.length+b.length∧valL (mulM a b)=valL a*valL b:=by
 obtain⟨h1,h2,h3,h4⟩:=mulI_spec ha hb a.length (Nat.le_refl _)
 rw[List.take_length]at h4
 exact⟨h1,h2,h4⟩
end Go.Box.D8
end
section
namespace Go.Box
def kZ:Nat→Nat→List Nat
 |0,_=>[]
 |k+1,n=>(n % 18446744073709551616)::kZ k (n/18446744073709551616)
theorem lL:∀(k n:Nat),(kZ k n).length=k
 |0,_=>rfl
 |k+1,n=>by rw[kZ,List.length_cons,lL]
theorem wordsW_lt:∀(k n:Nat),W64 (kZ k n)
 |0,_=>fun x h=>by cases h
 |k+1,n=>fun x h=>by
  rcases List.mem_cons.1 h with rfl|h
  ·exact Nat.mod_lt _ (by decide)
  ·exact wordsW_lt k _ x h
theorem rj:∀(k n:Nat),valW (kZ k n)=n % 18446744073709551616^k
 |0,n=>by simp[kZ,valW,Nat.mod_one]
 |k+1,n=>by
  rw[kZ,valW,rj k,Nat.pow_succ,Nat.mul_comm (18446744073709551616^k),Nat.mod_mul]
theorem mT:∀(k n i:Nat),i<k→(kZ k n).getD i 0=n/18446744073709551616^i % 18446744073709551616
 |k+1,n,0,_=>by simp[kZ,List.getD]
 |k+1,n,i+1,h=>by
  rw[kZ,List.getD_cons_succ,mT k _ i (by omega),Nat.div_div_eq_div_mul,Nat.pow_succ,Nat.mul_comm 18446744073709551616]
theorem wordsW_of:∀ {l:List Nat},W64 l→kZ l.length (valW l)=l
 |[],_=>rfl
 |x::l,h=>by
  have h1:=h x (List.mem_cons_self ..)
  have ih:=wordsW_of (l:=l) fun y hy=>h y (List.mem_cons_of_mem _ hy)
  rw[List.length_cons,kZ,valW]
  rw[show(x+18446744073709551616*valW l) % 18446744073709551616=x by omega,show(x+18446744073709551616*valW l)/18446744073709551616=valW l by omega,ih]
theorem words_eq{a b:List Nat}(ha:W64 a)(hb:W64 b)(hl:a.length=b.length)(hv:valW a=valW b):a=b:=by
 rw[←wordsW_of ha,←wordsW_of hb,hl,hv]
theorem valW_set:∀ {l:List Nat} {i:Nat} (y:Nat),i<l.length→valW (l.set i y)+l.getD i 0*18446744073709551616^i=valW l+y*18446744073709551616^i
 |[],i,y,h=>by simp at h
 |x::l,0,y,h=>by simp[valW];omega
 |x::l,i+1,y,h=>by
  have ih:=valW_set (l:=l) (i:=i) y (by simpa using h)
  simp only[List.set_cons_succ,valW,List.getD_cons_succ]
  have e1:l.getD i 0*18446744073709551616^(i+1)=18446744073709551616*(l.getD i 0*18446744073709551616^i):=by rw[Nat.pow_succ,Nat.mul_comm 18446744073709551616,Nat.mul_assoc]
  have e2:y*18446744073709551616^(i+1)=18446744073709551616*(y*18446744073709551616^i):=by rw[Nat.pow_succ,Nat.mul_comm 18446744073709551616,Nat.mul_assoc]
  rw[e1,e2]
  omega
theorem w64_set{l:List Nat}(h:W64 l)(i:Nat){y:Nat}(hy:y<18446744073709551616):W64 (l.set i y):=fun x hx=>by
 rcases List.mem_or_eq_of_mem_set hx with hx|rfl
 ·exact h x hx
 ·exact hy
theorem pow_split(i:Nat):(256:Nat)^i=18446744073709551616^(i/8)*256^(i % 8):=by
 have h:(18446744073709551616:Nat)=256^8:=by decide
 rw[h,←Nat.pow_mul,←Nat.pow_add]
 congr 1
 omega
theorem byte_more{m i x k:Nat}(hm:m<256^i)(hx:x<256)(hi:i<8*k):
    (kZ k m).set (i/8) ((kZ k m).getD (i/8) 0+x*256^(i % 8))=kZ k (m+256^i*x)∧(kZ k m).getD (i/8) 0<256^(i % 8):=by
 have hk:i/8<k:=by omega
 have hg:=mT k m (i/8) hk
 have hps:=pow_split i
 have hlt:m/18446744073709551616^(i/8)<256^(i % 8):=by
  rw[hps]at hm
  exact Nat.div_lt_of_lt_mul hm
 have h8:(256:Nat)^(i % 8)*256≤18446744073709551616:=by
  rw[←Nat.pow_succ]
  exact Nat.le_trans (Nat.pow_le_pow_right (by decide) (show i % 8+1≤8 by omega)) (by decide)
 rw[Nat.mod_eq_of_lt (by omega)]at hg
 have hb:(kZ k m).getD (i/8) 0<256^(i % 8):=by rw[hg];exact hlt
 refine⟨?_,hb⟩
 have hxm:x*256^(i % 8)≤255*256^(i % 8):=Nat.mul_le_mul_right _ (by omega)
 have hnew:(kZ k m).getD (i/8) 0+x*256^(i % 8)<18446744073709551616:=by omega
 have hmk:m+256^i*x<256^(8*k):=by
  have h1:256^i*x≤256^i*255:=Nat.mul_le_mul_left _ (by omega)
  have h2:256^(i+1)≤256^(8*k):=Nat.pow_le_pow_right (by decide) (by omega)
  rw[Nat.pow_succ]at h2
  omega
 have hP:(256:Nat)^(8*k)=18446744073709551616^k:=by rw[Nat.pow_mul]
 refine words_eq (w64_set (wordsW_lt _ _) _ hnew) (wordsW_lt _ _) (by rw[List.length_set,lL,lL]) ?_
 have hv:=valW_set (l:=kZ k m) (i:=i/8) ((kZ k m).getD (i/8) 0+x*256^(i % 8)) (by rw[lL];exact hk)
 rw[Nat.add_mul]at hv
 have hvm:valW (kZ k m)=m:=by
  rw[rj]
  exact Nat.mod_eq_of_lt (by rw[←hP];exact Nat.lt_of_le_of_lt (Nat.le_add_right _ _) hmk)
 have hvn:valW (kZ k (m+256^i*x))=m+256^i*x:=by
  rw[rj]
  exact Nat.mod_eq_of_lt (by rw[←hP];exact hmk)
 rw[hvn]
 rw[hvm]at hv
 have he:x*256^(i % 8)*18446744073709551616^(i/8)=256^i*x:=by rw[hps,Nat.mul_assoc,Nat.mul_comm (256^(i % 8)),Nat.mul_comm x]
 rw[he]at hv
 omega
theorem byte_of(k n i:Nat)(hi:i<8*k):(kZ k n).getD (i/8) 0/2^(8*(i % 8)) % 256=n/256^i % 256:=by
 rw[mT k n _ (by omega)]
 have h1:(2:Nat)^(8*(i % 8))=256^(i % 8):=by rw[Nat.pow_mul]
 have h2:(18446744073709551616:Nat)=256^(i % 8)*256^(8-i % 8):=by
  rw[←Nat.pow_add,show i % 8+(8-i % 8)=8 by omega]
 have h3:(256:Nat)^(8-i % 8)=256*256^(7-i % 8):=by rw[show 8-i % 8=(7-i % 8)+1 by omega,Nat.pow_succ,Nat.mul_comm]
 rw[h1,pow_split i,←Nat.div_div_eq_div_mul]
 generalize n/18446744073709551616^(i/8)=y
 rw[h2,Nat.mod_mul_right_div_self,h3,Nat.mod_mul_right_mod]
def qZ(k n i:Nat):List Nat:=(List.range k).map fun t=>if t<i then n/18446744073709551616^t % 18446744073709551616 else 0
theorem pY(k n i:Nat):(qZ k n i).length=k:=by simp[qZ]
theorem partW_end(k n:Nat):qZ k n k=kZ k n:=by
 apply List.ext_getElem (by rw[pY,lL])
 intro t h1 h2
 rw[pY]at h1
 have h3:=mT k n t h1
 simp only[List.getD,List.getElem?_eq_getElem h2,Option.getD_some]at h3
 rw[h3]
 simp only[qZ,List.getElem_map,List.getElem_range]
 rw[if_pos h1]
theorem partW_set(k n:Nat){i:Nat}(h:i<k):(qZ k n i).set i (n/18446744073709551616^i % 18446744073709551616)=qZ k n (i+1):=by
 apply List.ext_getElem (by rw[List.length_set,pY,pY])
 intro t h1 h2
 by_cases e:i=t
 ·subst e
  rw[List.getElem_set_self]
  simp[qZ]
 ·rw[List.getElem_set_ne e]
  simp only[qZ,List.getElem_map,List.getElem_range]
  by_cases c:t<i
  ·rw[if_pos c,if_pos (by omega)]
  ·rw[if_neg c,if_neg (by omega)]
def carW(a b i:Nat):Nat:=(a % 18446744073709551616^i+b % 18446744073709551616^i)/18446744073709551616^i
theorem carW_zero(a b:Nat):carW a b 0=0:=by simp[carW,Nat.mod_one]
theorem carW_le(a b i:Nat):carW a b i≤1:=car_le a b _ (Nat.pow_pos (by decide))
theorem carW_step(a b i:Nat):(a/18446744073709551616^i % 18446744073709551616+b/18446744073709551616^i % 18446744073709551616+carW a b i) % 18446744073709551616=(a+b)/18446744073709551616^i % 18446744073709551616∧
    carM (a/18446744073709551616^i % 18446744073709551616) (b/18446744073709551616^i % 18446744073709551616) ((a+b)/18446744073709551616^i % 18446744073709551616)=carW a b (i+1):=by
 have h:=sum_digit (B:=18446744073709551616) a b (18446744073709551616^i) (Nat.pow_pos (by decide)) (by decide)
 have h2:=carM_eq (a:=a/18446744073709551616^i % 18446744073709551616) (b:=b/18446744073709551616^i % 18446744073709551616) (c:=carW a b i) (Nat.mod_lt _ (by decide)) (Nat.mod_lt _ (by decide)) (carW_le _ _ _)
 obtain⟨h3,h4⟩:=h
 refine⟨h3,?_⟩
 unfold carW at *
 rw[h3,h4]at h2
 rw[h2,Nat.pow_succ]
theorem carW_end{a b k:Nat}(ha:a<18446744073709551616^k)(hb:b<18446744073709551616^k):carW a b k=(a+b)/18446744073709551616^k:=by
 unfold carW
 rw[Nat.mod_eq_of_lt ha,Nat.mod_eq_of_lt hb]
def borW(a b i:Nat):Nat:=bor a b (18446744073709551616^i)
theorem borW_zero(a b:Nat):borW a b 0=0:=by simp[borW,bor,Nat.mod_one]
theorem borW_le(a b i:Nat):borW a b i≤1:=bor_le _ _ _
theorem over_mod(a k i:Nat)(h:i≤k):(a+18446744073709551616^k) % 18446744073709551616^i=a % 18446744073709551616^i:=by
 obtain⟨j,rfl⟩:∃j,k=i+j:=⟨k-i,by omega⟩
 rw[Nat.pow_add,Nat.add_mul_mod_self_left]
theorem over_dig(a k i:Nat)(h:i<k):(a+18446744073709551616^k)/18446744073709551616^i % 18446744073709551616=a/18446744073709551616^i % 18446744073709551616:=by
 obtain⟨j,rfl⟩:∃j,k=i+(j+1):=⟨k-i-1,by omega⟩
 rw[Nat.pow_add,Nat.add_mul_div_left _ _ (Nat.pow_pos (by decide)),Nat.pow_succ,Nat.add_mul_mod_self_right]
theorem borW_step(a b k i:Nat)(hi:i<k)(hb:b<18446744073709551616^k):
    (a/18446744073709551616^i % 18446744073709551616+36893488147419103232-b/18446744073709551616^i % 18446744073709551616-borW a b i) % 18446744073709551616=(a+18446744073709551616^k-b)/18446744073709551616^i % 18446744073709551616∧
     borM (a/18446744073709551616^i % 18446744073709551616) (b/18446744073709551616^i % 18446744073709551616) ((a+18446744073709551616^k-b)/18446744073709551616^i % 18446744073709551616)=borW a b (i+1):=by
 have h:=sub_digit (B:=18446744073709551616) (a+18446744073709551616^k) b (18446744073709551616^i) (Nat.pow_pos (by decide)) (by decide) (by omega)
 have e1:bor (a+18446744073709551616^k) b (18446744073709551616^i)=borW a b i:=by
  unfold borW bor
  rw[over_mod a k i (by omega)]
 have e2:bor (a+18446744073709551616^k) b (18446744073709551616^i*18446744073709551616)=borW a b (i+1):=by
  unfold borW bor
  rw[←Nat.pow_succ,over_mod a k (i+1) (by omega)]
 rw[e1,e2,over_dig a k i hi]at h
 have hle:=borW_le a b i
 have h2:=borM_eq (a:=a/18446744073709551616^i % 18446744073709551616) (b:=b/18446744073709551616^i % 18446744073709551616) (c:=borW a b i) (Nat.mod_lt _ (by decide)) (Nat.mod_lt _ (by decide)) hle
 have ma:a/18446744073709551616^i % 18446744073709551616<18446744073709551616:=Nat.mod_lt _ (by decide)
 have mb:b/18446744073709551616^i % 18446744073709551616<18446744073709551616:=Nat.mod_lt _ (by decide)
 generalize a/18446744073709551616^i % 18446744073709551616=xa at *
 generalize b/18446744073709551616^i % 18446744073709551616=xb at *
 generalize (a+18446744073709551616^k-b)/18446744073709551616^i % 18446744073709551616=d at *
 generalize borW a b (i+1)=c' at *
 generalize borW a b i=c at *
 obtain⟨h3,h4⟩:=h
 have e3:(xa+36893488147419103232-xb-c) % 18446744073709551616=d:=by omega
 refine⟨e3,?_⟩
 rw[e3]at h2
 rw[h2,←h4]
 split<;>omega
theorem borW_end{a b k:Nat}(ha:a<18446744073709551616^k)(hb:b<18446744073709551616^k):borW a b k=if a<b then 1 else 0:=by
 unfold borW bor
 rw[Nat.mod_eq_of_lt ha,Nat.mod_eq_of_lt hb]
theorem pick_one{x y:Nat}(hx:x<18446744073709551616)(hy:y<18446744073709551616):x ^^^ (18446744073709551615 &&& (x ^^^ y))=y:=by
 have h:x ^^^ y<2^64:=Nat.xor_lt_two_pow (n:=64) hx hy
 have e:18446744073709551615 &&& (x ^^^ y)=x ^^^ y:=by
  rw[Nat.and_comm,show(18446744073709551615:Nat)=2^64-1 from rfl,Nat.and_two_pow_sub_one_eq_mod,Nat.mod_eq_of_lt h]
 rw[e,←Nat.xor_assoc,Nat.xor_self,Nat.zero_xor]
def rS(a b:List Nat)(i:Nat):List Nat:=(List.range 4).map fun t=>if t<i then b.getD t 0 else a.getD t 0
theorem rQ(a b:List Nat)(i:Nat):(rS a b i).length=4:=by simp[rS]
theorem pickF_zero{a:List Nat}(b:List Nat)(h:a.length=4):rS a b 0=a:=by
 apply List.ext_getElem (by rw[rQ,h])
 intro t h1 h2
 simp[rS,List.getD,h2]
theorem pickF_end(a:List Nat){b:List Nat}(h:b.length=4):rS a b 4=b:=by
 apply List.ext_getElem (by rw[rQ,h])
 intro t h1 h2
 simp only[rS,List.getElem_map,List.getElem_range]
 rw[if_pos (by omega)]
 simp[List.getD,h2]
theorem pickF_get(a b:List Nat){i:Nat}(h:i<4):(rS a b i).getD i 0=a.getD i 0:=by
 simp[rS,List.getD,h]
theorem pickF_set(a b:List Nat){i:Nat}(h:i<4):(rS a b i).set i (b.getD i 0)=rS a b (i+1):=by
 apply List.ext_getElem (by rw[List.length_set,rQ,rQ])
 intro t h1 h2
 by_cases e:i=t
 ·subst e
  rw[List.getElem_set_self]
  simp[rS]
 ·rw[List.getElem_set_ne e]
  simp only[rS,List.getElem_map,List.getElem_range]
  by_cases c:t<i
  ·rw[if_pos c,if_pos (by omega)]
  ·rw[if_neg c,if_neg (by omega)]
theorem pow32(i:Nat):(18446744073709551616:Nat)^i=4294967296^(2*i):=by
 rw[Nat.pow_mul]
theorem D32.val_get:∀ {l:List Nat} (i:Nat),D32.Dig l→D32.valL l/4294967296^i % 4294967296=l.getD i 0
 |[],i,_=>by simp[D32.valL,List.getD]
 |x::l,0,h=>by
  have:=h x (List.mem_cons_self ..)
  simp only[D32.valL,Nat.pow_zero,Nat.div_one,List.getD_cons_zero]
  omega
 |x::l,i+1,h=>by
  have h1:=h x (List.mem_cons_self ..)
  have ih:=D32.val_get (l:=l) i fun y hy=>h y (List.mem_cons_of_mem _ hy)
  rw[List.getD_cons_succ,←ih,D32.valL,Nat.pow_succ,Nat.mul_comm (4294967296^i),←Nat.div_div_eq_div_mul]
  congr 2
  omega
def pE:Nat→Nat→List Nat
 |0,_=>[]
 |k+1,n=>(n % 4294967296)::pE k (n/4294967296)
theorem qm:∀(k n:Nat),(pE k n).length=k
 |0,_=>rfl
 |k+1,n=>by rw[pE,List.length_cons,qm]
theorem rZ:∀(k n:Nat),D32.Dig (pE k n)
 |0,_=>fun x h=>by cases h
 |k+1,n=>fun x h=>by
  rcases List.mem_cons.1 h with rfl|h
  ·exact Nat.mod_lt _ (by decide)
  ·exact rZ k _ x h
theorem digsH_val:∀(k n:Nat),D32.valL (pE k n)=n % 4294967296^k
 |0,n=>by simp[pE,D32.valL,Nat.mod_one]
 |k+1,n=>by
  rw[pE,D32.valL,digsH_val k,Nat.pow_succ,Nat.mul_comm (4294967296^k),Nat.mod_mul]
theorem digsH_get:∀(k n i:Nat),i<k→(pE k n).getD i 0=n/4294967296^i % 4294967296
 |k+1,n,0,_=>by simp[pE,List.getD]
 |k+1,n,i+1,h=>by
  rw[pE,List.getD_cons_succ,digsH_get k _ i (by omega),Nat.div_div_eq_div_mul,Nat.pow_succ,Nat.mul_comm 4294967296]
theorem half_of(k n i:Nat)(hi:i<2*k):(kZ k n).getD (i/2) 0/2^(32*(i % 2)) % 4294967296=n/4294967296^i % 4294967296:=by
 rw[mT k n _ (by omega),pow32]
 have e:(4294967296:Nat)^i=4294967296^(2*(i/2))*4294967296^(i % 2):=by
  rw[←Nat.pow_add];congr 1;omega
 rw[e,←Nat.div_div_eq_div_mul]
 generalize n/4294967296^(2*(i/2))=y
 have hc:i % 2=0∨i % 2=1:=by omega
 rcases hc with h|h
 ·rw[h]
  simp only[Nat.mul_zero,Nat.pow_zero,Nat.div_one]
  omega
 ·rw[h,Nat.mul_one,Nat.pow_one,show(2:Nat)^32=4294967296 from rfl]
  omega
def partH(k n i:Nat):List Nat:=(List.range k).map fun t=>if t<i then n/4294967296^t % 4294967296 else 0
theorem rT(k n i:Nat):(partH k n i).length=k:=by simp[partH]
theorem partH_end(k n:Nat):partH k n k=pE k n:=by
 apply List.ext_getElem (by rw[rT,qm])
 intro t h1 h2
 rw[rT]at h1
 have h3:=digsH_get k n t h1
 simp only[List.getD,List.getElem?_eq_getElem h2,Option.getD_some]at h3
 rw[h3]
 simp only[partH,List.getElem_map,List.getElem_range]
 rw[if_pos h1]
theorem partH_set(k n:Nat){i:Nat}(h:i<k):(partH k n i).set i (n/4294967296^i % 4294967296)=partH k n (i+1):=by
 apply List.ext_getElem (by rw[List.length_set,rT,rT])
 intro t h1 h2
 by_cases e:i=t
 ·subst e
  rw[List.getElem_set_self]
  simp[partH]
 ·rw[List.getElem_set_ne e]
  simp only[partH,List.getElem_map,List.getElem_range]
  by_cases c:t<i
  ·rw[if_pos c,if_pos (by omega)]
  ·rw[if_neg c,if_neg (by omega)]
theorem word_of{L:List Nat}(h:D32.Dig L)(t:Nat):L.getD (2*t) 0+L.getD (2*t+1) 0*4294967296=D32.valL L/18446744073709551616^t % 18446744073709551616:=by
 rw[←D32.val_get _ h,←D32.val_get _ h,pow32,Nat.pow_succ,←Nat.div_div_eq_div_mul]
 generalize D32.valL L/4294967296^(2*t)=y
 omega
theorem mul_halves{a b:Nat}(ha:a<18446744073709551616^4)(hb:b<18446744073709551616^4):
    D32.Dig (D32.mulM (pE 8 a) (pE 8 b))∧(D32.mulM (pE 8 a) (pE 8 b)).length=16∧D32.valL (D32.mulM (pE 8 a) (pE 8 b))=a*b:=by
 obtain⟨h1,h2,h3⟩:=D32.mulM_spec (rZ 8 a) (rZ 8 b)
 rw[qm,qm]at h2
 rw[digsH_val,digsH_val,Nat.mod_eq_of_lt (by rw[pow32]at ha;exact ha),Nat.mod_eq_of_lt (by rw[pow32]at hb;exact hb)]at h3
 exact⟨h1,h2,h3⟩
theorem words_wide{n:Nat}(h:n<115792089237316195423570985008687907853269984665640564039457584007913129639936):kZ 8 n=kZ 4 n++[0,0,0,0]:=by
 simp only[kZ,List.cons_append,List.nil_append,List.cons.injEq,and_true,true_and]
 refine⟨?_,?_,?_,?_⟩<;>omega
theorem words_mod4(n:Nat):kZ 4 (n+115792089237316195423570985008687907853269984665640564039457584007913129639936)=kZ 4 n:=by
 simp only[kZ,List.cons.injEq,and_true]
 refine⟨?_,?_,?_,?_⟩<;>omega
end Go.Box
end
