/-
  Several texts in one: each says what it proves.
  Conditions: none. Lemmas only.
-/
import Derived.Test.YtcncplameclkfaaGreatDoorNmG1
import Derived.Test.YtcncplameclkfaaGreatDoorBxG1
set_option linter.all false
section
namespace Go.Nam
open Go.Box
def mR:List Nat→Nat
 |[]=>0
 |x::l=>x+65536*mR l
abbrev DgX(l:List Nat):Prop:=∀x∈l,x<65536
def lJ(n:Nat):List Nat:=(List.range 16).map fun i=>n/65536^i % 65536
theorem lT(n:Nat):(lJ n).length=16:=by simp[lJ]
theorem oQ(n i:Nat)(h:i<16):(lJ n).getD i 0=n/65536^i % 65536:=by simp[lJ,List.getD,h]
theorem mM(n:Nat):DgX (lJ n):=fun x hx=>by
 obtain⟨i,-,rfl⟩:=List.mem_map.1 hx
 exact Nat.mod_lt _ (by decide)
theorem mh{l:List Nat}(h:DgX l)(i:Nat):l.getD i 0<65536:=by
 by_cases hi:i<l.length
 ·have:l.getD i 0=l[i]:=by simp[List.getD,hi]
  rw[this]
  exact h _ (List.getElem_mem hi)
 ·rw[List.getD,List.getElem?_eq_none (by omega)]
  decide
theorem valX_get:∀ {l:List Nat} (i:Nat),DgX l→mR l/65536^i % 65536=l.getD i 0
 |[],i,_=>by simp[mR,List.getD]
 |x::l,0,h=>by
  have:=h x (List.mem_cons_self ..)
  simp only[mR,Nat.pow_zero,Nat.div_one,List.getD_cons_zero]
  omega
 |x::l,i+1,h=>by
  have h1:=h x (List.mem_cons_self ..)
  have ih:=valX_get (l:=l) i fun y hy=>h y (List.mem_cons_of_mem _ hy)
  rw[List.getD_cons_succ,←ih,mR,Nat.pow_succ,Nat.mul_comm (65536^i),←Nat.div_div_eq_div_mul]
  congr 2
  omega
theorem valX_lt:∀ {l:List Nat},DgX l→mR l<65536^l.length
 |[],_=>by simp[mR]
 |x::l,h=>by
  have h1:=h x (List.mem_cons_self ..)
  have h2:=valX_lt (l:=l) fun y hy=>h y (List.mem_cons_of_mem _ hy)
  simp only[mR,List.length_cons,Nat.pow_succ]
  omega
theorem digX_of{l:List Nat}(h:DgX l)(hl:l.length=16):lJ (mR l)=l:=by
 apply List.ext_getElem (by rw[lT,hl])
 intro i h1 h2
 have:=valX_get i h
 simp only[lJ,List.getElem_map,List.getElem_range]
 rw[this]
 simp[List.getD,h2]
theorem nI{n:Nat}(h:n<65536^16):mR (lJ n)=n:=by
 have key:∀(k n:Nat),n<65536^k→mR ((List.range k).map fun i=>n/65536^i % 65536)=n:=by
  intro k
  induction k with
  |zero=>intro n h;simp at h;subst h;rfl
  |succ k ih=>
   intro n h
   rw[List.range_succ_eq_map,List.map_cons,List.map_map,mR]
   have:((fun i=>n/65536^i % 65536) ∘ Nat.succ)=fun i=>n/65536/65536^i % 65536:=by
    funext i
    simp only[Function.comp_apply]
    rw[Nat.pow_succ,Nat.mul_comm (65536^i),←Nat.div_div_eq_div_mul]
   rw[this,ih _ (by rw[Nat.pow_succ]at h;omega)]
   simp only[Nat.pow_zero,Nat.div_one]
   omega
 exact key 16 n h
theorem valX_set:∀ {l:List Nat} {i:Nat} (y:Nat),i<l.length→mR (l.set i y)+l.getD i 0*65536^i=mR l+y*65536^i
 |[],i,y,h=>by simp at h
 |x::l,0,y,h=>by simp[mR];omega
 |x::l,i+1,y,h=>by
  have ih:=valX_set (l:=l) (i:=i) y (by simpa using h)
  simp only[List.set_cons_succ,mR,List.getD_cons_succ]
  have e1:l.getD i 0*65536^(i+1)=65536*(l.getD i 0*65536^i):=by rw[Nat.pow_succ,Nat.mul_comm 65536,Nat.mul_assoc]
  have e2:y*65536^(i+1)=65536*(y*65536^i):=by rw[Nat.pow_succ,Nat.mul_comm 65536,Nat.mul_assoc]
  rw[e1,e2]
  omega
theorem getD_set_eq{l:List Nat}{i y:Nat}(h:i<l.length):(l.set i y).getD i 0=y:=by simp[List.getD,h]
theorem getD_set_ne{l:List Nat}{i j y:Nat}(h:i≠j):(l.set i y).getD j 0=l.getD j 0:=by simp[List.getD,h]
theorem dgX_all{l:List Nat}(h:∀j,j<l.length→l.getD j 0<65536):DgX l:=fun x hx=>by
 obtain⟨i,hi,rfl⟩:=List.getElem_of_mem hx
 have:=h i hi
 simpa [List.getD,hi] using this
theorem digit_mod(B v i k:Nat)(hi:i<k):v % B^k/B^i % B=v/B^i % B:=by
 have e:B^k=B^i*B^(k-i):=by rw[←Nat.pow_add,Nat.add_sub_cancel' (Nat.le_of_lt hi)]
 have e2:B^(k-i)=B*B^(k-i-1):=by
  conv=>lhs;rw[show k-i=(k-i-1)+1 by omega]
  rw[Nat.pow_succ,Nat.mul_comm]
 rw[e,Nat.mod_mul_right_div_self,e2,Nat.mod_mul_right_mod]
theorem digX_mod(v:Nat):lJ (v % 65536^16)=lJ v:=by
 unfold lJ
 refine List.map_congr_left fun i hi=>?_
 exact digit_mod 65536 v i 16 (List.mem_range.1 hi)
def nH(l:List Nat)(c:Nat):Nat→List Nat × Nat
 |0=>(l,c)
 |i+1=>((nH l c i).1.set i (((nH l c i).1.getD i 0+(nH l c i).2) % 65536),((nH l c i).1.getD i 0+(nH l c i).2)/65536)
theorem carI_spec(l:List Nat)(c:Nat):∀i,i≤l.length→(nH l c i).1.length=l.length∧(∀j,i≤j→(nH l c i).1.getD j 0=l.getD j 0)∧(∀j,j<i→(nH l c i).1.getD j 0<65536)∧mR (nH l c i).1+65536^i*(nH l c i).2=mR l+c
 |0,_=>⟨rfl,fun _ _=>rfl,fun j h=>absurd h (by omega),by simp[nH]⟩
 |i+1,h=>by
  obtain⟨h1,h2,h3,h4⟩:=carI_spec l c i (by omega)
  have hg:=h2 i (Nat.le_refl _)
  simp only[nH]
  generalize (nH l c i).1=m at *
  generalize (nH l c i).2=k at *
  have hv:=valX_set (l:=m) (i:=i) ((m.getD i 0+k) % 65536) (by omega)
  refine⟨by rw[List.length_set,h1],fun j hj=>?_,fun j hj=>?_,?_⟩
  ·rw[getD_set_ne (by omega),h2 j (by omega)]
  ·by_cases e:i=j
   ·subst e
    rw[getD_set_eq (by omega)]
    exact Nat.mod_lt _ (by decide)
   ·rw[getD_set_ne e]
    exact h3 j (by omega)
  ·generalize m.getD i 0=x at *
   rw[Nat.pow_succ,Nat.mul_assoc]
   have e:x+k=65536*((x+k)/65536)+(x+k) % 65536:=(Nat.div_add_mod _ _).symm
   have e2:(x+k)*65536^i=65536^i*(65536*((x+k)/65536))+(x+k) % 65536*65536^i:=by
    conv=>lhs;rw[e]
    rw[Nat.add_mul,Nat.mul_comm (65536*_)]
   rw[Nat.add_mul]at e2
   rw[Nat.mul_comm (65536^i) k]at h4
   omega
theorem carI_small{l:List Nat}{c B:Nat}(hl:∀j,l.getD j 0≤B)(hc:c≤B):∀i,i≤l.length→(nH l c i).2≤B
 |0,_=>hc
 |i+1,h=>by
  have ih:=carI_small hl hc i (by omega)
  have h2:=(carI_spec l c i (by omega)).2.1 i (Nat.le_refl _)
  simp only[nH]
  rw[h2]
  have:=hl i
  omega
theorem car_all{l:List Nat}{c:Nat}(hl:l.length=16):(nH l c 16).1=lJ (mR l+c)∧(nH l c 16).2=(mR l+c)/65536^16:=by
 obtain⟨h1,h2,h3,h4⟩:=carI_spec l c 16 (by omega)
 have hd:DgX (nH l c 16).1:=dgX_all fun j hj=>h3 j (by omega)
 have hlt:=valX_lt hd
 rw[h1,hl]at hlt
 have hv:mR (nH l c 16).1=(mR l+c) % 65536^16:=by
  rw[←h4,Nat.add_mul_mod_self_left,Nat.mod_eq_of_lt hlt]
 constructor
 ·rw[←digX_of hd (by rw[h1,hl]),hv,digX_mod]
 ·rw[←h4,Nat.add_mul_div_left _ _ (Nat.pow_pos (by decide)),Nat.div_eq_of_lt hlt,Nat.zero_add]
def pL(v:Nat):Nat:=v % 115792089237316195423570985008687907853269984665640564039457584007913129639936+38*(v/115792089237316195423570985008687907853269984665640564039457584007913129639936)
def qo(v:Nat):Nat:=v % 57896044618658097711785492504343953926634992332820282019728792003956564819968+19*(v/57896044618658097711785492504343953926634992332820282019728792003956564819968)
def iterX(f:Nat→Nat)(v:Nat):Nat→Nat
 |0=>v
 |i+1=>f (iterX f v i)
theorem foldX_mod(v:Nat):pL v % p25=v % p25:=by unfold pL p25;omega
theorem topX_mod(v:Nat):qo v % p25=v % p25:=by unfold qo p25;omega
theorem pow16:(65536:Nat)^16=115792089237316195423570985008687907853269984665640564039457584007913129639936:=by decide
theorem fold_small{v:Nat}(h:v<4074071952668972172536891376818756322102936787331872501272280898708762599526673412366794752):pL v<115792089237316195423570985008687907853269984665640564039457584007913129639936+1337006139375616:=by unfold pL;omega
theorem fold_two{v:Nat}(h:v<115792089237316195423570985008687907853269984665640564039457584007913129639936+1337006139375616):pL v<115792089237316195423570985008687907853269984665640564039457584007913129639936:=by unfold pL;omega
theorem fold_id{v:Nat}(h:v<115792089237316195423570985008687907853269984665640564039457584007913129639936):pL v=v:=by unfold pL;omega
theorem top_two{v:Nat}(h:v<115792089237316195423570985008687907853269984665640564039457584007913129639936):qo v<57896044618658097711785492504343953926634992332820282019728792003956564819987:=by unfold qo;omega
theorem top_one{v:Nat}(h:v<57896044618658097711785492504343953926634992332820282019728792003956564819987):qo v<57896044618658097711785492504343953926634992332820282019728792003956564819968:=by unfold qo;omega
structure OkX(l:List Nat)(v:Nat):Prop where
 len:l.length=16
 small:∀j,l.getD j 0≤4503599627370496
 val:mR l=v
 most:v<4074071952668972172536891376818756322102936787331872501272280898708762599526673412366794752
theorem okX_dig{n:Nat}(h:n<115792089237316195423570985008687907853269984665640564039457584007913129639936):OkX (lJ n) n:=⟨lT n,fun j=>by have:=mh (mM n) j;omega,nI (by rw[pow16];exact h),by omega⟩
theorem okX_pass{l:List Nat}{v:Nat}(h:OkX l v):OkX ((nH l 0 16).1.set 0 ((nH l 0 16).1.getD 0 0+38*(nH l 0 16).2)) (pL v):=by
 obtain⟨h1,h2⟩:=car_all (c:=0) h.len
 rw[Nat.add_zero,h.val]at h1 h2
 rw[pow16]at h2
 rw[h1,h2]
 have hm:=h.most
 have hk:v/115792089237316195423570985008687907853269984665640564039457584007913129639936<35184372088833:=by omega
 have hf:=fold_small hm
 have hv:=valX_set (l:=lJ v) (i:=0) ((lJ v).getD 0 0+38*(v/115792089237316195423570985008687907853269984665640564039457584007913129639936)) (by rw[lT];omega)
 have hd:=mM v
 have hmod:mR (lJ v)=v % 115792089237316195423570985008687907853269984665640564039457584007913129639936:=by
  have e:lJ v=lJ (v % 65536^16):=(digX_mod v).symm
  rw[e,nI (Nat.mod_lt _ (by decide)),pow16]
 have hg:=fun j=>mh hd j
 refine⟨by rw[List.length_set,lT],fun j=>?_,?_,by omega⟩
 ·by_cases e:0=j
  ·subst e
   rw[getD_set_eq (by rw[lT];omega)]
   have:=hg 0
   omega
  ·rw[getD_set_ne e]
   have:=hg j
   omega
 ·rw[hmod]at hv
  unfold pL
  generalize (lJ v).getD 0 0=x at *
  generalize v/115792089237316195423570985008687907853269984665640564039457584007913129639936=q at *
  simp only[Nat.pow_zero,Nat.mul_one]at hv
  omega
theorem okX_flat{l:List Nat}{v:Nat}(h:OkX l v)(hv:v<115792089237316195423570985008687907853269984665640564039457584007913129639936):(nH l 0 16).1.set 0 ((nH l 0 16).1.getD 0 0+38*(nH l 0 16).2)=lJ v:=by
 obtain⟨h1,h2⟩:=car_all (c:=0) h.len
 rw[Nat.add_zero,h.val]at h1 h2
 rw[pow16,Nat.div_eq_of_lt hv]at h2
 rw[h1,h2,Nat.mul_zero,Nat.add_zero]
 apply List.ext_getElem (by rw[List.length_set])
 intro i a b
 by_cases e:0=i
 ·subst e
  rw[List.getElem_set_self]
  simp[List.getD,b]
 ·rw[List.getElem_set_ne e]
end Go.Nam
end
section
set_option maxHeartbeats 4000000
set_option maxRecDepth 10000
namespace Go.Nam
open Go.Box
def rE(l:List Nat):List Nat:=(nH l 0 16).1.set 0 ((nH l 0 16).1.getD 0 0+38*(nH l 0 16).2)
theorem okX_iter{l:List Nat}{v:Nat}(h:OkX l v):∀n,OkX (Nat.repeat rE n l) (iterX pL v n)
 |0=>h
 |n+1=>okX_pass (okX_iter h n)
theorem iter_mod(v:Nat):∀n,iterX pL v n % p25=v % p25
 |0=>rfl
 |n+1=>by rw[iterX,foldX_mod,iter_mod v n]
theorem okX_five{l:List Nat}{v:Nat}(h:OkX l v):∃w,w<115792089237316195423570985008687907853269984665640564039457584007913129639936∧w % p25=v % p25∧Nat.repeat rE 5 l=lJ w:=by
 have h1:=fold_small h.most
 have h2:iterX pL v 2<115792089237316195423570985008687907853269984665640564039457584007913129639936:=fold_two h1
 have h3:iterX pL v 3=iterX pL v 2:=fold_id h2
 have h4:iterX pL v 4=iterX pL v 2:=by
  show pL (iterX pL v 3)=_
  rw[h3]
  exact fold_id h2
 refine⟨iterX pL v 4,by rw[h4];exact h2,iter_mod v 4,?_⟩
 exact okX_flat (okX_iter h 4) (by rw[h4];exact h2)
def highX(l:List Nat):List Nat:=(nH (l.set 15 (l.getD 15 0 % 32768)) (19*(l.getD 15 0/32768)) 16).1
theorem highX_val{u:Nat}(l:List Nat)(h:u<115792089237316195423570985008687907853269984665640564039457584007913129639936)(hl:l.length=16)(hu:mR l=u)(hg:l.getD 15 0=u/65536^15 % 65536):mR (l.set 15 (l.getD 15 0 % 32768))+19*(l.getD 15 0/32768)=qo u:=by
 have hv:=valX_set (l:=l) (i:=15) (l.getD 15 0 % 32768) (by omega)
 have e:(65536:Nat)^15=1766847064778384329583297500742918515827483896875618958121606201292619776:=by decide
 rw[e]at hv hg
 rw[hu]at hv
 generalize mR (l.set 15 (l.getD 15 0 % 32768))=y at *
 generalize l.getD 15 0=x at *
 unfold qo
 omega
theorem highX_eq{u:Nat}(h:u<115792089237316195423570985008687907853269984665640564039457584007913129639936):highX (lJ u)=lJ (qo u):=by
 unfold highX
 have hl:((lJ u).set 15 ((lJ u).getD 15 0 % 32768)).length=16:=by rw[List.length_set,lT]
 rw[(car_all hl).1,highX_val (lJ u) h (lT u) (nI (by rw[pow16];exact h)) (oQ u 15 (by omega))]
theorem getD_elem{l:List Nat}{j:Nat}(h:j<l.length):l[j]=l.getD j 0:=by simp[List.getD,h]
theorem high_list{u:Nat}(h:u<57896044618658097711785492504343953926634992332820282019728792003956564819968)(hp:p25≤u):∃s,s<19∧u=p25+s:=⟨u-p25,by unfold p25 at *;omega,by unfold p25 at *;omega⟩
theorem high_digs:∀s,s<19→lJ (p25+s)=(65517+s)::(List.replicate 14 65535++[32767]):=by decide +kernel
theorem low_digs:∀s,s<19→lJ s=(List.replicate 16 0).set 0 s:=by decide +kernel
theorem rest_get:∀i,i<15→1≤i→((0:Nat)::(List.replicate 14 65535++[32767])).getD i 0=65535:=by decide
theorem rest_val:mR (List.replicate 14 65535++[32767])=883423532389192164791648750371459257913741948437809479060803100646309887:=by decide +kernel
theorem least_iff{u:Nat}(h:u<57896044618658097711785492504343953926634992332820282019728792003956564819968):
    ((∀i,1≤i→i<15→(lJ u).getD i 0=65535)∧(lJ u).getD 15 0=32767∧65517≤(lJ u).getD 0 0)↔p25≤u:=by
 constructor
 ·rintro⟨h1,h2,h3⟩
  have hv:=nI (n:=u) (by rw[pow16];omega)
  have hl:=lT u
  generalize lJ u=l at *
  have e:l=l.getD 0 0::(List.replicate 14 65535++[32767]):=by
   apply List.ext_getElem (by rw[hl];rfl)
   intro i a b
   have hg:l[i]=l.getD i 0:=by simp[List.getD,a]
   rw[hg]
   rw[hl]at a
   by_cases h0:i=0
   ·subst h0
    rfl
   ·by_cases h15:i=15
    ·subst h15
     rw[h2]
     rfl
    ·rw[h1 i (by omega) (by omega)]
     have:=rest_get i (by omega) (by omega)
     obtain⟨j,rfl⟩:∃j,i=j+1:=⟨i-1,by omega⟩
     rw[List.getD_cons_succ]at this
     rw[List.getElem_cons_succ,getD_elem,this]
  rw[e,mR,rest_val]at hv
  generalize l.getD 0 0=x at *
  unfold p25
  omega
 ·intro hp
  obtain⟨s,hs,rfl⟩:=high_list h hp
  rw[high_digs s hs]
  refine⟨fun i h1 h2=>?_,rfl,by rw[List.getD_cons_zero];omega⟩
  have:=rest_get i h2 h1
  obtain⟨j,rfl⟩:∃j,i=j+1:=⟨i-1,by omega⟩
  rw[List.getD_cons_succ]at this ⊢
  exact this
theorem least_low{u:Nat}(h:u<57896044618658097711785492504343953926634992332820282019728792003956564819968)(hp:p25≤u):(lJ (u % p25))=(List.replicate 16 0).set 0 ((lJ u).getD 0 0-65517):=by
 obtain⟨s,hs,rfl⟩:=high_list h hp
 rw[high_digs s hs,List.getD_cons_zero,show 65517+s-65517=s by omega,Nat.add_mod_left,Nat.mod_eq_of_lt (by unfold p25;omega)]
 exact low_digs s hs
def qw(x:Nat)(b:List Nat)(i:Nat):Nat→List Nat→List Nat
 |0,d=>d
 |k+1,d=>(qw x b i k d).set (i+k) ((qw x b i k d).getD (i+k) 0+x*b.getD k 0)
def pg(a b:List Nat):Nat→List Nat
 |0=>List.replicate 31 0
 |i+1=>qw (a.getD i 0) b i 16 (pg a b i)
theorem cnvK_len(x:Nat)(b:List Nat)(i:Nat):∀k d,(qw x b i k d).length=d.length
 |0,_=>rfl
 |k+1,d=>by rw[qw,List.length_set,cnvK_len x b i k]
theorem valX_take:∀ {l:List Nat} {i:Nat},i<l.length→mR (l.take (i+1))=mR (l.take i)+l.getD i 0*65536^i
 |[],i,h=>by simp at h
 |x::l,0,h=>by simp[mR]
 |x::l,i+1,h=>by
  have ih:=valX_take (l:=l) (i:=i) (by simpa using h)
  simp only[List.take_succ_cons,mR,List.getD_cons_succ,ih,Nat.pow_succ]
  have e:l.getD i 0*(65536^i*65536)=65536*(l.getD i 0*65536^i):=by rw[←Nat.mul_assoc,Nat.mul_comm]
  rw[e,Nat.mul_add,Nat.add_assoc]
theorem cnvK_spec{x:Nat}{b:List Nat}{i M T:Nat}(hi:i<16)(hb:b.length=16)(hM:∀k, x*b.getD k 0≤M):∀k {d:List Nat}, k≤16→d.length=31→(∀j, d.getD j 0≤T)→
    mR (qw x b i k d)=mR d+x*mR (b.take k)*65536^i∧(∀j,j<i+k→(qw x b i k d).getD j 0≤T+M)∧(∀j,i+k≤j→(qw x b i k d).getD j 0≤T)
 |0, d, _, hd, hs=>⟨by rw[qw, List.take_zero, mR, Nat.mul_zero, Nat.zero_mul, Nat.add_zero], fun j _=>by
     have:=hs j
     simp only[qw]
     omega,fun j _=>hs j⟩
 |k+1,d,hk,hd,hs=>by
  obtain⟨h1,h2,h3⟩:=cnvK_spec hi hb hM k (d:=d) (by omega) hd hs
  have hl:=cnvK_len x b i k d
  rw[hd]at hl
  have hp:=hM k
  have h4:=h3 (i+k) (Nat.le_refl _)
  have hv:=valX_set (l:=qw x b i k d) (i:=i+k) ((qw x b i k d).getD (i+k) 0+x*b.getD k 0) (by omega)
  have ht:=valX_take (l:=b) (i:=k) (by omega)
  simp only[qw]
  refine⟨?_,fun j hj=>?_,fun j hj=>?_⟩
  ·rw[ht]
   rw[h1,Nat.add_mul]at hv
   rw[Nat.pow_add]at hv
   have e:x*(mR (b.take k)+b.getD k 0*65536^k)*65536^i=x*mR (b.take k)*65536^i+x*b.getD k 0*(65536^i*65536^k):=by
    rw[Nat.mul_add,Nat.add_mul]
    congr 1
    simp only[Nat.mul_assoc,Nat.mul_comm,Nat.mul_left_comm]
   rw[e]
   omega
  ·by_cases e:i+k=j
   ·subst e
    rw[getD_set_eq (by omega)]
    omega
   ·rw[getD_set_ne e]
    exact h2 j (by omega)
  ·rw[getD_set_ne (by omega)]
   exact h3 j (by omega)
theorem prod_max{a b:List Nat}(had:DgX a)(hbd:DgX b)(i k:Nat):a.getD i 0*b.getD k 0≤65535*65535:=by
 have h1:=mh had i
 have h2:=mh hbd k
 exact Nat.mul_le_mul (Nat.le_of_lt_succ h1) (Nat.le_of_lt_succ h2)
theorem cnvI_spec{a b:List Nat}{M:Nat}(ha:a.length=16)(hb:b.length=16)(hM:∀i k,a.getD i 0*b.getD k 0≤M):∀i,i≤16→(pg a b i).length=31∧(∀j,(pg a b i).getD j 0≤i*M)∧mR (pg a b i)=mR (a.take i)*mR b
 |0, _=>⟨rfl, fun j=>by
     simp only[pg]
     rw[Nat.zero_mul,List.getD,List.getElem?_replicate]
     split<;>simp,by
     rw[List.take_zero,mR,Nat.zero_mul]
     show mR (List.replicate 31 0)=0
     decide⟩
 |i+1,h=>by
  obtain⟨h1,h2,h3⟩:=cnvI_spec ha hb hM i (by omega)
  obtain⟨k1,k2,k3⟩:=cnvK_spec (x:=a.getD i 0) (i:=i) (by omega) hb (hM i) 16 (d:=pg a b i) (by omega) h1 h2
  have ht:=valX_take (l:=a) (i:=i) (by omega)
  have hln:=cnvK_len (a.getD i 0) b i 16 (pg a b i)
  rw[show pg a b (i+1)=qw (a.getD i 0) b i 16 (pg a b i) from rfl,Nat.succ_mul]
  generalize qw (a.getD i 0) b i 16 (pg a b i)=m at *
  generalize i*M=T at *
  refine⟨by rw[hln,h1],fun j=>?_,?_⟩
  ·by_cases e:j<i+16
   ·exact k2 j e
   ·have:=k3 j (by omega)
    omega
  ·rw[k1,h3,ht,List.take_of_length_le (by omega:b.length≤16),Nat.add_mul]
   congr 1
   simp only[Nat.mul_assoc,Nat.mul_comm,Nat.mul_left_comm]
def cutX(d:List Nat)(i:Nat):List Nat:=(List.range 16).map fun t=>if t<i then d.getD t 0+38*d.getD (t+16) 0 else 0
theorem cutX_len(d:List Nat)(i:Nat):(cutX d i).length=16:=by simp[cutX]
theorem cutX_get(d:List Nat)(i:Nat){t:Nat}(h:t<16):(cutX d i).getD t 0=if t<i then d.getD t 0+38*d.getD (t+16) 0 else 0:=by simp[cutX,List.getD,h]
theorem cutX_set(d:List Nat){i:Nat}(h:i<16):(cutX d i).set i (d.getD i 0+38*d.getD (i+16) 0)=cutX d (i+1):=by
 apply List.ext_getElem (by rw[List.length_set,cutX_len,cutX_len])
 intro t h1 h2
 by_cases e:i=t
 ·subst e
  rw[List.getElem_set_self]
  simp[cutX]
 ·rw[List.getElem_set_ne e]
  simp only[cutX,List.getElem_map,List.getElem_range]
  by_cases c:t<i
  ·rw[if_pos c,if_pos (by omega)]
  ·rw[if_neg c,if_neg (by omega)]
theorem cutX_val{d:List Nat}(h:d.length=31):mR (cutX d 16) % p25=mR d % p25:=by
 match d,h with
 |[x0,x1,x2,x3,x4,x5,x6,x7,x8,x9,x10,x11,x12,x13,x14,x15,x16,x17,x18,x19,x20,x21,x22,x23,x24,x25,x26,x27,x28,x29,x30],_=>
  have e:cutX [x0,x1,x2,x3,x4,x5,x6,x7,x8,x9,x10,x11,x12,x13,x14,x15,x16,x17,x18,x19,x20,x21,x22,x23,x24,x25,x26,x27,x28,x29,x30] 16=[x0+38*x16,x1+38*x17,x2+38*x18,x3+38*x19,x4+38*x20,x5+38*x21,x6+38*x22,x7+38*x23,x8+38*x24,x9+38*x25,x10+38*x26,x11+38*x27,x12+38*x28,x13+38*x29,x14+38*x30,x15+38*0]:=rfl
  rw[e]
  simp only[mR]
  unfold p25
  omega
end Go.Nam
end
section
set_option maxHeartbeats 1000000
namespace Go.Nam
open Go.Box
theorem pow256(t:Nat):(65536:Nat)^t=256^(2*t):=by rw[Nat.pow_mul]
theorem digX_small{m t:Nat}(h:m<256^(2*t))(ht:t<16):(lJ m).getD t 0=0:=by
 rw[oQ m t ht,pow256,Nat.div_eq_of_lt h,Nat.zero_mod]
theorem digX_mid{m t:Nat}(h:m<256^(2*t+1))(ht:t<16):(lJ m).getD t 0<256:=by
 rw[oQ m t ht,pow256]
 refine Nat.lt_of_le_of_lt (Nat.mod_le _ _) ?_
 rw[Nat.div_lt_iff_lt_mul (Nat.pow_pos (by decide)),Nat.mul_comm,←Nat.pow_succ]
 exact h
theorem lt16{n i:Nat}(h:i≤32):n % 256^i<65536^16:=by
 refine Nat.lt_of_lt_of_le (Nat.mod_lt _ (Nat.pow_pos (by decide))) ?_
 rw[pow256]
 exact Nat.pow_le_pow_right (by decide) (by omega)
theorem digX_put{m t y:Nat}(hm:m<65536^16)(ht:t<16)(hy:(lJ m).getD t 0+y<65536):(lJ m).set t ((lJ m).getD t 0+y)=lJ (m+y*65536^t):=by
 have hl:((lJ m).set t ((lJ m).getD t 0+y)).length=16:=by rw[List.length_set,lT]
 have hd:DgX ((lJ m).set t ((lJ m).getD t 0+y)):=dgX_all fun j hj=>by
  by_cases e:t=j
  ·subst e
   rw[getD_set_eq (by rw[lT];omega)]
   exact hy
  ·rw[getD_set_ne e]
   exact mh (mM m) j
 have hv:=valX_set (l:=lJ m) (i:=t) ((lJ m).getD t 0+y) (by rw[lT];omega)
 rw[nI hm,Nat.add_mul]at hv
 rw[←digX_of hd hl]
 congr 1
 omega
theorem pair_even(n:Nat){t:Nat}(ht:t<16):(lJ (n % 256^(2*t))).set t ((lJ (n % 256^(2*t))).getD t 0+n/256^(2*t) % 256)=lJ (n % 256^(2*t+1)):=by
 have h0:=digX_small (m:=n % 256^(2*t)) (Nat.mod_lt _ (Nat.pow_pos (by decide))) ht
 have hd:n/256^(2*t) % 256<256:=Nat.mod_lt _ (by decide)
 rw[digX_put (lt16 (by omega)) ht (by omega),Nat.mod_pow_succ,pow256,Nat.mul_comm (n/256^(2*t) % 256)]
theorem pair_odd(n:Nat){t:Nat}(ht:t<16):(lJ (n % 256^(2*t+1))).set t ((lJ (n % 256^(2*t+1))).getD t 0+256*(n/256^(2*t+1) % 256))=lJ (n % 256^(2*t+2)):=by
 have h0:=digX_mid (m:=n % 256^(2*t+1)) (Nat.mod_lt _ (Nat.pow_pos (by decide))) ht
 have hd:n/256^(2*t+1) % 256<256:=Nat.mod_lt _ (by decide)
 rw[digX_put (lt16 (by omega)) ht (by omega),Nat.mod_pow_succ (k:=2*t+1),pow256]
 congr 2
 rw[Nat.pow_succ 256 (2*t),Nat.mul_comm 256,Nat.mul_assoc,Nat.mul_comm,Nat.mul_comm 256]
theorem pair_zero(n:Nat):lJ (n % 256^0)=List.replicate 16 0:=by
 rw[Nat.pow_zero,Nat.mod_one]
 decide +kernel
theorem pair_low(n i:Nat)(h:i<16):(lJ n).getD i 0 % 256=n/256^(2*i) % 256:=by
 rw[oQ n i h,pow256]
 omega
theorem pair_high(n i:Nat)(h:i<16):(lJ n).getD i 0/256=n/256^(2*i+1) % 256:=by
 rw[oQ n i h,pow256,Nat.pow_succ,←Nat.div_div_eq_div_mul]
 omega
theorem valX_le':∀ {l:List Nat} {B:Nat},(∀j,l.getD j 0≤B)→65535*mR l+B≤B*65536^l.length
 |[],B,_=>by simp[mR]
 |x::l,B,h=>by
  have h0:=h 0
  have ih:=valX_le' (l:=l) (B:=B) fun j=>h (j+1)
  rw[List.getD_cons_zero]at h0
  rw[mR,List.length_cons,Nat.pow_succ,←Nat.mul_assoc]
  generalize B*65536^l.length=W at *
  omega
theorem valX_le{l:List Nat}{B:Nat}(h:∀j,l.getD j 0≤B):mR l≤B*65536^l.length:=by
 have:=valX_le' h
 generalize B*65536^l.length=W at *
 omega
theorem okX_of{l:List Nat}(hl:l.length=16)(h:∀j,l.getD j 0≤4398046511104):OkX l (mR l):=by
 have hv:=valX_le h
 rw[hl,pow16]at hv
 exact⟨hl,fun j=>by have:=h j;omega,rfl,by omega⟩
theorem okX_cut{a b:List Nat}(ha:a.length=16)(had:DgX a)(hb:b.length=16)(hbd:DgX b):∃v,OkX (cutX (pg a b 16) 16) v∧v % p25=mR a*mR b % p25:=by
 obtain⟨h1,h2,h3⟩:=cnvI_spec ha hb (prod_max had hbd) 16 (by omega)
 rw[List.take_of_length_le (by omega:a.length≤16)]at h3
 refine⟨_,okX_of (cutX_len _ _) fun j=>?_,?_⟩
 ·by_cases hj:j<16
  ·rw[cutX_get _ _ hj,if_pos hj]
   have k1:=h2 j
   have k2:=h2 (j+16)
   omega
  ·rw[List.getD,List.getElem?_eq_none (by rw[cutX_len];omega)]
   simp
 ·rw[cutX_val h1,h3]
end Go.Nam
end
section
namespace Go.Nam
open Go.Box
theorem pow_dbl(a j:Nat):a^2^(j+1) % p25=(a^2^j % p25)*(a^2^j % p25) % p25:=by
 rw[Nat.pow_succ,Nat.pow_mul,Nat.pow_two,Nat.mul_mod]
theorem pow_bit(a e j:Nat):a^(e % 2^(j+1)) % p25=if e/2^j % 2=1 then (a^(e % 2^j) % p25)*(a^2^j % p25) % p25 else a^(e % 2^j) % p25:=by
 rw[Nat.mod_pow_succ]
 rcases Nat.mod_two_eq_zero_or_one (e/2^j) with h|h
 ·rw[h,if_neg (by decide),Nat.mul_zero,Nat.add_zero]
 ·rw[h,if_pos rfl,Nat.mul_one,Nat.pow_add,Nat.mul_mod]
theorem bit_of(e i k:Nat)(hk:k<8):e/256^i % 256/2^k % 2=e/2^(8*i+k) % 2:=by
 have h1:(256:Nat)=2^k*2^(8-k):=by
  rw[←Nat.pow_add,show k+(8-k)=8 by omega]
 have h2:(2:Nat)^(8-k)=2*2^(7-k):=by rw[show 8-k=(7-k)+1 by omega,Nat.pow_succ,Nat.mul_comm]
 have h3:(2:Nat)^(8*i+k)=256^i*2^k:=by rw[Nat.pow_add,Nat.pow_mul]
 rw[h3,←Nat.div_div_eq_div_mul]
 generalize e/256^i=y
 conv=>lhs;rw[h1]
 rw[Nat.mod_mul_right_div_self,h2,Nat.mod_mul_right_mod]
theorem pow_end(a e n:Nat)(h:e<256^n):a^(e % 2^(8*n)) % p25=a^e % p25:=by
 rw[Nat.pow_mul,Nat.mod_eq_of_lt h]
theorem fstD_cons(k n:Nat):oZ (k+1) n=(n % 256)::oZ k (n/256):=by
 unfold oZ
 rw[List.range_succ_eq_map,List.map_cons,List.map_map]
 congr 1
 ·simp
 ·refine List.map_congr_left fun i _=>?_
  simp only[Function.comp_apply]
  rw[Nat.pow_succ,Nat.mul_comm (256^i),←Nat.div_div_eq_div_mul]
theorem quo_step(y d b:Nat)(hb:0<b)(hd:d<256):(256*y+d)/b=256*(y/b)+((y % b)*256+d)/b∧((y % b)*256+d)/b<256∧(256*y+d) % b=((y % b)*256+d) % b:=by
 have e:256*y+d=b*(256*(y/b))+((y % b)*256+d):=by
  have:=Nat.div_add_mod y b
  have e1:b*(256*(y/b))=256*(b*(y/b)):=by rw[←Nat.mul_assoc,Nat.mul_comm b 256,Nat.mul_assoc]
  rw[e1]
  omega
 have hr:=Nat.mod_lt y hb
 refine⟨by rw[e,Nat.mul_add_div hb],?_,by rw[e,Nat.mul_add_mod]⟩
 rw[Nat.div_lt_iff_lt_mul hb]
 omega
theorem quo_digs(q x k:Nat)(hx:x<256):oZ (k+1) (256*q+x)=x::oZ k q:=by
 rw[fstD_cons,show(256*q+x) % 256=x by omega,show(256*q+x)/256=q by omega]
def turnN:Nat:=19681161376707505956807079304988542015446066515923890162744021073123829784752
theorem turn_eq:2^((p25-1)/4) % p25=turnN:=pow_is 256 (by decide +kernel) (by decide +kernel)
theorem turn_lt:turnN<p25:=by decide +kernel
end Go.Nam
end
section
set_option maxRecDepth 4000
namespace Go.Nam
open Go.Box
def lessP(a:Nat):Nat:=if a<p25 then a else a-p25
def sQ(x:Nat):Nat→Nat
 |0=>x
 |i+1=>lessP (sQ x i)
theorem lessP_le(a:Nat):lessP a≤a:=by
 unfold lessP
 split<;>omega
theorem lessPn_le(x:Nat):∀i,sQ x i≤x
 |0=>Nat.le_refl _
 |i+1=>Nat.le_trans (lessP_le _) (lessPn_le x i)
theorem lessP_two{a:Nat}(h:a<115792089237316195423570985008687907853269984665640564039457584007913129639936):sQ a 2=a % p25:=by
 show lessP (lessP a)=_
 unfold lessP p25
 (repeat' split)<;>omega
theorem words_lessP(a:Nat):kZ 4 (if (if a<p25 then 1 else 0)=0 then a+18446744073709551616^4-p25 else a)=kZ 4 (lessP a):=by
 unfold lessP
 by_cases h:a<p25
 ·simp[h]
 ·rw[if_neg h,if_neg h,if_pos rfl]
  have e:a+18446744073709551616^4-p25=(a-p25)+115792089237316195423570985008687907853269984665640564039457584007913129639936:=by unfold p25 at *;omega
  rw[e,words_mod4]
theorem words_neg{a:Nat}(h:a≤p25):kZ 4 (p25+18446744073709551616^4-a)=kZ 4 (p25-a):=by
 have e:p25+18446744073709551616^4-a=(p25-a)+115792089237316195423570985008687907853269984665640564039457584007913129639936:=by omega
 rw[e,words_mod4]
theorem words_half(w:Nat):kZ 8 w=kZ 4 w++kZ 4 (w/115792089237316195423570985008687907853269984665640564039457584007913129639936):=by
 simp only[kZ,List.cons_append,List.nil_append,List.cons.injEq,true_and,and_true]
 refine⟨?_,?_,?_,?_⟩<;>congr 1<;>simp only[Nat.div_div_eq_div_mul]
structure MulS(w m s1 s2 s3:Nat):Prop where
 m_eq:m=w/115792089237316195423570985008687907853269984665640564039457584007913129639936*38
 s1_eq:s1=w % 115792089237316195423570985008687907853269984665640564039457584007913129639936+m % 115792089237316195423570985008687907853269984665640564039457584007913129639936
 s2_eq:s2=s1 % 115792089237316195423570985008687907853269984665640564039457584007913129639936+38*(m/115792089237316195423570985008687907853269984665640564039457584007913129639936+s1/115792089237316195423570985008687907853269984665640564039457584007913129639936)
 s3_eq:s3=s2 % 115792089237316195423570985008687907853269984665640564039457584007913129639936+38*(s2/115792089237316195423570985008687907853269984665640564039457584007913129639936)
theorem MulS.mod{w m s1 s2 s3:Nat}(h:MulS w m s1 s2 s3):s3 % p25=w % p25:=by
 obtain⟨h1,h2,h3,h4⟩:=h
 unfold p25
 omega
theorem MulS.small{w m s1 s2 s3:Nat}(h:MulS w m s1 s2 s3)(hw:w<13407807929942597099574024998205846127479365820592393377723561443721764030073546976801874298166903427690031858186486050853753882811946569946433649006084096):
    m/115792089237316195423570985008687907853269984665640564039457584007913129639936<38∧s1/115792089237316195423570985008687907853269984665640564039457584007913129639936≤1∧s2/115792089237316195423570985008687907853269984665640564039457584007913129639936≤1∧s3<115792089237316195423570985008687907853269984665640564039457584007913129639936:=by
 obtain⟨h1,h2,h3,h4⟩:=h
 refine⟨by omega,by omega,by omega,by omega⟩
end Go.Nam
end
section
namespace Go.Nam
theorem pow_high(a e j:Nat):a^(e/2^j) % p25=if e/2^j % 2=0 then (a^(e/2^(j+1)) % p25)*(a^(e/2^(j+1)) % p25) % p25 else ((a^(e/2^(j+1)) % p25)*(a^(e/2^(j+1)) % p25) % p25)*a % p25:=by
 have e1:e/2^j=2*(e/2^(j+1))+e/2^j % 2:=by
  rw[Nat.pow_succ,←Nat.div_div_eq_div_mul]
  omega
 rcases Nat.mod_two_eq_zero_or_one (e/2^j) with h|h
 ·rw[if_pos h]
  conv=>lhs;rw[e1,h,Nat.add_zero,Nat.two_mul,Nat.pow_add,Nat.mul_mod]
 ·rw[if_neg (by omega)]
  conv=>lhs;rw[e1,h,Nat.pow_succ,Nat.two_mul,Nat.pow_add,Nat.mul_mod,Nat.mul_mod (a^_)]
  conv=>rhs;rw[Nat.mul_mod,Nat.mod_mod]
def nc(a b:Nat):Nat:=(a+b) % p25
def nV(a b:Nat):Nat:=(a+(p25-b % p25) % p25) % p25
def mQ(a b:Nat):Nat:=a*b % p25
theorem oE(a b:Nat):nc a b<p25:=Nat.mod_lt _ (by decide)
theorem oD(a b:Nat):nV a b<p25:=Nat.mod_lt _ (by decide)
theorem fmul_lt(a b:Nat):mQ a b<p25:=Nat.mod_lt _ (by decide)
theorem fadd_mod(a b:Nat):nc (a % p25) (b % p25)=nc a b:=(Nat.add_mod a b p25).symm
theorem fsub_mod(a b:Nat):nV (a % p25) (b % p25)=nV a b:=by
 unfold nV
 rw[Nat.mod_mod,Nat.mod_add_mod]
structure L4 where
 a:Nat
 b:Nat
 c:Nat
 d:Nat
def L4.red(s:L4):L4:=⟨s.a % p25,s.b % p25,s.c % p25,s.d % p25⟩
def stepL(x:Nat)(s:L4):L4:=
 ⟨mQ (mQ (nc s.a s.b) (nc s.a s.b)) (mQ (nV s.a s.b) (nV s.a s.b)),
  mQ (nV (mQ (nc s.a s.b) (nc s.a s.b)) (mQ (nV s.a s.b) (nV s.a s.b))) (nc (mQ (nc s.a s.b) (nc s.a s.b)) (mQ 121665 (nV (mQ (nc s.a s.b) (nc s.a s.b)) (mQ (nV s.a s.b) (nV s.a s.b))))),
  mQ (nc (mQ (nV s.c s.d) (nc s.a s.b)) (mQ (nc s.c s.d) (nV s.a s.b))) (nc (mQ (nV s.c s.d) (nc s.a s.b)) (mQ (nc s.c s.d) (nV s.a s.b))),
  mQ x (mQ (nV (mQ (nV s.c s.d) (nc s.a s.b)) (mQ (nc s.c s.d) (nV s.a s.b))) (nV (mQ (nV s.c s.d) (nc s.a s.b)) (mQ (nc s.c s.d) (nV s.a s.b))))⟩
def my(bit:Nat)(s:L4):L4:=if bit=0 then s else ⟨s.c,s.d,s.a,s.b⟩
def turnL(x bit:Nat)(s:L4):L4:=my bit (stepL x (my bit s))
theorem stepL_red(x:Nat)(s:L4):stepL (x % p25) s.red=stepL x s:=by
 have hm:∀y,mQ (x % p25) y=mQ x y:=fun y=>by
  unfold mQ
  rw[Nat.mod_mul_mod]
 unfold stepL L4.red
 simp only[fadd_mod,fsub_mod,hm]
theorem swapL_red(bit:Nat)(s:L4):(my bit s).red=my bit s.red:=by
 unfold my L4.red
 split<;>rfl
theorem turnL_red(x bit:Nat)(s:L4):turnL (x % p25) bit s.red=turnL x bit s:=by
 unfold turnL
 rw[←swapL_red,stepL_red]
def mY(x:Nat)(bit:Nat→Nat)(s:L4):Nat→L4
 |0=>s
 |i+1=>turnL x (bit (254-i)) (mY x bit s i)
theorem climbL_red(x:Nat)(bit:Nat→Nat)(s:L4):∀i,0<i→mY (x % p25) bit s.red i=mY x bit s i
 |1,_=>turnL_red x (bit 254) s
 |i+2,_=>by
  rw[mY,climbL_red x bit s (i+1) (by omega)]
  show _=turnL x (bit (254-(i+1))) (mY x bit s (i+1))
  have h2:=turnL_red x (bit (254-(i+1))) (mY x bit s (i+1))
  have hr:(mY x bit s (i+1)).red=mY x bit s (i+1):=by
   show(turnL x (bit (254-i)) (mY x bit s i)).red=turnL x (bit (254-i)) (mY x bit s i)
   unfold turnL
   rw[swapL_red]
   congr 1
   unfold stepL L4.red
   simp only[mQ,Nat.mod_mod]
  rw[hr]at h2
  exact h2
end Go.Nam
end
section
namespace Go.Nam
open Go.Box
theorem numL_cons(x:UInt8)(l:List UInt8):lY (x::l)=x.toNat+256*lY l:=rfl
theorem numL_get:∀(l:List UInt8) (i:Nat),lY l/256^i % 256=(l.getD i 0).toNat
 |[],i=>by
  show 0/256^i % 256=_
  simp
 |x::l,0=>by
  have:=x.toNat_lt
  rw[numL_cons,Nat.pow_zero,Nat.div_one,List.getD_cons_zero]
  omega
 |x::l,i+1=>by
  have:=x.toNat_lt
  rw[List.getD_cons_succ,←numL_get l i,numL_cons,Nat.pow_succ,Nat.mul_comm (256^i),←Nat.div_div_eq_div_mul,show(x.toNat+256*lY l)/256=lY l by omega]
theorem numL_bit(l:List UInt8)(i:Nat):(l.getD (i/8) 0).toNat/2^(i % 8) % 2=lY l/2^i % 2:=by
 have h:=bit_of (lY l) (i/8) (i % 8) (Nat.mod_lt _ (by decide))
 rw[Nat.div_add_mod,numL_get]at h
 exact h
theorem numL_split(l:List UInt8)(h:l.length=32):lY l=lY (l.take 31)+256^31*(l.getD 31 0).toNat:=by
 have e:l=l.take 31++[l.getD 31 0]:=by
  conv=>lhs;rw[←List.take_append_drop 31 l]
  congr 1
  rw[List.drop_eq_getElem_cons (by omega),List.drop_eq_nil_of_le (by omega)]
  simp[List.getD,h]
 have hl:(l.take 31).length=31:=by rw[List.length_take];omega
 conv=>lhs;rw[e]
 rw[numL_append,hl]
 rfl
theorem numL_top(l:List UInt8)(h:l.length=32):lY (l.set 31 (l.getD 31 0 % 128))=lY l % 57896044618658097711785492504343953926634992332820282019728792003956564819968:=by
 have h1:=numL_split l h
 have h2:=numL_split (l.set 31 (l.getD 31 0 % 128)) (by rw[List.length_set,h])
 have h3:(l.set 31 (l.getD 31 0 % 128)).take 31=l.take 31:=by rw[List.take_set];exact List.set_eq_of_length_le (by rw[List.length_take];omega)
 have h4:(l.set 31 (l.getD 31 0 % 128)).getD 31 0=l.getD 31 0 % 128:=by simp[List.getD,h]
 have h5:(l.getD 31 0 % 128).toNat=(l.getD 31 0).toNat % 128:=by simp
 have h6:=pq (l.take 31)
 rw[List.length_take,h]at h6
 have h7:=(l.getD 31 0).toNat_lt
 rw[h3,h4,h5]at h2
 rw[h2,h1]
 generalize (l.getD 31 0).toNat=x at *
 generalize lY (l.take 31)=y at *
 clear h1 h2 h3 h4 h5
 have h6:y<256^31:=h6
 omega
def lN:Nat:=7237005577332262213973186563042994240857116359379907606001950938285454250989
theorem oU:0<lN:=by decide
theorem mod_turn(a m j:Nat)(hm:0<m):(a/2^j) % m=if 2*((a/2^(j+1)) % m)+a/2^j % 2<m then 2*((a/2^(j+1)) % m)+a/2^j % 2 else 2*((a/2^(j+1)) % m)+a/2^j % 2-m:=by
 have e1:a/2^j=2*(a/2^(j+1))+a/2^j % 2:=by
  rw[Nat.pow_succ,←Nat.div_div_eq_div_mul]
  omega
 have hb:a/2^j % 2<2:=Nat.mod_lt _ (by decide)
 have hl:=Nat.mod_lt (a/2^(j+1)) hm
 have e2:(a/2^j) % m=(2*((a/2^(j+1)) % m)+a/2^j % 2) % m:=by
  conv=>lhs;rw[e1]
  rw[Nat.add_mod,Nat.mul_mod,Nat.add_mod (2*_) ,Nat.mul_mod 2 (_ % m),Nat.mod_mod]
 rw[e2]
 generalize a/2^j % 2=b at *
 generalize a/2^(j+1) % m=l at *
 split
 ·exact Nat.mod_eq_of_lt (by assumption)
 ·rw[Nat.mod_eq_sub_mod (by omega),Nat.mod_eq_of_lt (by omega)]
theorem even_or{t b:Nat}(ht:t % 2=0)(hb:b≤1):t ||| b=t+b:=by
 obtain⟨u,rfl⟩:∃u,t=2^1*u:=⟨t/2,by omega⟩
 exact(Nat.two_pow_add_eq_or_of_lt (i:=1) (show b<2^1 by omega) u).symm
theorem words_bit{t b:Nat}(ht:t % 2=0)(hb:b≤1):(kZ 4 t).set 0 ((kZ 4 t).getD 0 0+b)=kZ 4 (t+b):=by
 show [t % 18446744073709551616+b,t/18446744073709551616 % 18446744073709551616,t/18446744073709551616/18446744073709551616 % 18446744073709551616,t/18446744073709551616/18446744073709551616/18446744073709551616 % 18446744073709551616]=[(t+b) % 18446744073709551616,(t+b)/18446744073709551616 % 18446744073709551616,(t+b)/18446744073709551616/18446744073709551616 % 18446744073709551616,(t+b)/18446744073709551616/18446744073709551616/18446744073709551616 % 18446744073709551616]
 have h1:(t+b)/18446744073709551616=t/18446744073709551616:=by omega
 rw[h1]
 congr 1
 omega
theorem words_sub{t m:Nat}(h:m≤t):kZ 4 (t+18446744073709551616^4-m)=kZ 4 (t-m):=by
 have e:t+18446744073709551616^4-m=(t-m)+115792089237316195423570985008687907853269984665640564039457584007913129639936:=by
  have:(18446744073709551616:Nat)^4=115792089237316195423570985008687907853269984665640564039457584007913129639936:=by decide
  omega
 rw[e,words_mod4]
theorem words_at(k n i:Nat)(hi:i<64*k):(kZ k n).getD (i/64) 0/2^(i % 64) % 2=n/2^i % 2:=by
 rw[mT k n (i/64) (by omega)]
 have h2:(18446744073709551616:Nat)=2^(i % 64)*2^(64-i % 64):=by
  rw[←Nat.pow_add,show i % 64+(64-i % 64)=64 by omega]
 have h3:(2:Nat)^(64-i % 64)=2*2^(63-i % 64):=by rw[show 64-i % 64=(63-i % 64)+1 by omega,Nat.pow_succ,Nat.mul_comm]
 have h4:(2:Nat)^i=18446744073709551616^(i/64)*2^(i % 64):=by
  rw[show(18446744073709551616:Nat)=2^64 from rfl,←Nat.pow_mul,←Nat.pow_add,Nat.div_add_mod]
 rw[h4,←Nat.div_div_eq_div_mul]
 generalize n/18446744073709551616^(i/64)=y
 conv=>lhs;rw[h2]
 rw[Nat.mod_mul_right_div_self,h3,Nat.mod_mul_right_mod]
end Go.Nam
end
section
namespace Go.Nam
def timesW(n:Nat)(p:W4):Nat→W4
 |0=>wzero
 |i+1=>if n/2^(255-i) % 2=0 then rM (timesW n p i) (timesW n p i) else rM (rM (timesW n p i) (timesW n p i)) p
theorem timesW_rep{n:Nat}(hn:n<2^256){w:W4}{p:Pt}(hw:w.Rep p)(hp:p.on):∀i,i≤256→(timesW n w i).Rep (mF (n/2^(256-i)) p)
 |0,_=>by
  rw[Nat.sub_zero,Nat.div_eq_of_lt hn]
  exact wzero_rep
 |i+1,h=>by
  have ih:=timesW_rep hn hw hp i (by omega)
  have hon:=smul_on hp (n/2^(256-i))
  have hd:=wadd_rep ih ih hon hon
  have e:n/2^(255-i)=2*(n/2^(256-i))+n/2^(255-i) % 2:=by
   rw[show 256-i=(255-i)+1 by omega,Nat.pow_succ,←Nat.div_div_eq_div_mul]
   omega
  rw[show 256-(i+1)=255-i by omega,timesW]
  have hb2:n/2^(255-i) % 2<2:=Nat.mod_lt _ (by decide)
  generalize n/2^(255-i) % 2=b at *
  rw[e]
  by_cases hb:b=0
  ·rw[if_pos hb,hb,Nat.add_zero,smul_two hp]
   exact hd
  ·have hb1:b=1:=by
    have:n/2^(255-i) % 2<2:=Nat.mod_lt _ (by decide)
    omega
   rw[if_neg hb,hb1,mF,smul_two hp]
   exact wadd_rep hd hw (padd_on hon hon) hp
theorem timesW_all{n:Nat}(hn:n<2^256){w:W4}{p:Pt}(hw:w.Rep p)(hp:p.on):(timesW n w 256).Rep (mF n p):=by
 have h:=timesW_rep hn hw hp 256 (Nat.le_refl _)
 rw[Nat.sub_self,Nat.pow_zero,Nat.div_one]at h
 exact h
def mN(n:Nat)(p:W3):Nat→W3 × W3
 |0=>(wnought,p)
 |i+1=>(if n/2^i % 2=1 then pU (mN n p i).1 (mN n p i).2 else (mN n p i).1,pU (mN n p i).2 (mN n p i).2)
theorem timesL_rep(n:Nat){w:W3}{p:Pt}(hw:w.Rep p)(hp:p.on):∀i,(mN n w i).1.Rep (mF (n % 2^i) p)∧(mN n w i).2.Rep (mF (2^i) p)
 |0=>by
  rw[Nat.pow_zero,Nat.mod_one,smul_one]
  exact⟨wnought_rep,hw⟩
 |i+1=>by
  obtain⟨h1,h2⟩:=timesL_rep n hw hp i
  have o1:=smul_on hp (n % 2^i)
  have o2:=smul_on hp (2^i)
  have e:n % 2^(i+1)=n % 2^i+2^i*(n/2^i % 2):=Nat.mod_pow_succ ..
  rw[mN]
  constructor
  ·rw[e]
   have hb2:n/2^i % 2<2:=Nat.mod_lt _ (by decide)
   generalize n/2^i % 2=b at *
   by_cases h:b=1
   ·simp only[if_pos h]
    rw[h,Nat.mul_one,smul_add hp]
    exact wplus_rep h1 h2 o1 o2
   ·have h0:b=0:=by omega
    simp only[if_neg h]
    rw[h0,Nat.mul_zero,Nat.add_zero]
    exact h1
  ·rw[Nat.pow_succ,Nat.mul_comm,smul_two hp]
   exact wplus_rep h2 h2 o2 o2
theorem timesL_all{n k:Nat}(hn:n<2^k){w:W3}{p:Pt}(hw:w.Rep p)(hp:p.on):(mN n w k).1.Rep (mF n p):=by
 have h:=(timesL_rep n hw hp k).1
 rw[Nat.mod_eq_of_lt hn]at h
 exact h
def basP:Pt:=⟨⟨15112221349535400772501151409588531511454012693041857206046113283949847762202,by decide⟩,⟨46316835694926478169428394003475163141307993866256225615783033603165251855960,by decide⟩⟩
theorem qK:basP.on:=by
 unfold Pt.on On
 decide +kernel
theorem bas_y:(4:Fq)*inv 5=basP.y:=by
 have hn:(5:Fq)≠0:=by decide +kernel
 refine cancel hn ?_
 rw[inv_den hn]
 decide +kernel
def uN:Nat:=26187595835145689230469591415084376402084551887632582719101735842039498021991
def r0N:Nat:=42783823269122696939284341094755422415180979639778424813682678720006717057747
theorem u_lt:uN<p25:=by decide +kernel
theorem u_is:(basP.y*basP.y-1)*inv (1+dE*(basP.y*basP.y))=⟨uN,u_lt⟩:=by
 have hn:=den_ne basP.y
 refine cancel hn ?_
 rw[inv_den hn]
 decide +kernel
theorem u_pow:uN^((p25+3)/8) % p25=r0N:=pow_is 256 (by decide +kernel) (by decide +kernel)
end Go.Nam
end
