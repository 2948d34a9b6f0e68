/-
  Several texts in one: each says what it proves.
  Conditions: none. Lemmas only.
-/
import Derived.Test.YtcncplameclkfaaGreatDoorAbsG1
set_option linter.all false
section
namespace Go.Nam
def Pr(n:Nat):Prop:=1<n∧∀m,m ∣ n→m=1∨m=n
theorem Pr.cop{r a:Nat}(h:Pr r)(ha:¬r ∣ a):Nat.Coprime r a:=by
 rcases h.2 _ (Nat.gcd_dvd_left r a) with e|e
 ·exact e
 ·exact absurd (e ▸ Nat.gcd_dvd_right r a) ha
theorem Pr.mul{r a b:Nat}(h:Pr r)(hd:r ∣ a*b):r ∣ a∨r ∣ b:=by
 by_cases ha:r ∣ a
 ·exact .inl ha
 ·exact .inr ((h.cop ha).dvd_of_dvd_mul_left hd)
theorem has_prime:∀n,1<n→Pr n∨∃r,Pr r∧r ∣ n∧r*r≤n:=by
 intro n
 induction n using Nat.strongRecOn with
 |ind n ih=>
  intro hn
  by_cases hp:Pr n
  ·exact .inl hp
  ·right
   have:∃m,m ∣ n∧m≠1∧m≠n:=Classical.byContradiction fun hc=>hp ⟨hn,fun m hm=>Classical.byContradiction fun h2=>hc ⟨m,hm,fun e=>h2 (.inl e),fun e=>h2 (.inr e)⟩⟩
   obtain⟨m,⟨k,hk⟩,h1,h2⟩:=this
   have hm0:0<m:=Nat.pos_of_ne_zero fun e=>by subst e;rw[Nat.zero_mul]at hk;omega
   have hk0:0<k:=Nat.pos_of_ne_zero fun e=>by subst e;rw[Nat.mul_zero]at hk;omega
   have hk1:k≠1:=fun e=>by subst e;rw[Nat.mul_one]at hk;exact h2 hk.symm
   have hmn:m<n:=by
    rw[hk]
    exact(Nat.lt_mul_iff_one_lt_right hm0).2 (by omega)
   have hkn:k<n:=by
    rw[hk]
    exact(Nat.lt_mul_iff_one_lt_left hk0).2 (by omega)
   have key:∀s,1<s→s<n→s ∣ n→s*s≤n→∃r,Pr r∧r ∣ n∧r*r≤n:=by
    intro s hs hsn hd hss
    rcases ih s hsn hs with hp|⟨r,hr,hrs,hrr⟩
    ·exact⟨s,hp,hd,hss⟩
    ·exact⟨r,hr,Nat.dvd_trans hrs hd,by omega⟩
   by_cases hle:m≤k
   ·exact key m (by omega) hmn ⟨k,hk⟩ (by rw[hk];exact Nat.mul_le_mul_left _ hle)
   ·exact key k (by omega) hkn ⟨m,by rw[hk,Nat.mul_comm]⟩ (by rw[hk];exact Nat.mul_le_mul_right _ (by omega))
theorem prime_try{n k:Nat}(hn:1<n)(hk:n<k*k)(h:(List.range k).all (fun m=>m<2 || n % m != 0)=true):Pr n:=by
 rcases has_prime n hn with h1|⟨r,hr,hd,hrr⟩
 ·exact h1
 ·have hrk:r<k:=Nat.lt_of_not_le fun hle=>by
   have:=Nat.mul_le_mul hle hle
   omega
  have:=List.all_eq_true.1 h r (List.mem_range.2 hrk)
  simp only[Bool.or_eq_true,decide_eq_true_eq,bne_iff_ne,ne_eq]at this
  rcases this with h3|h3
  ·have:=hr.1;omega
  ·exact absurd (Nat.mod_eq_zero_of_dvd hd) h3
def rD:List Nat→Nat
 |[]=>1
 |x::l=>x*rD l
theorem prodL_perm{a b:List Nat}(h:a.Perm b):rD a=rD b:=by
 induction h with
 |nil=>rfl
 |cons x _ ih=>simp only[rD,ih]
 |swap x y l=>simp only[rD];rw[←Nat.mul_assoc,Nat.mul_comm y x,Nat.mul_assoc]
 |trans _ _ h1 h2=>exact h1.trans h2
theorem perm_of_sub:∀ {a b:List Nat},a.Nodup→(∀x∈a,x∈b)→b.length≤a.length→a.Perm b
 |[],b,_,_,hl=>by
  have:b=[]:=List.length_eq_zero_iff.1 (by simpa using hl)
  subst this
  exact .nil
 |x::a,b,hn,hs,hl=>by
  have hx:=hs x (List.mem_cons_self ..)
  have hp:=List.perm_cons_erase hx
  have hn':=List.nodup_cons.1 hn
  have hlen:=List.length_erase_of_mem hx
  have hpos:0<b.length:=List.length_pos_of_mem hx
  have ih:=perm_of_sub (a:=a) (b:=b.erase x) hn'.2 (fun y hy=>by
   have hyx:y≠x:=fun e=>hn'.1 (e ▸ hy)
   exact(List.mem_erase_of_ne hyx).2 (hs y (List.mem_cons_of_mem _ hy))) (by rw[hlen];simp only[List.length_cons]at hl;omega)
  exact(ih.cons x).trans hp.symm
theorem prodL_map(r a:Nat):∀l:List Nat,rD (l.map fun k=>a*k % r) % r=a^l.length*rD l % r
 |[]=>by simp[rD]
 |k::l=>by
  simp only[List.map_cons,rD,List.length_cons]
  rw[Nat.mul_mod,Nat.mod_mod,prodL_map r a l,←Nat.mul_mod,Nat.pow_succ]
  congr 1
  simp only[Nat.mul_assoc,Nat.mul_comm,Nat.mul_left_comm]
theorem prodL_not{r:Nat}(h:Pr r):∀l:List Nat,(∀x∈l,¬r ∣ x)→¬r ∣ rD l
 |[],_=>fun hd=>by
  have:=Nat.le_of_dvd (by decide) hd
  have:=h.1
  simp only[rD]at *
  omega
 |x::l,hx=>fun hd=>by
  rcases h.mul hd with h1|h1
  ·exact hx x (List.mem_cons_self ..) h1
  ·exact prodL_not h l (fun y hy=>hx y (List.mem_cons_of_mem _ hy)) h1
def upTo(r:Nat):List Nat:=(List.range (r-1)).map (· + 1)
theorem mem_upTo{r k:Nat}:k∈upTo r↔0<k∧k<r:=by
 unfold upTo
 rw[List.mem_map]
 constructor
 ·rintro⟨j,hj,rfl⟩
  have:=List.mem_range.1 hj
  omega
 ·rintro⟨h1,h2⟩
  exact⟨k-1,List.mem_range.2 (by omega),by omega⟩
theorem upTo_len(r:Nat):(upTo r).length=r-1:=by simp[upTo]
theorem upTo_nodup(r:Nat):(upTo r).Nodup:=by
 unfold upTo
 rw[List.Nodup,List.pairwise_map]
 exact List.nodup_range.imp fun h e=>h (by omega)
theorem fermat{r a:Nat}(h:Pr r)(ha:¬r ∣ a):a^(r-1) % r=1:=by
 have hr:=h.1
 have hinj:∀k k',0<k→k<k'→k'<r→a*k % r≠a*k' % r:=fun k k' h0 h1 h2 e=>by
  have hd:=Nat.dvd_of_mod_eq_zero (Nat.sub_mod_eq_zero_of_mod_eq e.symm)
  rw[←Nat.mul_sub]at hd
  rcases h.mul hd with h3|h3
  ·exact ha h3
  ·have:=Nat.le_of_dvd (by omega) h3
   omega
 have hnd:((upTo r).map fun k=>a*k % r).Nodup:=by
  rw[List.Nodup,List.pairwise_map]
  refine List.Pairwise.imp_of_mem (fun {x y} hx hy hne=>?_) (upTo_nodup r)
  have h1:=mem_upTo.1 hx
  have h2:=mem_upTo.1 hy
  intro e
  rcases Nat.lt_or_gt_of_ne hne with h3|h3
  ·exact hinj x y h1.1 h3 h2.2 e
  ·exact hinj y x h2.1 h3 h1.2 e.symm
 have hsub:∀x∈(upTo r).map (fun k=>a*k % r),x∈upTo r:=fun x hx=>by
  obtain⟨k,hk,rfl⟩:=List.mem_map.1 hx
  have hk:=mem_upTo.1 hk
  refine mem_upTo.2 ⟨Nat.pos_of_ne_zero fun e=>?_,Nat.mod_lt _ (by omega)⟩
  rcases h.mul (Nat.dvd_of_mod_eq_zero e) with h3|h3
  ·exact ha h3
  ·have:=Nat.le_of_dvd hk.1 h3
   omega
 have hp:=prodL_perm (perm_of_sub hnd hsub (by rw[List.length_map];exact Nat.le_refl _))
 have hm:=prodL_map r a (upTo r)
 rw[hp,upTo_len]at hm
 have hnot:=prodL_not h (upTo r) fun x hx hd=>by
  have h1:=mem_upTo.1 hx
  have:=Nat.le_of_dvd h1.1 hd
  omega
 have hpos:0<a^(r-1):=Nat.pow_pos (Nat.pos_of_ne_zero fun e=>ha (e ▸ Nat.dvd_zero r))
 have hd:=Nat.dvd_of_mod_eq_zero (Nat.sub_mod_eq_zero_of_mod_eq hm.symm)
 rw[show a^(r-1)*rD (upTo r)-rD (upTo r)=(a^(r-1)-1)*rD (upTo r) by rw[Nat.sub_mul,Nat.one_mul]]at hd
 rcases h.mul hd with h3|h3
 ·obtain⟨c,hc⟩:=h3
  have e:a^(r-1)=1+r*c:=by omega
  rw[e,Nat.add_mul_mod_self_left]
  exact Nat.mod_eq_of_lt hr
 ·exact absurd h3 hnot
theorem pow_mod_one{r b k:Nat}(h:b^k % r=1 % r)(m:Nat):b^(k*m) % r=1 % r:=by
 rw[Nat.pow_mul,Nat.pow_mod,h,←Nat.pow_mod,Nat.one_pow]
theorem pow_rest{r b k n:Nat}(h:b^k % r=1 % r)(hn:b^n % r=1 % r):b^(n % k) % r=1 % r:=by
 have e:n=k*(n/k)+n % k:=(Nat.div_add_mod n k).symm
 rw[e,Nat.pow_add,Nat.mul_mod,pow_mod_one h,←Nat.mul_mod,Nat.one_mul]at hn
 exact hn
theorem pow_gcd{r b:Nat}:∀(n m:Nat),b^n % r=1 % r→b^m % r=1 % r→b^(Nat.gcd n m) % r=1 % r:=by
 intro n
 induction n using Nat.strongRecOn with
 |ind n ih=>
  intro m h1 h2
  by_cases h0:n=0
  ·subst h0
   rw[Nat.gcd_zero_left]
   exact h2
  ·rw[Nat.gcd_rec]
   exact ih (m % n) (Nat.mod_lt _ (by omega)) n (pow_rest h1 h2) h1
theorem pock{N r q a:Nat}(hr:Pr r)(hq:Pr q)(hrN:r ∣ N)(hqN:q ∣ N-1)(h1:a^(N-1) % N=1)(hg:Nat.gcd (a^((N-1)/q) % N+(N-1)) N=1)(hN:1<N):q ∣ r-1:=by
 obtain⟨c,hc⟩:=hrN
 have hr1:=hr.1
 have h1r:a^(N-1) % r=1:=by
  have:a^(N-1) % N % r=1 % r:=by rw[h1]
  rw[hc]at this
  rw[Nat.mod_mul_right_mod]at this
  rw[hc,this]
  exact Nat.mod_eq_of_lt hr1
 have hra:¬r ∣ a:=fun hd=>by
  have h0:0<N-1:=by omega
  have:r ∣ a^(N-1):=by
   obtain⟨j,hj⟩:∃j,N-1=j+1:=⟨N-2,by omega⟩
   rw[hj,Nat.pow_succ]
   exact Nat.dvd_trans hd (Nat.dvd_mul_left _ _)
  rw[Nat.mod_eq_zero_of_dvd this]at h1r
  exact absurd h1r (by decide)
 refine Classical.byContradiction fun hnd=>?_
 have hcop:=hq.cop hnd
 have hm1:1 % r=1:=Nat.mod_eq_of_lt hr1
 have hf:=fermat hr hra
 have hb1:(a^((N-1)/q))^q % r=1 % r:=by
  rw[←Nat.pow_mul,Nat.div_mul_cancel hqN,h1r,hm1]
 have hb2:(a^((N-1)/q))^(r-1) % r=1 % r:=by
  rw[←Nat.pow_mul,Nat.mul_comm,Nat.pow_mul,Nat.pow_mod,hf,Nat.one_pow]
 have hb:=pow_gcd q (r-1) hb1 hb2
 rw[hcop,Nat.pow_one,hm1]at hb
 have hdv:r ∣ a^((N-1)/q) % N+(N-1):=by
  have e1:a^((N-1)/q) % N % r=1:=by
   rw[hc,Nat.mod_mul_right_mod,←hc]
   exact hb
  refine Nat.dvd_of_mod_eq_zero ?_
  rw[Nat.add_mod,e1]
  have e2:(1+(N-1)) % r=0:=by
   rw[show 1+(N-1)=N by omega,hc]
   exact Nat.mul_mod_right ..
  rw[Nat.add_mod,hm1]at e2
  exact e2
 have:=Nat.dvd_gcd hdv ⟨c,hc⟩
 rw[hg]at this
 have:=Nat.le_of_dvd (by decide) this
 omega
def powM(n:Nat):Nat→Nat→Nat→Nat→Nat
 |0,_,_,acc=>acc % n
 |f+1,a,e,acc=>if e=0 then acc % n else powM n f (a*a % n) (e/2) (if e % 2=1 then acc*a % n else acc)
theorem powM_eq(n:Nat):∀f a e acc,e<2^f→powM n f a e acc=acc*a^e % n
 |0,a,e,acc,h=>by
  have:e=0:=by simpa using h
  subst this
  simp[powM]
 |f+1,a,e,acc,h=>by
  unfold powM
  by_cases h0:e=0
  ·subst h0
   simp
  ·rw[if_neg h0,powM_eq n f _ _ _ (by rw[Nat.pow_succ]at h;omega)]
   have he:e=2*(e/2)+e % 2:=by omega
   have hp:(a*a % n)^(e/2) % n=(a*a)^(e/2) % n:=(Nat.pow_mod _ _ _).symm
   have hq:a^e=(a*a)^(e/2)*a^(e % 2):=by
    conv=>lhs;rw[he]
    rw[Nat.pow_add,Nat.pow_mul,Nat.pow_two]
   rw[hq]
   by_cases h1:e % 2=1
   ·rw[if_pos h1,h1,Nat.pow_one,Nat.mul_mod,hp,Nat.mod_mod,←Nat.mul_mod]
    congr 1
    simp only[Nat.mul_assoc,Nat.mul_comm,Nat.mul_left_comm]
   ·rw[if_neg h1,show e % 2=0 by omega,Nat.pow_zero,Nat.mul_one,Nat.mul_mod,hp,←Nat.mul_mod]
theorem prime_two{N q1 q2 a:Nat}(f:Nat)(h1:Pr q1)(h2:Pr q2)(hne:Nat.gcd q1 q2=1)(hd1:(N-1) % q1=0)(hd2:(N-1) % q2=0)(hN:1<N)(hf:N<2^f)(hF:N<q1*q2*(q1*q2))(ha:powM N f a (N-1) 1=1)
    (g1:Nat.gcd (powM N f a ((N-1)/q1) 1+(N-1)) N=1) (g2:Nat.gcd (powM N f a ((N-1)/q2) 1+(N-1)) N=1):Pr N:=by
 rw[powM_eq N f a _ 1 (by omega),Nat.one_mul]at ha
 rw[powM_eq N f a _ 1 (Nat.lt_of_le_of_lt (Nat.div_le_self _ _) (by omega)),Nat.one_mul]at g1 g2
 rcases has_prime N hN with h|⟨r,hr,hd,hrr⟩
 ·exact h
 ·have k1:=pock hr h1 hd (Nat.dvd_of_mod_eq_zero hd1) ha g1 hN
  have k2:=pock hr h2 hd (Nat.dvd_of_mod_eq_zero hd2) ha g2 hN
  have k3:=Nat.Coprime.mul_dvd_of_dvd_of_dvd hne k1 k2
  have hr1:=hr.1
  have:=Nat.le_of_dvd (by omega) k3
  have hle:q1*q2≤r:=by omega
  have:=Nat.mul_le_mul hle hle
  omega
theorem prime_one{N q a:Nat}(f:Nat)(h1:Pr q)(hd1:(N-1) % q=0)(hN:1<N)(hf:N<2^f)(hF:N<q*q)(ha:powM N f a (N-1) 1=1)
    (g1:Nat.gcd (powM N f a ((N-1)/q) 1+(N-1)) N=1):Pr N:=by
 rw[powM_eq N f a _ 1 (by omega),Nat.one_mul]at ha
 rw[powM_eq N f a _ 1 (Nat.lt_of_le_of_lt (Nat.div_le_self _ _) (by omega)),Nat.one_mul]at g1
 rcases has_prime N hN with h|⟨r,hr,hd,hrr⟩
 ·exact h
 ·have k1:=pock hr h1 hd (Nat.dvd_of_mod_eq_zero hd1) ha g1 hN
  have hr1:=hr.1
  have:=Nat.le_of_dvd (by omega) k1
  have hle:q≤r:=by omega
  have:=Nat.mul_le_mul hle hle
  omega
theorem pow_is{n a e x:Nat}(f:Nat)(he:e<2^f)(h:powM n f a e 1=x):a^e % n=x:=by
 rw[←h,powM_eq n f a e 1 he,Nat.one_mul]
theorem pr_a:Pr 8574133:=prime_try (k:=2929) (by decide) (by decide) (by decide +kernel)
theorem pr_127:Pr 127:=prime_try (k:=12) (by decide) (by decide) (by decide +kernel)
theorem pr_353:Pr 353:=prime_try (k:=19) (by decide) (by decide) (by decide +kernel)
theorem pr_b:Pr 75707:=prime_try (k:=276) (by decide) (by decide) (by decide +kernel)
theorem pr_c:Pr 1919519569386763:=prime_two (a:=2) 64 pr_a pr_127 (by decide +kernel) (by decide +kernel) (by decide +kernel) (by decide +kernel) (by decide +kernel) (by decide +kernel) (by decide +kernel) (by decide +kernel) (by decide +kernel)
theorem pr_d:Pr 75445702479781427272750846543864801:=prime_two (a:=2) 128 pr_c pr_b (by decide +kernel) (by decide +kernel) (by decide +kernel) (by decide +kernel) (by decide +kernel) (by decide +kernel) (by decide +kernel) (by decide +kernel) (by decide +kernel)
theorem pr_e:Pr 74058212732561358302231226437062788676166966415465897661863160754340907:=prime_two (a:=2) 256 pr_d pr_353 (by decide +kernel) (by decide +kernel) (by decide +kernel) (by decide +kernel) (by decide +kernel) (by decide +kernel) (by decide +kernel) (by decide +kernel) (by decide +kernel)
abbrev p25:Nat:=57896044618658097711785492504343953926634992332820282019728792003956564819949
theorem pr_p25:Pr p25:=prime_one (a:=2) 256 pr_e (by decide +kernel) (by decide +kernel) (by decide +kernel) (by decide +kernel) (by decide +kernel) (by decide +kernel)
end Go.Nam
end
section
namespace Go.Nam
abbrev Fq:=Fin p25
instance:NeZero p25:=⟨by decide⟩
theorem val_ne{a:Fq}(h:a≠0):¬p25 ∣ a.val:=fun hd=>by
 have:=a.isLt
 have h0:a.val≠0:=fun e=>h (Fin.ext e)
 have:=Nat.le_of_dvd (by omega) hd
 omega
def fpow(a:Fq)(e:Nat):Fq:=⟨a.val^e % p25,Nat.mod_lt _ (by decide)⟩
def inv(a:Fq):Fq:=fpow a (p25-2)
theorem rG{a:Fq}(h:a≠0):a*inv a=1:=by
 apply Fin.ext
 have hf:=fermat pr_p25 (val_ne h)
 show a.val*(a.val^(p25-2) % p25) % p25=1
 rw[Nat.mul_mod,Nat.mod_mod,←Nat.mul_mod]
 have e:a.val^(p25-1)=a.val*a.val^(p25-2):=by
  rw[show p25-1=(p25-2)+1 from rfl,Nat.pow_succ,Nat.mul_comm]
 rw[←e]
 exact hf
theorem nZ{a b:Fq}(ha:a≠0)(hb:b≠0):a*b≠0:=fun h=>by
 have h1:=rG ha
 have:b=0:=by
  have:inv a*(a*b)=0:=by rw[h];grind -lia -linarith
  grind -lia -linarith
 exact hb this
theorem sq_pow{x:Nat}(hx:¬p25 ∣ x):(x*x % p25)^((p25-1)/2) % p25=1:=by
 rw[←Nat.pow_mod,←Nat.pow_two,←Nat.pow_mul,show 2*((p25-1)/2)=p25-1 by decide +kernel]
 exact fermat pr_p25 hx
def dE:Fq:=⟨37095705934669439343138083508754565189542113879843219016388785533085940283555,by decide⟩
def iE:Fq:=⟨19681161376707505956807079304988542015446066515923890162744021073123829784752,by decide⟩
theorem I_sq:iE*iE = -1:=by decide +kernel
theorem D_pow:dE.val^((p25-1)/2) % p25=p25-1:=pow_is 256 (by decide +kernel) (by decide +kernel)
theorem D_ne:dE≠0:=by decide +kernel
theorem nonsq(x:Fq):x*x≠dE:=fun h=>by
 have hx:x≠0:=fun e=>D_ne (by rw[←h,e];grind -lia -linarith)
 have h1:=sq_pow (val_ne hx)
 have h2:x.val*x.val % p25=dE.val:=congrArg Fin.val h
 rw[h2,D_pow]at h1
 exact absurd h1 (by decide +kernel)
def On(x y:Fq):Prop:=y*y-x*x=1+dE*x*x*y*y
theorem sP:(1:Fq)≠0:=by decide +kernel
theorem no_one{x1 y1 x2 y2:Fq}(h1:On x1 y1)(h2:On x2 y2):(dE*x1*x2*y1*y2)*(dE*x1*x2*y1*y2)≠1:=fun he=>by
 unfold On at h1 h2
 have hI:=I_sq
 have hz:x1*y1≠0:=fun h0=>sP (by
  have:dE*x1*x2*y1*y2=dE*x2*y2*(x1*y1):=by grind -lia -linarith
  rw[this,h0]at he
  grind -lia -linarith)
 have hz2:x2≠0:=fun h0=>sP (by rw[h0]at he;grind -lia -linarith)
 have key:∀J:Fq,J*J = -1→y2+J*x2≠0→False:=fun J hJ hn=>by
  have k:(y1+dE*x1*x2*y1*y2*J*x1)*(y1+dE*x1*x2*y1*y2*J*x1)=dE*(x1*y1*(y2+J*x2))*(x1*y1*(y2+J*x2)):=by
   generalize dE=d at *
   grind -lia -linarith
  have hw:=nZ hz hn
  generalize x1*y1*(y2+J*x2)=w at *
  generalize y1+dE*x1*x2*y1*y2*J*x1=t at *
  have hwi:=rG hw
  refine nonsq (t*inv w) ?_
  have:t*inv w*(t*inv w)=dE*(w*inv w)*(w*inv w):=by
   generalize dE=d at *
   grind -lia -linarith
  rw[this,hwi]
  grind -lia -linarith
 by_cases hc:y2+iE*x2=0
 ·refine key (-iE) (by grind -lia -linarith) fun h3=>?_
  have hy:y2+y2=0:=by grind -lia -linarith
  have hy0:y2=0:=Classical.byContradiction fun hne=>nZ (show(2:Fq)≠0 by decide +kernel) hne (by grind -lia -linarith)
  rw[hy0]at he
  exact sP (by grind -lia -linarith)
 ·exact key iE hI hc
theorem low_ne{x1 y1 x2 y2:Fq}(h1:On x1 y1)(h2:On x2 y2):1+dE*x1*x2*y1*y2≠0∧1-dE*x1*x2*y1*y2≠0:=by
 have h:=no_one h1 h2
 generalize dE*x1*x2*y1*y2=e at *
 constructor
 ·intro h0
  exact h (by grind -lia -linarith)
 ·intro h0
  exact h (by grind -lia -linarith)
end Go.Nam
end
section
set_option maxHeartbeats 2000000
namespace Go.Nam
theorem cancel{a b w:Fq}(hw:w≠0)(h:a*w=b*w):a=b:=by
 have hi:=rG hw
 have:a*(w*inv w)=b*(w*inv w):=by
  generalize inv w=v at *
  grind -lia -linarith
 rw[hi]at this
 grind -lia -linarith
theorem inv_den{a w:Fq}(hw:w≠0):a*inv w*w=a:=by
 have hi:=rG hw
 generalize inv w=v at *
 grind -lia -linarith
structure Pt where
 x:Fq
 y:Fq
theorem Pt.eq{p q:Pt}(h1:p.x=q.x)(h2:p.y=q.y):p=q:=by
 cases p
 cases q
 simp only at h1 h2
 rw[h1,h2]
abbrev Pt.on(p:Pt):Prop:=On p.x p.y
def mZ(p q:Pt):Pt:=⟨(p.x*q.y+p.y*q.x)*inv (1+dE*p.x*q.x*p.y*q.y),(p.y*q.y+p.x*q.x)*inv (1-dE*p.x*q.x*p.y*q.y)⟩
def zeroP:Pt:=⟨0,1⟩
def qL(p:Pt):Pt:=⟨-p.x,p.y⟩
theorem padd_x{p q:Pt}(hp:p.on)(hq:q.on):(mZ p q).x*(1+dE*p.x*q.x*p.y*q.y)=p.x*q.y+p.y*q.x:=inv_den (low_ne hp hq).1
theorem padd_y{p q:Pt}(hp:p.on)(hq:q.on):(mZ p q).y*(1-dE*p.x*q.x*p.y*q.y)=p.y*q.y+p.x*q.x:=inv_den (low_ne hp hq).2
theorem padd_on{p q:Pt}(hp:p.on)(hq:q.on):(mZ p q).on:=by
 have hx:=padd_x hp hq
 have hy:=padd_y hp hq
 obtain⟨n1,n2⟩:=low_ne hp hq
 have hn:=nZ (nZ n1 n2) (nZ n1 n2)
 unfold Pt.on On at *
 generalize (mZ p q).x=X at *
 generalize (mZ p q).y=Y at *
 obtain⟨x1,y1⟩:=p
 obtain⟨x2,y2⟩:=q
 simp only at *
 generalize dE=d at *
 refine cancel hn ?_
 have c : ((y1 * y2 + x1 * x2) * (y1 * y2 + x1 * x2) * (1 + d * x1 * x2 * y1 * y2) * (1 + d * x1 * x2 * y1 * y2) - (x1 * y2 + y1 * x2) * (x1 * y2 + y1 * x2) * (1 - d * x1 * x2 * y1 * y2) * (1 - d * x1 * x2 * y1 * y2))
     = (1+d*x1*x2*y1*y2)*(1-d*x1*x2*y1*y2)*((1+d*x1*x2*y1*y2)*(1-d*x1*x2*y1*y2))+d*((x1*y2+y1*x2)*(x1*y2+y1*x2))*((y1*y2+x1*x2)*(y1*y2+x1*x2)):=by
  clear hx hy n1 n2 hn X Y
  grind -lia -linarith
 clear hp hq n1 n2 hn
 rw[←hx,←hy]at c
 generalize d*x1*x2*y1*y2=e at *
 clear hx hy
 grind -lia -linarith
theorem padd_comm(p q:Pt):mZ p q=mZ q p:=by
 obtain⟨x1,y1⟩:=p
 obtain⟨x2,y2⟩:=q
 unfold mZ
 simp only[Pt.mk.injEq]
 rw[show dE*x1*x2*y1*y2=dE*x2*x1*y2*y1 by grind -lia -linarith,show x1*y2+y1*x2=x2*y1+y2*x1 by grind -lia -linarith,show y1*y2+x1*x2=y2*y1+x2*x1 by grind -lia -linarith]
 exact⟨rfl,rfl⟩
theorem inv_one:inv 1=1:=by
 have:=rG sP
 grind -lia -linarith
theorem zero_on:zeroP.on:=by
 unfold Pt.on On zeroP
 simp only
 generalize dE=d
 grind -lia -linarith
theorem neg_on{p:Pt}(h:p.on):(qL p).on:=by
 unfold Pt.on On qL at *
 simp only
 generalize dE=d at *
 grind -lia -linarith
theorem padd_zero(p:Pt):mZ p zeroP=p:=by
 obtain⟨x,y⟩:=p
 unfold mZ zeroP
 simp only[Pt.mk.injEq]
 have e1:1+dE*x*0*y*1=1:=by grind -lia -linarith
 have e2:1-dE*x*0*y*1=1:=by grind -lia -linarith
 rw[e1,e2,inv_one]
 constructor<;>grind -lia -linarith
theorem padd_neg{p:Pt}(h:p.on):mZ p (qL p)=zeroP:=by
 have hx:=padd_x h (neg_on h)
 have hy:=padd_y h (neg_on h)
 obtain⟨n1,n2⟩:=low_ne h (neg_on h)
 apply Pt.eq
 ·refine cancel n1 ?_
  rw[hx]
  obtain⟨x,y⟩:=p
  unfold qL zeroP
  simp only
  generalize dE=d
  grind -lia -linarith
 ·refine cancel n2 ?_
  rw[hy]
  obtain⟨x,y⟩:=p
  unfold Pt.on On at h
  unfold qL zeroP
  simp only at *
  clear hx hy n1 n2
  generalize dE=d at *
  grind -lia -linarith
theorem assoc_x_id(d x1 y1 x2 y2 x3 y3:Fq):(((x1*y2+y1*x2)*y3*(1-d*x1*x2*y1*y2)+(y1*y2+x1*x2)*x3*(1+d*x1*x2*y1*y2))*(1-(d*x2*x3*y2*y3)*(d*x2*x3*y2*y3)+d*(x2*y3+y2*x3)*(y2*y3+x2*x3)*x1*y1))-((x1*(y2*y3+x2*x3)*(1+d*x2*x3*y2*y3)+y1*(x2*y3+y2*x3)*(1-d*x2*x3*y2*y3))*(1-(d*x1*x2*y1*y2)*(d*x1*x2*y1*y2)+d*(x1*y2+y1*x2)*(y1*y2+x1*x2)*x3*y3))=(0-d*d*x1*x2*x2*x2*x2*y2*y2*y2*x3*x3*y3-d*d*x1*x2*x2*x2*y2*y2*y2*y2*x3*y3*y3+d*d*y1*x2*x2*x2*x2*y2*y2*y2*x3*y3*y3+d*d*y1*x2*x2*x2*y2*y2*y2*y2*x3*x3*y3-d*x1*x2*x2*x2*x2*y2*x3*x3*y3-d*x1*x2*x2*x2*y2*y2*x3*x3*x3-d*x1*x2*x2*x2*y2*y2*x3+d*x1*x2*x2*y2*y2*y2*y3*y3*y3-d*x1*x2*x2*y2*y2*y2*y3+d*x1*x2*y2*y2*y2*y2*x3*y3*y3+d*y1*x2*x2*x2*x2*y2*x3*y3*y3+d*y1*x2*x2*x2*y2*y2*y3*y3*y3-d*y1*x2*x2*x2*y2*y2*y3-d*y1*x2*x2*y2*y2*y2*x3*x3*x3-d*y1*x2*x2*y2*y2*y2*x3-d*y1*x2*y2*y2*y2*y2*x3*x3*y3)*(y1*y1-x1*x1-1-d*x1*x1*y1*y1)+(d*d*x1*x1*y1*x2*x2*y2*x3*x3*x3*y3*y3-d*d*x1*x1*y1*x2*y2*y2*x3*x3*y3*y3*y3-d*d*x1*y1*y1*x2*x2*y2*x3*x3*y3*y3*y3+d*d*x1*y1*y1*x2*y2*y2*x3*x3*x3*y3*y3+d*x1*x1*x1*x2*x2*y2*x3*x3*y3+d*x1*x1*x1*x2*y2*y2*x3*y3*y3+d*x1*x1*x1*x2*x3*x3*x3*y3*y3+d*x1*x1*x1*y2*x3*x3*y3*y3*y3-d*x1*x1*y1*x2*x2*y2*x3*y3*y3-d*x1*x1*y1*x2*y2*y2*x3*x3*y3+d*x1*x1*y1*x2*x3*x3*y3*y3*y3+d*x1*x1*y1*y2*x3*x3*x3*y3*y3-d*x1*y1*y1*x2*x2*y2*x3*x3*y3-d*x1*y1*y1*x2*y2*y2*x3*y3*y3-d*x1*y1*y1*x2*x3*x3*x3*y3*y3-d*x1*y1*y1*y2*x3*x3*y3*y3*y3+d*x1*x2*x2*y2*x3*x3*y3+d*x1*x2*y2*y2*x3*y3*y3+d*x1*x2*x3*x3*x3*y3*y3+d*x1*y2*x3*x3*y3*y3*y3+d*y1*y1*y1*x2*x2*y2*x3*y3*y3+d*y1*y1*y1*x2*y2*y2*x3*x3*y3-d*y1*y1*y1*x2*x3*x3*y3*y3*y3-d*y1*y1*y1*y2*x3*x3*x3*y3*y3-d*y1*x2*x2*y2*x3*y3*y3-d*y1*x2*y2*y2*x3*x3*y3+d*y1*x2*x3*x3*y3*y3*y3+d*y1*y2*x3*x3*x3*y3*y3+x1*x1*x1*x2*x3*x3*x3-x1*x1*x1*x2*x3*y3*y3+x1*x1*x1*x2*x3+x1*x1*x1*y2*x3*x3*y3-x1*x1*x1*y2*y3*y3*y3+x1*x1*x1*y2*y3+x1*x1*y1*x2*x3*x3*y3-x1*x1*y1*x2*y3*y3*y3+x1*x1*y1*x2*y3+x1*x1*y1*y2*x3*x3*x3-x1*x1*y1*y2*x3*y3*y3+x1*x1*y1*y2*x3-x1*y1*y1*x2*x3*x3*x3+x1*y1*y1*x2*x3*y3*y3-x1*y1*y1*x2*x3-x1*y1*y1*y2*x3*x3*y3+x1*y1*y1*y2*y3*y3*y3-x1*y1*y1*y2*y3+x1*x2*x3*x3*x3-x1*x2*x3*y3*y3+x1*x2*x3+x1*y2*x3*x3*y3-x1*y2*y3*y3*y3+x1*y2*y3-y1*y1*y1*x2*x3*x3*y3+y1*y1*y1*x2*y3*y3*y3-y1*y1*y1*x2*y3-y1*y1*y1*y2*x3*x3*x3+y1*y1*y1*y2*x3*y3*y3-y1*y1*y1*y2*x3+y1*x2*x3*x3*y3-y1*x2*y3*y3*y3+y1*x2*y3+y1*y2*x3*x3*x3-y1*y2*x3*y3*y3+y1*y2*x3)*(y2*y2-x2*x2-1-d*x2*x2*y2*y2)+(0-d*x1*x1*y1*x2*x2*y2*x3+d*x1*x1*y1*x2*y2*y2*y3+d*x1*y1*y1*x2*x2*y2*y3-d*x1*y1*y1*x2*y2*y2*x3-x1*x1*x1*x2*x2*x2*x3-x1*x1*x1*x2*x2*y2*y3+x1*x1*x1*x2*y2*y2*x3-x1*x1*x1*x2*x3+x1*x1*x1*y2*y2*y2*y3-x1*x1*x1*y2*y3-x1*x1*y1*x2*x2*x2*y3-x1*x1*y1*x2*x2*y2*x3+x1*x1*y1*x2*y2*y2*y3-x1*x1*y1*x2*y3+x1*x1*y1*y2*y2*y2*x3-x1*x1*y1*y2*x3+x1*y1*y1*x2*x2*x2*x3+x1*y1*y1*x2*x2*y2*y3-x1*y1*y1*x2*y2*y2*x3+x1*y1*y1*x2*x3-x1*y1*y1*y2*y2*y2*y3+x1*y1*y1*y2*y3-x1*x2*x2*x2*x3-x1*x2*x2*y2*y3+x1*x2*y2*y2*x3-x1*x2*x3+x1*y2*y2*y2*y3-x1*y2*y3+y1*y1*y1*x2*x2*x2*y3+y1*y1*y1*x2*x2*y2*x3-y1*y1*y1*x2*y2*y2*y3+y1*y1*y1*x2*y3-y1*y1*y1*y2*y2*y2*x3+y1*y1*y1*y2*x3-y1*x2*x2*x2*y3-y1*x2*x2*y2*x3+y1*x2*y2*y2*y3-y1*x2*y3+y1*y2*y2*y2*x3-y1*y2*x3)*(y3*y3-x3*x3-1-d*x3*x3*y3*y3):=by grind -lia -linarith
theorem assoc_x{d x1 y1 x2 y2 x3 y3:Fq}(h1:y1*y1-x1*x1=1+d*x1*x1*y1*y1)(h2:y2*y2-x2*x2=1+d*x2*x2*y2*y2)(h3:y3*y3-x3*x3=1+d*x3*x3*y3*y3):(((x1*y2+y1*x2)*y3*(1-d*x1*x2*y1*y2)+(y1*y2+x1*x2)*x3*(1+d*x1*x2*y1*y2))*(1-(d*x2*x3*y2*y3)*(d*x2*x3*y2*y3)+d*(x2*y3+y2*x3)*(y2*y3+x2*x3)*x1*y1))=((x1*(y2*y3+x2*x3)*(1+d*x2*x3*y2*y3)+y1*(x2*y3+y2*x3)*(1-d*x2*x3*y2*y3))*(1-(d*x1*x2*y1*y2)*(d*x1*x2*y1*y2)+d*(x1*y2+y1*x2)*(y1*y2+x1*x2)*x3*y3)):=by
 have h:=assoc_x_id d x1 y1 x2 y2 x3 y3
 rw[show(y1*y1-x1*x1-1-d*x1*x1*y1*y1)=0 by grind -lia -linarith]at h
 rw[show(y2*y2-x2*x2-1-d*x2*x2*y2*y2)=0 by grind -lia -linarith]at h
 rw[show(y3*y3-x3*x3-1-d*x3*x3*y3*y3)=0 by grind -lia -linarith]at h
 generalize (((x1*y2+y1*x2)*y3*(1-d*x1*x2*y1*y2)+(y1*y2+x1*x2)*x3*(1+d*x1*x2*y1*y2))*(1-(d*x2*x3*y2*y3)*(d*x2*x3*y2*y3)+d*(x2*y3+y2*x3)*(y2*y3+x2*x3)*x1*y1))=L at *
 generalize ((x1*(y2*y3+x2*x3)*(1+d*x2*x3*y2*y3)+y1*(x2*y3+y2*x3)*(1-d*x2*x3*y2*y3))*(1-(d*x1*x2*y1*y2)*(d*x1*x2*y1*y2)+d*(x1*y2+y1*x2)*(y1*y2+x1*x2)*x3*y3))=R at *
 grind -lia -linarith
theorem assoc_y_id(d x1 y1 x2 y2 x3 y3:Fq):(((y1*y2+x1*x2)*y3*(1+d*x1*x2*y1*y2)+(x1*y2+y1*x2)*x3*(1-d*x1*x2*y1*y2))*(1-(d*x2*x3*y2*y3)*(d*x2*x3*y2*y3)-d*(x2*y3+y2*x3)*(y2*y3+x2*x3)*x1*y1))-((y1*(y2*y3+x2*x3)*(1+d*x2*x3*y2*y3)+x1*(x2*y3+y2*x3)*(1-d*x2*x3*y2*y3))*(1-(d*x1*x2*y1*y2)*(d*x1*x2*y1*y2)-d*(x1*y2+y1*x2)*(y1*y2+x1*x2)*x3*y3))=(d*d*x1*x2*x2*x2*x2*y2*y2*y2*x3*y3*y3+d*d*x1*x2*x2*x2*y2*y2*y2*y2*x3*x3*y3-d*d*y1*x2*x2*x2*x2*y2*y2*y2*x3*x3*y3-d*d*y1*x2*x2*x2*y2*y2*y2*y2*x3*y3*y3+d*x1*x2*x2*x2*x2*y2*x3*y3*y3+d*x1*x2*x2*x2*y2*y2*y3*y3*y3-d*x1*x2*x2*x2*y2*y2*y3-d*x1*x2*x2*y2*y2*y2*x3*x3*x3-d*x1*x2*x2*y2*y2*y2*x3-d*x1*x2*y2*y2*y2*y2*x3*x3*y3-d*y1*x2*x2*x2*x2*y2*x3*x3*y3-d*y1*x2*x2*x2*y2*y2*x3*x3*x3-d*y1*x2*x2*x2*y2*y2*x3+d*y1*x2*x2*y2*y2*y2*y3*y3*y3-d*y1*x2*x2*y2*y2*y2*y3+d*y1*x2*y2*y2*y2*y2*x3*y3*y3)*(y1*y1-x1*x1-1-d*x1*x1*y1*y1)+(d*d*x1*x1*y1*x2*x2*y2*x3*x3*y3*y3*y3-d*d*x1*x1*y1*x2*y2*y2*x3*x3*x3*y3*y3-d*d*x1*y1*y1*x2*x2*y2*x3*x3*x3*y3*y3+d*d*x1*y1*y1*x2*y2*y2*x3*x3*y3*y3*y3-d*x1*x1*x1*x2*x2*y2*x3*y3*y3-d*x1*x1*x1*x2*y2*y2*x3*x3*y3+d*x1*x1*x1*x2*x3*x3*y3*y3*y3+d*x1*x1*x1*y2*x3*x3*x3*y3*y3+d*x1*x1*y1*x2*x2*y2*x3*x3*y3+d*x1*x1*y1*x2*y2*y2*x3*y3*y3+d*x1*x1*y1*x2*x3*x3*x3*y3*y3+d*x1*x1*y1*y2*x3*x3*y3*y3*y3+d*x1*y1*y1*x2*x2*y2*x3*y3*y3+d*x1*y1*y1*x2*y2*y2*x3*x3*y3-d*x1*y1*y1*x2*x3*x3*y3*y3*y3-d*x1*y1*y1*y2*x3*x3*x3*y3*y3-d*x1*x2*x2*y2*x3*y3*y3-d*x1*x2*y2*y2*x3*x3*y3+d*x1*x2*x3*x3*y3*y3*y3+d*x1*y2*x3*x3*x3*y3*y3-d*y1*y1*y1*x2*x2*y2*x3*x3*y3-d*y1*y1*y1*x2*y2*y2*x3*y3*y3-d*y1*y1*y1*x2*x3*x3*x3*y3*y3-d*y1*y1*y1*y2*x3*x3*y3*y3*y3+d*y1*x2*x2*y2*x3*x3*y3+d*y1*x2*y2*y2*x3*y3*y3+d*y1*x2*x3*x3*x3*y3*y3+d*y1*y2*x3*x3*y3*y3*y3+x1*x1*x1*x2*x3*x3*y3-x1*x1*x1*x2*y3*y3*y3+x1*x1*x1*x2*y3+x1*x1*x1*y2*x3*x3*x3-x1*x1*x1*y2*x3*y3*y3+x1*x1*x1*y2*x3+x1*x1*y1*x2*x3*x3*x3-x1*x1*y1*x2*x3*y3*y3+x1*x1*y1*x2*x3+x1*x1*y1*y2*x3*x3*y3-x1*x1*y1*y2*y3*y3*y3+x1*x1*y1*y2*y3-x1*y1*y1*x2*x3*x3*y3+x1*y1*y1*x2*y3*y3*y3-x1*y1*y1*x2*y3-x1*y1*y1*y2*x3*x3*x3+x1*y1*y1*y2*x3*y3*y3-x1*y1*y1*y2*x3+x1*x2*x3*x3*y3-x1*x2*y3*y3*y3+x1*x2*y3+x1*y2*x3*x3*x3-x1*y2*x3*y3*y3+x1*y2*x3-y1*y1*y1*x2*x3*x3*x3+y1*y1*y1*x2*x3*y3*y3-y1*y1*y1*x2*x3-y1*y1*y1*y2*x3*x3*y3+y1*y1*y1*y2*y3*y3*y3-y1*y1*y1*y2*y3+y1*x2*x3*x3*x3-y1*x2*x3*y3*y3+y1*x2*x3+y1*y2*x3*x3*y3-y1*y2*y3*y3*y3+y1*y2*y3)*(y2*y2-x2*x2-1-d*x2*x2*y2*y2)+(0-d*x1*x1*y1*x2*x2*y2*y3+d*x1*x1*y1*x2*y2*y2*x3+d*x1*y1*y1*x2*x2*y2*x3-d*x1*y1*y1*x2*y2*y2*y3-x1*x1*x1*x2*x2*x2*y3-x1*x1*x1*x2*x2*y2*x3+x1*x1*x1*x2*y2*y2*y3-x1*x1*x1*x2*y3+x1*x1*x1*y2*y2*y2*x3-x1*x1*x1*y2*x3-x1*x1*y1*x2*x2*x2*x3-x1*x1*y1*x2*x2*y2*y3+x1*x1*y1*x2*y2*y2*x3-x1*x1*y1*x2*x3+x1*x1*y1*y2*y2*y2*y3-x1*x1*y1*y2*y3+x1*y1*y1*x2*x2*x2*y3+x1*y1*y1*x2*x2*y2*x3-x1*y1*y1*x2*y2*y2*y3+x1*y1*y1*x2*y3-x1*y1*y1*y2*y2*y2*x3+x1*y1*y1*y2*x3-x1*x2*x2*x2*y3-x1*x2*x2*y2*x3+x1*x2*y2*y2*y3-x1*x2*y3+x1*y2*y2*y2*x3-x1*y2*x3+y1*y1*y1*x2*x2*x2*x3+y1*y1*y1*x2*x2*y2*y3-y1*y1*y1*x2*y2*y2*x3+y1*y1*y1*x2*x3-y1*y1*y1*y2*y2*y2*y3+y1*y1*y1*y2*y3-y1*x2*x2*x2*x3-y1*x2*x2*y2*y3+y1*x2*y2*y2*x3-y1*x2*x3+y1*y2*y2*y2*y3-y1*y2*y3)*(y3*y3-x3*x3-1-d*x3*x3*y3*y3):=by grind -lia -linarith
theorem assoc_y{d x1 y1 x2 y2 x3 y3:Fq}(h1:y1*y1-x1*x1=1+d*x1*x1*y1*y1)(h2:y2*y2-x2*x2=1+d*x2*x2*y2*y2)(h3:y3*y3-x3*x3=1+d*x3*x3*y3*y3):(((y1*y2+x1*x2)*y3*(1+d*x1*x2*y1*y2)+(x1*y2+y1*x2)*x3*(1-d*x1*x2*y1*y2))*(1-(d*x2*x3*y2*y3)*(d*x2*x3*y2*y3)-d*(x2*y3+y2*x3)*(y2*y3+x2*x3)*x1*y1))=((y1*(y2*y3+x2*x3)*(1+d*x2*x3*y2*y3)+x1*(x2*y3+y2*x3)*(1-d*x2*x3*y2*y3))*(1-(d*x1*x2*y1*y2)*(d*x1*x2*y1*y2)-d*(x1*y2+y1*x2)*(y1*y2+x1*x2)*x3*y3)):=by
 have h:=assoc_y_id d x1 y1 x2 y2 x3 y3
 rw[show(y1*y1-x1*x1-1-d*x1*x1*y1*y1)=0 by grind -lia -linarith]at h
 rw[show(y2*y2-x2*x2-1-d*x2*x2*y2*y2)=0 by grind -lia -linarith]at h
 rw[show(y3*y3-x3*x3-1-d*x3*x3*y3*y3)=0 by grind -lia -linarith]at h
 generalize (((y1*y2+x1*x2)*y3*(1+d*x1*x2*y1*y2)+(x1*y2+y1*x2)*x3*(1-d*x1*x2*y1*y2))*(1-(d*x2*x3*y2*y3)*(d*x2*x3*y2*y3)-d*(x2*y3+y2*x3)*(y2*y3+x2*x3)*x1*y1))=L at *
 generalize ((y1*(y2*y3+x2*x3)*(1+d*x2*x3*y2*y3)+x1*(x2*y3+y2*x3)*(1-d*x2*x3*y2*y3))*(1-(d*x1*x2*y1*y2)*(d*x1*x2*y1*y2)-d*(x1*y2+y1*x2)*(y1*y2+x1*x2)*x3*y3))=R at *
 grind -lia -linarith
theorem sum_left{p q r:Pt}(hp:p.on)(hq:q.on)(hr:r.on):
    let A:=p.x*q.y+p.y*q.x;let B:=p.y*q.y+p.x*q.x;let e:=dE*p.x*q.x*p.y*q.y
    (mZ (mZ p q) r).x*(1-e*e+dE*A*B*r.x*r.y)=A*r.y*(1-e)+B*r.x*(1+e)∧
    (mZ (mZ p q) r).y*(1-e*e-dE*A*B*r.x*r.y)=B*r.y*(1+e)+A*r.x*(1-e)∧
    1-e*e+dE*A*B*r.x*r.y≠0∧1-e*e-dE*A*B*r.x*r.y≠0:=by
 intro A B e
 have hx:=padd_x hp hq
 have hy:=padd_y hp hq
 obtain⟨n1,n2⟩:=low_ne hp hq
 have hpq:=padd_on hp hq
 have hx2:=padd_x hpq hr
 have hy2:=padd_y hpq hr
 obtain⟨m1,m2⟩:=low_ne hpq hr
 generalize (mZ (mZ p q) r).x=U at *
 generalize (mZ (mZ p q) r).y=V at *
 generalize hX:(mZ p q).x=X at *
 generalize hY:(mZ p q).y=Y at *
 have hA:X*(1+e)=A:=hx
 have hB:Y*(1-e)=B:=hy
 have n1:1+e≠0:=n1
 have n2:1-e≠0:=n2
 clear_value A B e
 generalize r.x=x3 at *
 generalize r.y=y3 at *
 have e1:1-e*e+dE*A*B*x3*y3=(1+e)*(1-e)*(1+dE*X*x3*Y*y3):=by
  rw[←hA,←hB]
  generalize dE=d
  clear hx hy hA hB hx2 hy2
  grind -lia -linarith
 have e2:1-e*e-dE*A*B*x3*y3=(1+e)*(1-e)*(1-dE*X*x3*Y*y3):=by
  rw[←hA,←hB]
  generalize dE=d
  clear hx hy hA hB hx2 hy2
  grind -lia -linarith
 refine⟨?_,?_,?_,?_⟩
 ·rw[e1,←hA,←hB]
  generalize 1+dE*X*x3*Y*y3=w at *
  clear hx hy hA hB hy2 e1 e2
  grind -lia -linarith
 ·rw[e2,←hA,←hB]
  generalize 1-dE*X*x3*Y*y3=w at *
  clear hx hy hA hB hx2 e1 e2
  grind -lia -linarith
 ·rw[e1]
  exact nZ (nZ n1 n2) m1
 ·rw[e2]
  exact nZ (nZ n1 n2) m2
theorem frac{u v a b c d:Fq}(h1:u*a=b)(h2:v*c=d)(ha:a≠0)(hc:c≠0)(h:b*c=d*a):u=v:=by
 refine cancel (nZ ha hc) ?_
 subst h1 h2
 grind -lia -linarith
theorem padd_assoc{p q r:Pt}(hp:p.on)(hq:q.on)(hr:r.on):mZ (mZ p q) r=mZ p (mZ q r):=by
 obtain⟨l1,l2,l3,l4⟩:=sum_left hp hq hr
 rw[padd_comm p (mZ q r),padd_comm q r]
 obtain⟨r1,r2,r3,r4⟩:=sum_left hr hq hp
 unfold Pt.on On at hp hq hr
 apply Pt.eq
 ·refine frac l1 r1 l3 r3 ?_
  have h:=assoc_x hp hq hr
  obtain⟨x1,y1⟩:=p
  obtain⟨x2,y2⟩:=q
  obtain⟨x3,y3⟩:=r
  simp only at *
  clear l1 l2 l3 l4 r1 r2 r3 r4 hp hq hr
  generalize dE=d at *
  refine Eq.trans ?_ (h.trans ?_)
  ·congr 1<;>grind -lia -linarith
  ·congr 1<;>grind -lia -linarith
 ·refine frac l2 r2 l4 r4 ?_
  have h:=assoc_y hp hq hr
  obtain⟨x1,y1⟩:=p
  obtain⟨x2,y2⟩:=q
  obtain⟨x3,y3⟩:=r
  simp only at *
  clear l1 l2 l3 l4 r1 r2 r3 r4 hp hq hr
  generalize dE=d at *
  refine Eq.trans ?_ (h.trans ?_)
  ·congr 1<;>grind -lia -linarith
  ·congr 1<;>grind -lia -linarith
def mF:Nat→Pt→Pt
 |0,_=>zeroP
 |n+1,p=>mZ (mF n p) p
theorem smul_on{p:Pt}(h:p.on):∀n,(mF n p).on
 |0=>zero_on
 |n+1=>padd_on (smul_on h n) h
theorem zero_padd(p:Pt):mZ zeroP p=p:=by rw[padd_comm,padd_zero]
theorem smul_add{p:Pt}(h:p.on)(m:Nat):∀n,mF (m+n) p=mZ (mF m p) (mF n p)
 |0=>by rw[Nat.add_zero,mF,padd_zero]
 |n+1=>by
  rw[←Nat.add_assoc,mF,smul_add h m n,padd_assoc (smul_on h m) (smul_on h n) h]
  rfl
theorem smul_one(p:Pt):mF 1 p=p:=zero_padd p
theorem smul_two{p:Pt}(h:p.on)(n:Nat):mF (2*n) p=mZ (mF n p) (mF n p):=by rw[Nat.two_mul,smul_add h]
theorem smul_neg{p:Pt}(h:p.on):∀n,mF n (qL p)=qL (mF n p)
 |0=>by
  apply Pt.eq
  ·show(0:Fq) = -0
   grind -lia -linarith
  ·rfl
 |n+1=>by
  rw[mF,mF,smul_neg h n]
  have h1:=smul_on h n
  generalize mF n p=q at *
  obtain⟨x1,y1⟩:=p
  obtain⟨x2,y2⟩:=q
  unfold mZ qL
  simp only[Pt.mk.injEq]
  have e1:dE * -x2 * -x1*y2*y1=dE*x2*x1*y2*y1:=by grind -lia -linarith
  rw[e1]
  generalize inv (1+dE*x2*x1*y2*y1)=u
  generalize inv (1-dE*x2*x1*y2*y1)=v
  constructor<;>grind -lia -linarith
theorem move{p q r:Pt}(hp:p.on)(hq:q.on)(hr:r.on):mZ p (qL q)=r↔p=mZ r q:=by
 constructor
 ·rintro rfl
  rw[padd_assoc hp (neg_on hq) hq,padd_comm (qL q) q,padd_neg hq,padd_zero]
 ·rintro rfl
  rw[padd_assoc hr hq (neg_on hq),padd_neg hq,padd_zero]
structure W4 where
 x:Fq
 y:Fq
 z:Fq
 t:Fq
structure W4.Rep(w:W4)(p:Pt):Prop where
 nz:w.z≠0
 hx:w.x=p.x*w.z
 hy:w.y=p.y*w.z
 ht:w.t=p.x*p.y*w.z
def rM(p q:W4):W4:=
 let a:=(p.y-p.x)*(q.y-q.x)
 let b:=(p.y+p.x)*(q.y+q.x)
 let c:=p.t*((dE+dE)*q.t)
 let d:=p.z*(q.z+q.z)
 ⟨(b-a)*(d-c),(d+c)*(b+a),(d-c)*(d+c),(b-a)*(b+a)⟩
def wzero:W4:=⟨0,1,1,0⟩
def og(p:Pt):W4:=⟨p.x,p.y,1,p.x*p.y⟩
def W4.pt(w:W4):Pt:=⟨w.x*inv w.z,w.y*inv w.z⟩
theorem two_ne:(2:Fq)≠0:=by decide +kernel
theorem div_rep{x z u:Fq}(h:x≠0)(e:z=u*x):z*inv x=u:=by
 have hi:=rG h
 generalize inv x=v at *
 subst e
 grind -lia -linarith
theorem W4.Rep.pt{w:W4}{p:Pt}(h:w.Rep p):w.pt=p:=Pt.eq (div_rep h.nz h.hx) (div_rep h.nz h.hy)
theorem wzero_rep:wzero.Rep zeroP:=⟨sP,by show(0:Fq)=0*1;grind -lia -linarith,by show(1:Fq)=1*1;grind -lia -linarith,by show(0:Fq)=0*1*1;grind -lia -linarith⟩
theorem wide4_rep(p:Pt):(og p).Rep p:=⟨sP,by show p.x=p.x*1;grind -lia -linarith,by show p.y=p.y*1;grind -lia -linarith,by show p.x*p.y=p.x*p.y*1;grind -lia -linarith⟩
theorem wadd_rep{w v:W4}{p q:Pt}(hw:w.Rep p)(hv:v.Rep q)(hp:p.on)(hq:q.on):(rM w v).Rep (mZ p q):=by
 obtain⟨n1,n2⟩:=low_ne hp hq
 have ex:=padd_x hp hq
 have ey:=padd_y hp hq
 obtain⟨hz1,hx1,hy1,ht1⟩:=hw
 obtain⟨hz2,hx2,hy2,ht2⟩:=hv
 obtain⟨x1,y1,z1,t1⟩:=w
 obtain⟨x2,y2,z2,t2⟩:=v
 generalize mZ p q=R at *
 obtain⟨X,Y⟩:=R
 obtain⟨X1,Y1⟩:=p
 obtain⟨X2,Y2⟩:=q
 simp only at *
 have hzz:2*(z1*z2)≠0:=nZ two_ne (nZ hz1 hz2)
 subst hx1 hy1 ht1 hx2 hy2 ht2
 have hf:z1*(z2+z2)-X1*Y1*z1*((dE+dE)*(X2*Y2*z2))=2*(z1*z2)*(1-dE*X1*X2*Y1*Y2):=by
  generalize dE=d
  clear ex ey n1 n2 hp hq hzz hz1 hz2
  grind -lia -linarith
 have hg:z1*(z2+z2)+X1*Y1*z1*((dE+dE)*(X2*Y2*z2))=2*(z1*z2)*(1+dE*X1*X2*Y1*Y2):=by
  generalize dE=d
  clear ex ey n1 n2 hp hq hzz hz1 hz2
  grind -lia -linarith
 have he:(Y1*z1+X1*z1)*(Y2*z2+X2*z2)-(Y1*z1-X1*z1)*(Y2*z2-X2*z2)=2*(z1*z2)*(X1*Y2+Y1*X2):=by
  clear ex ey n1 n2 hp hq hzz hz1 hz2
  grind -lia -linarith
 have hh:(Y1*z1+X1*z1)*(Y2*z2+X2*z2)+(Y1*z1-X1*z1)*(Y2*z2-X2*z2)=2*(z1*z2)*(Y1*Y2+X1*X2):=by
  clear ex ey n1 n2 hp hq hzz hz1 hz2
  grind -lia -linarith
 have hwd:rM ⟨X1*z1,Y1*z1,z1,X1*Y1*z1⟩ ⟨X2*z2,Y2*z2,z2,X2*Y2*z2⟩=⟨2*(z1*z2)*(X1*Y2+Y1*X2)*(2*(z1*z2)*(1-dE*X1*X2*Y1*Y2)),2*(z1*z2)*(1+dE*X1*X2*Y1*Y2)*(2*(z1*z2)*(Y1*Y2+X1*X2)),2*(z1*z2)*(1-dE*X1*X2*Y1*Y2)*(2*(z1*z2)*(1+dE*X1*X2*Y1*Y2)),2*(z1*z2)*(X1*Y2+Y1*X2)*(2*(z1*z2)*(Y1*Y2+X1*X2))⟩:=by
  unfold rM
  simp only
  rw[hf,hg,he,hh]
 rw[hwd]
 clear hf hg he hh hwd
 rw[←ex,←ey]
 generalize 2*(z1*z2)=s at *
 generalize 1+dE*X1*X2*Y1*Y2=g at *
 generalize 1-dE*X1*X2*Y1*Y2=f at *
 clear ex ey
 refine⟨nZ (nZ hzz n2) (nZ hzz n1),?_,?_,?_⟩
 ·show s*(X*g)*(s*f)=X*(s*f*(s*g))
  grind -lia -linarith
 ·show s*g*(s*(Y*f))=Y*(s*f*(s*g))
  grind -lia -linarith
 ·show s*(X*g)*(s*(Y*f))=X*Y*(s*f*(s*g))
  grind -lia -linarith
structure W3 where
 x:Fq
 y:Fq
 z:Fq
structure W3.Rep(w:W3)(p:Pt):Prop where
 nz:w.z≠0
 hx:w.x=p.x*w.z
 hy:w.y=p.y*w.z
def W3.pt(w:W3):Pt:=⟨w.x*inv w.z,w.y*inv w.z⟩
theorem W3.Rep.pt{w:W3}{p:Pt}(h:w.Rep p):w.pt=p:=Pt.eq (div_rep h.nz h.hx) (div_rep h.nz h.hy)
def pU(p q:W3):W3:=
 let a:=p.z*q.z
 let b:=a*a
 let xx:=p.x*q.x
 let yy:=p.y*q.y
 let xy:=p.x*q.y+p.y*q.x
 let e:=dE*(xx*yy)
 ⟨a*((b-e)*xy),a*((b+e)*(yy+xx)),(b-e)*(b+e)⟩
def wnought:W3:=⟨0,1,1⟩
def nj(p:Pt):W3:=⟨p.x,p.y,1⟩
theorem wnought_rep:wnought.Rep zeroP:=⟨sP,by show(0:Fq)=0*1;grind -lia -linarith,by show(1:Fq)=1*1;grind -lia -linarith⟩
theorem wide3_rep(p:Pt):(nj p).Rep p:=⟨sP,by show p.x=p.x*1;grind -lia -linarith,by show p.y=p.y*1;grind -lia -linarith⟩
theorem wplus_rep{w v:W3}{p q:Pt}(hw:w.Rep p)(hv:v.Rep q)(hp:p.on)(hq:q.on):(pU w v).Rep (mZ p q):=by
 obtain⟨n1,n2⟩:=low_ne hp hq
 have ex:=padd_x hp hq
 have ey:=padd_y hp hq
 obtain⟨hz1,hx1,hy1⟩:=hw
 obtain⟨hz2,hx2,hy2⟩:=hv
 obtain⟨x1,y1,z1⟩:=w
 obtain⟨x2,y2,z2⟩:=v
 generalize mZ p q=R at *
 obtain⟨X,Y⟩:=R
 obtain⟨X1,Y1⟩:=p
 obtain⟨X2,Y2⟩:=q
 simp only at *
 have hzz:z1*z2≠0:=nZ hz1 hz2
 subst hx1 hy1 hx2 hy2
 have hf:z1*z2*(z1*z2)-dE*(X1*z1*(X2*z2)*(Y1*z1*(Y2*z2)))=z1*z2*(z1*z2)*(1-dE*X1*X2*Y1*Y2):=by
  generalize dE=d
  clear ex ey n1 n2 hp hq hzz hz1 hz2
  grind -lia -linarith
 have hg:z1*z2*(z1*z2)+dE*(X1*z1*(X2*z2)*(Y1*z1*(Y2*z2)))=z1*z2*(z1*z2)*(1+dE*X1*X2*Y1*Y2):=by
  generalize dE=d
  clear ex ey n1 n2 hp hq hzz hz1 hz2
  grind -lia -linarith
 have he:X1*z1*(Y2*z2)+Y1*z1*(X2*z2)=z1*z2*(X1*Y2+Y1*X2):=by
  clear ex ey n1 n2 hp hq hzz hz1 hz2
  grind -lia -linarith
 have hh:Y1*z1*(Y2*z2)+X1*z1*(X2*z2)=z1*z2*(Y1*Y2+X1*X2):=by
  clear ex ey n1 n2 hp hq hzz hz1 hz2
  grind -lia -linarith
 unfold pU
 simp only
 rw[hf,hg,he,hh]
 clear hf hg he hh
 rw[←ex,←ey]
 generalize z1*z2=s at *
 generalize 1+dE*X1*X2*Y1*Y2=g at *
 generalize 1-dE*X1*X2*Y1*Y2=f at *
 clear ex ey
 refine⟨nZ (nZ (nZ hzz hzz) n2) (nZ (nZ hzz hzz) n1),?_,?_⟩
 ·show s*(s*s*f*(s*(X*g)))=X*(s*s*f*(s*s*g))
  grind -lia -linarith
 ·show s*(s*s*g*(s*(Y*f)))=Y*(s*s*f*(s*s*g))
  grind -lia -linarith
theorem den_ne(y:Fq):1+dE*(y*y)≠0:=fun h=>by
 by_cases hy:y=0
 ·subst hy
  exact sP (by generalize dE=d at *;grind -lia -linarith)
 ·have hI:=I_sq
  have hi:=rG hy
  refine nonsq (iE*inv y) ?_
  generalize inv y=v at *
  generalize dE=d at *
  generalize iE=i at *
  grind -lia -linarith
theorem on_root{x y:Fq}(h:x*x=(y*y-1)*inv (1+dE*(y*y))):On x y:=by
 have hi:=rG (den_ne y)
 unfold On
 generalize inv (1+dE*(y*y))=v at *
 generalize dE=d at *
 grind -lia -linarith
theorem on_negx{x y:Fq}(h:On x y):On (-x) y:=neg_on (p:=⟨x,y⟩) h
end Go.Nam
end
