/-
  Several texts in one: each says what it proves.
  Conditions: none. Lemmas only.
-/
import Derived.Test.YtcncplameclkfaaGreatDoorNwG4
set_option linter.all false
section
set_option maxRecDepth 20000
set_option maxHeartbeats 8000000
namespace Go.Proofs.YtcncplameclkfaaGreatDoor
open Go Go.Abs Go.Proofs Go.Box
open Go.Nam (p25 nc nV mQ oE oD fmul_lt L4 my turnL mY)
theorem words_top(n:Nat):(kZ 4 n).getD 3 0 % 9223372036854775808=n/18446744073709551616/18446744073709551616/18446744073709551616 % 18446744073709551616 % 9223372036854775808∧(kZ 4 n).set 3 ((kZ 4 n).getD 3 0 % 9223372036854775808)=kZ 4 (n % 57896044618658097711785492504343953926634992332820282019728792003956564819968):=by
 refine⟨rfl,?_⟩
 show [n % 18446744073709551616,n/18446744073709551616 % 18446744073709551616,n/18446744073709551616/18446744073709551616 % 18446744073709551616,n/18446744073709551616/18446744073709551616/18446744073709551616 % 18446744073709551616 % 9223372036854775808]=_
 simp only[kZ,List.cons.injEq,and_true]
 refine⟨?_,?_,?_,?_⟩<;>omega
theorem u64A_put3(n:Nat):bG (lH (kZ 4 n)) 3 [.sc (.int .u64 ((kZ 4 n).getD 3 0 % 9223372036854775808:Nat))]=lH (kZ 4 (n % 57896044618658097711785492504343953926634992332820282019728792003956564819968)):=by
 rw[oL (by rw[lL];omega),(words_top n).2]
theorem and63{x:Nat}(h:x<18446744073709551616):bits .and .u64 (x:Int) 9223372036854775807=((x % 9223372036854775808:Nat):Int):=by
 have h1:=mJ (a:=x) (b:=9223372036854775807) h (by decide)
 rw[show((9223372036854775807:Nat):Int)=9223372036854775807 from rfl]at h1
 rw[h1,show(9223372036854775807:Nat)=2^63-1 from rfl,Nat.and_two_pow_sub_one_eq_mod]
theorem pclamp_bad(k:List UInt8)(hk:k.length≠32):APure Tryz.prog 87 [eu k] (.tup [eu [],.sc (.int .i64 1)]):=by
 have b1:((k.length:Int) != 32)=true:=nT (by omega)
 unfold eu
 refine az (c:=⟨Tryz.prog,24,[],[8],[]⟩) (rs:=[ResultVar.tmp 2,ResultVar.tmp 3]) Tryz.mixed Tryz.func87 rfl rfl rfl (Nat.le_of_ble_eq_true rfl) (by kernel_rfl) fun H=>?_
 simp(disch:=omega)only[↓kX,kW,aS,simprocAttr,b1]
 exact⟨rfl,Abs.Sub.refl _⟩
def oI(k u:List UInt8):L4:=mY (lY u % 57896044618658097711785492504343953926634992332820282019728792003956564819968) (fun i=>lY (mu k)/2^i % 2) ⟨1,0,lY u % 57896044618658097711785492504343953926634992332820282019728792003956564819968,1⟩ 255
def oH(s:L4):Nat:=mQ s.a (s.b^(p25-2) % p25)
theorem sV(x:Nat)(bit:Nat→Nat)(s:L4)(i:Nat):mY x bit s (i+1)=my (bit (254-i)) (Go.Nam.stepL x (my (bit (254-i)) (mY x bit s i))):=rfl
theorem step_b(x:Nat)(s:L4):(Go.Nam.stepL x s).a<lX∧(Go.Nam.stepL x s).b<lX∧(Go.Nam.stepL x s).c<lX∧(Go.Nam.stepL x s).d<lX:=
 ⟨pn (fmul_lt _ _),pn (fmul_lt _ _),pn (fmul_lt _ _),pn (fmul_lt _ _)⟩
theorem swap_b(bit:Nat)(s:L4)(h:s.a<lX∧s.b<lX∧s.c<lX∧s.d<lX):(my bit s).a<lX∧(my bit s).b<lX∧(my bit s).c<lX∧(my bit s).d<lX:=by
 unfold my
 split
 ·exact h
 ·exact⟨h.2.2.1,h.2.2.2,h.1,h.2.1⟩
theorem climb_b(x:Nat)(bit:Nat→Nat)(s:L4)(ha:s.a<lX)(hb:s.b<lX)(hc:s.c<lX)(hd:s.d<lX):∀i,(mY x bit s i).a<lX∧(mY x bit s i).b<lX∧(mY x bit s i).c<lX∧(mY x bit s i).d<lX
 |0=>⟨ha,hb,hc,hd⟩
 |i+1=>by
  rw[sV]
  exact swap_b _ _ (step_b _ _)
theorem pmult_pure(k u:List UInt8)(hk:k.length=32)(hu:u.length=32):APure Tryz.prog 43 [eu k,eu u] (.tup [eu (lQ 32 (oH (oI k u))),.sc (.int .i64 0)]):=by
 have cC:=pclamp_pure k hk
 have hcl:=ni k
 rw[hk]at hcl
 have c1:=qr (mu k) (by omega)
 have c2:=qr u (by omega)
 have hmw:=wget 4 (lY u) 3
 have a3:=mf (l:=kZ 4 (lY u)) (i:=3) (by rw[lL];omega)
 have p3:=u64A_put3 (lY u)
 have o3:=and63 hmw
 have hxB:lY u % 57896044618658097711785492504343953926634992332820282019728792003956564819968<lX:=Nat.lt_trans (Nat.mod_lt _ (by decide)) (by decide)
 unfold oI
 have cB:=fun i (h:i<256)=>sbit_pure (lY (mu k)) i h
 obtain⟨bit,hbit⟩:∃bit:Nat→Nat,bit=fun i=>lY (mu k)/2^i % 2:=⟨_,rfl⟩
 have hb':∀i,lY (mu k)/2^i % 2=bit i:=fun i=>by rw[hbit]
 have hb1:∀i,bit i≤1:=fun i=>by rw[←hb'];omega
 rw[←hbit]
 simp only[hb']at cB
 clear hbit hb'
 simp only[eu,hcl]at cC c1
 generalize mu k=CK at *
 generalize lY CK=nk at *
 generalize lY u % 57896044618658097711785492504343953926634992332820282019728792003956564819968=x at *
 generalize (kZ 4 (lY u)).getD 3 0=w3 at *
 generalize lY u=nu at *
 have sl:=mI
 have st:=mH
 have zq:=fun x=>mP (sl x)
 have pl:=sN
 have pt:=prC_take
 have pf:=prC_fst
 have ps:=prC_snd
 have tk:=pr_take
 have dk:=pr_drop
 have pp:=pr_pair
 have pz:=pr_zero
 have pu:=pr_put
 have b1:((u.length:Int) != 32)=false:=by rw[hu];rfl
 unfold eu at *
 refine az (c:=⟨Tryz.prog,85,[(7,[0,0,0,0,0,2,2,2,2]),(18,[0,1,0,1,0,0,0,0,0]),(1000004,[8]),(4000018,[4,5]),(4000015,[8,10,12,13,14,47]),(4000014,[8,10,12,13,14,15,47]),(4000013,[8,10,12,13,14,15,47]),(4000007,[8,10,12,13]),(4000006,[8,10]),(4000005,[8,10]),(4000004,[1,8]),(4000002,[1,6,27]),(4000001,[1,6,7])],[],[(7,(.op 0 0 (.op 1 0 (.op 3 0 (.or (.op 2 3 (.op 4 0 (.or (.op 5 3 (.op 6 3 (.op 7 2 (.op 8 2 .nil)))) (.op 6 3 (.op 5 3 (.op 7 2 (.op 8 2 .nil))))))) (.or (.op 5 3 (.or (.op 2 3 (.op 4 0 (.op 6 3 (.op 7 2 (.op 8 2 .nil))))) (.op 6 3 (.or (.op 2 3 (.op 4 0 (.op 7 2 (.op 8 2 .nil)))) (.op 7 2 (.op 2 3 (.op 4 0 (.op 8 2 .nil)))))))) (.op 6 3 (.or (.op 2 3 (.op 4 0 (.op 5 3 (.op 7 2 (.op 8 2 .nil))))) (.op 5 3 (.or (.op 2 3 (.op 4 0 (.op 7 2 (.op 8 2 .nil)))) (.op 7 2 (.op 2 3 (.op 4 0 (.op 8 2 .nil))))))))))))))]⟩) (rs:=[ResultVar.tmp 4,ResultVar.tmp 5]) Tryz.mixed Tryz.func43 rfl rfl rfl (Nat.le_of_ble_eq_true rfl) (by kernel_rfl) fun H=>?_
 simp(disch:=omega)only[↓kX,kW,aS,simprocAttr]
 refine scope_t Tryz.mixed 0 (by kernel_rfl) (rest:=_) rfl (by kernel_rfl) (fun _ _ _=>False) ?_ (fun _ _ _ h=>h.elim)
 simp(disch:=omega)only[↓kX,kW,aS,simprocAttr]
 first|refine CallK.p (cC) ?_|refine CallP.i (cC) ?_
 simp(disch:=omega)only[↓kX,kW,aS,simprocAttr,b1]
 first|refine CallK.p (c1) ?_|refine CallP.i (c1) ?_
 simp(disch:=omega)only[↓kX,kW,aS,simprocAttr,sl,kY]
 intro k8 hk80 hk8
 rw[zq,aj hk8]
 first|refine CallK.p (c2) ?_|refine CallP.i (c2) ?_
 simp(disch:=omega)only[↓kX,kW,aS,simprocAttr,sl,kY]
 intro k10 hk100 hk10
 rw[zq]
 simp(disch:=omega)only[↓kX,kW,aS,simprocAttr,set_get,set_set,sl,a3,o3,p3]
 obtain⟨E,hE⟩:∃E,E=H.set k10 (.cells (lH (kZ 4 x)) 58 4):=⟨_,rfl⟩
 have hE10:E k10=some (.cells (lH (kZ 4 x)) 58 4):=by rw[hE,set_get]
 rw[←hE]
 have o1:([.sc (.int .u64 1),.sc (.int .u64 0),.sc (.int .u64 0),.sc (.int .u64 0),.sc (.int .u64 0),.sc (.int .u64 0),.sc (.int .u64 0),.sc (.int .u64 0)]:List AV)=prC 1 0:=rfl
 have o2:lH (kZ 4 x)++[.sc (.int .u64 1),.sc (.int .u64 0),.sc (.int .u64 0),.sc (.int .u64 0)]=prC x 1:=rfl
 refine eI00 (fun σ F=>∃bA bB,σ 8=.ip (lH (kZ 4 nk)) 0∧σ 10=.ptr k10 0∧σ 12=.ptr bA 0∧σ 13=.ptr bB 0∧¬bA=bB∧E bA=none∧E bB=none∧F=(E.set bA (.cells (prC 1 0) 116 8)).set bB (.cells (prC x 1) 116 8)) ?_ ?_
 ·simp(disch:=omega)only[↓kX,kW,aS,simprocAttr,hE10,sl,st,tk,dk,o1,o2,List.append_nil]
  repeat' (refine And.intro ?_ ?_)
  all_goals
   intro kA hA0 hA
   have nA':¬k10=kA:=fun e=>by rw[←e,hE10]at hA;cases hA
   have vL:∀X,(E.set kA X) k10=some (.cells (lH (kZ 4 x)) 58 4):=fun X=>by rw[aP nA',hE10]
   try (simp(disch:=omega)only[↓kX,kW,aS,simprocAttr,vL,set_get,sl,st,tk,dk,pl,o1,o2,List.append_nil])
  all_goals (repeat' (refine And.intro ?_ ?_))
  all_goals
   intro kB hB0 hB
   have nB':¬k10=kB:=fun e=>by rw[←e,vL]at hB;cases hB
   have w:∀X Y,((E.set kA X).set kB Y) k10=some (.cells (lH (kZ 4 x)) 58 4):=fun X Y=>by rw[aP nB',vL]
   have nAB:¬kA=kB:=fun e=>by rw[e,set_get]at hB;cases hB
   have nEB:E kB=none:=by rw[←aP (H:=E) (fun e=>nAB e.symm)];exact hB
   have u1:∀X Y,((E.set kA X).set kB Y) kA=some X:=fun X Y=>by rw[aP nAB,set_get]
   have u2:∀X Y Z,((E.set kA X).set kB Y).set kA Z=(E.set kA Z).set kB Y:=fun X Y Z=>mG nAB
   have u3:∀X Y Z,((E.set kA X).set kB Y).set kB Z=(E.set kA X).set kB Z:=fun X Y Z=>set_set ..
   try (simp(disch:=omega)only[↓kX,kW,aS,simprocAttr,vL,w,u1,u2,u3,set_get,set_set,sl,st,tk,dk,pl,pz,pt,o1,o2,List.append_nil,List.length_cons,List.length_nil])
  all_goals (try (refine And.intro ?_ ?_))
  all_goals first
   |exact⟨kA,kB,rfl,rfl,nAB,hA,nEB,rfl⟩
   |exact⟨kB,kA,rfl,rfl,fun e=>nAB e.symm,nEB,hA,fD (fun e=>nAB e.symm)⟩
 ·intro σ' F hF
  obtain⟨bA,bB,e8,e10,e12,e13,nAB,fA,fB,rfl⟩:=hF
  have hE10':∀X Y,((E.set bA X).set bB Y) k10=some (.cells (lH (kZ 4 x)) 58 4):=fun X Y=>by
   have n1:¬k10=bA:=fun e=>by rw[←e,hE10]at fA;cases fA
   have n2:¬k10=bB:=fun e=>by rw[←e,hE10]at fB;cases fB
   rw[aP n2,aP n1,hE10]
  have u1:∀X Y,((E.set bA X).set bB Y) bA=some X:=fun X Y=>by rw[aP nAB,set_get]
  have u2:∀X Y Z,((E.set bA X).set bB Y).set bA Z=(E.set bA Z).set bB Y:=fun X Y Z=>mG nAB
  have hS0:mY x bit ⟨1,0,x,1⟩ 0=⟨1,0,x,1⟩:=rfl
  have hS1:=fun i=>sV x bit ⟨1,0,x,1⟩ i
  have hSb:=fun i=>climb_b x bit ⟨1,0,x,1⟩ (show 1<lX by decide) (show 0<lX by decide) hxB (show 1<lX by decide) i
  generalize mY x bit ⟨1,0,x,1⟩=S at *
  simp(disch:=omega)only[↓kX,kW,aS,simprocAttr,e8,e10,e12,e13]
  refine br (c:=⟨Tryz.prog,85,[(7,[0,0,0,0,0,2,2,2,2]),(18,[0,1,0,1,0,0,0,0,0]),(1000004,[8]),(4000018,[4,5]),(4000015,[8,10,12,13,14,47]),(4000014,[8,10,12,13,14,15,47]),(4000013,[8,10,12,13,14,15,47]),(4000007,[8,10,12,13]),(4000006,[8,10]),(4000005,[8,10]),(4000004,[1,8]),(4000002,[1,6,27]),(4000001,[1,6,7])],[],[(7,(.op 0 0 (.op 1 0 (.op 3 0 (.or (.op 2 3 (.op 4 0 (.or (.op 5 3 (.op 6 3 (.op 7 2 (.op 8 2 .nil)))) (.op 6 3 (.op 5 3 (.op 7 2 (.op 8 2 .nil))))))) (.or (.op 5 3 (.or (.op 2 3 (.op 4 0 (.op 6 3 (.op 7 2 (.op 8 2 .nil))))) (.op 6 3 (.or (.op 2 3 (.op 4 0 (.op 7 2 (.op 8 2 .nil)))) (.op 7 2 (.op 2 3 (.op 4 0 (.op 8 2 .nil)))))))) (.op 6 3 (.or (.op 2 3 (.op 4 0 (.op 5 3 (.op 7 2 (.op 8 2 .nil))))) (.op 5 3 (.or (.op 2 3 (.op 4 0 (.op 7 2 (.op 8 2 .nil)))) (.op 7 2 (.op 2 3 (.op 4 0 (.op 8 2 .nil))))))))))))))]⟩) Tryz.mixed (by kernel_rfl) (fun m σ F=>∃i:Nat,i+m=254∧σ 8=.ip (lH (kZ 4 nk)) 0∧σ 10=.ptr k10 0∧σ 12=.ptr bA 0∧σ 13=.ptr bB 0∧σ 14=.sc (.int .i64 m)∧σ 47=.sc (.int .i64 i)∧F=(E.set bA (.cells (prC (S i).a (S i).b) 116 8)).set bB (.cells (prC (S i).c (S i).d) 116 8)) 254 ?_ ?_
  ·refine⟨0,by omega,?_⟩
   rw[hS0]
   simp(disch:=omega)only[↓kX,kW,aS,simprocAttr,e8,e10,e12,e13]
   first|rfl|exact⟨rfl,rfl⟩|trace_state
  ·rintro m σ F ⟨i,hi,g8,g10,g12,g13,g14,g47,rfl⟩
   have d1:decide ((i:Int)<255)=true:=dT (by omega)
   have w1:IntKind.i64.wrap ((i:Int)+1)=((i+1:Nat):Int):=by rw[iw (by omega)];rfl
   have w2:IntKind.i64.wrap ((m:Int)-1)=(m:Int)-1:=iw (by omega)
   have c3:=cB m (by omega)
   have hn:=hS1 i
   rw[show 254-i=m by omega]at hn
   have hb:=hSb i
   have hbn:=hSb (i+1)
   generalize hsn:S (i+1)=sn at *
   generalize S i=s at *
   have hbm:=hb1 m
   generalize bit m=bm at *
   have k1:=pswap_pure bm s.a s.b s.c s.d hbm
   have hw1:=swap_b bm s hb
   generalize my bm ⟨s.a,s.b,s.c,s.d⟩=s1 at *
   have k2:=pstep_pure x s1.a s1.b s1.c s1.d hxB hw1.1 hw1.2.1 hw1.2.2.1 hw1.2.2.2
   generalize Go.Nam.stepL x ⟨s1.a,s1.b,s1.c,s1.d⟩=s2 at *
   have k3:=pswap_pure bm s2.a s2.b s2.c s2.d hbm
   rw[←hn]at k3
   unfold nA at *
   simp(disch:=omega)only[↓kX,kW,aS,simprocAttr,g8,g10,g12,g13,g14,g47,d1,sl,st]
   first|refine CallK.p (c3) ?_|refine CallP.i (c3) ?_
   simp(disch:=omega)only[↓kX,kW,aS,simprocAttr,g8,g10,g12,g13,g14,g47,w2,u1,u2,hE10',set_get,set_set,sl,st,pl,pt]
   first|refine CallK.p (k1) ?_|refine CallP.i (k1) ?_
   simp(disch:=omega)only[↓kX,kW,aS,simprocAttr,g8,g10,g12,g13,g14,g47,u1,u2,hE10',set_get,set_set,sl,st,pl,pt,pu]
   first|refine CallK.p (k2) ?_|refine CallP.i (k2) ?_
   simp(disch:=omega)only[↓kX,kW,aS,simprocAttr,g8,g10,g12,g13,g14,g47,u1,u2,hE10',set_get,set_set,sl,st,pl,pt,pu]
   first|refine CallK.p (k3) ?_|refine CallP.i (k3) ?_
   simp(disch:=omega)only[↓kX,kW,aS,simprocAttr,g8,g10,g12,g13,g14,g47,u1,u2,hE10',set_get,set_set,sl,st,pl,pt,pu]
   by_cases hm0:m=0
   ·subst hm0
    obtain rfl:i=254:=by omega
    have hend:S 255=sn:=hsn
    have m1:=pinv_pure sn.b hbn.2.1
    have hvB:sn.b^(p25-2) % p25<lX:=p25_b
    have m2:=cmul sn.a (sn.b^(p25-2) % p25) hbn.1 hvB
    rw[hend]
    unfold oH
    generalize sn.b^(p25-2) % p25=v at *
    have hmB:mQ sn.a v<p25:=fmul_lt _ _
    have m3:=pencode_pure (mQ sn.a v) (pn hmB)
    rw[Nat.mod_eq_of_lt hmB]at m3
    generalize mQ sn.a v=r at *
    unfold nA at *
    have d2:decide ((0:Int)-1<0)=true:=rfl
    simp(disch:=omega)only[↓kX,kW,aS,simprocAttr,d2,g8,g10,g12,g13,g14,g47,u1,u2,hE10',set_get,set_set,sl,st,pl,pt,pf,ps]
    first|refine CallK.p (m1) ?_|refine CallP.i (m1) ?_
    simp(disch:=omega)only[↓kX,kW,aS,simprocAttr,g12,u1,u2,set_get,sl,st,pl,pt,pf,ps]
    first|refine CallK.p (m2) ?_|refine CallP.i (m2) ?_
    simp(disch:=omega)only[↓kX,kW,aS,simprocAttr,g12,u1,u2,set_get,sl,st,pl,pt,pf,ps]
    first|refine CallK.p (m3) ?_|refine CallP.i (m3) ?_
    simp(disch:=omega)only[↓kX,kW,aS,simprocAttr,g12,u1,u2,set_get,sl,st,pl,pt,pf,ps]
    have s1:Abs.Sub H E:=by rw[hE];exact Abs.Sub.set_new hk10
    exact s1.trans (((Abs.Sub.refl E).set_free fA).set_free fB)
   ·have d2:decide ((m:Int)-1<0)=false:=dF (by omega)
    simp(disch:=omega)only[↓kX,kW,aS,simprocAttr,d2,g8,g10,g12,g13,g14,g47,w1]
    refine⟨m-1,by omega,i+1,by omega,?_⟩
    rw[hsn]
    exact⟨by rw[show(m:Int)-1=((m-1:Nat):Int) by omega],rfl,rfl⟩
theorem pmult_bad(k u:List UInt8)(h:k.length≠32∨u.length≠32):APure Tryz.prog 43 [eu k,eu u] (.tup [eu [],.sc (.int .i64 1)]):=by
 by_cases hk:k.length=32
 ·have cC:=pclamp_pure k hk
  have hu:u.length≠32:=h.resolve_left fun g=>g hk
  have b1:((u.length:Int) != 32)=true:=nT (by omega)
  have hcl:=ni k
  rw[hk]at hcl
  unfold eu at *
  rw[hcl]at cC
  refine az (c:=⟨Tryz.prog,85,[(7,[0,0,0,0,0,2,2,2,2]),(18,[0,1,0,1,0,0,0,0,0]),(1000004,[8]),(4000018,[4,5]),(4000015,[8,10,12,13,14,47]),(4000014,[8,10,12,13,14,15,47]),(4000013,[8,10,12,13,14,15,47]),(4000007,[8,10,12,13]),(4000006,[8,10]),(4000005,[8,10]),(4000004,[1,8]),(4000002,[1,6,27]),(4000001,[1,6,7])],[],[(7,(.op 0 0 (.op 1 0 (.op 3 0 (.or (.op 2 3 (.op 4 0 (.or (.op 5 3 (.op 6 3 (.op 7 2 (.op 8 2 .nil)))) (.op 6 3 (.op 5 3 (.op 7 2 (.op 8 2 .nil))))))) (.or (.op 5 3 (.or (.op 2 3 (.op 4 0 (.op 6 3 (.op 7 2 (.op 8 2 .nil))))) (.op 6 3 (.or (.op 2 3 (.op 4 0 (.op 7 2 (.op 8 2 .nil)))) (.op 7 2 (.op 2 3 (.op 4 0 (.op 8 2 .nil)))))))) (.op 6 3 (.or (.op 2 3 (.op 4 0 (.op 5 3 (.op 7 2 (.op 8 2 .nil))))) (.op 5 3 (.or (.op 2 3 (.op 4 0 (.op 7 2 (.op 8 2 .nil)))) (.op 7 2 (.op 2 3 (.op 4 0 (.op 8 2 .nil))))))))))))))]⟩) (rs:=[ResultVar.tmp 4,ResultVar.tmp 5]) Tryz.mixed Tryz.func43 rfl rfl rfl (Nat.le_of_ble_eq_true rfl) (by kernel_rfl) fun H=>?_
  simp(disch:=omega)only[↓kX,kW,aS,simprocAttr]
  refine scope_t Tryz.mixed 0 (by kernel_rfl) (rest:=_) rfl (by kernel_rfl) (fun _ _ _=>False) ?_ (fun _ _ _ h=>h.elim)
  simp(disch:=omega)only[↓kX,kW,aS,simprocAttr]
  first|refine CallK.p (cC) ?_|refine CallP.i (cC) ?_
  simp(disch:=omega)only[↓kX,kW,aS,simprocAttr,b1]
  exact⟨rfl,Abs.Sub.refl _⟩
 ·have cC:=pclamp_bad k hk
  unfold eu at *
  refine az (c:=⟨Tryz.prog,85,[(7,[0,0,0,0,0,2,2,2,2]),(18,[0,1,0,1,0,0,0,0,0]),(1000004,[8]),(4000018,[4,5]),(4000015,[8,10,12,13,14,47]),(4000014,[8,10,12,13,14,15,47]),(4000013,[8,10,12,13,14,15,47]),(4000007,[8,10,12,13]),(4000006,[8,10]),(4000005,[8,10]),(4000004,[1,8]),(4000002,[1,6,27]),(4000001,[1,6,7])],[],[(7,(.op 0 0 (.op 1 0 (.op 3 0 (.or (.op 2 3 (.op 4 0 (.or (.op 5 3 (.op 6 3 (.op 7 2 (.op 8 2 .nil)))) (.op 6 3 (.op 5 3 (.op 7 2 (.op 8 2 .nil))))))) (.or (.op 5 3 (.or (.op 2 3 (.op 4 0 (.op 6 3 (.op 7 2 (.op 8 2 .nil))))) (.op 6 3 (.or (.op 2 3 (.op 4 0 (.op 7 2 (.op 8 2 .nil)))) (.op 7 2 (.op 2 3 (.op 4 0 (.op 8 2 .nil)))))))) (.op 6 3 (.or (.op 2 3 (.op 4 0 (.op 5 3 (.op 7 2 (.op 8 2 .nil))))) (.op 5 3 (.or (.op 2 3 (.op 4 0 (.op 7 2 (.op 8 2 .nil)))) (.op 7 2 (.op 2 3 (.op 4 0 (.op 8 2 .nil))))))))))))))]⟩) (rs:=[ResultVar.tmp 4,ResultVar.tmp 5]) Tryz.mixed Tryz.func43 rfl rfl rfl (Nat.le_of_ble_eq_true rfl) (by kernel_rfl) fun H=>?_
  simp(disch:=omega)only[↓kX,kW,aS,simprocAttr]
  refine scope_t Tryz.mixed 0 (by kernel_rfl) (rest:=_) rfl (by kernel_rfl) (fun _ _ _=>False) ?_ (fun _ _ _ h=>h.elim)
  simp(disch:=omega)only[↓kX,kW,aS,simprocAttr]
  first|refine CallK.p (cC) ?_|refine CallP.i (cC) ?_
  simp(disch:=omega)only[↓kX,kW,aS,simprocAttr]
  exact⟨rfl,Abs.Sub.refl _⟩
end Go.Proofs.YtcncplameclkfaaGreatDoor
end
section
set_option maxRecDepth 20000
set_option maxHeartbeats 4000000
namespace Go.Proofs.YtcncplameclkfaaGreatDoor
open Go Go.Abs Go.Proofs Go.Box
def multA(k u:List UInt8):AV:=if k.length=32∧u.length=32 then .tup [eu (lQ 32 (oH (oI k u))),.sc (.int .i64 0)] else .tup [eu [],.sc (.int .i64 1)]
theorem pmultA(k u:List UInt8):APure Tryz.prog 43 [eu k,eu u] (multA k u):=by
 unfold multA
 split
 ·rename_i h
  exact pmult_pure k u h.1 h.2
 ·rename_i h
  exact pmult_bad k u (by omega)
def nineB:List UInt8:=9::List.replicate 31 0
theorem ppublic_pure(k:List UInt8):APure Tryz.prog 24 [eu k] (if k.length=32 then .tup [eu (lQ 32 (oH (oI k nineB))),.sc (.int .i64 0)] else .tup [eu [],.sc (.int .i64 1)]):=by
 have c1:=pmultA k nineB
 unfold multA at c1
 simp only[show nineB.length=32 from rfl,and_true]at c1
 have n9:(.sc (.int .u8 9)::[.sc (.int .u8 0),.sc (.int .u8 0),.sc (.int .u8 0),.sc (.int .u8 0),.sc (.int .u8 0),.sc (.int .u8 0),.sc (.int .u8 0),.sc (.int .u8 0),.sc (.int .u8 0),.sc (.int .u8 0),.sc (.int .u8 0),.sc (.int .u8 0),.sc (.int .u8 0),.sc (.int .u8 0),.sc (.int .u8 0),.sc (.int .u8 0),.sc (.int .u8 0),.sc (.int .u8 0),.sc (.int .u8 0),.sc (.int .u8 0),.sc (.int .u8 0),.sc (.int .u8 0),.sc (.int .u8 0),.sc (.int .u8 0),.sc (.int .u8 0),.sc (.int .u8 0),.sc (.int .u8 0),.sc (.int .u8 0),.sc (.int .u8 0),.sc (.int .u8 0),.sc (.int .u8 0)]:List AV)=bw nineB:=rfl
 have hl:(lQ 32 (oH (oI k nineB))).length=32:=mL ..
 generalize oH (oI k nineB)=v at *
 unfold eu at *
 rw[hl]at *
 have pz:bG [.sc (.int .u8 0),.sc (.int .u8 0),.sc (.int .u8 0),.sc (.int .u8 0),.sc (.int .u8 0),.sc (.int .u8 0),.sc (.int .u8 0),.sc (.int .u8 0),.sc (.int .u8 0),.sc (.int .u8 0),.sc (.int .u8 0),.sc (.int .u8 0),.sc (.int .u8 0),.sc (.int .u8 0),.sc (.int .u8 0),.sc (.int .u8 0),.sc (.int .u8 0),.sc (.int .u8 0),.sc (.int .u8 0),.sc (.int .u8 0),.sc (.int .u8 0),.sc (.int .u8 0),.sc (.int .u8 0),.sc (.int .u8 0),.sc (.int .u8 0),.sc (.int .u8 0),.sc (.int .u8 0),.sc (.int .u8 0),.sc (.int .u8 0),.sc (.int .u8 0),.sc (.int .u8 0),.sc (.int .u8 0)] 0 [.sc (.int .u8 9)]=bw nineB:=rfl
 have go:∀(H:AH) (n:Nat) (v:AV) (k1:Nat),APure Tryz.prog 43 [.imm 0 (bw k) n,.imm 0 (bw nineB) 32] v→H k1=none→ACalls Tryz.prog 43 [.imm 0 (bw k) n,.own k1 0 32] (H.set k1 (.cells (bw nineB) 5 1)) (fun v' H'=>v'=v∧H'=H):=by
  intro H n v k1 hc h1
  refine ACalls.give (args':=[.imm 0 (bw k) n,.imm 0 (bw nineB) 32]) (H0:=H) ((Abs.Sub.refl H).set_free h1) ⟨Frz.same,?_,trivial⟩ (hc.call ⟨rfl,rfl⟩)
  have:=Frz.own (H:=H.set k1 (.cells (bw nineB) 5 1)) (H0:=H) (k:=k1) (n:=32) (cs:=bw nineB) set_get h1 (by rw[gz];decide)
  rwa [show(bw nineB).take (32*1)=bw nineB from rfl]at this
 by_cases hk:k.length=32
 ·rw[if_pos hk]at *
  refine az (c:=⟨Tryz.prog,13,[],[],[]⟩) (rs:=[ResultVar.tmp 2,ResultVar.tmp 3]) Tryz.mixed Tryz.func24 rfl rfl rfl (Nat.le_of_ble_eq_true rfl) (by kernel_rfl) fun H=>?_
  simp(disch:=omega)only[↓kX,kW,aS,Nat.reduceBEq,Nat.reduceLT,reduceCtorEq,↓reduceIte,Nat.reduceMul,Nat.reduceAdd,Nat.reduceLeDiff,Nat.reduceEqDiff,Int.reduceToNat,Nat.reduceSub,Nat.reduceMod,Nat.reduceDiv,Int.reducePow,Int.reduceLE,Int.reduceNeg,Int.reduceLT,Int.reduceBEq,Int.reduceBNe,Int.reduceEq,pz]
  intro k1 hk10 hk1
  refine CallK.i (go H _ _ _ c1 hk1) ?_
  rintro v' E ⟨rfl,rfl⟩
  simp(disch:=omega)only[↓kX,kW,aS,Nat.reduceBEq,Nat.reduceLT,reduceCtorEq,↓reduceIte,Nat.reduceMul,Nat.reduceAdd,Nat.reduceLeDiff,Nat.reduceEqDiff,Int.reduceToNat,Nat.reduceSub,Nat.reduceMod,Nat.reduceDiv,Int.reducePow,Int.reduceLE,Int.reduceNeg,Int.reduceLT,Int.reduceBEq,Int.reduceBNe,Int.reduceEq]
  first|exact⟨rfl,Abs.Sub.refl _⟩|exact Abs.Sub.refl _
 ·rw[if_neg hk]at *
  refine az (c:=⟨Tryz.prog,13,[],[],[]⟩) (rs:=[ResultVar.tmp 2,ResultVar.tmp 3]) Tryz.mixed Tryz.func24 rfl rfl rfl (Nat.le_of_ble_eq_true rfl) (by kernel_rfl) fun H=>?_
  simp(disch:=omega)only[↓kX,kW,aS,Nat.reduceBEq,Nat.reduceLT,reduceCtorEq,↓reduceIte,Nat.reduceMul,Nat.reduceAdd,Nat.reduceLeDiff,Nat.reduceEqDiff,Int.reduceToNat,Nat.reduceSub,Nat.reduceMod,Nat.reduceDiv,Int.reducePow,Int.reduceLE,Int.reduceNeg,Int.reduceLT,Int.reduceBEq,Int.reduceBNe,Int.reduceEq,pz]
  intro k1 hk10 hk1
  refine CallK.i (go H _ _ _ c1 hk1) ?_
  rintro v' E ⟨rfl,rfl⟩
  simp(disch:=omega)only[↓kX,kW,aS,Nat.reduceBEq,Nat.reduceLT,reduceCtorEq,↓reduceIte,Nat.reduceMul,Nat.reduceAdd,Nat.reduceLeDiff,Nat.reduceEqDiff,Int.reduceToNat,Nat.reduceSub,Nat.reduceMod,Nat.reduceDiv,Int.reducePow,Int.reduceLE,Int.reduceNeg,Int.reduceLT,Int.reduceBEq,Int.reduceBNe,Int.reduceEq]
  first|exact⟨rfl,Abs.Sub.refl _⟩|exact Abs.Sub.refl _
theorem eqB0(a0 a1 a2 a3 a4 a5 a6 a7 a8 a9 a10 a11 a12 a13 a14 a15 a16 a17 a18 a19 a20 a21 a22 a23 a24 a25 a26 a27 a28 a29 a30 a31 b0 b1 b2 b3 b4 b5 b6 b7 b8 b9 b10 b11 b12 b13 b14 b15 b16 b17 b18 b19 b20 b21 b22 b23 b24 b25 b26 b27 b28 b29 b30 b31:Int):eqG Tryz.prog 6 70 (.agg [.sc (.int .u8 a0),.sc (.int .u8 a1),.sc (.int .u8 a2),.sc (.int .u8 a3),.sc (.int .u8 a4),.sc (.int .u8 a5),.sc (.int .u8 a6),.sc (.int .u8 a7),.sc (.int .u8 a8),.sc (.int .u8 a9),.sc (.int .u8 a10),.sc (.int .u8 a11),.sc (.int .u8 a12),.sc (.int .u8 a13),.sc (.int .u8 a14),.sc (.int .u8 a15),.sc (.int .u8 a16),.sc (.int .u8 a17),.sc (.int .u8 a18),.sc (.int .u8 a19),.sc (.int .u8 a20),.sc (.int .u8 a21),.sc (.int .u8 a22),.sc (.int .u8 a23),.sc (.int .u8 a24),.sc (.int .u8 a25),.sc (.int .u8 a26),.sc (.int .u8 a27),.sc (.int .u8 a28),.sc (.int .u8 a29),.sc (.int .u8 a30),.sc (.int .u8 a31)]) (.agg [.sc (.int .u8 b0),.sc (.int .u8 b1),.sc (.int .u8 b2),.sc (.int .u8 b3),.sc (.int .u8 b4),.sc (.int .u8 b5),.sc (.int .u8 b6),.sc (.int .u8 b7),.sc (.int .u8 b8),.sc (.int .u8 b9),.sc (.int .u8 b10),.sc (.int .u8 b11),.sc (.int .u8 b12),.sc (.int .u8 b13),.sc (.int .u8 b14),.sc (.int .u8 b15),.sc (.int .u8 b16),.sc (.int .u8 b17),.sc (.int .u8 b18),.sc (.int .u8 b19),.sc (.int .u8 b20),.sc (.int .u8 b21),.sc (.int .u8 b22),.sc (.int .u8 b23),.sc (.int .u8 b24),.sc (.int .u8 b25),.sc (.int .u8 b26),.sc (.int .u8 b27),.sc (.int .u8 b28),.sc (.int .u8 b29),.sc (.int .u8 b30),.sc (.int .u8 b31)])=some ((a0 == b0)&&((a1 == b1)&&((a2 == b2)&&((a3 == b3)&&((a4 == b4)&&((a5 == b5)&&((a6 == b6)&&((a7 == b7)&&((a8 == b8)&&((a9 == b9)&&((a10 == b10)&&((a11 == b11)&&((a12 == b12)&&((a13 == b13)&&((a14 == b14)&&((a15 == b15)&&((a16 == b16)&&((a17 == b17)&&((a18 == b18)&&((a19 == b19)&&((a20 == b20)&&((a21 == b21)&&((a22 == b22)&&((a23 == b23)&&((a24 == b24)&&((a25 == b25)&&((a26 == b26)&&((a27 == b27)&&((a28 == b28)&&((a29 == b29)&&((a30 == b30)&&((a31 == b31)&&true)))))))))))))))))))))))))))))))):=by kernel_rfl
theorem ckB0(x0 x1 x2 x3 x4 x5 x6 x7 x8 x9 x10 x11 x12 x13 x14 x15 x16 x17 x18 x19 x20 x21 x22 x23 x24 x25 x26 x27 x28 x29 x30 x31:AV):cl0 Tryz.prog 6 70 (.agg [x0,x1,x2,x3,x4,x5,x6,x7,x8,x9,x10,x11,x12,x13,x14,x15,x16,x17,x18,x19,x20,x21,x22,x23,x24,x25,x26,x27,x28,x29,x30,x31])=true:=by kernel_rfl
theorem eqB{l l':List UInt8}(h:l.length=32)(h':l'.length=32):eqG Tryz.prog 6 70 (.agg (bw l)) (.agg (bw l'))=some (decide (l=l')):=by
 match l,h,l',h' with
 |[a0,a1,a2,a3,a4,a5,a6,a7,a8,a9,a10,a11,a12,a13,a14,a15,a16,a17,a18,a19,a20,a21,a22,a23,a24,a25,a26,a27,a28,a29,a30,a31],_,[b0,b1,b2,b3,b4,b5,b6,b7,b8,b9,b10,b11,b12,b13,b14,b15,b16,b17,b18,b19,b20,b21,b22,b23,b24,b25,b26,b27,b28,b29,b30,b31],_=>
  show eqG Tryz.prog 6 70 (.agg [.sc (.int .u8 (a0.toNat:Nat)),.sc (.int .u8 (a1.toNat:Nat)),.sc (.int .u8 (a2.toNat:Nat)),.sc (.int .u8 (a3.toNat:Nat)),.sc (.int .u8 (a4.toNat:Nat)),.sc (.int .u8 (a5.toNat:Nat)),.sc (.int .u8 (a6.toNat:Nat)),.sc (.int .u8 (a7.toNat:Nat)),.sc (.int .u8 (a8.toNat:Nat)),.sc (.int .u8 (a9.toNat:Nat)),.sc (.int .u8 (a10.toNat:Nat)),.sc (.int .u8 (a11.toNat:Nat)),.sc (.int .u8 (a12.toNat:Nat)),.sc (.int .u8 (a13.toNat:Nat)),.sc (.int .u8 (a14.toNat:Nat)),.sc (.int .u8 (a15.toNat:Nat)),.sc (.int .u8 (a16.toNat:Nat)),.sc (.int .u8 (a17.toNat:Nat)),.sc (.int .u8 (a18.toNat:Nat)),.sc (.int .u8 (a19.toNat:Nat)),.sc (.int .u8 (a20.toNat:Nat)),.sc (.int .u8 (a21.toNat:Nat)),.sc (.int .u8 (a22.toNat:Nat)),.sc (.int .u8 (a23.toNat:Nat)),.sc (.int .u8 (a24.toNat:Nat)),.sc (.int .u8 (a25.toNat:Nat)),.sc (.int .u8 (a26.toNat:Nat)),.sc (.int .u8 (a27.toNat:Nat)),.sc (.int .u8 (a28.toNat:Nat)),.sc (.int .u8 (a29.toNat:Nat)),.sc (.int .u8 (a30.toNat:Nat)),.sc (.int .u8 (a31.toNat:Nat))]) (.agg [.sc (.int .u8 (b0.toNat:Nat)),.sc (.int .u8 (b1.toNat:Nat)),.sc (.int .u8 (b2.toNat:Nat)),.sc (.int .u8 (b3.toNat:Nat)),.sc (.int .u8 (b4.toNat:Nat)),.sc (.int .u8 (b5.toNat:Nat)),.sc (.int .u8 (b6.toNat:Nat)),.sc (.int .u8 (b7.toNat:Nat)),.sc (.int .u8 (b8.toNat:Nat)),.sc (.int .u8 (b9.toNat:Nat)),.sc (.int .u8 (b10.toNat:Nat)),.sc (.int .u8 (b11.toNat:Nat)),.sc (.int .u8 (b12.toNat:Nat)),.sc (.int .u8 (b13.toNat:Nat)),.sc (.int .u8 (b14.toNat:Nat)),.sc (.int .u8 (b15.toNat:Nat)),.sc (.int .u8 (b16.toNat:Nat)),.sc (.int .u8 (b17.toNat:Nat)),.sc (.int .u8 (b18.toNat:Nat)),.sc (.int .u8 (b19.toNat:Nat)),.sc (.int .u8 (b20.toNat:Nat)),.sc (.int .u8 (b21.toNat:Nat)),.sc (.int .u8 (b22.toNat:Nat)),.sc (.int .u8 (b23.toNat:Nat)),.sc (.int .u8 (b24.toNat:Nat)),.sc (.int .u8 (b25.toNat:Nat)),.sc (.int .u8 (b26.toNat:Nat)),.sc (.int .u8 (b27.toNat:Nat)),.sc (.int .u8 (b28.toNat:Nat)),.sc (.int .u8 (b29.toNat:Nat)),.sc (.int .u8 (b30.toNat:Nat)),.sc (.int .u8 (b31.toNat:Nat))])=_
  rw[eqB0]
  congr 1
  rw[Bool.eq_iff_iff]
  simp only[Bool.and_eq_true,beq_iff_eq,decide_eq_true_eq,List.cons.injEq,and_true,Int.ofNat_inj,Int.natCast_inj,UInt8.toNat_inj]
theorem ckB{l:List UInt8}(h:l.length=32):cl0 Tryz.prog 6 70 (.agg (bw l))=true:=by
 match l,h with
 |[a0,a1,a2,a3,a4,a5,a6,a7,a8,a9,a10,a11,a12,a13,a14,a15,a16,a17,a18,a19,a20,a21,a22,a23,a24,a25,a26,a27,a28,a29,a30,a31],_=>exact ckB0 (.sc (.int .u8 (a0.toNat:Nat))) (.sc (.int .u8 (a1.toNat:Nat))) (.sc (.int .u8 (a2.toNat:Nat))) (.sc (.int .u8 (a3.toNat:Nat))) (.sc (.int .u8 (a4.toNat:Nat))) (.sc (.int .u8 (a5.toNat:Nat))) (.sc (.int .u8 (a6.toNat:Nat))) (.sc (.int .u8 (a7.toNat:Nat))) (.sc (.int .u8 (a8.toNat:Nat))) (.sc (.int .u8 (a9.toNat:Nat))) (.sc (.int .u8 (a10.toNat:Nat))) (.sc (.int .u8 (a11.toNat:Nat))) (.sc (.int .u8 (a12.toNat:Nat))) (.sc (.int .u8 (a13.toNat:Nat))) (.sc (.int .u8 (a14.toNat:Nat))) (.sc (.int .u8 (a15.toNat:Nat))) (.sc (.int .u8 (a16.toNat:Nat))) (.sc (.int .u8 (a17.toNat:Nat))) (.sc (.int .u8 (a18.toNat:Nat))) (.sc (.int .u8 (a19.toNat:Nat))) (.sc (.int .u8 (a20.toNat:Nat))) (.sc (.int .u8 (a21.toNat:Nat))) (.sc (.int .u8 (a22.toNat:Nat))) (.sc (.int .u8 (a23.toNat:Nat))) (.sc (.int .u8 (a24.toNat:Nat))) (.sc (.int .u8 (a25.toNat:Nat))) (.sc (.int .u8 (a26.toNat:Nat))) (.sc (.int .u8 (a27.toNat:Nat))) (.sc (.int .u8 (a28.toNat:Nat))) (.sc (.int .u8 (a29.toNat:Nat))) (.sc (.int .u8 (a30.toNat:Nat))) (.sc (.int .u8 (a31.toNat:Nat)))
theorem numL_zero:∀n,lY (List.replicate n 0)=0
 |0=>rfl
 |n+1=>by
  show(0:UInt8).toNat+256*lY (List.replicate n 0)=0
  rw[numL_zero n]
  rfl
theorem bytesN_zero:∀n,lQ n 0=List.replicate n 0
 |0=>rfl
 |n+1=>by
  show UInt8.ofNat 0::lQ n (0/256)=_
  rw[Nat.zero_div,bytesN_zero n]
  rfl
theorem numL_bytes:∀k n,n<256^k→lY (lQ k n)=n
 |0,n,h=>by
  have:n=0:=by rw[Nat.pow_zero]at h;omega
  rw[this]
  rfl
 |k+1,n,h=>by
  show(UInt8.ofNat n).toNat+256*lY (lQ k (n/256))=n
  rw[numL_bytes k (n/256) (by rw[Nat.pow_succ]at h;omega),UInt8.toNat_ofNat']
  omega
theorem zeros_eq{v:Nat}(hv:v<256^32):(lQ 32 v=List.replicate 32 0)↔v=0:=by
 constructor
 ·intro h
  have h2:=numL_bytes 32 v hv
  rw[h,numL_zero]at h2
  exact h2.symm
 ·rintro rfl
  exact bytesN_zero 32
theorem pshared_pure(k u:List UInt8):APure Tryz.prog 21 [eu k,eu u] (if k.length=32∧u.length=32 then (if oH (oI k u)=0 then .tup [eu [],.sc (.int .i64 8)] else .tup [eu (lQ 32 (oH (oI k u))),.sc (.int .i64 0)]) else .tup [eu [],.sc (.int .i64 1)]):=by
 have c1:=pmultA k u
 unfold multA at c1
 unfold eu at *
 split
 ·rename_i h
  rw[if_pos h]at c1
  have hl:(lQ 32 (oH (oI k u))).length=32:=mL ..
  have hv:oH (oI k u)<256^32:=Nat.lt_trans (Go.Nam.fmul_lt _ _) (by decide)
  generalize oH (oI k u)=v at *
  have hz:=zeros_eq hv
  rw[hl]at c1 ⊢
  have hd:decide (lQ 32 v=List.replicate 32 0)=decide (v=0):=decide_eq_decide.2 hz
  generalize lQ 32 v=w at *
  have ie:(bw w).isEmpty=false:=by
   match w,hl with
   |a::l,_=>rfl
  have el:(bw w).length=32:=by rw[gz,hl]
  have et:(bw w).take 32=bw w:=List.take_of_length_le (by rw[el];exact Nat.le_refl _)
  have z1:([.sc (.int .u8 0),.sc (.int .u8 0),.sc (.int .u8 0),.sc (.int .u8 0),.sc (.int .u8 0),.sc (.int .u8 0),.sc (.int .u8 0),.sc (.int .u8 0),.sc (.int .u8 0),.sc (.int .u8 0),.sc (.int .u8 0),.sc (.int .u8 0),.sc (.int .u8 0),.sc (.int .u8 0),.sc (.int .u8 0),.sc (.int .u8 0),.sc (.int .u8 0),.sc (.int .u8 0),.sc (.int .u8 0),.sc (.int .u8 0),.sc (.int .u8 0),.sc (.int .u8 0),.sc (.int .u8 0),.sc (.int .u8 0),.sc (.int .u8 0),.sc (.int .u8 0),.sc (.int .u8 0),.sc (.int .u8 0),.sc (.int .u8 0),.sc (.int .u8 0),.sc (.int .u8 0),.sc (.int .u8 0)]:List AV)=bw (List.replicate 32 0):=rfl
  have e1:=eqB hl (show(List.replicate 32 (0:UInt8)).length=32 from rfl)
  rw[hd]at e1
  have k1:=ckB hl
  have k2:=ckB (show(List.replicate 32 (0:UInt8)).length=32 from rfl)
  have eo:bB0 Tryz.prog 70=true:=by kernel_rfl
  refine az (c:=⟨Tryz.prog,23,[],[],[]⟩) (rs:=[ResultVar.tmp 4,ResultVar.tmp 5]) Tryz.mixed Tryz.func21 rfl rfl rfl (Nat.le_of_ble_eq_true rfl) (by kernel_rfl) fun H=>?_
  simp(disch:=omega)only[↓kX,kW,aS,Nat.reduceBEq,Nat.reduceLT,reduceCtorEq,↓reduceIte,Nat.reduceMul,Nat.reduceAdd,Nat.reduceLeDiff,Nat.reduceEqDiff,Int.reduceToNat,Nat.reduceSub,Nat.reduceMod,Nat.reduceDiv,Int.reducePow,Int.reduceLE,Int.reduceNeg,Int.reduceLT,Int.reduceBEq,Int.reduceBNe,Int.reduceEq]
  first|refine CallK.p (c1) ?_|refine CallP.i (c1) ?_
  simp(disch:=omega)only[↓kX,kW,aS,Nat.reduceBEq,Nat.reduceLT,reduceCtorEq,↓reduceIte,Nat.reduceMul,Nat.reduceAdd,Nat.reduceLeDiff,Nat.reduceEqDiff,Int.reduceToNat,Nat.reduceSub,Nat.reduceMod,Nat.reduceDiv,Int.reducePow,Int.reduceLE,Int.reduceNeg,Int.reduceLT,Int.reduceBEq,Int.reduceBNe,Int.reduceEq,ie,el,et,z1,e1,k1,k2,eo]
  by_cases h0:v=0
  ·rw[if_pos h0]
   rw[decide_eq_true h0]
   simp(disch:=omega)only[↓kX,kW,aS,Nat.reduceBEq,Nat.reduceLT,reduceCtorEq,↓reduceIte,Nat.reduceMul,Nat.reduceAdd,Nat.reduceLeDiff,Nat.reduceEqDiff,Int.reduceToNat,Nat.reduceSub,Nat.reduceMod,Nat.reduceDiv,Int.reducePow,Int.reduceLE,Int.reduceNeg,Int.reduceLT,Int.reduceBEq,Int.reduceBNe,Int.reduceEq]
   first|exact⟨rfl,Abs.Sub.refl _⟩|exact Abs.Sub.refl _
  ·rw[if_neg h0]
   rw[decide_eq_false h0]
   simp(disch:=omega)only[↓kX,kW,aS,Nat.reduceBEq,Nat.reduceLT,reduceCtorEq,↓reduceIte,Nat.reduceMul,Nat.reduceAdd,Nat.reduceLeDiff,Nat.reduceEqDiff,Int.reduceToNat,Nat.reduceSub,Nat.reduceMod,Nat.reduceDiv,Int.reducePow,Int.reduceLE,Int.reduceNeg,Int.reduceLT,Int.reduceBEq,Int.reduceBNe,Int.reduceEq]
   first|exact⟨rfl,Abs.Sub.refl _⟩|exact Abs.Sub.refl _
 ·rename_i h
  rw[if_neg h]at c1
  refine az (c:=⟨Tryz.prog,23,[],[],[]⟩) (rs:=[ResultVar.tmp 4,ResultVar.tmp 5]) Tryz.mixed Tryz.func21 rfl rfl rfl (Nat.le_of_ble_eq_true rfl) (by kernel_rfl) fun H=>?_
  simp(disch:=omega)only[↓kX,kW,aS,Nat.reduceBEq,Nat.reduceLT,reduceCtorEq,↓reduceIte,Nat.reduceMul,Nat.reduceAdd,Nat.reduceLeDiff,Nat.reduceEqDiff,Int.reduceToNat,Nat.reduceSub,Nat.reduceMod,Nat.reduceDiv,Int.reducePow,Int.reduceLE,Int.reduceNeg,Int.reduceLT,Int.reduceBEq,Int.reduceBNe,Int.reduceEq]
  first|refine CallK.p (c1) ?_|refine CallP.i (c1) ?_
  simp(disch:=omega)only[↓kX,kW,aS,Nat.reduceBEq,Nat.reduceLT,reduceCtorEq,↓reduceIte,Nat.reduceMul,Nat.reduceAdd,Nat.reduceLeDiff,Nat.reduceEqDiff,Int.reduceToNat,Nat.reduceSub,Nat.reduceMod,Nat.reduceDiv,Int.reducePow,Int.reduceLE,Int.reduceNeg,Int.reduceLT,Int.reduceBEq,Int.reduceBNe,Int.reduceEq]
  exact⟨rfl,Abs.Sub.refl _⟩
theorem digs9:digs 9=[9]:=by
 rw[qH (by decide),show 9/256=0 from rfl,qQ]
theorem dnine_pure:APure Tryz.prog 25 [] (eu nineB):=by
 have c1:=told_pure 9 32 (by decide) (by rw[digs9];decide)
 have e:lQ 32 9=nineB:=by decide +kernel
 rw[e]at c1
 have d9:D 9=.imm 0 [.sc (.int .i64 9)] 1:=by
  unfold D
  rw[digs9]
  rfl
 rw[d9]at c1
 unfold eu at *
 refine az (c:=⟨Tryz.prog,3,[],[],[]⟩) (rs:=[ResultVar.tmp 0]) Tryz.mixed Tryz.func25 rfl rfl rfl (Nat.le_of_ble_eq_true rfl) (by kernel_rfl) fun H=>?_
 simp(disch:=omega)only[↓kX,kW,aS,simprocAttr]
 first|refine CallK.p (c1) ?_|refine CallP.i (c1) ?_
 simp(disch:=omega)only[↓kX,kW,aS,simprocAttr]
 exact Abs.Sub.refl _
theorem digs_none{v:Nat}:(digs v).length=0↔v=0:=by
 constructor
 ·intro h
  by_cases h0:v=0
  ·exact h0
  ·rw[qH (by omega)]at h
   cases h
 ·rintro rfl
  rw[qQ]
  rfl
theorem dshared_of(k u:List UInt8)(c1:APure Tryz.prog 22 [eu k,eu u] (multA k u)):APure Tryz.prog 8 [eu k,eu u] (if k.length=32∧u.length=32 then (if oH (oI k u)=0 then .tup [eu [],.sc (.int .i64 8)] else .tup [eu (lQ 32 (oH (oI k u))),.sc (.int .i64 0)]) else .tup [eu [],.sc (.int .i64 1)]):=by
 unfold multA at c1
 unfold eu at *
 split
 ·rename_i h
  rw[if_pos h]at c1
  have hl:(lQ 32 (oH (oI k u))).length=32:=mL ..
  have hv:oH (oI k u)<256^32:=Nat.lt_trans (Go.Nam.fmul_lt _ _) (by decide)
  generalize oH (oI k u)=v at *
  have c2:=qj (lQ 32 v) (by rw[hl];decide)
  rw[numL_bytes 32 v hv]at c2
  unfold eu at c2
  rw[hl]at c1 c2 ⊢
  generalize lQ 32 v=w at *
  unfold D pZ at c2
  refine az (c:=⟨Tryz.prog,22,[],[],[]⟩) (rs:=[ResultVar.tmp 4,ResultVar.tmp 5]) Tryz.mixed Tryz.func8 rfl rfl rfl (Nat.le_of_ble_eq_true rfl) (by kernel_rfl) fun H=>?_
  simp(disch:=omega)only[↓kX,kW,aS,simprocAttr]
  first|refine CallK.p (c1) ?_|refine CallP.i (c1) ?_
  simp(disch:=omega)only[↓kX,kW,aS,simprocAttr]
  by_cases h0:v=0
  ·rw[if_pos h0]
   have b1:(((digs v).length:Int) == 0)=true:=by rw[digs_none.2 h0];rfl
   first|refine CallK.p (c2) ?_|refine CallP.i (c2) ?_
   simp(disch:=omega)only[↓kX,kW,aS,simprocAttr,b1]
   first|exact⟨rfl,Abs.Sub.refl _⟩|exact Abs.Sub.refl _
  ·rw[if_neg h0]
   have b1:(((digs v).length:Int) == 0)=false:=by
    have:=mt digs_none.1 h0
    exact beq_eq_false_iff_ne.2 (by omega)
   first|refine CallK.p (c2) ?_|refine CallP.i (c2) ?_
   simp(disch:=omega)only[↓kX,kW,aS,simprocAttr,b1]
   first|exact⟨rfl,Abs.Sub.refl _⟩|exact Abs.Sub.refl _
 ·rename_i h
  rw[if_neg h]at c1
  refine az (c:=⟨Tryz.prog,22,[],[],[]⟩) (rs:=[ResultVar.tmp 4,ResultVar.tmp 5]) Tryz.mixed Tryz.func8 rfl rfl rfl (Nat.le_of_ble_eq_true rfl) (by kernel_rfl) fun H=>?_
  simp(disch:=omega)only[↓kX,kW,aS,simprocAttr]
  first|refine CallK.p (c1) ?_|refine CallP.i (c1) ?_
  simp(disch:=omega)only[↓kX,kW,aS,simprocAttr]
  first|exact⟨rfl,Abs.Sub.refl _⟩|exact Abs.Sub.refl _
end Go.Proofs.YtcncplameclkfaaGreatDoor
end
