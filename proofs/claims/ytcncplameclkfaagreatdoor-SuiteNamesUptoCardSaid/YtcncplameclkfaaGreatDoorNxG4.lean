/-
  Several texts in one: each says what it proves.
  Conditions: none. Lemmas only.
-/
import Derived.Test.YtcncplameclkfaaGreatDoorNxG3
import Derived.Test.YtcncplameclkfaaGreatDoorSuiG6
import Derived.Test.YtcncplameclkfaaGreatDoorSuiTys
set_option linter.all false
section
set_option maxRecDepth 20000
set_option maxHeartbeats 4000000
namespace Go.Proofs.YtcncplameclkfaaGreatDoor
open Go Go.Abs Go.Proofs Go.Box
open Go.Nam (p25 Fq dE W3 Pt nj On mF basP qK qL zeroP mZ lN oU mN)
open Go.Shg (nR pI)
theorem sJ(a b c:List UInt8)(ha:a.length≤1000000000)(hb:b.length≤1000000000)(hc:c.length≤1000000000):APure Tryz.prog 35 [eu a,eu b,eu c] (eu (a++(b++c))):=by
 have hea:=gz a
 have heb:=gz b
 have hec:=gz c
 unfold eu
 refine az (c:=⟨Tryz.prog,14,[],[7],[]⟩) (rs:=[ResultVar.tmp 6]) Tryz.mixed Tryz.func35 rfl rfl rfl (Nat.le_of_ble_eq_true rfl) (by kernel_rfl) fun H=>?_
 simp(disch:=omega)only[↓kX,kW,aS,simprocAttr]
 intro k hk0 hk
 simp(disch:=omega)only[↓kX,kW,aS,simprocAttr,hk0,hea]
 intro k2 o2 hk20 hk2 ho2
 simp(disch:=omega)only[↓kX,kW,aS,simprocAttr,hk20,ho2,hea,heb]
 intro k3 o3 hk30 hk3 ho3
 simp(disch:=omega)only[↓kX,kW,aS,simprocAttr,hk30,ho3,hea,heb,hec,List.length_append,me]
 intro k4 o4 hk40 hk4 ho4
 have f2:H k2=none:=am hk2
 have f3:H k3=none:=am hk3
 rw[ef f2]at hk4 ⊢
 rw[ef f3]
 refine⟨by rw[List.append_assoc,Nat.add_assoc],?_⟩
 exact Sub.set_new (am hk4)
theorem dln{n:Nat}(h:n<lN):(digs n).length≤32:=by
 have:=dlen (n:=n) (k:=32) (Nat.lt_trans h (by decide))
 omega
theorem d64{n:Nat}(h:n<B512):(digs n).length≤64:=dlen (n:=n) (k:=64) (Nat.lt_of_lt_of_le h (by decide +kernel))
theorem rleft_pure(l:List UInt8)(hl:l.length≤100000000):APure Tryz.prog 34 [eu l] (D (iZ l)):=by
 have c1:=dsum512_pure l hl
 have c2:=qj (nR l) (by rw[pI];decide)
 have hn:lY (nR l)<B512:=by
  have h1:=pq (nR l)
  rw[pI]at h1
  exact Nat.lt_of_lt_of_le h1 (by decide +kernel)
 have c3:=rH (lY (nR l)) (by have:=d64 hn;omega)
 unfold iZ
 generalize lY (nR l) % lN=r at *
 generalize lY (nR l)=n at *
 unfold eu at *
 generalize nR l=sm at *
 refine az (c:=⟨Tryz.prog,7,[],[],[]⟩) (rs:=[ResultVar.tmp 2]) Tryz.mixed Tryz.func34 rfl rfl rfl (Nat.le_of_ble_eq_true rfl) (by kernel_rfl) fun H=>?_
 simp(disch:=omega)only[↓kX,kW,aS,simprocAttr]
 first|refine CallK.p (c1) ?_|refine CallP.i (c1) ?_
 simp(disch:=omega)only[↓kX,kW,aS,simprocAttr]
 first|refine CallK.p (c2) ?_|refine CallP.i (c2) ?_
 simp(disch:=omega)only[↓kX,kW,aS,simprocAttr]
 first|refine CallK.p (c3) ?_|refine CallP.i (c3) ?_
 simp(disch:=omega)only[↓kX,kW,aS,simprocAttr]
 exact Abs.Sub.refl _
theorem rparts_pure(seed:List UInt8)(h:seed.length≤1000000):APure Tryz.prog 58 [eu seed] (.tup [D (nY seed),eu (ol seed)]):=by
 have c1:=dsum512_pure seed (by omega)
 have c2:=dclamp_pure ((nR seed).take 32) (pi seed)
 have c3:=qj (mu ((nR seed).take 32)) (by rw[ni,pi];decide)
 have hcl:(mu ((nR seed).take 32)).length=32:=by rw[ni,pi]
 have hpl:=secP_len seed
 have hsl:=pI seed
 have htl:=pi seed
 unfold nY
 have hP:ol seed=(nR seed).drop 32:=rfl
 have et:(bw (nR seed)).take 32=bw ((nR seed).take 32):=qO _ _
 have ed:(bw (nR seed)).drop 32=bw ((nR seed).drop 32):=qP _ _
 rw[←hP]at ed
 generalize ol seed=pf at *
 unfold eu at *
 rw[htl]at c2
 rw[hcl]at c2 c3
 rw[hsl]at c1
 have eel:=gz (nR seed)
 have epl:=gz pf
 have hpt:(bw pf).take 32=bw pf:=List.take_of_length_le (by rw[epl,hpl];decide)
 rw[hpl]
 generalize mu ((nR seed).take 32)=cl at *
 generalize (nR seed).take 32=t32 at *
 generalize nR seed=sm at *
 generalize lY cl=n at *
 refine az (c:=⟨Tryz.prog,19,[(3,[0,0,0,0,0,0])],[],[]⟩) (rs:=[ResultVar.tmp 2,ResultVar.tmp 3]) Tryz.mixed Tryz.func58 rfl rfl rfl (Nat.le_of_ble_eq_true rfl) (by kernel_rfl) fun H=>?_
 simp(disch:=omega)only[↓kX,kW,aS,simprocAttr]
 first|refine CallK.p (c1) ?_|refine CallP.i (c1) ?_
 simp(disch:=omega)only[↓kX,kW,aS,simprocAttr,et,ed,hpt,eel,hsl]
 first|refine CallK.p (c2) ?_|refine CallP.i (c2) ?_
 simp(disch:=omega)only[↓kX,kW,aS,simprocAttr,et,ed,hpt,eel,hsl]
 first|refine CallK.p (c3) ?_|refine CallP.i (c3) ?_
 simp(disch:=omega)only[↓kX,kW,aS,simprocAttr,et,ed,hpt,eel,hsl]
 first|exact Abs.Sub.refl _|exact⟨rfl,Abs.Sub.refl _⟩|trace_state
theorem rpoint_pure(n:Nat)(hn:(digs n).length≤1000):APure Tryz.prog 59 [D n] (eu (qg (mF n basP))):=by
 have c1:=dbase
 have c2:=dtimes n hn (nj basP)
 have hr:=sU n (nj basP) basP (Go.Nam.wide3_rep basP) qK
 have c3:=dpoint (mN n (nj basP) (8*(digs n).length)).1
 rw[hr.pt]at c3
 have c4:=rpencode (mF n basP)
 have vl:=pS
 have vt:=qJ
 have pl:=oV
 have pt:=oF
 unfold eu at *
 generalize qg (mF n basP)=E at *
 generalize (mN n (nj basP) (8*(digs n).length)).1=T at *
 generalize mF n basP=P at *
 generalize nj basP=B at *
 refine az (c:=⟨Tryz.prog,8,[],[],[]⟩) (rs:=[ResultVar.tmp 2]) Tryz.mixed Tryz.func59 rfl rfl rfl (Nat.le_of_ble_eq_true rfl) (by kernel_rfl) fun H=>?_
 simp(disch:=omega)only[↓kX,kW,aS,simprocAttr]
 first|refine CallK.p (c1) ?_|refine CallP.i (c1) ?_
 simp(disch:=omega)only[↓kX,kW,aS,simprocAttr,vl,vt,lD]
 first|refine CallK.p (c2) ?_|refine CallP.i (c2) ?_
 simp(disch:=omega)only[↓kX,kW,aS,simprocAttr,vl,vt,lD]
 first|refine CallK.p (c3) ?_|refine CallP.i (c3) ?_
 simp(disch:=omega)only[↓kX,kW,aS,simprocAttr,pl,pt,kg]
 first|refine CallK.p (c4) ?_|refine CallP.i (c4) ?_
 simp(disch:=omega)only[↓kX,kW,aS,simprocAttr]
 first|exact Abs.Sub.refl _|exact⟨rfl,Abs.Sub.refl _⟩|trace_state
theorem d256{n:Nat}(h:n<2^256):(digs n).length≤1000:=by
 have:=dlen (n:=n) (k:=32) h
 omega
theorem rpublic_pure(seed:List UInt8):APure Tryz.prog 27 [eu seed] (if seed.length=32 then .tup [eu (qe seed),.sc (.int .i64 0)] else .tup [eu [],.sc (.int .i64 1)]):=by
 by_cases h:seed.length=32
 ·rw[if_pos h]
  have b1:((seed.length:Int) != 32)=false:=by rw[h];rfl
  have c1:=rparts_pure seed (by omega)
  have c2:=rpoint_pure (nY seed) (d256 (secN_lt seed))
  rw[show qg (mF (nY seed) basP)=qe seed from rfl]at c2
  generalize qe seed=R at *
  generalize nY seed=n at *
  generalize ol seed=pf at *
  unfold eu at *
  refine az (c:=⟨Tryz.prog,16,[],[],[]⟩) (rs:=[ResultVar.tmp 2,ResultVar.tmp 3]) Tryz.mixed Tryz.func27 rfl rfl rfl (Nat.le_of_ble_eq_true rfl) (by kernel_rfl) fun H=>?_
  simp(disch:=omega)only[↓kX,kW,aS,simprocAttr,b1]
  first|refine CallK.p (c1) ?_|refine CallP.i (c1) ?_
  simp(disch:=omega)only[↓kX,kW,aS,simprocAttr]
  first|refine CallK.p (c2) ?_|refine CallP.i (c2) ?_
  simp(disch:=omega)only[↓kX,kW,aS,simprocAttr]
  first|exact Abs.Sub.refl _|exact⟨rfl,Abs.Sub.refl _⟩|trace_state
 ·rw[if_neg h]
  have b1:((seed.length:Int) != 32)=true:=nT (by omega)
  unfold eu at *
  refine az (c:=⟨Tryz.prog,16,[],[],[]⟩) (rs:=[ResultVar.tmp 2,ResultVar.tmp 3]) Tryz.mixed Tryz.func27 rfl rfl rfl (Nat.le_of_ble_eq_true rfl) (by kernel_rfl) fun H=>?_
  simp(disch:=omega)only[↓kX,kW,aS,simprocAttr,b1]
  first|exact Abs.Sub.refl _|exact⟨rfl,Abs.Sub.refl _⟩|trace_state
theorem rsign_pure(seed b:List UInt8)(hb:b.length≤1000000):APure Tryz.prog 29 [eu seed,eu b] (if seed.length=32 then .tup [eu (sigM seed b),.sc (.int .i64 0)] else .tup [eu [],.sc (.int .i64 1)]):=by
 by_cases h:seed.length=32
 ·rw[if_pos h]
  have b1:((seed.length:Int) != 32)=false:=by rw[h];rfl
  have c1:=rparts_pure seed (by omega)
  have hpf:=secP_len seed
  have hfl:=firM_len seed b
  have hpl:=rX (mF (nY seed) basP)
  rw[show qg (mF (nY seed) basP)=qe seed from rfl]at hpl
  have c2:=sJ (ol seed) b [] (by omega) (by omega) (by decide)
  rw[List.append_nil]at c2
  have c2':=rleft_pure (ol seed++b) (by rw[List.length_append];omega)
  have r1:=digM_lt (ol seed++b)
  have c4:=rpoint_pure (iZ (ol seed++b)) (by have:=dln r1;omega)
  rw[show qg (mF (iZ (ol seed++b)) basP)=sT seed b from rfl]at c4
  have c5:=rpoint_pure (nY seed) (d256 (secN_lt seed))
  rw[show qg (mF (nY seed) basP)=qe seed from rfl]at c5
  have c6:=sJ (sT seed b) (qe seed) b (by omega) (by omega) (by omega)
  have c6':=rleft_pure (sT seed b++(qe seed++b)) (by simp only[List.length_append];omega)
  rw[show iZ (sT seed b++(qe seed++b))=rV seed b from rfl]at c6'
  have r2:rV seed b<lN:=digM_lt _
  have c7:=rH (nY seed) (d256 (secN_lt seed))
  have r3:nY seed % lN<lN:=Nat.mod_lt _ oU
  have hpm:rV seed b*(nY seed % lN)<B512:=by
   have h2:rV seed b*(nY seed % lN)<lN*lN:=Nat.mul_lt_mul_of_lt_of_le r2 (Nat.le_of_lt r3) oU
   exact Nat.lt_trans h2 (by decide)
  have c8:=dlmul_pure (rV seed b) (nY seed % lN) (by have:=dln r2;omega) (by have:=dln r3;omega) (by have:=d64 hpm;omega)
  have r4:rV seed b*(nY seed % lN) % lN<lN:=Nat.mod_lt _ oU
  have hps:iZ (ol seed++b)+rV seed b*(nY seed % lN) % lN<B512:=by
   have:lN+lN<B512:=by decide
   omega
  have c9:=dladd_pure (iZ (ol seed++b)) (rV seed b*(nY seed % lN) % lN) (by have:=dln r1;omega) (by have:=dln r4;omega) (by have:=d64 hps;omega)
  rw[show(iZ (ol seed++b)+rV seed b*(nY seed % lN) % lN) % lN=essM seed b from rfl]at c9
  have r5:essM seed b<lN:=Nat.mod_lt _ oU
  have c10:=told_pure (essM seed b) 32 (by decide) (by have:=dln r5;omega)
  have hbl:=mL 32 (essM seed b)
  have c11:=sJ (sT seed b) (lQ 32 (essM seed b)) [] (by omega) (by omega) (by decide)
  rw[List.append_nil,show sT seed b++lQ 32 (essM seed b)=sigM seed b from rfl]at c11
  clear hpm hps
  generalize sigM seed b=SG at *
  generalize lQ 32 (essM seed b)=sb at *
  generalize essM seed b=es at *
  generalize rV seed b*(nY seed % lN) % lN=p1 at *
  generalize nY seed % lN=p2 at *
  generalize sT seed b++(qe seed++b)=j2 at *
  generalize rV seed b=ky at *
  generalize sT seed b=fi at *
  generalize qe seed=pu at *
  generalize iZ (ol seed++b)=rr at *
  generalize ol seed++b=j1 at *
  generalize nY seed=n at *
  generalize ol seed=pf at *
  unfold eu at *
  refine az (c:=⟨Tryz.prog,42,[],[],[]⟩) (rs:=[ResultVar.tmp 4,ResultVar.tmp 5]) Tryz.mixed Tryz.func29 rfl rfl rfl (Nat.le_of_ble_eq_true rfl) (by kernel_rfl) fun H=>?_
  simp(disch:=omega)only[↓kX,kW,aS,simprocAttr,b1]
  first|refine CallK.p (c1) ?_|refine CallP.i (c1) ?_
  simp(disch:=omega)only[↓kX,kW,aS,simprocAttr]
  first|refine CallK.p (c2) ?_|refine CallP.i (c2) ?_
  simp(disch:=omega)only[↓kX,kW,aS,simprocAttr]
  first|refine CallK.p (c2') ?_|refine CallP.i (c2') ?_
  simp(disch:=omega)only[↓kX,kW,aS,simprocAttr]
  first|refine CallK.p (c4) ?_|refine CallP.i (c4) ?_
  simp(disch:=omega)only[↓kX,kW,aS,simprocAttr]
  first|refine CallK.p (c5) ?_|refine CallP.i (c5) ?_
  simp(disch:=omega)only[↓kX,kW,aS,simprocAttr]
  first|refine CallK.p (c6) ?_|refine CallP.i (c6) ?_
  simp(disch:=omega)only[↓kX,kW,aS,simprocAttr]
  first|refine CallK.p (c6') ?_|refine CallP.i (c6') ?_
  simp(disch:=omega)only[↓kX,kW,aS,simprocAttr]
  first|refine CallK.p (c7) ?_|refine CallP.i (c7) ?_
  simp(disch:=omega)only[↓kX,kW,aS,simprocAttr]
  first|refine CallK.p (c8) ?_|refine CallP.i (c8) ?_
  simp(disch:=omega)only[↓kX,kW,aS,simprocAttr]
  first|refine CallK.p (c9) ?_|refine CallP.i (c9) ?_
  simp(disch:=omega)only[↓kX,kW,aS,simprocAttr]
  first|refine CallK.p (c10) ?_|refine CallP.i (c10) ?_
  simp(disch:=omega)only[↓kX,kW,aS,simprocAttr]
  first|refine CallK.p (c11) ?_|refine CallP.i (c11) ?_
  simp(disch:=omega)only[↓kX,kW,aS,simprocAttr]
  first|exact Abs.Sub.refl _|exact⟨rfl,Abs.Sub.refl _⟩|trace_state
 ·rw[if_neg h]
  have b1:((seed.length:Int) != 32)=true:=nT (by omega)
  unfold eu at *
  refine az (c:=⟨Tryz.prog,42,[],[],[]⟩) (rs:=[ResultVar.tmp 4,ResultVar.tmp 5]) Tryz.mixed Tryz.func29 rfl rfl rfl (Nat.le_of_ble_eq_true rfl) (by kernel_rfl) fun H=>?_
  simp(disch:=omega)only[↓kX,kW,aS,simprocAttr,b1]
  first|exact Abs.Sub.refl _|exact⟨rfl,Abs.Sub.refl _⟩|trace_state
end Go.Proofs.YtcncplameclkfaaGreatDoor
end
section
set_option maxRecDepth 20000
set_option maxHeartbeats 4000000
namespace Go.Proofs.YtcncplameclkfaaGreatDoor
open Go Go.Abs Go.Proofs Go.Box
open Go.Nam (p25 Fq dE W3 Pt nj pU On mF basP qK qL zeroP mZ lN oU mN)
open Go.Shg (nR pI)
theorem ver_same{P A R:Pt}{k:Nat}(hp:P.on)(hA:A.on)(hR:R.on):mZ P (mF k (qL A))=R↔P=mZ R (mF k A):=by
 rw[Go.Nam.smul_neg hA]
 exact Go.Nam.move hp (Go.Nam.smul_on hA k) hR
theorem rverify_pure(key b sig:List UInt8)(hk:key.length≤1000000000)(hs:sig.length≤1000000000)(hb:b.length≤1000000):APure Tryz.prog 16 [eu key,eu b,eu sig] (.sc (.int .i64 (verM key b sig))):=by
 have vl:=pS
 have vt:=qJ
 have z48:=rI
 have pl:=oV
 have pt:=oF
 have hkl:=gz key
 have hsl:=gz sig
 unfold verM
 by_cases h32:key.length=32
 ·by_cases h64:sig.length=64
  ·rw[if_neg (by omega)]
   have b1:((key.length:Int) != 32)=false:=by rw[h32];rfl
   have b2:((sig.length:Int) != 64)=false:=by rw[h64];rfl
   have ed:(bw sig).drop 32=bw (sig.drop 32):=qP _ _
   have et:(bw sig).take 32=bw (sig.take 32):=qO _ _
   have hdl:(sig.drop 32).length=32:=by rw[List.length_drop,h64]
   have htl:(sig.take 32).length=32:=by rw[List.length_take,h64];rfl
   have edl:=gz (sig.drop 32)
   have hdt:(bw (sig.drop 32)).take 32=bw (sig.drop 32):=List.take_of_length_le (by rw[edl,hdl];decide)
   have hsub:sig.length-32=32:=by omega
   have h64le:32≤sig.length:=by omega
   have c1:=dldecode_pure (sig.drop 32) (by omega)
   have c2:=ddecode key
   have c3:=ddecode (sig.take 32)
   have hs1:=@sdecM_lt (sig.drop 32)
   have hp1:=@pdecM_on key
   have hp2:=@pdecM_on (sig.take 32)
   have c4:=sJ (sig.take 32) key b (by omega) (by omega) (by omega)
   have c6:=rleft_pure (sig.take 32++(key++b)) (by simp only[List.length_append];omega)
   rw[show iZ (sig.take 32++(key++b))=kayV key b sig from rfl]at c6
   have rk:kayV key b sig<lN:=digM_lt _
   generalize sig.take 32++(key++b)=jj at *
   generalize kayV key b sig=ky at *
   generalize rC (sig.drop 32)=sd at *
   generalize pK key=pk at *
   generalize pK (sig.take 32)=pr at *
   obtain⟨s,es⟩:=sd
   obtain⟨A,ea⟩:=pk
   obtain⟨R,er⟩:=pr
   unfold decV at c2 c3
   simp only at c1 c2 c3 hs1 ⊢
   unfold eu at *
   rw[hdl]at c1
   rw[htl]at c3 c4
   generalize hwA:(if ea=0 then nj A else noneW)=wA at *
   generalize hwR:(if er=0 then nj R else noneW)=wR at *
   by_cases hes:es=0
   ·rw[if_neg (by simp[hes])]
    have be:((es:Int) != 0)=false:=by rw[hes];rfl
    by_cases hea:ea=0
    ·rw[if_neg (by simp[hea])]
     have bf:((ea:Int) != 0)=false:=by rw[hea];rfl
     have oA:A.on:=hp1 (by rw[hea])
     have rA:wA.Rep A:=by
      rw[←hwA,if_pos hea]
      exact Go.Nam.wide3_rep A
     have c5:=dsmall wA A rA oA
     by_cases hsm:mF 8 A=zeroP
     ·rw[if_pos hsm]
      rw[decide_eq_true hsm]at c5
      refine az (c:=⟨Tryz.prog,69,[(16,[0,0,0,0,0,2,2]),(17,[1,0,1,0,0]),(1000006,[9]),(1000011,[10]),(1000015,[12]),(1000016,[13]),(4000017,[68]),(4000016,[12,13]),(4000015,[9,10,11,12]),(4000014,[7,9,10,11]),(4000011,[0,1,2,7,8,9,10]),(4000006,[0,1,2,7,8,9]),(4000003,[0,1,2,7,8]),(4000001,[0,1,2,21])],[],[]⟩) (rs:=[ResultVar.tmp 6]) Tryz.mixed Tryz.func16 rfl rfl rfl (Nat.le_of_ble_eq_true rfl) (by kernel_rfl) fun H=>?_
      simp(disch:=omega)only[↓kX,kW,aS,simprocAttr,b1,b2,hsub,ed,et,hdt,hkl,hsl,h64le,vl,vt,pl,pt,lD,kg]
      first|refine CallK.p (c1) ?_|refine CallP.i (c1) ?_
      simp(disch:=omega)only[↓kX,kW,aS,simprocAttr,be,hsub,ed,et,hdt,hkl,hsl,h64le,vl,vt,pl,pt,lD,kg]
      first|refine CallK.p (c2) ?_|refine CallP.i (c2) ?_
      simp(disch:=omega)only[↓kX,kW,aS,simprocAttr,hsub,ed,et,hdt,hkl,hsl,h64le,vl,vt,pl,pt,lD,kg]
      intro k9 hk90 hk9
      rw[z48,aj hk9]
      try simp(disch:=omega)only[↓kX,kW,aS,simprocAttr,bf,hsub,ed,et,hdt,hkl,hsl,h64le,vl,vt,pl,pt,lD,kg]
      first|refine CallK.p (c5) ?_|refine CallP.i (c5) ?_
      simp(disch:=omega)only[↓kX,kW,aS,simprocAttr,bf,hsub,ed,et,hdt,hkl,hsl,h64le,vl,vt,pl,pt,lD,kg]
      first|exact Abs.Sub.refl _|exact⟨rfl,Abs.Sub.refl _⟩|trace_state
     ·rw[if_neg hsm]
      rw[decide_eq_false hsm]at c5
      by_cases her:er=0
      ·rw[if_neg (by simp[her])]
       have bg:((er:Int) != 0)=false:=by rw[her];rfl
       have oR:R.on:=hp2 (by rw[her])
       have rR:wR.Rep R:=by
        rw[←hwR,if_pos her]
        exact Go.Nam.wide3_rep R
       have hsL:=hs1 hes
       have c7:=dbase
       have c8:=dtimes s (by have:=dln hsL;omega) (nj basP)
       have r8:=sU s (nj basP) basP (Go.Nam.wide3_rep basP) qK
       have c9:=dtimes ky (by have:=dln rk;omega) wA
       have r9:=sU ky wA A rA oA
       have c10:=dplusP wR (mN ky wA (8*(digs ky).length)).1
       have r10:=Go.Nam.wplus_rep rR r9 oR (Go.Nam.smul_on oA ky)
       have c11:=dpoint (mN s (nj basP) (8*(digs s).length)).1
       rw[r8.pt]at c11
       have c12:=dpoint (pU wR (mN ky wA (8*(digs ky).length)).1)
       rw[r10.pt]at c12
       have hvs:=ver_same (P:=mF s basP) (k:=ky) (Go.Nam.smul_on qK s) oA oR
       have q1:=eqP (mF s basP) (mZ R (mF ky A))
       have k1':=ckP (mF s basP)
       have k2':=ckP (mZ R (mF ky A))
       have eo:=eoP
       clear r8 r9 r10
       by_cases hq:mZ (mF s basP) (mF ky (qL A))=R
       ·rw[if_pos hq]
        rw[decide_eq_true (hvs.1 hq)]at q1
        generalize mZ R (mF ky A)=Y at *
        generalize pU wR (mN ky wA (8*(digs ky).length)).1=y3 at *
        generalize (mN ky wA (8*(digs ky).length)).1=y2 at *
        generalize (mN s (nj basP) (8*(digs s).length)).1=x3 at *
        generalize mF s basP=X at *
        generalize nj basP=B at *
        refine az (c:=⟨Tryz.prog,69,[(16,[0,0,0,0,0,2,2]),(17,[1,0,1,0,0]),(1000006,[9]),(1000011,[10]),(1000015,[12]),(1000016,[13]),(4000017,[68]),(4000016,[12,13]),(4000015,[9,10,11,12]),(4000014,[7,9,10,11]),(4000011,[0,1,2,7,8,9,10]),(4000006,[0,1,2,7,8,9]),(4000003,[0,1,2,7,8]),(4000001,[0,1,2,21])],[],[]⟩) (rs:=[ResultVar.tmp 6]) Tryz.mixed Tryz.func16 rfl rfl rfl (Nat.le_of_ble_eq_true rfl) (by kernel_rfl) fun H=>?_
        simp(disch:=omega)only[↓kX,kW,aS,simprocAttr,b1,b2,hsub,ed,et,hdt,hkl,hsl,h64le,vl,vt,pl,pt,lD,kg]
        first|refine CallK.p (c1) ?_|refine CallP.i (c1) ?_
        simp(disch:=omega)only[↓kX,kW,aS,simprocAttr,be,hsub,ed,et,hdt,hkl,hsl,h64le,vl,vt,pl,pt,lD,kg]
        first|refine CallK.p (c2) ?_|refine CallP.i (c2) ?_
        simp(disch:=omega)only[↓kX,kW,aS,simprocAttr,hsub,ed,et,hdt,hkl,hsl,h64le,vl,vt,pl,pt,lD,kg]
        intro k9 hk90 hk9
        rw[z48,aj hk9]
        try simp(disch:=omega)only[↓kX,kW,aS,simprocAttr,bf,hsub,ed,et,hdt,hkl,hsl,h64le,vl,vt,pl,pt,lD,kg]
        first|refine CallK.p (c5) ?_|refine CallP.i (c5) ?_
        simp(disch:=omega)only[↓kX,kW,aS,simprocAttr,bf,hsub,ed,et,hdt,hkl,hsl,h64le,vl,vt,pl,pt,lD,kg]
        first|refine CallK.p (c3) ?_|refine CallP.i (c3) ?_
        simp(disch:=omega)only[↓kX,kW,aS,simprocAttr,hsub,ed,et,hdt,hkl,hsl,h64le,vl,vt,pl,pt,lD,kg]
        intro k10 hk100 hk10
        rw[z48,aj hk10]
        try simp(disch:=omega)only[↓kX,kW,aS,simprocAttr,bg,hsub,ed,et,hdt,hkl,hsl,h64le,vl,vt,pl,pt,lD,kg]
        first|refine CallK.p (c4) ?_|refine CallP.i (c4) ?_
        simp(disch:=omega)only[↓kX,kW,aS,simprocAttr,hsub,ed,et,hdt,hkl,hsl,h64le,vl,vt,pl,pt,lD,kg]
        first|refine CallK.p (c6) ?_|refine CallP.i (c6) ?_
        simp(disch:=omega)only[↓kX,kW,aS,simprocAttr,hsub,ed,et,hdt,hkl,hsl,h64le,vl,vt,pl,pt,lD,kg]
        first|refine CallK.p (c7) ?_|refine CallP.i (c7) ?_
        simp(disch:=omega)only[↓kX,kW,aS,simprocAttr,hsub,ed,et,hdt,hkl,hsl,h64le,vl,vt,pl,pt,lD,kg]
        first|refine CallK.p (c8) ?_|refine CallP.i (c8) ?_
        simp(disch:=omega)only[↓kX,kW,aS,simprocAttr,hsub,ed,et,hdt,hkl,hsl,h64le,vl,vt,pl,pt,lD,kg]
        intro k12 hk120 hk12
        rw[z48,aj hk12]
        try simp(disch:=omega)only[↓kX,kW,aS,simprocAttr,hsub,ed,et,hdt,hkl,hsl,h64le,vl,vt,pl,pt,lD,kg]
        try simp(disch:=omega)only[↓kX,kW,aS,simprocAttr,hsub,ed,et,hdt,hkl,hsl,h64le,vl,vt,pl,pt,lD,kg]
        first|refine CallK.p (c9) ?_|refine CallP.i (c9) ?_
        simp(disch:=omega)only[↓kX,kW,aS,simprocAttr,hsub,ed,et,hdt,hkl,hsl,h64le,vl,vt,pl,pt,lD,kg]
        first|refine CallK.p (c10) ?_|refine CallP.i (c10) ?_
        simp(disch:=omega)only[↓kX,kW,aS,simprocAttr,hsub,ed,et,hdt,hkl,hsl,h64le,vl,vt,pl,pt,lD,kg]
        intro k13 hk130 hk13
        rw[z48,aj hk13]
        try simp(disch:=omega)only[↓kX,kW,aS,simprocAttr,hsub,ed,et,hdt,hkl,hsl,h64le,vl,vt,pl,pt,lD,kg]
        first|refine CallK.p (c11) ?_|refine CallP.i (c11) ?_
        simp(disch:=omega)only[↓kX,kW,aS,simprocAttr,hsub,ed,et,hdt,hkl,hsl,h64le,vl,vt,pl,pt,lD,kg]
        first|refine CallK.p (c12) ?_|refine CallP.i (c12) ?_
        simp(disch:=omega)only[↓kX,kW,aS,simprocAttr,q1,k1',k2',eo,hsub,ed,et,hdt,hkl,hsl,h64le,vl,vt,pl,pt,lD,kg]
        first|exact Abs.Sub.refl _|exact⟨rfl,Abs.Sub.refl _⟩|trace_state
       ·rw[if_neg hq]
        rw[decide_eq_false (mt hvs.2 hq)]at q1
        generalize mZ R (mF ky A)=Y at *
        generalize pU wR (mN ky wA (8*(digs ky).length)).1=y3 at *
        generalize (mN ky wA (8*(digs ky).length)).1=y2 at *
        generalize (mN s (nj basP) (8*(digs s).length)).1=x3 at *
        generalize mF s basP=X at *
        generalize nj basP=B at *
        refine az (c:=⟨Tryz.prog,69,[(16,[0,0,0,0,0,2,2]),(17,[1,0,1,0,0]),(1000006,[9]),(1000011,[10]),(1000015,[12]),(1000016,[13]),(4000017,[68]),(4000016,[12,13]),(4000015,[9,10,11,12]),(4000014,[7,9,10,11]),(4000011,[0,1,2,7,8,9,10]),(4000006,[0,1,2,7,8,9]),(4000003,[0,1,2,7,8]),(4000001,[0,1,2,21])],[],[]⟩) (rs:=[ResultVar.tmp 6]) Tryz.mixed Tryz.func16 rfl rfl rfl (Nat.le_of_ble_eq_true rfl) (by kernel_rfl) fun H=>?_
        simp(disch:=omega)only[↓kX,kW,aS,simprocAttr,b1,b2,hsub,ed,et,hdt,hkl,hsl,h64le,vl,vt,pl,pt,lD,kg]
        first|refine CallK.p (c1) ?_|refine CallP.i (c1) ?_
        simp(disch:=omega)only[↓kX,kW,aS,simprocAttr,be,hsub,ed,et,hdt,hkl,hsl,h64le,vl,vt,pl,pt,lD,kg]
        first|refine CallK.p (c2) ?_|refine CallP.i (c2) ?_
        simp(disch:=omega)only[↓kX,kW,aS,simprocAttr,hsub,ed,et,hdt,hkl,hsl,h64le,vl,vt,pl,pt,lD,kg]
        intro k9 hk90 hk9
        rw[z48,aj hk9]
        try simp(disch:=omega)only[↓kX,kW,aS,simprocAttr,bf,hsub,ed,et,hdt,hkl,hsl,h64le,vl,vt,pl,pt,lD,kg]
        first|refine CallK.p (c5) ?_|refine CallP.i (c5) ?_
        simp(disch:=omega)only[↓kX,kW,aS,simprocAttr,bf,hsub,ed,et,hdt,hkl,hsl,h64le,vl,vt,pl,pt,lD,kg]
        first|refine CallK.p (c3) ?_|refine CallP.i (c3) ?_
        simp(disch:=omega)only[↓kX,kW,aS,simprocAttr,hsub,ed,et,hdt,hkl,hsl,h64le,vl,vt,pl,pt,lD,kg]
        intro k10 hk100 hk10
        rw[z48,aj hk10]
        try simp(disch:=omega)only[↓kX,kW,aS,simprocAttr,bg,hsub,ed,et,hdt,hkl,hsl,h64le,vl,vt,pl,pt,lD,kg]
        first|refine CallK.p (c4) ?_|refine CallP.i (c4) ?_
        simp(disch:=omega)only[↓kX,kW,aS,simprocAttr,hsub,ed,et,hdt,hkl,hsl,h64le,vl,vt,pl,pt,lD,kg]
        first|refine CallK.p (c6) ?_|refine CallP.i (c6) ?_
        simp(disch:=omega)only[↓kX,kW,aS,simprocAttr,hsub,ed,et,hdt,hkl,hsl,h64le,vl,vt,pl,pt,lD,kg]
        first|refine CallK.p (c7) ?_|refine CallP.i (c7) ?_
        simp(disch:=omega)only[↓kX,kW,aS,simprocAttr,hsub,ed,et,hdt,hkl,hsl,h64le,vl,vt,pl,pt,lD,kg]
        first|refine CallK.p (c8) ?_|refine CallP.i (c8) ?_
        simp(disch:=omega)only[↓kX,kW,aS,simprocAttr,hsub,ed,et,hdt,hkl,hsl,h64le,vl,vt,pl,pt,lD,kg]
        intro k12 hk120 hk12
        rw[z48,aj hk12]
        try simp(disch:=omega)only[↓kX,kW,aS,simprocAttr,hsub,ed,et,hdt,hkl,hsl,h64le,vl,vt,pl,pt,lD,kg]
        try simp(disch:=omega)only[↓kX,kW,aS,simprocAttr,hsub,ed,et,hdt,hkl,hsl,h64le,vl,vt,pl,pt,lD,kg]
        first|refine CallK.p (c9) ?_|refine CallP.i (c9) ?_
        simp(disch:=omega)only[↓kX,kW,aS,simprocAttr,hsub,ed,et,hdt,hkl,hsl,h64le,vl,vt,pl,pt,lD,kg]
        first|refine CallK.p (c10) ?_|refine CallP.i (c10) ?_
        simp(disch:=omega)only[↓kX,kW,aS,simprocAttr,hsub,ed,et,hdt,hkl,hsl,h64le,vl,vt,pl,pt,lD,kg]
        intro k13 hk130 hk13
        rw[z48,aj hk13]
        try simp(disch:=omega)only[↓kX,kW,aS,simprocAttr,hsub,ed,et,hdt,hkl,hsl,h64le,vl,vt,pl,pt,lD,kg]
        first|refine CallK.p (c11) ?_|refine CallP.i (c11) ?_
        simp(disch:=omega)only[↓kX,kW,aS,simprocAttr,hsub,ed,et,hdt,hkl,hsl,h64le,vl,vt,pl,pt,lD,kg]
        first|refine CallK.p (c12) ?_|refine CallP.i (c12) ?_
        simp(disch:=omega)only[↓kX,kW,aS,simprocAttr,q1,k1',k2',eo,hsub,ed,et,hdt,hkl,hsl,h64le,vl,vt,pl,pt,lD,kg]
        first|exact Abs.Sub.refl _|exact⟨rfl,Abs.Sub.refl _⟩|trace_state
      ·rw[if_pos (by simp[her])]
       have bg:((er:Int) != 0)=true:=qR her
       refine az (c:=⟨Tryz.prog,69,[(16,[0,0,0,0,0,2,2]),(17,[1,0,1,0,0]),(1000006,[9]),(1000011,[10]),(1000015,[12]),(1000016,[13]),(4000017,[68]),(4000016,[12,13]),(4000015,[9,10,11,12]),(4000014,[7,9,10,11]),(4000011,[0,1,2,7,8,9,10]),(4000006,[0,1,2,7,8,9]),(4000003,[0,1,2,7,8]),(4000001,[0,1,2,21])],[],[]⟩) (rs:=[ResultVar.tmp 6]) Tryz.mixed Tryz.func16 rfl rfl rfl (Nat.le_of_ble_eq_true rfl) (by kernel_rfl) fun H=>?_
       simp(disch:=omega)only[↓kX,kW,aS,simprocAttr,b1,b2,hsub,ed,et,hdt,hkl,hsl,h64le,vl,vt,pl,pt,lD,kg]
       first|refine CallK.p (c1) ?_|refine CallP.i (c1) ?_
       simp(disch:=omega)only[↓kX,kW,aS,simprocAttr,be,hsub,ed,et,hdt,hkl,hsl,h64le,vl,vt,pl,pt,lD,kg]
       first|refine CallK.p (c2) ?_|refine CallP.i (c2) ?_
       simp(disch:=omega)only[↓kX,kW,aS,simprocAttr,hsub,ed,et,hdt,hkl,hsl,h64le,vl,vt,pl,pt,lD,kg]
       intro k9 hk90 hk9
       rw[z48,aj hk9]
       try simp(disch:=omega)only[↓kX,kW,aS,simprocAttr,bf,hsub,ed,et,hdt,hkl,hsl,h64le,vl,vt,pl,pt,lD,kg]
       first|refine CallK.p (c5) ?_|refine CallP.i (c5) ?_
       simp(disch:=omega)only[↓kX,kW,aS,simprocAttr,bf,hsub,ed,et,hdt,hkl,hsl,h64le,vl,vt,pl,pt,lD,kg]
       first|refine CallK.p (c3) ?_|refine CallP.i (c3) ?_
       simp(disch:=omega)only[↓kX,kW,aS,simprocAttr,hsub,ed,et,hdt,hkl,hsl,h64le,vl,vt,pl,pt,lD,kg]
       intro k10 hk100 hk10
       rw[z48,aj hk10]
       try simp(disch:=omega)only[↓kX,kW,aS,simprocAttr,bg,hsub,ed,et,hdt,hkl,hsl,h64le,vl,vt,pl,pt,lD,kg]
       first|exact Abs.Sub.refl _|exact⟨rfl,Abs.Sub.refl _⟩|trace_state
    ·rw[if_pos (by simp[hea])]
     have bf:((ea:Int) != 0)=true:=qR hea
     refine az (c:=⟨Tryz.prog,69,[(16,[0,0,0,0,0,2,2]),(17,[1,0,1,0,0]),(1000006,[9]),(1000011,[10]),(1000015,[12]),(1000016,[13]),(4000017,[68]),(4000016,[12,13]),(4000015,[9,10,11,12]),(4000014,[7,9,10,11]),(4000011,[0,1,2,7,8,9,10]),(4000006,[0,1,2,7,8,9]),(4000003,[0,1,2,7,8]),(4000001,[0,1,2,21])],[],[]⟩) (rs:=[ResultVar.tmp 6]) Tryz.mixed Tryz.func16 rfl rfl rfl (Nat.le_of_ble_eq_true rfl) (by kernel_rfl) fun H=>?_
     simp(disch:=omega)only[↓kX,kW,aS,simprocAttr,b1,b2,hsub,ed,et,hdt,hkl,hsl,h64le,vl,vt,pl,pt,lD,kg]
     first|refine CallK.p (c1) ?_|refine CallP.i (c1) ?_
     simp(disch:=omega)only[↓kX,kW,aS,simprocAttr,be,hsub,ed,et,hdt,hkl,hsl,h64le,vl,vt,pl,pt,lD,kg]
     first|refine CallK.p (c2) ?_|refine CallP.i (c2) ?_
     simp(disch:=omega)only[↓kX,kW,aS,simprocAttr,hsub,ed,et,hdt,hkl,hsl,h64le,vl,vt,pl,pt,lD,kg]
     intro k9 hk90 hk9
     rw[z48,aj hk9]
     try simp(disch:=omega)only[↓kX,kW,aS,simprocAttr,bf,hsub,ed,et,hdt,hkl,hsl,h64le,vl,vt,pl,pt,lD,kg]
     first|exact Abs.Sub.refl _|exact⟨rfl,Abs.Sub.refl _⟩|trace_state
   ·rw[if_pos (by simp[hes])]
    have be:((es:Int) != 0)=true:=qR hes
    refine az (c:=⟨Tryz.prog,69,[(16,[0,0,0,0,0,2,2]),(17,[1,0,1,0,0]),(1000006,[9]),(1000011,[10]),(1000015,[12]),(1000016,[13]),(4000017,[68]),(4000016,[12,13]),(4000015,[9,10,11,12]),(4000014,[7,9,10,11]),(4000011,[0,1,2,7,8,9,10]),(4000006,[0,1,2,7,8,9]),(4000003,[0,1,2,7,8]),(4000001,[0,1,2,21])],[],[]⟩) (rs:=[ResultVar.tmp 6]) Tryz.mixed Tryz.func16 rfl rfl rfl (Nat.le_of_ble_eq_true rfl) (by kernel_rfl) fun H=>?_
    simp(disch:=omega)only[↓kX,kW,aS,simprocAttr,b1,b2,hsub,ed,et,hdt,hkl,hsl,h64le,vl,vt,pl,pt,lD,kg]
    first|refine CallK.p (c1) ?_|refine CallP.i (c1) ?_
    simp(disch:=omega)only[↓kX,kW,aS,simprocAttr,be,hsub,ed,et,hdt,hkl,hsl,h64le,vl,vt,pl,pt,lD,kg]
    first|exact Abs.Sub.refl _|exact⟨rfl,Abs.Sub.refl _⟩|trace_state
  ·rw[if_pos (.inr h64)]
   have b1:((key.length:Int) != 32)=false:=by rw[h32];rfl
   have b2:((sig.length:Int) != 64)=true:=nT (by omega)
   unfold eu at *
   refine az (c:=⟨Tryz.prog,69,[(16,[0,0,0,0,0,2,2]),(17,[1,0,1,0,0]),(1000006,[9]),(1000011,[10]),(1000015,[12]),(1000016,[13]),(4000017,[68]),(4000016,[12,13]),(4000015,[9,10,11,12]),(4000014,[7,9,10,11]),(4000011,[0,1,2,7,8,9,10]),(4000006,[0,1,2,7,8,9]),(4000003,[0,1,2,7,8]),(4000001,[0,1,2,21])],[],[]⟩) (rs:=[ResultVar.tmp 6]) Tryz.mixed Tryz.func16 rfl rfl rfl (Nat.le_of_ble_eq_true rfl) (by kernel_rfl) fun H=>?_
   simp(disch:=omega)only[↓kX,kW,aS,simprocAttr,b1,b2]
   first|exact Abs.Sub.refl _|exact⟨rfl,Abs.Sub.refl _⟩|trace_state
 ·rw[if_pos (.inl h32)]
  have b1:((key.length:Int) != 32)=true:=nT (by omega)
  unfold eu at *
  refine az (c:=⟨Tryz.prog,69,[(16,[0,0,0,0,0,2,2]),(17,[1,0,1,0,0]),(1000006,[9]),(1000011,[10]),(1000015,[12]),(1000016,[13]),(4000017,[68]),(4000016,[12,13]),(4000015,[9,10,11,12]),(4000014,[7,9,10,11]),(4000011,[0,1,2,7,8,9,10]),(4000006,[0,1,2,7,8,9]),(4000003,[0,1,2,7,8]),(4000001,[0,1,2,21])],[],[]⟩) (rs:=[ResultVar.tmp 6]) Tryz.mixed Tryz.func16 rfl rfl rfl (Nat.le_of_ble_eq_true rfl) (by kernel_rfl) fun H=>?_
  simp(disch:=omega)only[↓kX,kW,aS,simprocAttr,b1]
  first|exact Abs.Sub.refl _|exact⟨rfl,Abs.Sub.refl _⟩|trace_state
end Go.Proofs.YtcncplameclkfaaGreatDoor
end
section
set_option maxRecDepth 20000
set_option maxHeartbeats 8000000
namespace Go.Proofs.YtcncplameclkfaaGreatDoor
open Go Go.Abs Go.Proofs Go.Box
def shaR(k u:List UInt8):List UInt8 × Nat:=if k.length=32∧u.length=32 then (if oH (oI k u)=0 then ([],8) else (lQ 32 (oH (oI k u)),0)) else ([],1)
theorem shaR_eq(k u:List UInt8):(if k.length=32∧u.length=32 then (if oH (oI k u)=0 then AV.tup [eu [],.sc (.int .i64 8)] else .tup [eu (lQ 32 (oH (oI k u))),.sc (.int .i64 0)]) else .tup [eu [],.sc (.int .i64 1)])=.tup [eu (shaR k u).1,.sc (.int .i64 (shaR k u).2)]:=by
 unfold shaR
 split
 ·split<;>rfl
 ·rfl
def pubR(k:List UInt8):List UInt8:=if k.length=32 then lQ 32 (oH (oI k nineB)) else []
def sgnR(k:List UInt8):List UInt8:=if k.length=32 then qe k else []
def sigR(k b:List UInt8):List UInt8:=if k.length=32 then sigM k b else []
theorem real_new(H:AH):ACalls Tryz.prog 5 [.imm 0 [] 0] H fun v H'=>∃h,v=.ptr h 0∧h≠0∧Abs.Sub H H':=by
 refine ao0 (c:=⟨Tryz.prog,8,[],[3],[]⟩) (rs:=[ResultVar.tmp 2]) Tryz.mixed Tryz.func5 rfl rfl rfl (Nat.le_of_ble_eq_true rfl) (by kernel_rfl) ?_
 simp(disch:=omega)only[↓kX,kW,aS,simprocAttr]
 intro k hk0 hk
 simp(disch:=omega)only[↓kX,kW,aS,simprocAttr,hk0]
 intro k2 o2 hk20 hk2 ho2
 intro b hb0 hb
 exact⟨_,rfl,_,Abs.Sub.refl _,b,rfl,hb0,(Sub.set_new (am hk2)).set_free (am hb)⟩
theorem shared_tell(h:Nat)(H:AH)(k u:List UInt8):ACalls Tryz.prog 6 [.ptr h 0,eu k,eu u] H fun v H'=>v=.tup [eu (shaR k u).1,.sc (.int .i64 (shaR k u).2)]∧H'=H:=by
 have c1:=pshared_pure k u
 rw[shaR_eq]at c1
 generalize shaR k u=r at *
 unfold eu at *
 refine ao0 (c:=⟨Tryz.prog,13,[],[],[]⟩) (rs:=[ResultVar.tmp 6,ResultVar.tmp 7]) Tryz.mixed Tryz.func6 rfl rfl rfl (Nat.le_of_ble_eq_true rfl) (by kernel_rfl) ?_
 simp(disch:=omega)only[↓kX,kW,aS,simprocAttr]
 first|refine CallK.p (c1) ?_|refine CallP.i (c1) ?_
 simp(disch:=omega)only[↓kX,kW,aS,simprocAttr]
 exact⟨_,rfl,H,Abs.Sub.refl _,rfl,rfl⟩
theorem dshared_tell(k u:List UInt8):APure Tryz.prog 8 [eu k,eu u] (.tup [eu (shaR k u).1,.sc (.int .i64 (shaR k u).2)]):=by
 have c1:=dshared_pure k u
 rw[shaR_eq]at c1
 exact c1
theorem public_tell(h:Nat)(H:AH)(k:List UInt8):ACalls Tryz.prog 9 [.ptr h 0,eu k] H fun v H'=>v=eu (pubR k)∧H'=H:=by
 have c1:=ppublic_pure k
 unfold pubR
 unfold eu at *
 by_cases hk:k.length=32
 ·rw[if_pos hk]at *
  generalize lQ 32 (oH (oI k nineB))=R at *
  refine ao0 (c:=⟨Tryz.prog,13,[],[],[]⟩) (rs:=[ResultVar.tmp 4]) Tryz.mixed Tryz.func9 rfl rfl rfl (Nat.le_of_ble_eq_true rfl) (by kernel_rfl) ?_
  simp(disch:=omega)only[↓kX,kW,aS,simprocAttr]
  first|refine CallK.p (c1) ?_|refine CallP.i (c1) ?_
  simp(disch:=omega)only[↓kX,kW,aS,simprocAttr]
  exact⟨_,rfl,H,Abs.Sub.refl _,rfl,rfl⟩
 ·rw[if_neg hk]at *
  refine ao0 (c:=⟨Tryz.prog,13,[],[],[]⟩) (rs:=[ResultVar.tmp 4]) Tryz.mixed Tryz.func9 rfl rfl rfl (Nat.le_of_ble_eq_true rfl) (by kernel_rfl) ?_
  simp(disch:=omega)only[↓kX,kW,aS,simprocAttr]
  first|refine CallK.p (c1) ?_|refine CallP.i (c1) ?_
  simp(disch:=omega)only[↓kX,kW,aS,simprocAttr]
  exact⟨_,rfl,H,Abs.Sub.refl _,rfl,rfl⟩
theorem dpublic_tell(k:List UInt8):APure Tryz.prog 10 [eu k] (eu (pubR k)):=by
 have c0:=dnine_pure
 have c1:=dmultA k nineB
 unfold multA at c1
 have hn:nineB.length=32:=rfl
 unfold pubR
 unfold eu at *
 by_cases hk:k.length=32
 ·rw[if_pos ⟨hk,hn⟩]at c1
  rw[if_pos hk]
  generalize lQ 32 (oH (oI k nineB))=R at *
  generalize nineB=nb at *
  refine az (c:=⟨Tryz.prog,12,[],[],[]⟩) (rs:=[ResultVar.tmp 2]) Tryz.mixed Tryz.func10 rfl rfl rfl (Nat.le_of_ble_eq_true rfl) (by kernel_rfl) fun H=>?_
  simp(disch:=omega)only[↓kX,kW,aS,simprocAttr]
  first|refine CallK.p (c0) ?_|refine CallP.i (c0) ?_
  simp(disch:=omega)only[↓kX,kW,aS,simprocAttr]
  first|refine CallK.p (c1) ?_|refine CallP.i (c1) ?_
  simp(disch:=omega)only[↓kX,kW,aS,simprocAttr]
  exact Abs.Sub.refl _
 ·rw[if_neg (fun h=>hk h.1)]at c1
  rw[if_neg hk]
  generalize nineB=nb at *
  refine az (c:=⟨Tryz.prog,12,[],[],[]⟩) (rs:=[ResultVar.tmp 2]) Tryz.mixed Tryz.func10 rfl rfl rfl (Nat.le_of_ble_eq_true rfl) (by kernel_rfl) fun H=>?_
  simp(disch:=omega)only[↓kX,kW,aS,simprocAttr]
  first|refine CallK.p (c0) ?_|refine CallP.i (c0) ?_
  simp(disch:=omega)only[↓kX,kW,aS,simprocAttr]
  first|refine CallK.p (c1) ?_|refine CallP.i (c1) ?_
  simp(disch:=omega)only[↓kX,kW,aS,simprocAttr]
  exact Abs.Sub.refl _
theorem signer_tell(h:Nat)(H:AH)(k:List UInt8):ACalls Tryz.prog 11 [.ptr h 0,eu k] H fun v H'=>v=eu (sgnR k)∧H'=H:=by
 have c1:=spublic_pure k
 unfold sgnR
 by_cases hk:k.length=32
 ·rw[if_pos hk]at *
  generalize qe k=R at *
  unfold eu at *
  refine ao0 (c:=⟨Tryz.prog,13,[],[],[]⟩) (rs:=[ResultVar.tmp 4]) Tryz.mixed Tryz.func11 rfl rfl rfl (Nat.le_of_ble_eq_true rfl) (by kernel_rfl) ?_
  simp(disch:=omega)only[↓kX,kW,aS,simprocAttr]
  first|refine CallK.p (c1) ?_|refine CallP.i (c1) ?_
  simp(disch:=omega)only[↓kX,kW,aS,simprocAttr]
  exact⟨_,rfl,H,Abs.Sub.refl _,rfl,rfl⟩
 ·rw[if_neg hk]at *
  unfold eu at *
  refine ao0 (c:=⟨Tryz.prog,13,[],[],[]⟩) (rs:=[ResultVar.tmp 4]) Tryz.mixed Tryz.func11 rfl rfl rfl (Nat.le_of_ble_eq_true rfl) (by kernel_rfl) ?_
  simp(disch:=omega)only[↓kX,kW,aS,simprocAttr]
  first|refine CallK.p (c1) ?_|refine CallP.i (c1) ?_
  simp(disch:=omega)only[↓kX,kW,aS,simprocAttr]
  exact⟨_,rfl,H,Abs.Sub.refl _,rfl,rfl⟩
theorem dsigner_tell(k:List UInt8):APure Tryz.prog 12 [eu k] (eu (sgnR k)):=by
 have c1:=rpublic_pure k
 unfold sgnR
 by_cases hk:k.length=32
 ·rw[if_pos hk]at *
  generalize qe k=R at *
  unfold eu at *
  refine az (c:=⟨Tryz.prog,11,[],[],[]⟩) (rs:=[ResultVar.tmp 2]) Tryz.mixed Tryz.func12 rfl rfl rfl (Nat.le_of_ble_eq_true rfl) (by kernel_rfl) fun H=>?_
  simp(disch:=omega)only[↓kX,kW,aS,simprocAttr]
  first|refine CallK.p (c1) ?_|refine CallP.i (c1) ?_
  simp(disch:=omega)only[↓kX,kW,aS,simprocAttr]
  exact Abs.Sub.refl _
 ·rw[if_neg hk]at *
  unfold eu at *
  refine az (c:=⟨Tryz.prog,11,[],[],[]⟩) (rs:=[ResultVar.tmp 2]) Tryz.mixed Tryz.func12 rfl rfl rfl (Nat.le_of_ble_eq_true rfl) (by kernel_rfl) fun H=>?_
  simp(disch:=omega)only[↓kX,kW,aS,simprocAttr]
  first|refine CallK.p (c1) ?_|refine CallP.i (c1) ?_
  simp(disch:=omega)only[↓kX,kW,aS,simprocAttr]
  exact Abs.Sub.refl _
theorem sign_tell(h:Nat)(H:AH)(k b:List UInt8)(hb:b.length≤1000000):ACalls Tryz.prog 13 [.ptr h 0,eu k,eu b] H fun v H'=>v=eu (sigR k b)∧H'=H:=by
 have c1:=ssign_pure k b hb
 unfold sigR
 by_cases hk:k.length=32
 ·rw[if_pos hk]at *
  generalize sigM k b=R at *
  unfold eu at *
  refine ao0 (c:=⟨Tryz.prog,16,[],[],[]⟩) (rs:=[ResultVar.tmp 6]) Tryz.mixed Tryz.func13 rfl rfl rfl (Nat.le_of_ble_eq_true rfl) (by kernel_rfl) ?_
  simp(disch:=omega)only[↓kX,kW,aS,simprocAttr]
  first|refine CallK.p (c1) ?_|refine CallP.i (c1) ?_
  simp(disch:=omega)only[↓kX,kW,aS,simprocAttr]
  exact⟨_,rfl,H,Abs.Sub.refl _,rfl,rfl⟩
 ·rw[if_neg hk]at *
  unfold eu at *
  refine ao0 (c:=⟨Tryz.prog,16,[],[],[]⟩) (rs:=[ResultVar.tmp 6]) Tryz.mixed Tryz.func13 rfl rfl rfl (Nat.le_of_ble_eq_true rfl) (by kernel_rfl) ?_
  simp(disch:=omega)only[↓kX,kW,aS,simprocAttr]
  first|refine CallK.p (c1) ?_|refine CallP.i (c1) ?_
  simp(disch:=omega)only[↓kX,kW,aS,simprocAttr]
  exact⟨_,rfl,H,Abs.Sub.refl _,rfl,rfl⟩
theorem dsign_tell(k b:List UInt8)(hb:b.length≤1000000):APure Tryz.prog 14 [eu k,eu b] (eu (sigR k b)):=by
 have c1:=rsign_pure k b hb
 unfold sigR
 by_cases hk:k.length=32
 ·rw[if_pos hk]at *
  generalize sigM k b=R at *
  unfold eu at *
  refine az (c:=⟨Tryz.prog,14,[],[],[]⟩) (rs:=[ResultVar.tmp 4]) Tryz.mixed Tryz.func14 rfl rfl rfl (Nat.le_of_ble_eq_true rfl) (by kernel_rfl) fun H=>?_
  simp(disch:=omega)only[↓kX,kW,aS,simprocAttr]
  first|refine CallK.p (c1) ?_|refine CallP.i (c1) ?_
  simp(disch:=omega)only[↓kX,kW,aS,simprocAttr]
  exact Abs.Sub.refl _
 ·rw[if_neg hk]at *
  unfold eu at *
  refine az (c:=⟨Tryz.prog,14,[],[],[]⟩) (rs:=[ResultVar.tmp 4]) Tryz.mixed Tryz.func14 rfl rfl rfl (Nat.le_of_ble_eq_true rfl) (by kernel_rfl) fun H=>?_
  simp(disch:=omega)only[↓kX,kW,aS,simprocAttr]
  first|refine CallK.p (c1) ?_|refine CallP.i (c1) ?_
  simp(disch:=omega)only[↓kX,kW,aS,simprocAttr]
  exact Abs.Sub.refl _
theorem verify_tell(h:Nat)(H:AH)(k b g:List UInt8)(hk:k.length≤1000000000)(hs:g.length≤1000000000)(hb:b.length≤1000000):ACalls Tryz.prog 15 [.ptr h 0,eu k,eu b,eu g] H fun v H'=>v=.sc (.bool ((verM k b g:Int) == 0))∧H'=H:=by
 have c1:=sverify_pure k b g hk hs hb
 generalize verM k b g=r at *
 unfold eu at *
 refine ao0 (c:=⟨Tryz.prog,14,[],[],[]⟩) (rs:=[ResultVar.tmp 8]) Tryz.mixed Tryz.func15 rfl rfl rfl (Nat.le_of_ble_eq_true rfl) (by kernel_rfl) ?_
 simp(disch:=omega)only[↓kX,kW,aS,simprocAttr]
 first|refine CallK.p (c1) ?_|refine CallP.i (c1) ?_
 simp(disch:=omega)only[↓kX,kW,aS,simprocAttr]
 exact⟨_,rfl,H,Abs.Sub.refl _,rfl,rfl⟩
theorem names_walk(x0 x1 x2 x3:List UInt8)(h0:x0.length≤100000000)(h1:x1.length≤100000000)(h2:x2.length≤100000000)(h3:x3.length≤100000000):APure Tryz.prog 3 [eu x0,eu x1,eu x2,eu x3] (.sc (.bool true)):=by
 have haw:=awake_pure
 refine az (c:=⟨Tryz.prog,97,[(8,[0,0,0,0,0,0,0,0,0,0,0,0,0,0,0,0,0,0,0,0,0]),(2000010,[0,1,2,5,3,4,6,7,8,9,10,11,12,13,14,17,18,15,16,19,20,21,22]),(10,[0,0,0,0,2,0,2,0,0,0,0,0,0,0,0,0,0,2,0,2,0,0,0]),(4000012,[8]),(4000010,[1,2,3,9,79]),(4000008,[0,1,2,3,9,56]),(4000007,[0,1,2,3,9,10,11,12,13]),(4000006,[0,1,2,3,9,10,11])],[],[]⟩) (rs:=[ResultVar.tmp 8]) Tryz.mixed Tryz.func3 rfl rfl rfl (Nat.le_of_ble_eq_true rfl) (by kernel_rfl) fun H=>?_
 by_cases hb0:4000<x2.length
 ·have b0:decide ((4000:Int)<(x2.length:Int))=true:=dT (by omega)
  simp(disch:=omega)only[↓kX,kW,aS,simprocAttr,b0]
  first|refine CallK.p (haw) ?_|refine CallP.i (haw) ?_
  simp(disch:=omega)only[↓kX,kW,aS,simprocAttr]
  first|exact Abs.Sub.refl _|trace_state
 ·have b0:decide ((4000:Int)<(x2.length:Int))=false:=dF (by omega)
  have o0:=own_pure x0 (by omega)
  have o1:=own_pure x1 (by omega)
  have o2:=own_pure x2 (by omega)
  have o3:=own_pure x3 (by omega)
  have c1:=fun h H=>shared_tell h H x0 x1
  have d1:=dshared_tell x0 x1
  have c2:=fun h H=>public_tell h H x0
  have d2:=dpublic_tell x0
  have c3:=fun h H=>signer_tell h H x0
  have d3:=dsigner_tell x0
  have c4:=fun h H=>sign_tell h H x0 x2 (by omega)
  have d4:=dsign_tell x0 x2 (by omega)
  have c5:=fun h H=>verify_tell h H x1 x2 x3 (by omega) (by omega) (by omega)
  have d5:=rverify_pure x1 x2 x3 (by omega) (by omega) (by omega)
  generalize shaR x0 x1=r1 at *
  generalize pubR x0=r2 at *
  generalize sgnR x0=r3 at *
  generalize sigR x0 x2=r4 at *
  generalize verM x1 x2 x3=r5 at *
  have q1:((r1.2:Int) != (r1.2:Int))=false:=bne_self_eq_false _
  have q5:(((r5:Int) == 0) == ((r5:Int) == 0))=true:=beq_self_eq_true _
  simp(disch:=omega)only[↓kX,kW,aS,simprocAttr,b0]
  refine CallK.i (real_new _) ?_
  rintro v E ⟨h,rfl,hh0,hs⟩
  simp(disch:=omega)only[↓kX,kW,aS,simprocAttr]
  first|refine CallK.p (o0) ?_|refine CallP.i (o0) ?_
  simp(disch:=omega)only[↓kX,kW,aS,simprocAttr]
  first|refine CallK.p (o1) ?_|refine CallP.i (o1) ?_
  simp(disch:=omega)only[↓kX,kW,aS,simprocAttr]
  refine CallK.i (c1 _ _) ?_
  rintro v E2 ⟨rfl,rfl⟩
  simp(disch:=omega)only[↓kX,kW,aS,simprocAttr]
  have p2:APure Tryz.prog 9 [.ptr h 0,eu x0] (eu r2):=fun H=>c2 h H
  have p3:APure Tryz.prog 11 [.ptr h 0,eu x0] (eu r3):=fun H=>c3 h H
  have p4:APure Tryz.prog 13 [.ptr h 0,eu x0,eu x2] (eu r4):=fun H=>c4 h H
  have p5:APure Tryz.prog 15 [.ptr h 0,eu x1,eu x2,eu x3] (.sc (.bool ((r5:Int) == 0))):=fun H=>c5 h H
  first|refine CallK.p (d1) ?_|refine CallP.i (d1) ?_
  simp(disch:=omega)only[↓kX,kW,aS,simprocAttr,q1]
  first|refine CallK.p (o0) ?_|refine CallP.i (o0) ?_
  simp(disch:=omega)only[↓kX,kW,aS,simprocAttr]
  first|refine CallK.p (p2) ?_|refine CallP.i (p2) ?_
  simp(disch:=omega)only[↓kX,kW,aS,simprocAttr]
  first|refine CallK.p (d2) ?_|refine CallP.i (d2) ?_
  simp(disch:=omega)only[↓kX,kW,aS,simprocAttr]
  first|refine CallK.p (o0) ?_|refine CallP.i (o0) ?_
  simp(disch:=omega)only[↓kX,kW,aS,simprocAttr]
  first|refine CallK.p (p3) ?_|refine CallP.i (p3) ?_
  simp(disch:=omega)only[↓kX,kW,aS,simprocAttr]
  first|refine CallK.p (d3) ?_|refine CallP.i (d3) ?_
  simp(disch:=omega)only[↓kX,kW,aS,simprocAttr]
  first|refine CallK.p (o0) ?_|refine CallP.i (o0) ?_
  simp(disch:=omega)only[↓kX,kW,aS,simprocAttr]
  first|refine CallK.p (o2) ?_|refine CallP.i (o2) ?_
  simp(disch:=omega)only[↓kX,kW,aS,simprocAttr]
  first|refine CallK.p (p4) ?_|refine CallP.i (p4) ?_
  simp(disch:=omega)only[↓kX,kW,aS,simprocAttr]
  first|refine CallK.p (d4) ?_|refine CallP.i (d4) ?_
  simp(disch:=omega)only[↓kX,kW,aS,simprocAttr]
  first|refine CallK.p (o1) ?_|refine CallP.i (o1) ?_
  simp(disch:=omega)only[↓kX,kW,aS,simprocAttr]
  first|refine CallK.p (o2) ?_|refine CallP.i (o2) ?_
  simp(disch:=omega)only[↓kX,kW,aS,simprocAttr]
  first|refine CallK.p (o3) ?_|refine CallP.i (o3) ?_
  simp(disch:=omega)only[↓kX,kW,aS,simprocAttr]
  first|refine CallK.p (p5) ?_|refine CallP.i (p5) ?_
  simp(disch:=omega)only[↓kX,kW,aS,simprocAttr]
  first|refine CallK.p (d5) ?_|refine CallP.i (d5) ?_
  simp(disch:=omega)only[↓kX,kW,aS,simprocAttr,q5]
  first|refine CallK.p (haw) ?_|refine CallP.i (haw) ?_
  simp(disch:=omega)only[↓kX,kW,aS,simprocAttr]
  first|exact hs|exact⟨rfl,hs⟩|trace_state
end Go.Proofs.YtcncplameclkfaaGreatDoor
end
section
set_option maxRecDepth 20000
namespace Go.Proofs.YtcncplameclkfaaGreatDoor
open Go Go.Abs Go.Proofs
theorem jX(xs:List UInt8):(Tryz.ty22.enc xs).getD 0 .any=eu xs:=by
 show AV.imm 0 (xs.flatMap fun b=>[.sc (.int .u8 b.toNat)]) xs.length=_
 rw[flat_one]
 rfl
theorem size_bytes(xs:List UInt8):Tryz.ty22.size xs=xs.length+1:=by
 show j20 (fun _=>1) xs+1=_
 rw[sum_one]
theorem suite_names(x0 x1 x2 x3:List UInt8)(hb:Tryz.ty22.size x0+Tryz.ty22.size x1+Tryz.ty22.size x2+Tryz.ty22.size x3≤1048576):
    APure Tryz.prog 3 [(Tryz.ty22.enc x0).getD 0 .any,(Tryz.ty22.enc x1).getD 0 .any,(Tryz.ty22.enc x2).getD 0 .any,(Tryz.ty22.enc x3).getD 0 .any] (.sc (.bool true)):=by
 simp only[size_bytes]at hb
 rw[jX,jX,jX,jX]
 exact names_walk x0 x1 x2 x3 (by omega) (by omega) (by omega) (by omega)
end Go.Proofs.YtcncplameclkfaaGreatDoor
end
