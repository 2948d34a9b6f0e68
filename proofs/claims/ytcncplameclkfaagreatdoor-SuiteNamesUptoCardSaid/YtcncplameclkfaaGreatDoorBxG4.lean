/-
  Several texts in one: each says what it proves.
  Conditions: none. Lemmas only.
-/
import Derived.Test.YtcncplameclkfaaGreatDoorBxG1
import Derived.Test.YtcncplameclkfaaGreatDoorBxG3
set_option linter.all false
section
set_option maxRecDepth 20000
set_option maxHeartbeats 4000000
namespace Go.Proofs.YtcncplameclkfaaGreatDoor
open Go Go.Abs Go.Proofs Go.Box
def lM(l:List Nat):List AV:=l.map fun x:Nat=>AV.sc (.int .i64 x)
theorem lO(l:List Nat):(lM l).length=l.length:=by simp[lM]
theorem mV{l:List Nat}{i:Nat}(h:i<l.length):(lM l)[i]? = some (.sc (.int .i64 (l.getD i 0:Nat))):=by simp[lM,List.getD,h]
theorem rU(l:List Nat)(x:Nat):lM l++[.sc (.int .i64 x)]=lM (l++[x]):=by simp[lM]
theorem numA_take(l:List Nat)(n:Nat):(lM l).take n=lM (l.take n):=by simp[lM]
abbrev pZ(l:List Nat):AV:=.imm 0 (lM l) l.length
abbrev D(n:Nat):AV:=pZ (digs n)
theorem qi(l:List Nat)(i:Nat):APure Tryz.prog 105 [pZ l,.sc (.int .i64 i)] (.sc (.int .i64 (l.getD i 0:Nat))):=by
 have hl:=lO l
 refine az (c:=⟨Tryz.prog,13,[],[],[]⟩) (rs:=[ResultVar.tmp 4]) Tryz.mixed Tryz.func105 rfl rfl rfl (Nat.le_of_ble_eq_true rfl) (by kernel_rfl) fun H=>?_
 by_cases h:i<l.length
 ·have hb:decide ((i:Int)<(l.length:Int))=true:=dT (by omega)
  have ha:=mV h
  simp(disch:=omega)only[↓kX,kW,aS,Nat.reduceBEq,Nat.reduceLT,reduceCtorEq,↓reduceIte,Nat.reduceMul,Nat.reduceAdd,Nat.reduceLeDiff,Nat.reduceEqDiff,Int.reduceToNat,Nat.reduceSub,Nat.reduceMod,Nat.reduceDiv,Int.reducePow,Int.reduceLE,Int.reduceNeg,Int.reduceLT,Int.reduceBEq,Int.reduceBNe,Int.reduceEq,hb,ha,hl]
  first|exact Abs.Sub.refl _|trace_state
 ·have hb:decide ((i:Int)<(l.length:Int))=false:=dF (by omega)
  have hz:l.getD i 0=0:=by simp[List.getD,List.getElem?_eq_none (Nat.le_of_not_lt h)]
  rw[hz]
  simp(disch:=omega)only[↓kX,kW,aS,Nat.reduceBEq,Nat.reduceLT,reduceCtorEq,↓reduceIte,Nat.reduceMul,Nat.reduceAdd,Nat.reduceLeDiff,Nat.reduceEqDiff,Int.reduceToNat,Nat.reduceSub,Nat.reduceMod,Nat.reduceDiv,Int.reducePow,Int.reduceLE,Int.reduceNeg,Int.reduceLT,Int.reduceBEq,Int.reduceBNe,Int.reduceEq,hb,hl]
  first|exact Abs.Sub.refl _|exact⟨rfl,Abs.Sub.refl _⟩|trace_state
theorem pV(l:List Nat)(hd:Dg l)(hl:l.length≤1000000000):APure Tryz.prog 54 [pZ l] (pZ (qX l)):=by
 have hll:=lO l
 refine az (c:=⟨Tryz.prog,21,[],[],[]⟩) (rs:=[ResultVar.tmp 2]) Tryz.mixed Tryz.func54 rfl rfl rfl (Nat.le_of_ble_eq_true rfl) (by kernel_rfl) fun H=>?_
 simp(disch:=omega)only[↓kX,kW,aS,Nat.reduceBEq,Nat.reduceLT,reduceCtorEq,↓reduceIte,Nat.reduceMul,Nat.reduceAdd,Nat.reduceLeDiff,Nat.reduceEqDiff,Int.reduceToNat,Nat.reduceSub,Nat.reduceMod,Nat.reduceDiv,Int.reducePow,Int.reduceLE,Int.reduceNeg,Int.reduceLT,Int.reduceBEq,Int.reduceBNe,Int.reduceEq]
 refine br (c:=⟨Tryz.prog,21,[],[],[]⟩) Tryz.mixed (by kernel_rfl) (fun m σ H'=>m≤l.length∧qX (l.take m)=qX l∧σ 0=pZ l∧σ 3=.sc (.int .i64 (m:Nat))∧H'=H) l.length ?_ ?_
 ·refine⟨Nat.le_refl _,by rw[List.take_length],?_⟩
  simp(disch:=omega)only[↓kX,kW,aS,Nat.reduceBEq,Nat.reduceLT,reduceCtorEq,↓reduceIte,Nat.reduceMul,Nat.reduceAdd,Nat.reduceLeDiff,Nat.reduceEqDiff,Int.reduceToNat,Nat.reduceSub,Nat.reduceMod,Nat.reduceDiv,Int.reducePow,Int.reduceLE,Int.reduceNeg,Int.reduceLT,Int.reduceBEq,Int.reduceBNe,Int.reduceEq]
 ·rintro m σ H' ⟨hm,ht,g0,g3,rfl⟩
  by_cases h0:m=0
  ·subst h0
   have hb:decide ((0:Int)<((0:Nat):Int))=false:=by decide
   have hr:qX l=[]:=by rw[←ht];rfl
   rw[hr]
   simp(disch:=omega)only[↓kX,kW,aS,Nat.reduceBEq,Nat.reduceLT,reduceCtorEq,↓reduceIte,Nat.reduceMul,Nat.reduceAdd,Nat.reduceLeDiff,Nat.reduceEqDiff,Int.reduceToNat,Nat.reduceSub,Nat.reduceMod,Nat.reduceDiv,Int.reducePow,Int.reduceLE,Int.reduceNeg,Int.reduceLT,Int.reduceBEq,Int.reduceBNe,Int.reduceEq,g0,g3,hb,hll]
   first|exact⟨rfl,Abs.Sub.refl _⟩|trace_state
  ·obtain⟨n,rfl⟩:∃n,m=n+1:=⟨m-1,by omega⟩
   have hb:decide ((0:Int)<((n+1:Nat):Int))=true:=dT (by omega)
   have hw:IntKind.i64.wrap (((n+1:Nat):Int)-1)=(n:Int):=by rw[iw (by omega)];omega
   have ha:(lM l)[n+1-1]? = some (.sc (.int .i64 (l.getD n 0:Nat))):=mV (l:=l) (i:=n) (by omega)
   have htk:l.take (n+1)=l.take n++[l.getD n 0]:=by
    rw[List.take_succ_eq_append_getElem (by omega)]
    simp[List.getD,show n<l.length by omega]
   by_cases hz:l.getD n 0=0
   ·have hq:(((l.getD n 0:Nat):Int) == 0)=true:=by rw[hz];rfl
    rw[htk,hz,trim_zero]at ht
    generalize l.getD n 0=y at *
    simp(disch:=omega)only[↓kX,kW,aS,Nat.reduceBEq,Nat.reduceLT,reduceCtorEq,↓reduceIte,Nat.reduceMul,Nat.reduceAdd,Nat.reduceLeDiff,Nat.reduceEqDiff,Int.reduceToNat,Nat.reduceSub,Nat.reduceMod,Nat.reduceDiv,Int.reducePow,Int.reduceLE,Int.reduceNeg,Int.reduceLT,Int.reduceBEq,Int.reduceBNe,Int.reduceEq,g0,g3,hb,hw,ha,hll,hq]
    exact⟨n,by omega,by omega,ht,rfl⟩
   ·have hq:(((l.getD n 0:Nat):Int) == 0)=false:=beq_eq_false_iff_ne.2 fun h=>hz (Int.ofNat.inj h)
    have hs:qX (l.take (n+1))=l.take (n+1):=trim_stop (fun x hx=>hd x (List.mem_of_mem_take hx)) (fun x hx=>by
     rw[htk,List.getLast?_concat]at hx
     obtain rfl:=Option.some.inj hx
     exact hz)
    rw[hs]at ht
    have hlen:(l.take (n+1)).length=n+1:=by rw[List.length_take];omega
    rw[←ht]
    generalize l.getD n 0=y at *
    simp(disch:=omega)only[↓kX,kW,aS,Nat.reduceBEq,Nat.reduceLT,reduceCtorEq,↓reduceIte,Nat.reduceMul,Nat.reduceAdd,Nat.reduceLeDiff,Nat.reduceEqDiff,Int.reduceToNat,Nat.reduceSub,Nat.reduceMod,Nat.reduceDiv,Int.reducePow,Int.reduceLE,Int.reduceNeg,Int.reduceLT,Int.reduceBEq,Int.reduceBNe,Int.reduceEq,g0,g3,hb,hw,ha,hll,hq,numA_take,hlen]
    exact⟨by rw[Nat.sub_zero];unfold pZ;rw[hlen],Abs.Sub.refl _⟩
theorem dg_map(b:List UInt8):Dg (b.map UInt8.toNat):=fun x hx=>by
 obtain⟨y,-,rfl⟩:=List.mem_map.1 hx
 exact y.toNat_lt
theorem qj(b:List UInt8)(hb:b.length≤1000000):APure Tryz.prog 23 [eu b] (D (lY b)):=by
 have hel:=gz b
 have htr:=pV (b.map UInt8.toNat) (dg_map b) (by rw[List.length_map];omega)
 rw[show qX (b.map UInt8.toNat)=digs (lY b) from rfl]at htr
 have hml:(b.map UInt8.toNat).length=b.length:=List.length_map ..
 have hts:∀i,i<b.length→(b.map UInt8.toNat).take (i+1)=(b.map UInt8.toNat).take i++[(b.getD i 0).toNat]:=fun i h=>by
  rw[List.take_succ_eq_append_getElem (by rw[hml];exact h)]
  simp[List.getD,h]
 have htl:∀i,i≤b.length→((b.map UInt8.toNat).take i).length=i:=fun i h=>by rw[List.length_take,hml];omega
 unfold D pZ at *
 generalize b.map UInt8.toNat=l at *
 generalize digs (lY b)=R at *
 rw[hml]at htr
 unfold eu
 refine az (c:=⟨Tryz.prog,21,[],[],[]⟩) (rs:=[ResultVar.tmp 2]) Tryz.mixed Tryz.func23 rfl rfl rfl (Nat.le_of_ble_eq_true rfl) (by kernel_rfl) fun H=>?_
 simp(disch:=omega)only[↓kX,kW,aS,Nat.reduceBEq,Nat.reduceLT,reduceCtorEq,↓reduceIte,Nat.reduceMul,Nat.reduceAdd,Nat.reduceLeDiff,Nat.reduceEqDiff,Int.reduceToNat,Nat.reduceSub,Nat.reduceMod,Nat.reduceDiv,Int.reducePow,Int.reduceLE,Int.reduceNeg,Int.reduceLT,Int.reduceBEq,Int.reduceBNe,Int.reduceEq]
 refine jn 3 (by simp(disch:=omega)only[↓kX,kW,aS,Nat.reduceBEq,Nat.reduceLT,reduceCtorEq,↓reduceIte,Nat.reduceMul,Nat.reduceAdd,Nat.reduceLeDiff,Nat.reduceEqDiff,Int.reduceToNat,Nat.reduceSub,Nat.reduceMod,Nat.reduceDiv,Int.reducePow,Int.reduceLE,Int.reduceNeg,Int.reduceLT,Int.reduceBEq,Int.reduceBNe,Int.reduceEq]) fun k hk0 hk=>?_
 refine br (c:=⟨Tryz.prog,21,[],[],[]⟩) Tryz.mixed (by kernel_rfl) (fun m σ H'=>∃i k o,i+m=b.length∧σ 0=.imm 0 (bw b) b.length∧σ 4=.sc (.int .i64 (i:Nat))∧k≠0∧H k=none∧H'=H.set k o∧cy0 3 1 o i∧σ 3=.imm k (lM (l.take i)) i) b.length ?_ ?_
 ·refine⟨0,k,.nilt,by omega,?_⟩
  simp(disch:=omega)only[↓kX,kW,aS,Nat.reduceBEq,Nat.reduceLT,reduceCtorEq,↓reduceIte,Nat.reduceMul,Nat.reduceAdd,Nat.reduceLeDiff,Nat.reduceEqDiff,Int.reduceToNat,Nat.reduceSub,Nat.reduceMod,Nat.reduceDiv,Int.reducePow,Int.reduceLE,Int.reduceNeg,Int.reduceLT,Int.reduceBEq,Int.reduceBNe,Int.reduceEq]
  first|exact⟨hk0,hk,rfl⟩|exact⟨hk0,hk⟩|trace_state
 ·clear hk0 hk
  clear k
  rintro m σ H' ⟨i,k,o,hi,g0,g4,hk0,hk,rfl,ho,g3⟩
  have hal:(lM (l.take i)).length=i:=by rw[lO,htl i (by omega)]
  by_cases hlt:i<b.length
  ·have hb2:decide ((i:Int)<(b.length:Int))=true:=dT (by omega)
   have ha:=nX (l:=b) (i:=i) hlt
   have hs:=hts i hlt
   have hx:=(b.getD i 0).toNat_lt
   generalize (b.getD i 0).toNat=x at *
   have w1:IntKind.i64.wrap (x:Int)=(x:Int):=iw (by omega)
   simp(disch:=omega)only[↓kX,kW,aS,Nat.reduceBEq,Nat.reduceLT,reduceCtorEq,↓reduceIte,Nat.reduceMul,Nat.reduceAdd,Nat.reduceLeDiff,Nat.reduceEqDiff,Int.reduceToNat,Nat.reduceSub,Nat.reduceMod,Nat.reduceDiv,Int.reducePow,Int.reduceLE,Int.reduceNeg,Int.reduceLT,Int.reduceBEq,Int.reduceBNe,Int.reduceEq,g0,g3,g4,hb2,ha,hel,w1,hk0,ho,hal]
   intro k' o' hk0' hk' ho'
   exact⟨m-1,by omega,i+1,k',o',by omega,rfl,hk0',am hk',rfl,by simpa [hal] using ho',by rw[hs,←rU]⟩
  ·obtain rfl:i=b.length:=by omega
   have hb2:decide ((b.length:Int)<(b.length:Int))=false:=by simp
   rw[List.take_of_length_le (by omega)]at g3
   simp(disch:=omega)only[↓kX,kW,aS,Nat.reduceBEq,Nat.reduceLT,reduceCtorEq,↓reduceIte,Nat.reduceMul,Nat.reduceAdd,Nat.reduceLeDiff,Nat.reduceEqDiff,Int.reduceToNat,Nat.reduceSub,Nat.reduceMod,Nat.reduceDiv,Int.reducePow,Int.reduceLE,Int.reduceNeg,Int.reduceLT,Int.reduceBEq,Int.reduceBNe,Int.reduceEq,g0,g3,g4,hb2,hel]
   first|refine CallK.p (htr) ?_|refine CallP.i (htr) ?_
   simp(disch:=omega)only[↓kX,kW,aS,Nat.reduceBEq,Nat.reduceLT,reduceCtorEq,↓reduceIte,Nat.reduceMul,Nat.reduceAdd,Nat.reduceLeDiff,Nat.reduceEqDiff,Int.reduceToNat,Nat.reduceSub,Nat.reduceMod,Nat.reduceDiv,Int.reducePow,Int.reduceLE,Int.reduceNeg,Int.reduceLT,Int.reduceBEq,Int.reduceBNe,Int.reduceEq]
   first|exact Sub.set_new hk|trace_state
theorem dlen{n k:Nat}(h:n<256^k):(digs n).length≤k:=digs_len_le h
theorem sum_pure(a b:Nat)(ha:(digs a).length≤1000)(hb:(digs b).length≤1000):APure Tryz.prog 115 [D a,D b] (D (a+b)):=by
 have c1:=fun i=>qi (digs a) i
 have c2:=fun i=>qi (digs b) i
 simp only[oP]at c1 c2
 obtain⟨n,hn⟩:∃n,n=max (digs a).length (digs b).length+1:=⟨_,rfl⟩
 have la:=nE a
 have lb:=nE b
 have lt:a+b<256^n:=by
  have h1:256^(digs a).length≤256^(n-1):=Nat.pow_le_pow_right (by decide) (by omega)
  have h2:256^(digs b).length≤256^(n-1):=Nat.pow_le_pow_right (by decide) (by omega)
  have h3:256^n=256^(n-1)*256:=by rw[←Nat.pow_succ];congr 1;omega
  omega
 have htr:=pV (oZ n (a+b)) (fstD_ok n _) (by rw[nW];omega)
 rw[trim_fst lt]at htr
 unfold pZ at htr
 rw[nW]at htr
 have hal:=lO (digs a)
 have hbl:=lO (digs b)
 have hmx:(if ((digs a).length:Int)<((digs b).length:Int) then ((digs b).length:Int) else ((digs a).length:Int))=((n-1:Nat):Int):=by split<;>omega
 unfold D pZ at *
 generalize hA:digs a=A at *
 generalize hB:digs b=B at *
 generalize digs (a+b)=R at *
 refine az (c:=⟨Tryz.prog,36,[],[],[]⟩) (rs:=[ResultVar.tmp 4]) Tryz.mixed Tryz.func115 rfl rfl rfl (Nat.le_of_ble_eq_true rfl) (by kernel_rfl) fun H=>?_
 simp(disch:=omega)only[↓kX,kW,aS,Nat.reduceBEq,Nat.reduceLT,reduceCtorEq,↓reduceIte,Nat.reduceMul,Nat.reduceAdd,Nat.reduceLeDiff,Nat.reduceEqDiff,Int.reduceToNat,Nat.reduceSub,Nat.reduceMod,Nat.reduceDiv,Int.reducePow,Int.reduceLE,Int.reduceNeg,Int.reduceLT,Int.reduceBEq,Int.reduceBNe,Int.reduceEq]
 refine jn 5 (by simp(disch:=omega)only[↓kX,kW,aS,Nat.reduceBEq,Nat.reduceLT,reduceCtorEq,↓reduceIte,Nat.reduceMul,Nat.reduceAdd,Nat.reduceLeDiff,Nat.reduceEqDiff,Int.reduceToNat,Nat.reduceSub,Nat.reduceMod,Nat.reduceDiv,Int.reducePow,Int.reduceLE,Int.reduceNeg,Int.reduceLT,Int.reduceBEq,Int.reduceBNe,Int.reduceEq]) fun k hk0 hk=>?_
 refine br (c:=⟨Tryz.prog,36,[],[],[]⟩) Tryz.mixed (by kernel_rfl) (fun m σ H'=>∃i k o,i+m=n∧σ 0=.imm 0 (lM A) A.length∧σ 1=.imm 0 (lM B) B.length∧σ 6=.sc (.int .i64 ((a % 256^i+b % 256^i)/256^i:Nat))∧σ 7=.sc (.int .i64 (i:Nat))∧k≠0∧H k=none∧H'=H.set k o∧cy0 3 1 o i∧σ 5=.imm k (lM (oZ i (a+b))) i) n ?_ ?_
 ·refine⟨0,k,.nilt,by omega,?_⟩
  rw[show(a % 256^0+b % 256^0)/256^0=0 by simp[Nat.mod_one]]
  simp(disch:=omega)only[↓kX,kW,aS,Nat.reduceBEq,Nat.reduceLT,reduceCtorEq,↓reduceIte,Nat.reduceMul,Nat.reduceAdd,Nat.reduceLeDiff,Nat.reduceEqDiff,Int.reduceToNat,Nat.reduceSub,Nat.reduceMod,Nat.reduceDiv,Int.reducePow,Int.reduceLE,Int.reduceNeg,Int.reduceLT,Int.reduceBEq,Int.reduceBNe,Int.reduceEq]
  first|exact⟨hk0,hk,rfl⟩|exact⟨hk0,hk⟩|trace_state
 ·clear hk0 hk
  clear k
  rintro m σ H' ⟨i,k,o,hi,g0,g1,g6,g7,hk0,hk,rfl,ho,g5⟩
  have hfl:(lM (oZ i (a+b))).length=i:=by rw[lO,nW]
  by_cases hlt:i<n
  ·have hb2:decide ((i:Int)≤((n-1:Nat):Int))=true:=dT (by omega)
   have hpos:0<256^i:=Nat.pow_pos (by decide)
   have d1:=sum_digit (B:=256) a b (256^i) hpos (by decide)
   have d2:=car_le a b (256^i) hpos
   have hfs:=ql i (a+b)
   rw[←Nat.pow_succ]at d1
   have mA:=Nat.mod_lt (a/256^i) (show 0<256 by decide)
   have mB:=Nat.mod_lt (b/256^i) (show 0<256 by decide)
   have cA:=c1 i
   have cB:=c2 i
   obtain⟨d1,d3⟩:=d1
   rw[←d1]at hfs
   generalize hcn:(a % 256^(i+1)+b % 256^(i+1))/256^(i+1)=cn at *
   generalize (a % 256^i+b % 256^i)/256^i=ca at *
   generalize a/256^i % 256=xa at *
   generalize b/256^i % 256=xb at *
   have w1:IntKind.i64.wrap ((xa:Int)+(xb:Int))=((xa+xb:Nat):Int):=by rw[iw (by omega)];rfl
   have w2:IntKind.i64.wrap (((xa+xb:Nat):Int)+(ca:Int))=((xa+xb+ca:Nat):Int):=by rw[iw (by omega)];rfl
   have w3:IntKind.i64.wrap (((xa+xb+ca)/256:Nat):Int)=(cn:Int):=by rw[iw (by omega)];omega
   simp(disch:=omega)only[↓kX,kW,aS,Nat.reduceBEq,Nat.reduceLT,reduceCtorEq,↓reduceIte,Nat.reduceMul,Nat.reduceAdd,Nat.reduceLeDiff,Nat.reduceEqDiff,Int.reduceToNat,Nat.reduceSub,Nat.reduceMod,Nat.reduceDiv,Int.reducePow,Int.reduceLE,Int.reduceNeg,Int.reduceLT,Int.reduceBEq,Int.reduceBNe,Int.reduceEq,g0,g1,g5,g6,g7,hmx,hb2,hal,hbl]
   first|refine CallK.p (cA) ?_|refine CallP.i (cA) ?_
   simp(disch:=omega)only[↓kX,kW,aS,Nat.reduceBEq,Nat.reduceLT,reduceCtorEq,↓reduceIte,Nat.reduceMul,Nat.reduceAdd,Nat.reduceLeDiff,Nat.reduceEqDiff,Int.reduceToNat,Nat.reduceSub,Nat.reduceMod,Nat.reduceDiv,Int.reducePow,Int.reduceLE,Int.reduceNeg,Int.reduceLT,Int.reduceBEq,Int.reduceBNe,Int.reduceEq,g0,g1,g5,g6,g7]
   first|refine CallK.p (cB) ?_|refine CallP.i (cB) ?_
   simp(disch:=omega)only[↓kX,kW,aS,Nat.reduceBEq,Nat.reduceLT,reduceCtorEq,↓reduceIte,Nat.reduceMul,Nat.reduceAdd,Nat.reduceLeDiff,Nat.reduceEqDiff,Int.reduceToNat,Nat.reduceSub,Nat.reduceMod,Nat.reduceDiv,Int.reducePow,Int.reduceLE,Int.reduceNeg,Int.reduceLT,Int.reduceBEq,Int.reduceBNe,Int.reduceEq,g0,g1,g5,g6,g7,w1,w2,w3,jd,nC,hk0,ho,hfl]
   intro k' o' hk0' hk' ho'
   exact⟨m-1,by omega,i+1,k',o',by omega,by rw[hcn,d3],rfl,hk0',am hk',rfl,by simpa [hfl] using ho',by rw[hfs,←rU]⟩
  ·obtain rfl:i=n:=by omega
   have hb2:decide ((i:Int)≤((i-1:Nat):Int))=false:=dF (by omega)
   simp(disch:=omega)only[↓kX,kW,aS,Nat.reduceBEq,Nat.reduceLT,reduceCtorEq,↓reduceIte,Nat.reduceMul,Nat.reduceAdd,Nat.reduceLeDiff,Nat.reduceEqDiff,Int.reduceToNat,Nat.reduceSub,Nat.reduceMod,Nat.reduceDiv,Int.reducePow,Int.reduceLE,Int.reduceNeg,Int.reduceLT,Int.reduceBEq,Int.reduceBNe,Int.reduceEq,g0,g1,g5,g6,g7,hmx,hb2,hal,hbl]
   first|refine CallK.p (htr) ?_|refine CallP.i (htr) ?_
   simp(disch:=omega)only[↓kX,kW,aS,Nat.reduceBEq,Nat.reduceLT,reduceCtorEq,↓reduceIte,Nat.reduceMul,Nat.reduceAdd,Nat.reduceLeDiff,Nat.reduceEqDiff,Int.reduceToNat,Nat.reduceSub,Nat.reduceMod,Nat.reduceDiv,Int.reducePow,Int.reduceLE,Int.reduceNeg,Int.reduceLT,Int.reduceBEq,Int.reduceBNe,Int.reduceEq]
   first|exact Sub.set_new hk|trace_state
theorem less_pure(a b:Nat)(ha:(digs a).length≤1000)(hb:(digs b).length≤1000):APure Tryz.prog 76 [D a,D b] (.sc (.bool (decide (a<b)))):=by
 have c1:=fun i=>qi (digs a) i
 have c2:=fun i=>qi (digs b) i
 simp only[oP]at c1 c2
 obtain⟨n,hn⟩:∃n,n=max (digs a).length (digs b).length:=⟨_,rfl⟩
 have la:=nE a
 have lb:=nE b
 have za:a/256^(n+1)=0:=Nat.div_eq_of_lt (Nat.lt_of_lt_of_le la (Nat.pow_le_pow_right (by decide) (by omega)))
 have zb:b/256^(n+1)=0:=Nat.div_eq_of_lt (Nat.lt_of_lt_of_le lb (Nat.pow_le_pow_right (by decide) (by omega)))
 have hal:=lO (digs a)
 have hbl:=lO (digs b)
 have hmx:(if ((digs a).length:Int)<((digs b).length:Int) then ((digs b).length:Int) else ((digs a).length:Int))=(n:Int):=by split<;>omega
 unfold D pZ at *
 generalize hA:digs a=A at *
 generalize hB:digs b=B at *
 refine az (c:=⟨Tryz.prog,29,[],[],[]⟩) (rs:=[ResultVar.tmp 4]) Tryz.mixed Tryz.func76 rfl rfl rfl (Nat.le_of_ble_eq_true rfl) (by kernel_rfl) fun H=>?_
 simp(disch:=omega)only[↓kX,kW,aS,Nat.reduceBEq,Nat.reduceLT,reduceCtorEq,↓reduceIte,Nat.reduceMul,Nat.reduceAdd,Nat.reduceLeDiff,Nat.reduceEqDiff,Int.reduceToNat,Nat.reduceSub,Nat.reduceMod,Nat.reduceDiv,Int.reducePow,Int.reduceLE,Int.reduceNeg,Int.reduceLT,Int.reduceBEq,Int.reduceBNe,Int.reduceEq]
 refine br (c:=⟨Tryz.prog,29,[],[],[]⟩) Tryz.mixed (by kernel_rfl) (fun m σ H'=>∃z:Int,z=(m:Int)-1∧m≤n+1∧a/256^m=b/256^m∧σ 0=.imm 0 (lM A) A.length∧σ 1=.imm 0 (lM B) B.length∧σ 5=.sc (.int .i64 z)∧H'=H) (n+1) ?_ ?_
 ·refine⟨(n:Int),by omega,by omega,by rw[za,zb],?_⟩
  simp(disch:=omega)only[↓kX,kW,aS,Nat.reduceBEq,Nat.reduceLT,reduceCtorEq,↓reduceIte,Nat.reduceMul,Nat.reduceAdd,Nat.reduceLeDiff,Nat.reduceEqDiff,Int.reduceToNat,Nat.reduceSub,Nat.reduceMod,Nat.reduceDiv,Int.reducePow,Int.reduceLE,Int.reduceNeg,Int.reduceLT,Int.reduceBEq,Int.reduceBNe,Int.reduceEq,hmx,hal,hbl]
 ·rintro m σ H' ⟨z,hz,hm,he,g0,g1,g5,rfl⟩
  match m with
  |0=>
   obtain rfl:z = -1:=by omega
   have hb2:decide ((0:Int) ≤ -1)=false:=by decide
   have hd:decide (a<b)=false:=by
    rw[Nat.pow_zero,Nat.div_one,Nat.div_one]at he
    rw[he]
    simp
   rw[hd]
   simp(disch:=omega)only[↓kX,kW,aS,Nat.reduceBEq,Nat.reduceLT,reduceCtorEq,↓reduceIte,Nat.reduceMul,Nat.reduceAdd,Nat.reduceLeDiff,Nat.reduceEqDiff,Int.reduceToNat,Nat.reduceSub,Nat.reduceMod,Nat.reduceDiv,Int.reducePow,Int.reduceLE,Int.reduceNeg,Int.reduceLT,Int.reduceBEq,Int.reduceBNe,Int.reduceEq,g0,g1,g5,hb2]
   first|exact Abs.Sub.refl _|exact⟨rfl,Abs.Sub.refl _⟩|trace_state
  |i+1=>
   obtain rfl:z=(i:Int):=by omega
   have hb2:decide ((0:Int)≤(i:Int))=true:=by simp
   have cA:=c1 i
   have cB:=c2 i
   have e1:a/256^i=256*(a/256^(i+1))+a/256^i % 256:=by rw[Nat.pow_succ,←Nat.div_div_eq_div_mul];omega
   have e2:b/256^i=256*(b/256^(i+1))+b/256^i % 256:=by rw[Nat.pow_succ,←Nat.div_div_eq_div_mul];omega
   have hpos:0<256^i:=Nat.pow_pos (by decide)
   have f1:=Nat.div_add_mod a (256^i)
   have f2:=Nat.div_add_mod b (256^i)
   have m1:=Nat.mod_lt a hpos
   have m2:=Nat.mod_lt b hpos
   by_cases heq:a/256^i % 256=b/256^i % 256
   ·have hq:(((a/256^i % 256:Nat):Int) != ((b/256^i % 256:Nat):Int))=false:=nF (by omega)
    have hw:IntKind.i64.wrap ((i:Int)-1)=(i:Int)-1:=iw (by omega)
    have he2:a/256^i=b/256^i:=by omega
    generalize a/256^i % 256=xa at *
    generalize b/256^i % 256=xb at *
    simp(disch:=omega)only[↓kX,kW,aS,Nat.reduceBEq,Nat.reduceLT,reduceCtorEq,↓reduceIte,Nat.reduceMul,Nat.reduceAdd,Nat.reduceLeDiff,Nat.reduceEqDiff,Int.reduceToNat,Nat.reduceSub,Nat.reduceMod,Nat.reduceDiv,Int.reducePow,Int.reduceLE,Int.reduceNeg,Int.reduceLT,Int.reduceBEq,Int.reduceBNe,Int.reduceEq,g0,g1,g5,hb2]
    first|refine CallK.p (cA) ?_|refine CallP.i (cA) ?_
    simp(disch:=omega)only[↓kX,kW,aS,Nat.reduceBEq,Nat.reduceLT,reduceCtorEq,↓reduceIte,Nat.reduceMul,Nat.reduceAdd,Nat.reduceLeDiff,Nat.reduceEqDiff,Int.reduceToNat,Nat.reduceSub,Nat.reduceMod,Nat.reduceDiv,Int.reducePow,Int.reduceLE,Int.reduceNeg,Int.reduceLT,Int.reduceBEq,Int.reduceBNe,Int.reduceEq,g0,g1,g5]
    first|refine CallK.p (cB) ?_|refine CallP.i (cB) ?_
    simp(disch:=omega)only[↓kX,kW,aS,Nat.reduceBEq,Nat.reduceLT,reduceCtorEq,↓reduceIte,Nat.reduceMul,Nat.reduceAdd,Nat.reduceLeDiff,Nat.reduceEqDiff,Int.reduceToNat,Nat.reduceSub,Nat.reduceMod,Nat.reduceDiv,Int.reducePow,Int.reduceLE,Int.reduceNeg,Int.reduceLT,Int.reduceBEq,Int.reduceBNe,Int.reduceEq,g0,g1,g5,hq,hw]
    exact⟨i,by omega,(i:Int)-1,by omega,by omega,he2,rfl⟩
   ·have hq:(((a/256^i % 256:Nat):Int) != ((b/256^i % 256:Nat):Int))=true:=nT (by omega)
    have hlt:decide (((a/256^i % 256:Nat):Int)<((b/256^i % 256:Nat):Int))=decide (a<b):=by
     by_cases c:a/256^i % 256<b/256^i % 256
     ·have h1:a/256^i+1≤b/256^i:=by omega
      have h2:=Nat.mul_le_mul_left (256^i) h1
      rw[Nat.mul_add,Nat.mul_one]at h2
      rw[dT (by omega),decide_eq_true (by omega)]
     ·have h1:b/256^i+1≤a/256^i:=by omega
      have h2:=Nat.mul_le_mul_left (256^i) h1
      rw[Nat.mul_add,Nat.mul_one]at h2
      rw[dF (by omega),decide_eq_false (by omega)]
    generalize a/256^i % 256=xa at *
    generalize b/256^i % 256=xb at *
    generalize decide (a<b)=r at *
    simp(disch:=omega)only[↓kX,kW,aS,Nat.reduceBEq,Nat.reduceLT,reduceCtorEq,↓reduceIte,Nat.reduceMul,Nat.reduceAdd,Nat.reduceLeDiff,Nat.reduceEqDiff,Int.reduceToNat,Nat.reduceSub,Nat.reduceMod,Nat.reduceDiv,Int.reducePow,Int.reduceLE,Int.reduceNeg,Int.reduceLT,Int.reduceBEq,Int.reduceBNe,Int.reduceEq,g0,g1,g5,hb2]
    first|refine CallK.p (cA) ?_|refine CallP.i (cA) ?_
    simp(disch:=omega)only[↓kX,kW,aS,Nat.reduceBEq,Nat.reduceLT,reduceCtorEq,↓reduceIte,Nat.reduceMul,Nat.reduceAdd,Nat.reduceLeDiff,Nat.reduceEqDiff,Int.reduceToNat,Nat.reduceSub,Nat.reduceMod,Nat.reduceDiv,Int.reducePow,Int.reduceLE,Int.reduceNeg,Int.reduceLT,Int.reduceBEq,Int.reduceBNe,Int.reduceEq,g0,g1,g5]
    first|refine CallK.p (cB) ?_|refine CallP.i (cB) ?_
    simp(disch:=omega)only[↓kX,kW,aS,Nat.reduceBEq,Nat.reduceLT,reduceCtorEq,↓reduceIte,Nat.reduceMul,Nat.reduceAdd,Nat.reduceLeDiff,Nat.reduceEqDiff,Int.reduceToNat,Nat.reduceSub,Nat.reduceMod,Nat.reduceDiv,Int.reducePow,Int.reduceLE,Int.reduceNeg,Int.reduceLT,Int.reduceBEq,Int.reduceBNe,Int.reduceEq,g0,g1,g5,hq]
    first|refine CallK.p (cA) ?_|refine CallP.i (cA) ?_
    simp(disch:=omega)only[↓kX,kW,aS,Nat.reduceBEq,Nat.reduceLT,reduceCtorEq,↓reduceIte,Nat.reduceMul,Nat.reduceAdd,Nat.reduceLeDiff,Nat.reduceEqDiff,Int.reduceToNat,Nat.reduceSub,Nat.reduceMod,Nat.reduceDiv,Int.reducePow,Int.reduceLE,Int.reduceNeg,Int.reduceLT,Int.reduceBEq,Int.reduceBNe,Int.reduceEq,g0,g1,g5]
    first|refine CallK.p (cB) ?_|refine CallP.i (cB) ?_
    simp(disch:=omega)only[↓kX,kW,aS,Nat.reduceBEq,Nat.reduceLT,reduceCtorEq,↓reduceIte,Nat.reduceMul,Nat.reduceAdd,Nat.reduceLeDiff,Nat.reduceEqDiff,Int.reduceToNat,Nat.reduceSub,Nat.reduceMod,Nat.reduceDiv,Int.reducePow,Int.reduceLE,Int.reduceNeg,Int.reduceLT,Int.reduceBEq,Int.reduceBNe,Int.reduceEq,g0,g1,g5,hlt]
    first|exact Abs.Sub.refl _|exact⟨rfl,Abs.Sub.refl _⟩|trace_state
theorem minus_pure(a b:Nat)(hab:b≤a)(ha:(digs a).length≤1000)(hb:(digs b).length≤1000):APure Tryz.prog 138 [D a,D b] (D (a-b)):=by
 have c2:=fun i=>qi (digs b) i
 simp only[oP]at c2
 obtain⟨n,hn⟩:∃n,n=(digs a).length:=⟨_,rfl⟩
 have la:=nE a
 rw[←hn]at la
 have lt:a-b<256^n:=by omega
 have htr:=pV (oZ n (a-b)) (fstD_ok n _) (by rw[nW];omega)
 rw[trim_fst lt]at htr
 unfold pZ at htr
 rw[nW]at htr
 have hal:=lO (digs a)
 have hag:∀i,i<n→(lM (digs a))[i]? = some (.sc (.int .i64 (a/256^i % 256:Nat))):=fun i hi=>by rw[mV (by omega),oP]
 unfold D pZ at *
 generalize hA:digs a=A at *
 generalize hB:digs b=B at *
 generalize digs (a-b)=R at *
 refine az (c:=⟨Tryz.prog,36,[(6,[0,0,0,1,0,0,0,0,0,0,0,0])],[],[]⟩) (rs:=[ResultVar.tmp 4]) Tryz.mixed Tryz.func138 rfl rfl rfl (Nat.le_of_ble_eq_true rfl) (by kernel_rfl) fun H=>?_
 simp(disch:=omega)only[↓kX,kW,aS,Nat.reduceBEq,Nat.reduceLT,reduceCtorEq,↓reduceIte,Nat.reduceMul,Nat.reduceAdd,Nat.reduceLeDiff,Nat.reduceEqDiff,Int.reduceToNat,Nat.reduceSub,Nat.reduceMod,Nat.reduceDiv,Int.reducePow,Int.reduceLE,Int.reduceNeg,Int.reduceLT,Int.reduceBEq,Int.reduceBNe,Int.reduceEq]
 refine jn 5 (by simp(disch:=omega)only[↓kX,kW,aS,Nat.reduceBEq,Nat.reduceLT,reduceCtorEq,↓reduceIte,Nat.reduceMul,Nat.reduceAdd,Nat.reduceLeDiff,Nat.reduceEqDiff,Int.reduceToNat,Nat.reduceSub,Nat.reduceMod,Nat.reduceDiv,Int.reducePow,Int.reduceLE,Int.reduceNeg,Int.reduceLT,Int.reduceBEq,Int.reduceBNe,Int.reduceEq]) fun k hk0 hk=>?_
 refine br (c:=⟨Tryz.prog,36,[(6,[0,0,0,1,0,0,0,0,0,0,0,0])],[],[]⟩) Tryz.mixed (by kernel_rfl) (fun m σ H'=>∃i k o,i+m=n∧σ 0=.imm 0 (lM A) A.length∧σ 1=.imm 0 (lM B) B.length∧σ 6=.sc (.int .i64 (bor a b (256^i):Nat))∧σ 7=.sc (.int .i64 (i:Nat))∧k≠0∧H k=none∧H'=H.set k o∧cy0 3 1 o i∧σ 5=.imm k (lM (oZ i (a-b))) i) n ?_ ?_
 ·refine⟨0,k,.nilt,by omega,?_⟩
  rw[show bor a b (256^0)=0 by simp[bor,Nat.mod_one]]
  simp(disch:=omega)only[↓kX,kW,aS,Nat.reduceBEq,Nat.reduceLT,reduceCtorEq,↓reduceIte,Nat.reduceMul,Nat.reduceAdd,Nat.reduceLeDiff,Nat.reduceEqDiff,Int.reduceToNat,Nat.reduceSub,Nat.reduceMod,Nat.reduceDiv,Int.reducePow,Int.reduceLE,Int.reduceNeg,Int.reduceLT,Int.reduceBEq,Int.reduceBNe,Int.reduceEq]
  first|exact⟨hk0,hk,rfl⟩|exact⟨hk0,hk⟩|trace_state
 ·clear hk0 hk
  clear k
  rintro m σ H' ⟨i,k,o,hi,g0,g1,g6,g7,hk0,hk,rfl,ho,g5⟩
  have hfl:(lM (oZ i (a-b))).length=i:=by rw[lO,nW]
  by_cases hlt:i<n
  ·have hb2:decide ((i:Int)<(A.length:Int))=true:=dT (by omega)
   have hpos:0<256^i:=Nat.pow_pos (by decide)
   have d1:=sub_digit (B:=256) a b (256^i) hpos (by decide) hab
   have d2:=bor_le a b (256^i)
   have hfs:=ql i (a-b)
   rw[←Nat.pow_succ]at d1
   have mA:=Nat.mod_lt (a/256^i) (show 0<256 by decide)
   have mB:=Nat.mod_lt (b/256^i) (show 0<256 by decide)
   have cB:=c2 i
   have ag:=hag i hlt
   obtain⟨d1,d3⟩:=d1
   rw[←d1]at hfs
   generalize hcn:bor a b (256^(i+1))=cn at *
   generalize bor a b (256^i)=ca at *
   generalize a/256^i % 256=xa at *
   generalize b/256^i % 256=xb at *
   have w1:IntKind.i64.wrap (256+(xa:Int))=((256+xa:Nat):Int):=by rw[iw (by omega)];rfl
   have w2:IntKind.i64.wrap (((256+xa:Nat):Int)-(xb:Int))=((256+xa-xb:Nat):Int):=by rw[iw (by omega)];omega
   have w3:IntKind.i64.wrap (((256+xa-xb:Nat):Int)-(ca:Int))=((256+xa-xb-ca:Nat):Int):=by rw[iw (by omega)];omega
   have w4:IntKind.i64.wrap (((256+xa-xb-ca)/256:Nat):Int)=(((256+xa-xb-ca)/256:Nat):Int):=iw (by omega)
   have w5:IntKind.i64.wrap (1-(((256+xa-xb-ca)/256:Nat):Int))=(cn:Int):=by rw[iw (by omega)];omega
   simp(disch:=omega)only[↓kX,kW,aS,Nat.reduceBEq,Nat.reduceLT,reduceCtorEq,↓reduceIte,Nat.reduceMul,Nat.reduceAdd,Nat.reduceLeDiff,Nat.reduceEqDiff,Int.reduceToNat,Nat.reduceSub,Nat.reduceMod,Nat.reduceDiv,Int.reducePow,Int.reduceLE,Int.reduceNeg,Int.reduceLT,Int.reduceBEq,Int.reduceBNe,Int.reduceEq,g0,g1,g5,g6,g7,hb2,hal,ag,w1]
   first|refine CallK.p (cB) ?_|refine CallP.i (cB) ?_
   simp(disch:=omega)only[↓kX,kW,aS,Nat.reduceBEq,Nat.reduceLT,reduceCtorEq,↓reduceIte,Nat.reduceMul,Nat.reduceAdd,Nat.reduceLeDiff,Nat.reduceEqDiff,Int.reduceToNat,Nat.reduceSub,Nat.reduceMod,Nat.reduceDiv,Int.reducePow,Int.reduceLE,Int.reduceNeg,Int.reduceLT,Int.reduceBEq,Int.reduceBNe,Int.reduceEq,g0,g1,g5,g6,g7,w1,w2,w3,w4,w5,jd,nC,hk0,ho,hfl]
   intro k' o' hk0' hk' ho'
   exact⟨m-1,by omega,i+1,k',o',by omega,by rw[hcn],rfl,hk0',am hk',rfl,by simpa [hfl] using ho',by rw[hfs,←rU]⟩
  ·obtain rfl:i=n:=by omega
   have hb2:decide ((i:Int)<(A.length:Int))=false:=dF (by omega)
   simp(disch:=omega)only[↓kX,kW,aS,Nat.reduceBEq,Nat.reduceLT,reduceCtorEq,↓reduceIte,Nat.reduceMul,Nat.reduceAdd,Nat.reduceLeDiff,Nat.reduceEqDiff,Int.reduceToNat,Nat.reduceSub,Nat.reduceMod,Nat.reduceDiv,Int.reducePow,Int.reduceLE,Int.reduceNeg,Int.reduceLT,Int.reduceBEq,Int.reduceBNe,Int.reduceEq,g0,g1,g5,g6,g7,hb2,hal]
   first|refine CallK.p (htr) ?_|refine CallP.i (htr) ?_
   simp(disch:=omega)only[↓kX,kW,aS,Nat.reduceBEq,Nat.reduceLT,reduceCtorEq,↓reduceIte,Nat.reduceMul,Nat.reduceAdd,Nat.reduceLeDiff,Nat.reduceEqDiff,Int.reduceToNat,Nat.reduceSub,Nat.reduceMod,Nat.reduceDiv,Int.reducePow,Int.reduceLE,Int.reduceNeg,Int.reduceLT,Int.reduceBEq,Int.reduceBNe,Int.reduceEq]
   first|exact Sub.set_new hk|trace_state
theorem qx:∀ {k n i:Nat} (h:i<(lQ k n).length),(lQ k n)[i]=UInt8.ofNat (n/256^i % 256)
 |0,n,i,h=>by simp[lQ]at h
 |k+1,n,0,h=>by
  simp only[lQ,List.getElem_cons_zero,Nat.pow_zero,Nat.div_one]
  exact UInt8.toNat.inj (by simp)
 |k+1,n,i+1,h=>by
  have ih:=qx (k:=k) (n:=n/256) (i:=i) (by simpa [lQ] using h)
  simp only[lQ,List.getElem_cons_succ]
  rw[ih,Nat.div_div_eq_div_mul,Nat.pow_succ,Nat.mul_comm 256]
theorem told_pure(n k:Nat)(hk:k≤1000)(hn:(digs n).length≤1000):APure Tryz.prog 55 [D n,.sc (.int .i64 k)] (eu (lQ k n)):=by
 have c1:=fun i=>qi (digs n) i
 simp only[oP]at c1
 have hTs:∀i,i<k→(lQ k n).take (i+1)=(lQ k n).take i++[UInt8.ofNat (n/256^i % 256)]:=fun i h=>by
  rw[List.take_succ_eq_append_getElem (by rw[mL];exact h),qx]
 have hTl:=mL k n
 have hTt:∀i,i≤k→((lQ k n).take i).length=i:=fun i h=>by rw[List.length_take,hTl];omega
 unfold D pZ at *
 unfold eu
 generalize lQ k n=T at *
 generalize digs n=A at *
 refine az (c:=⟨Tryz.prog,20,[],[],[]⟩) (rs:=[ResultVar.tmp 4]) Tryz.mixed Tryz.func55 rfl rfl rfl (Nat.le_of_ble_eq_true rfl) (by kernel_rfl) fun H=>?_
 simp(disch:=omega)only[↓kX,kW,aS,simprocAttr]
 refine jn 5 (by simp(disch:=omega)only[↓kX,kW,aS,simprocAttr]) fun kt hk0 hkt=>?_
 refine br (c:=⟨Tryz.prog,20,[],[],[]⟩) Tryz.mixed (by kernel_rfl) (fun m σ H'=>∃i kt o,i+m=k∧σ 0=.imm 0 (lM A) A.length∧σ 1=.sc (.int .i64 k)∧σ 6=.sc (.int .i64 (i:Nat))∧kt≠0∧H kt=none∧H'=H.set kt o∧cy0 5 1 o i∧σ 5=.imm kt (bw (T.take i)) i) k ?_ ?_
 ·refine⟨0,kt,.nilt,by omega,?_⟩
  simp(disch:=omega)only[↓kX,kW,aS,simprocAttr]
  first|exact⟨hk0,hkt,rfl⟩|exact⟨hk0,hkt⟩|trace_state
 ·clear hk0 hkt
  clear kt
  rintro m σ H' ⟨i,kt,o,hi,g0,g1,g6,hk0,hkt,rfl,ho,g5⟩
  have htl:=hTt i (by omega)
  by_cases hlt:i<k
  ·have hb2:decide ((i:Int)<(k:Int))=true:=dT (by omega)
   have hts:=hTs i hlt
   have cA:=c1 i
   generalize n/256^i % 256=x at *
   simp(disch:=omega)only[↓kX,kW,aS,simprocAttr,g0,g1,g5,g6,hb2]
   first|refine CallK.p (cA) ?_|refine CallP.i (cA) ?_
   simp(disch:=omega)only[↓kX,kW,aS,simprocAttr,g0,g1,g5,g6,↓jC,hk0,ho,htl]
   intro k' o' hk0' hk' ho'
   exact⟨m-1,by omega,i+1,k',o',by omega,rfl,hk0',am hk',rfl,ho',by rw[hts]⟩
  ·obtain rfl:i=k:=by omega
   have hb2:decide ((i:Int)<(i:Int))=false:=by simp
   rw[List.take_of_length_le (by omega)]at g5
   simp(disch:=omega)only[↓kX,kW,aS,simprocAttr,g0,g1,g5,g6,hb2]
   rw[hTl]
   first|exact Sub.set_new hkt|exact⟨rfl,Sub.set_new hkt⟩|trace_state
end Go.Proofs.YtcncplameclkfaaGreatDoor
end
