/-
  Several texts in one: each says what it proves.
  Conditions: none. Lemmas only.
-/
import Derived.Test.YtcncplameclkfaaGreatDoorByG4
import Derived.Test.YtcncplameclkfaaGreatDoorSuiG1
import Derived.Test.YtcncplameclkfaaGreatDoorNmG2
set_option linter.all false
section
set_option maxRecDepth 20000
set_option maxHeartbeats 8000000
namespace Go.Proofs.YtcncplameclkfaaGreatDoor
open Go Go.Abs Go.Proofs Go.Box
theorem word_dig(n i k:Nat)(hk:k<8):n/18446744073709551616^i % 18446744073709551616/256^k % 256=n/256^(8*i+k) % 256:=by
 have h2:(18446744073709551616:Nat)=256^k*256^(8-k):=by
  rw[←Nat.pow_add,show k+(8-k)=8 by omega]
 have h3:(256:Nat)^(8-k)=256*256^(7-k):=by rw[show 8-k=(7-k)+1 by omega,Nat.pow_succ,Nat.mul_comm]
 have h4:(256:Nat)^(8*i+k)=18446744073709551616^i*256^k:=by rw[Nat.pow_add,Nat.pow_mul]
 rw[h4,←Nat.div_div_eq_div_mul]
 generalize n/18446744073709551616^i=y
 rw[h2,Nat.mod_mul_right_div_self,h3,Nat.mod_mul_right_mod]
theorem digits_pure(n:Nat)(hn:n<18446744073709551616^4):APure Tryz.prog 97 [.agg (lH (kZ 4 n))] (D n):=by
 have hwl:(lH (kZ 4 n)).length=4:=by rw[lV,lL]
 have hwt:(lH (kZ 4 n)).take 4=lH (kZ 4 n):=List.take_of_length_le (by omega)
 have aw:=fun i (h:i<4)=>mf (l:=kZ 4 n) (i:=i) (by rw[lL];omega)
 have gw:=fun i (h:i<4)=>mT 4 n i h
 have mw:=fun i=>wget 4 n i
 have ht:=pV (oZ 32 n) (fstD_ok 32 n) (by rw[nW];omega)
 have he:=trim_fst (k:=32) (n:=n) (by
  rw[show(256:Nat)^32=18446744073709551616^4 from rfl]
  exact hn)
 rw[he]at ht
 have hs:=fun k=>ql k n
 have hl:=fun k=>nW k n
 have hz:oZ 0 n=[]:=rfl
 have hd:=fun i k h=>word_dig n i k h
 generalize hF:(fun k=>oZ k n)=F at *
 have hF':∀k,oZ k n=F k:=fun k=>by rw[←hF]
 simp only[hF']at ht hs hl hz
 clear hF hF' he hn
 generalize kZ 4 n=W at *
 refine az (c:=⟨Tryz.prog,28,[(1000000,[1])],[],[]⟩) (rs:=[ResultVar.tmp 2]) Tryz.mixed Tryz.func97 rfl rfl rfl (Nat.le_of_ble_eq_true rfl) (by kernel_rfl) fun H=>?_
 simp(disch:=omega)only[↓kX,kW,aS,Nat.reduceBEq,Nat.reduceLT,reduceCtorEq,↓reduceIte,Nat.reduceMul,Nat.reduceAdd,Nat.reduceLeDiff,Nat.reduceEqDiff,Int.reduceToNat,Nat.reduceSub,Nat.reduceMod,Nat.reduceDiv,Int.reducePow,Int.reduceLE,Int.reduceNeg,Int.reduceLT,Int.reduceBEq,Int.reduceBNe,Int.reduceEq,hwl,hwt]
 intro k1 hk10 hk1
 rw[aj hk1]
 refine jn 3 (by simp(disch:=omega)only[↓kX,kW,aS,Nat.reduceBEq,Nat.reduceLT,reduceCtorEq,↓reduceIte,Nat.reduceMul,Nat.reduceAdd,Nat.reduceLeDiff,Nat.reduceEqDiff,Int.reduceToNat,Nat.reduceSub,Nat.reduceMod,Nat.reduceDiv,Int.reducePow,Int.reduceLE,Int.reduceNeg,Int.reduceLT,Int.reduceBEq,Int.reduceBNe,Int.reduceEq]) fun k hk0 hk=>?_
 refine br (c:=⟨Tryz.prog,28,[(1000000,[1])],[],[]⟩) Tryz.mixed (by kernel_rfl) (fun m σ H'=>∃i:Nat,i+m=4∧σ 1=.ip (lH W) 0∧σ 4=.sc (.int .i64 i)∧∃k o,k≠0∧H k=none∧H'=H.set k o∧cy0 3 1 o (8*i)∧σ 3=.imm k (lM (F (8*i))) (8*i)) 4 ?_ ?_
 ·refine⟨0,by omega,?_⟩
  rw[Nat.mul_zero,hz]
  simp(disch:=omega)only[↓kX,kW,aS,Nat.reduceBEq,Nat.reduceLT,reduceCtorEq,↓reduceIte,Nat.reduceMul,Nat.reduceAdd,Nat.reduceLeDiff,Nat.reduceEqDiff,Int.reduceToNat,Nat.reduceSub,Nat.reduceMod,Nat.reduceDiv,Int.reducePow,Int.reduceLE,Int.reduceNeg,Int.reduceLT,Int.reduceBEq,Int.reduceBNe,Int.reduceEq]
  exact⟨k,_,hk0,hk,rfl,.inr ⟨rfl,rfl⟩,rfl⟩
 ·rintro m σ H' ⟨i,hi,g1,g4,k,o,hk0,hk,rfl,ho,g3⟩
  by_cases hlt:i<4
  ·have hb:decide ((i:Int)<4)=true:=dT (by omega)
   have ha:=aw i hlt
   have hg:=gw i hlt
   have hm:=mw i
   generalize W.getD i 0=w at *
   simp(disch:=omega)only[↓kX,kW,aS,Nat.reduceBEq,Nat.reduceLT,reduceCtorEq,↓reduceIte,Nat.reduceMul,Nat.reduceAdd,Nat.reduceLeDiff,Nat.reduceEqDiff,Int.reduceToNat,Nat.reduceSub,Nat.reduceMod,Nat.reduceDiv,Int.reducePow,Int.reduceLE,Int.reduceNeg,Int.reduceLT,Int.reduceBEq,Int.reduceBNe,Int.reduceEq,g1,g3,g4,hb,ha,hwl]
   refine br (c:=⟨Tryz.prog,28,[(1000000,[1])],[],[]⟩) Tryz.mixed (by kernel_rfl) (fun m2 σ2 H2=>∃j:Nat,j+m2=8∧σ2 1=.ip (lH W) 0∧σ2 4=.sc (.int .i64 i)∧σ2 5=.sc (.int .u64 (w/256^j:Nat))∧σ2 6=.sc (.int .i64 j)∧∃k o,k≠0∧H k=none∧H2=H.set k o∧cy0 3 1 o (8*i+j)∧σ2 3=.imm k (lM (F (8*i+j))) (8*i+j)) 8 ?_ ?_
   ·refine⟨0,by omega,?_⟩
    simp(disch:=omega)only[↓kX,kW,aS,Nat.reduceBEq,Nat.reduceLT,reduceCtorEq,↓reduceIte,Nat.reduceMul,Nat.reduceAdd,Nat.reduceLeDiff,Nat.reduceEqDiff,Int.reduceToNat,Nat.reduceSub,Nat.reduceMod,Nat.reduceDiv,Int.reducePow,Int.reduceLE,Int.reduceNeg,Int.reduceLT,Int.reduceBEq,Int.reduceBNe,Int.reduceEq,g1,g3,g4,Nat.pow_zero,Nat.div_one,Nat.add_zero]
    exact⟨k,o,hk0,hk,rfl,ho,rfl⟩
   ·clear g1 g3 g4
    clear σ
    rintro m2 σ H2 ⟨j,hj,g1,g4,g5,g6,k,o,hk0,hk,rfl,ho,g3⟩
    by_cases hl2:j<8
    ·have hb2:decide ((j:Int)<8)=true:=dT (by omega)
     have hdj:=hd i j hl2
     rw[←hg]at hdj
     have hsn:=hs (8*i+j)
     rw[←hdj]at hsn
     have hwj:w/256^j≤w:=Nat.div_le_self _ _
     have hww:w/256^j/256=w/256^(j+1):=by rw[Nat.div_div_eq_div_mul,Nat.pow_succ]
     have hln:=hl (8*i+j)
     have hnl:=lO (F (8*i+j))
     rw[hln]at hnl
     generalize w/256^j=x at *
     have w1:IntKind.i64.wrap ((x % 256:Nat):Int)=((x % 256:Nat):Int):=iw (by omega)
     have w2:IntKind.i64.wrap ((j:Int)+1)=((j+1:Nat):Int):=by rw[iw (by omega)];rfl
     have w3:IntKind.u64.wrap ((x/256:Nat):Int)=((x/256:Nat):Int):=jw (by omega)
     simp(disch:=omega)only[↓kX,kW,aS,Nat.reduceBEq,Nat.reduceLT,reduceCtorEq,↓reduceIte,Nat.reduceMul,Nat.reduceAdd,Nat.reduceLeDiff,Nat.reduceEqDiff,Int.reduceToNat,Nat.reduceSub,Nat.reduceMod,Nat.reduceDiv,Int.reducePow,Int.reduceLE,Int.reduceNeg,Int.reduceLT,Int.reduceBEq,Int.reduceBNe,Int.reduceEq,g1,g3,g4,g5,g6,hb2,jd,nC,w1,w2,w3,hk0,ho,hnl]
     intro k' o' hk0' hk' ho'
     exact⟨m2-1,by omega,j+1,by omega,by rw[←hww],rfl,k',o',hk0',am hk',rfl,ho',by rw[←Nat.add_assoc,hsn,rU]⟩
    ·obtain rfl:j=8:=by omega
     have hb2:decide (((8:Nat):Int)<8)=false:=by decide
     have w2:IntKind.i64.wrap ((i:Int)+1)=((i+1:Nat):Int):=by rw[iw (by omega)];rfl
     simp(disch:=omega)only[↓kX,kW,aS,Nat.reduceBEq,Nat.reduceLT,reduceCtorEq,↓reduceIte,Nat.reduceMul,Nat.reduceAdd,Nat.reduceLeDiff,Nat.reduceEqDiff,Int.reduceToNat,Nat.reduceSub,Nat.reduceMod,Nat.reduceDiv,Int.reducePow,Int.reduceLE,Int.reduceNeg,Int.reduceLT,Int.reduceBEq,Int.reduceBNe,Int.reduceEq,g1,g3,g4,g5,g6,hb2,w2]
     exact⟨m-1,by omega,i+1,by omega,rfl,k,o,hk0,hk,rfl,by rw[Nat.mul_add];exact ho,by rw[Nat.mul_add]⟩
  ·obtain rfl:i=4:=by omega
   have hb:decide (((4:Nat):Int)<4)=false:=by decide
   unfold pZ at ht
   rw[hl 32]at ht
   simp(disch:=omega)only[↓kX,kW,aS,Nat.reduceBEq,Nat.reduceLT,reduceCtorEq,↓reduceIte,Nat.reduceMul,Nat.reduceAdd,Nat.reduceLeDiff,Nat.reduceEqDiff,Int.reduceToNat,Nat.reduceSub,Nat.reduceMod,Nat.reduceDiv,Int.reducePow,Int.reduceLE,Int.reduceNeg,Int.reduceLT,Int.reduceBEq,Int.reduceBNe,Int.reduceEq,g1,g3,g4,hb]
   first|refine CallK.p (ht) ?_|refine CallP.i (ht) ?_
   simp(disch:=omega)only[↓kX,kW,aS,Nat.reduceBEq,Nat.reduceLT,reduceCtorEq,↓reduceIte,Nat.reduceMul,Nat.reduceAdd,Nat.reduceLeDiff,Nat.reduceEqDiff,Int.reduceToNat,Nat.reduceSub,Nat.reduceMod,Nat.reduceDiv,Int.reducePow,Int.reduceLE,Int.reduceNeg,Int.reduceLT,Int.reduceBEq,Int.reduceBNe,Int.reduceEq]
   exact Sub.set_new hk
theorem rest_step(y j:Nat):(y/256 % 256^j)*256+y % 256=y % 256^(j+1):=by
 rw[Nat.pow_succ,Nat.mul_comm (256^j),Nat.mod_mul,Nat.mul_comm]
 omega
theorem word_pure(n i:Nat)(hi:i<8):APure Tryz.prog 99 [D n,.sc (.int .i64 i)] (.sc (.int .u64 (n/18446744073709551616^i % 18446744073709551616:Nat))):=by
 have hat:=fun k=>qi (digs n) k
 have hg:=fun k=>oP n k
 have hst:=fun y j=>rest_step y j
 have hp:(18446744073709551616:Nat)^i=256^(8*i):=by rw[Nat.pow_mul]
 have hp8:(18446744073709551616:Nat)=256^8:=rfl
 have hlt8:∀j,j≤8→∀y,y % 256^j<18446744073709551616:=fun j hj y=>Nat.lt_of_lt_of_le (Nat.mod_lt _ (Nat.pow_pos (by decide))) (by rw[hp8];exact Nat.pow_le_pow_right (by decide) hj)
 refine az (c:=⟨Tryz.prog,22,[],[],[]⟩) (rs:=[ResultVar.tmp 4]) Tryz.mixed Tryz.func99 rfl rfl rfl (Nat.le_of_ble_eq_true rfl) (by kernel_rfl) fun H=>?_
 simp(disch:=omega)only[↓kX,kW,aS,Nat.reduceBEq,Nat.reduceLT,reduceCtorEq,↓reduceIte,Nat.reduceMul,Nat.reduceAdd,Nat.reduceLeDiff,Nat.reduceEqDiff,Int.reduceToNat,Nat.reduceSub,Nat.reduceMod,Nat.reduceDiv,Int.reducePow,Int.reduceLE,Int.reduceNeg,Int.reduceLT,Int.reduceBEq,Int.reduceBNe,Int.reduceEq]
 refine br (c:=⟨Tryz.prog,22,[],[],[]⟩) Tryz.mixed (by kernel_rfl) (fun m σ H'=>m≤8∧σ 0=D n∧σ 1=.sc (.int .i64 i)∧σ 5=.sc (.int .u64 (n/256^(8*i+m) % 256^(8-m):Nat))∧(∃x:Int,x=(m:Int)-1∧σ 6=.sc (.int .i64 x))∧H'=H) 8 ?_ ?_
 ·refine⟨Nat.le_refl _,?_⟩
  simp(disch:=omega)only[↓kX,kW,aS,Nat.reduceBEq,Nat.reduceLT,reduceCtorEq,↓reduceIte,Nat.reduceMul,Nat.reduceAdd,Nat.reduceLeDiff,Nat.reduceEqDiff,Int.reduceToNat,Nat.reduceSub,Nat.reduceMod,Nat.reduceDiv,Int.reducePow,Int.reduceLE,Int.reduceNeg,Int.reduceLT,Int.reduceBEq,Int.reduceBNe,Int.reduceEq]
  exact⟨by rw[Nat.pow_zero,Nat.mod_one];rfl,7,rfl,rfl⟩
 ·rintro m σ H' ⟨hm,g0,g1,g5,⟨x6,hx6,g6⟩,rfl⟩
  by_cases h0:m=0
  ·subst h0
   have hb:decide ((0:Int)≤x6)=false:=dF (by omega)
   simp(disch:=omega)only[↓kX,kW,aS,Nat.reduceBEq,Nat.reduceLT,reduceCtorEq,↓reduceIte,Nat.reduceMul,Nat.reduceAdd,Nat.reduceLeDiff,Nat.reduceEqDiff,Int.reduceToNat,Nat.reduceSub,Nat.reduceMod,Nat.reduceDiv,Int.reducePow,Int.reduceLE,Int.reduceNeg,Int.reduceLT,Int.reduceBEq,Int.reduceBNe,Int.reduceEq,g0,g1,g5,g6,hb]
   refine⟨?_,Abs.Sub.refl _⟩
   rw[hp]
  ·obtain⟨j,rfl⟩:∃j,m=j+1:=⟨m-1,by omega⟩
   have hb:decide ((0:Int)≤x6)=true:=dT (by omega)
   have w1:IntKind.i64.wrap (x6-1)=x6-1:=iw (by omega)
   have w2:IntKind.i64.wrap (8*(i:Int))=((8*i:Nat):Int):=by rw[iw (by omega)];omega
   have w3:IntKind.i64.wrap (((8*i:Nat):Int)+x6)=((8*i+j:Nat):Int):=by rw[iw (by omega)];omega
   have ha:=hat (8*i+j)
   have hgk:=hg (8*i+j)
   have hs:=hst (n/256^(8*i+j)) (8-(j+1))
   have hl:=hlt8 (8-(j+1)) (by omega) (n/256^(8*i+(j+1)))
   have hl2:=hlt8 (8-j) (by omega) (n/256^(8*i+j))
   have e1:n/256^(8*i+j)/256=n/256^(8*i+(j+1)):=by rw[Nat.div_div_eq_div_mul,←Nat.pow_succ];rfl
   rw[e1,show 8-(j+1)+1=8-j by omega]at hs
   have hdl:(digs n).getD (8*i+j) 0<256:=by rw[hgk];exact Nat.mod_lt _ (by decide)
   rw[←hgk]at hs
   generalize (digs n).getD (8*i+j) 0=x at *
   generalize n/256^(8*i+(j+1)) % 256^(8-(j+1))=y at *
   generalize hz':n/256^(8*i+j) % 256^(8-j)=z at *
   have w5:IntKind.u64.wrap ((y:Int)*256)=((y*256:Nat):Int):=by
    rw[show((y:Int)*256)=((y*256:Nat):Int) by rw[Int.natCast_mul];rfl]
    exact jw (by omega)
   have w6:IntKind.u64.wrap ((x:Nat):Int)=(x:Int):=jw (by omega)
   have w7:IntKind.u64.wrap (((y*256:Nat):Int)+(x:Int))=(z:Int):=by
    rw[show((y*256:Nat):Int)+(x:Int)=(z:Int) by omega]
    exact jw (by omega)
   simp(disch:=omega)only[↓kX,kW,aS,Nat.reduceBEq,Nat.reduceLT,reduceCtorEq,↓reduceIte,Nat.reduceMul,Nat.reduceAdd,Nat.reduceLeDiff,Nat.reduceEqDiff,Int.reduceToNat,Nat.reduceSub,Nat.reduceMod,Nat.reduceDiv,Int.reducePow,Int.reduceLE,Int.reduceNeg,Int.reduceLT,Int.reduceBEq,Int.reduceBNe,Int.reduceEq,g0,g1,g5,g6,hb,w1,w2,w3]
   first|refine CallK.p (ha) ?_|refine CallP.i (ha) ?_
   simp(disch:=omega)only[↓kX,kW,aS,Nat.reduceBEq,Nat.reduceLT,reduceCtorEq,↓reduceIte,Nat.reduceMul,Nat.reduceAdd,Nat.reduceLeDiff,Nat.reduceEqDiff,Int.reduceToNat,Nat.reduceSub,Nat.reduceMod,Nat.reduceDiv,Int.reducePow,Int.reduceLE,Int.reduceNeg,Int.reduceLT,Int.reduceBEq,Int.reduceBNe,Int.reduceEq,g0,g1,g5,g6,hb,w1,w2,w3,w5,w6,w7]
   exact⟨j,by omega,by omega,by rw[hz'],x6-1,by omega,rfl⟩
theorem of_pure(n:Nat):APure Tryz.prog 46 [D n] (.agg (lH (kZ 4 n))):=by
 have hwd:=fun i h=>word_pure n i h
 have p0:lH (qZ 4 n 0)=[.sc (.int .u64 0),.sc (.int .u64 0),.sc (.int .u64 0),.sc (.int .u64 0)]:=rfl
 have pe:=partW_end 4 n
 have pl:=pY 4 n
 have ps:=fun i h=>partW_set 4 n (i:=i) h
 rw[←pe]
 generalize qZ 4 n=F at *
 obtain⟨Z,hZ⟩:∃Z:AObj,Z=.cells [.sc (.int .u64 0),.sc (.int .u64 0),.sc (.int .u64 0),.sc (.int .u64 0)] 58 4:=⟨_,rfl⟩
 refine az (c:=⟨Tryz.prog,15,[],[],[]⟩) (rs:=[ResultVar.cell 2 58]) Tryz.mixed Tryz.func46 rfl rfl rfl (Nat.le_of_ble_eq_true rfl) (by kernel_rfl) fun H=>?_
 simp(disch:=omega)only[↓kX,kW,aS,Nat.reduceBEq,Nat.reduceLT,reduceCtorEq,↓reduceIte,Nat.reduceMul,Nat.reduceAdd,Nat.reduceLeDiff,Nat.reduceEqDiff,Int.reduceToNat,Nat.reduceSub,Nat.reduceMod,Nat.reduceDiv,Int.reducePow,Int.reduceLE,Int.reduceNeg,Int.reduceLT,Int.reduceBEq,Int.reduceBNe,Int.reduceEq]
 intro k1 hk10 hk1 k2 hk20 hk2
 have n12:=bK0 hk2
 have hk2':=am hk2
 rw[←hZ]
 refine br (c:=⟨Tryz.prog,15,[],[],[]⟩) Tryz.mixed (by kernel_rfl) (fun m σ H'=>∃i:Nat,i+m=4∧σ 0=D n∧σ 2=.ptr k1 0∧σ 3=.ptr k2 0∧σ 4=.sc (.int .i64 i)∧H'=(H.set k1 Z).set k2 (.cells (lH (F i)) 58 4)) 4 ?_ ?_
 ·refine⟨0,by omega,?_⟩
  rw[p0,←hZ]
  simp(disch:=omega)only[↓kX,kW,aS,Nat.reduceBEq,Nat.reduceLT,reduceCtorEq,↓reduceIte,Nat.reduceMul,Nat.reduceAdd,Nat.reduceLeDiff,Nat.reduceEqDiff,Int.reduceToNat,Nat.reduceSub,Nat.reduceMod,Nat.reduceDiv,Int.reducePow,Int.reduceLE,Int.reduceNeg,Int.reduceLT,Int.reduceBEq,Int.reduceBNe,Int.reduceEq]
  first|rfl|exact⟨rfl,rfl⟩|trace_state
 ·rintro m σ H' ⟨i,hi,g0,g2,g3,g4,rfl⟩
  have hl:=pl i
  have hfl:(lH (F i)).length=4:=by rw[lV,hl]
  by_cases hlt:i<4
  ·have hb2:decide ((i:Int)<4)=true:=dT (by omega)
   have hput:=oL (l:=F i) (i:=i) (x:=n/18446744073709551616^i % 18446744073709551616) (by omega)
   rw[ps i hlt]at hput
   have hw:=hwd i (by omega)
   have w1:IntKind.i64.wrap ((i:Int)+1)=((i+1:Nat):Int):=by rw[iw (by omega)];rfl
   generalize n/18446744073709551616^i % 18446744073709551616=x at *
   generalize hF':F (i+1)=F' at *
   simp(disch:=omega)only[↓kX,kW,aS,Nat.reduceBEq,Nat.reduceLT,reduceCtorEq,↓reduceIte,Nat.reduceMul,Nat.reduceAdd,Nat.reduceLeDiff,Nat.reduceEqDiff,Int.reduceToNat,Nat.reduceSub,Nat.reduceMod,Nat.reduceDiv,Int.reducePow,Int.reduceLE,Int.reduceNeg,Int.reduceLT,Int.reduceBEq,Int.reduceBNe,Int.reduceEq,g0,g2,g3,g4,hb2]
   first|refine CallK.p (hw) ?_|refine CallP.i (hw) ?_
   simp(disch:=omega)only[↓kX,kW,aS,Nat.reduceBEq,Nat.reduceLT,reduceCtorEq,↓reduceIte,Nat.reduceMul,Nat.reduceAdd,Nat.reduceLeDiff,Nat.reduceEqDiff,Int.reduceToNat,Nat.reduceSub,Nat.reduceMod,Nat.reduceDiv,Int.reducePow,Int.reduceLE,Int.reduceNeg,Int.reduceLT,Int.reduceBEq,Int.reduceBNe,Int.reduceEq,g0,g2,g3,g4,w1,set_get,set_set,hfl,hput]
   exact⟨m-1,by omega,i+1,by omega,rfl,by rw[hF']⟩
  ·obtain rfl:i=4:=by omega
   have hb2:decide (((4:Nat):Int)<4)=false:=by decide
   have htk:(lH (F 4)).take 4=lH (F 4):=List.take_of_length_le (by omega)
   have v2:∀X Y,((H.set k1 X).set k2 Y) k1=some X:=fun X Y=>lE n12
   rw[hZ]
   simp(disch:=omega)only[↓kX,kW,aS,Nat.reduceBEq,Nat.reduceLT,reduceCtorEq,↓reduceIte,Nat.reduceMul,Nat.reduceAdd,Nat.reduceLeDiff,Nat.reduceEqDiff,Int.reduceToNat,Nat.reduceSub,Nat.reduceMod,Nat.reduceDiv,Int.reducePow,Int.reduceLE,Int.reduceNeg,Int.reduceLT,Int.reduceBEq,Int.reduceBNe,Int.reduceEq,g0,g2,g3,g4,hb2,v2,set_get,hfl,htk,ah]
   refine⟨by rw[kY],?_⟩
   exact((Sub.set_new hk1).set_free hk2').set_free hk1
end Go.Proofs.YtcncplameclkfaaGreatDoor
end
section
set_option maxRecDepth 20000
set_option maxHeartbeats 8000000
namespace Go.Proofs.YtcncplameclkfaaGreatDoor
open Go Go.Abs Go.Proofs Go.Box
open Go.Nam (p25 lJ lT oQ mM mR DgX mh)
theorem ke(l:List Nat):(lM l).map AV.strip0=lM l:=by simp[lM,AV.strip0]
theorem digs_p:digs p25=237::(List.replicate 30 255++[127]):=by
 have h:pG (237::(List.replicate 30 255++[127]))=p25:=by decide
 rw[←h]
 exact digs_of (by decide) (by decide)
theorem sM:APure Tryz.prog 98 [] (D p25):=by
 unfold D pZ
 rw[digs_p]
 refine az (c:=⟨Tryz.prog,12,[],[2],[]⟩) (rs:=[ResultVar.tmp 0]) Tryz.mixed Tryz.func98 rfl rfl rfl (Nat.le_of_ble_eq_true rfl) (by kernel_rfl) fun H=>?_
 simp(disch:=omega)only[↓kX,kW,aS,Nat.reduceBEq,Nat.reduceLT,reduceCtorEq,↓reduceIte,Nat.reduceMul,Nat.reduceAdd,Nat.reduceLeDiff,Nat.reduceEqDiff,Int.reduceToNat,Nat.reduceSub,Nat.reduceMod,Nat.reduceDiv,Int.reducePow,Int.reduceLE,Int.reduceNeg,Int.reduceLT,Int.reduceBEq,Int.reduceBNe,Int.reduceEq]
 intro k hk0 hk
 refine br (c:=⟨Tryz.prog,12,[],[2],[]⟩) Tryz.mixed (by kernel_rfl) (fun m σ H'=>∃i k o,i+m=30∧k≠0∧H k=none∧H'=H.set k o∧cy0 3 1 o (1+i)∧σ 1=.imm k (lM (237::List.replicate i 255)) (1+i)) 30 ?_ ?_
 ·refine⟨0,k,_,by omega,hk0,hk,rfl,?_⟩
  simp(disch:=omega)only[↓kX,kW,aS,Nat.reduceBEq,Nat.reduceLT,reduceCtorEq,↓reduceIte,Nat.reduceMul,Nat.reduceAdd,Nat.reduceLeDiff,Nat.reduceEqDiff,Int.reduceToNat,Nat.reduceSub,Nat.reduceMod,Nat.reduceDiv,Int.reducePow,Int.reduceLE,Int.reduceNeg,Int.reduceLT,Int.reduceBEq,Int.reduceBNe,Int.reduceEq]
  rfl
 ·clear hk0 hk
  clear k
  rintro m σ H' ⟨i,k,o,hi,hk0,hk,rfl,ho,g1⟩
  have hl:(lM (237::List.replicate i 255)).length=1+i:=by rw[lO];simp;omega
  by_cases hlt:i<30
  ·have hb:decide (((1+i:Nat):Int)<31)=true:=dT (by omega)
   simp(disch:=omega)only[↓kX,kW,aS,Nat.reduceBEq,Nat.reduceLT,reduceCtorEq,↓reduceIte,Nat.reduceMul,Nat.reduceAdd,Nat.reduceLeDiff,Nat.reduceEqDiff,Int.reduceToNat,Nat.reduceSub,Nat.reduceMod,Nat.reduceDiv,Int.reducePow,Int.reduceLE,Int.reduceNeg,Int.reduceLT,Int.reduceBEq,Int.reduceBNe,Int.reduceEq,g1,hb,hk0,ho,hl]
   intro k' o' hk0' hk' ho'
   exact⟨m-1,by omega,i+1,k',o',by omega,hk0',am hk',rfl,by simpa [hl,Nat.add_assoc] using ho',by
    rw[List.replicate_succ',←List.cons_append,←rU]
    rfl⟩
  ·obtain rfl:i=30:=by omega
   have hb:decide (((1+30:Nat):Int)<31)=false:=by decide
   simp(disch:=omega)only[↓kX,kW,aS,Nat.reduceBEq,Nat.reduceLT,reduceCtorEq,↓reduceIte,Nat.reduceMul,Nat.reduceAdd,Nat.reduceLeDiff,Nat.reduceEqDiff,Int.reduceToNat,Nat.reduceSub,Nat.reduceMod,Nat.reduceDiv,Int.reducePow,Int.reduceLE,Int.reduceNeg,Int.reduceLT,Int.reduceBEq,Int.reduceBNe,Int.reduceEq,g1,hb,hk0,ho,hl]
   intro k' o' hk0' hk' ho'
   have e:lM (237::List.replicate 30 255)++[AV.sc (.int .i64 127)]=lM (237::(List.replicate 30 255++[127])):=rfl
   rw[e]
   exact⟨rfl,Sub.set_new (am hk')⟩
theorem sO(n:Nat)(hn:n<256^32):APure Tryz.prog 95 [D n] (.agg (lM (lJ n))):=by
 have hdl:(digs n).length≤32:=dlen hn
 have hat:=fun i (h:i<(digs n).length)=>mV (l:=digs n) (i:=i) h
 have hnl:=lO (digs n)
 have hg:=fun i=>oP n i
 have hgl:=fun i=>Go.Nam.pair_even n (t:=i)
 have hgo:=fun i=>Go.Nam.pair_odd n (t:=i)
 have hgz:=Go.Nam.pair_zero n
 have hend:n % 256^(digs n).length=n:=Nat.mod_eq_of_lt (nE n)
 have hfin:lJ n=lJ (n % 256^(digs n).length):=by rw[hend]
 have hle:∀i,i≤32→∀t,(lJ (n % 256^i)).getD t 0<65536:=fun i _ t=>mh (mM _) t
 have hll:∀i,(lJ (n % 256^i)).length=16:=fun i=>lT _
 rw[hfin]
 clear hfin hend
 unfold D pZ
 generalize hF:(fun i=>lJ (n % 256^i))=F at *
 have hF':∀i,lJ (n % 256^i)=F i:=fun i=>by rw[←hF]
 simp only[hF']at hgl hgo hgz hle hll
 rw[hF']
 clear hF hF'
 generalize digs n=L at *
 obtain⟨Z,hZ⟩:∃Z:AObj,Z=.cells (lM (List.replicate 16 0)) 46 16:=⟨_,rfl⟩
 have hz:lM (List.replicate 16 0)=[.sc (.int .i64 0),.sc (.int .i64 0),.sc (.int .i64 0),.sc (.int .i64 0),.sc (.int .i64 0),.sc (.int .i64 0),.sc (.int .i64 0),.sc (.int .i64 0),.sc (.int .i64 0),.sc (.int .i64 0),.sc (.int .i64 0),.sc (.int .i64 0),.sc (.int .i64 0),.sc (.int .i64 0),.sc (.int .i64 0),.sc (.int .i64 0)]:=rfl
 refine az (c:=⟨Tryz.prog,36,[(6,[0,0,0,1,0,0,0,1,0,0,2]),(7,[0,0,0,1,0,0,0,1,0,0,0,2])],[],[]⟩) (rs:=[ResultVar.cell 2 46]) Tryz.mixed Tryz.func95 rfl rfl rfl (Nat.le_of_ble_eq_true rfl) (by kernel_rfl) fun H=>?_
 simp(disch:=omega)only[↓kX,kW,aS,Nat.reduceBEq,Nat.reduceLT,reduceCtorEq,↓reduceIte,Nat.reduceMul,Nat.reduceAdd,Nat.reduceLeDiff,Nat.reduceEqDiff,Int.reduceToNat,Nat.reduceSub,Nat.reduceMod,Nat.reduceDiv,Int.reducePow,Int.reduceLE,Int.reduceNeg,Int.reduceLT,Int.reduceBEq,Int.reduceBNe,Int.reduceEq]
 intro k1 hk10 hk1 k2 hk20 hk2
 have n12:=bK0 hk2
 have hk2':=am hk2
 rw[←hz,←hZ]
 refine br (c:=⟨Tryz.prog,36,[(6,[0,0,0,1,0,0,0,1,0,0,2]),(7,[0,0,0,1,0,0,0,1,0,0,0,2])],[],[]⟩) Tryz.mixed (by kernel_rfl) (fun m σ H'=>∃i:Nat,i+m=L.length∧σ 0=.imm 0 (lM L) L.length∧σ 2=.ptr k1 0∧σ 3=.ptr k2 0∧σ 4=.sc (.int .i64 i)∧H'=(H.set k1 Z).set k2 (.cells (lM (F i)) 46 16)) L.length ?_ ?_
 ·refine⟨0,by omega,?_⟩
  rw[hgz,←hZ]
  simp(disch:=omega)only[↓kX,kW,aS,Nat.reduceBEq,Nat.reduceLT,reduceCtorEq,↓reduceIte,Nat.reduceMul,Nat.reduceAdd,Nat.reduceLeDiff,Nat.reduceEqDiff,Int.reduceToNat,Nat.reduceSub,Nat.reduceMod,Nat.reduceDiv,Int.reducePow,Int.reduceLE,Int.reduceNeg,Int.reduceLT,Int.reduceBEq,Int.reduceBNe,Int.reduceEq]
  first|rfl|exact⟨rfl,rfl⟩|trace_state
 ·rintro m σ H' ⟨i,hi,g0,g2,g3,g4,rfl⟩
  have hl:=hll i
  have hfl:(lM (F i)).length=16:=by rw[lO,hl]
  by_cases hlt:i<L.length
  ·have hb:decide ((i:Int)<(L.length:Int))=true:=dT (by omega)
   have ha:=hat i hlt
   have hgi:=hg i
   have hd:L.getD i 0<256:=by rw[hgi];exact Nat.mod_lt _ (by decide)
   have w1:IntKind.i64.wrap ((i:Int)+1)=((i+1:Nat):Int):=by rw[iw (by omega)];rfl
   have w2:IntKind.i64.wrap ((i/2:Nat):Int)=((i/2:Nat):Int):=iw (by omega)
   have hx:=mV (l:=F i) (i:=i/2) (by omega)
   have hxl:=hle i (by omega) (i/2)
   rcases Nat.mod_two_eq_zero_or_one i with h2|h2
   ·have hq:(((i % 2:Nat):Int) == 0)=true:=by rw[h2];rfl
    have hput:=oO (l:=F i) (i:=i/2) (x:=(F i).getD (i/2) 0+L.getD i 0) (by omega)
    have he:=hgl (i/2) (by omega)
    rw[show 2*(i/2)=i by omega,←hgi]at he
    rw[he]at hput
    generalize (F i).getD (i/2) 0=x at *
    generalize L.getD i 0=y at *
    have w3:IntKind.i64.wrap ((x:Int)+(y:Int))=((x+y:Nat):Int):=by rw[iw (by omega)];omega
    simp(disch:=omega)only[↓kX,kW,aS,Nat.reduceBEq,Nat.reduceLT,reduceCtorEq,↓reduceIte,Nat.reduceMul,Nat.reduceAdd,Nat.reduceLeDiff,Nat.reduceEqDiff,Int.reduceToNat,Nat.reduceSub,Nat.reduceMod,Nat.reduceDiv,Int.reducePow,Int.reduceLE,Int.reduceNeg,Int.reduceLT,Int.reduceBEq,Int.reduceBNe,Int.reduceEq,g0,g2,g3,g4,hb,hnl,jd,nC,hq,w1,w2,w3,ha,hx,set_get,set_set,hfl,hput]
    exact⟨m-1,by omega,i+1,by omega,rfl,rfl⟩
   ·have hq:(((i % 2:Nat):Int) == 0)=false:=by rw[h2];rfl
    have hput:=oO (l:=F i) (i:=i/2) (x:=(F i).getD (i/2) 0+256*L.getD i 0) (by omega)
    have he:=hgo (i/2) (by omega)
    rw[show 2*(i/2)+1=i by omega,←hgi,show 2*(i/2)+2=i+1 by omega]at he
    rw[he]at hput
    generalize (F i).getD (i/2) 0=x at *
    generalize L.getD i 0=y at *
    have w3:IntKind.i64.wrap (256*(y:Int))=((256*y:Nat):Int):=by rw[iw (by omega)];omega
    have w4:IntKind.i64.wrap ((x:Int)+((256*y:Nat):Int))=((x+256*y:Nat):Int):=by rw[iw (by omega)];omega
    simp(disch:=omega)only[↓kX,kW,aS,Nat.reduceBEq,Nat.reduceLT,reduceCtorEq,↓reduceIte,Nat.reduceMul,Nat.reduceAdd,Nat.reduceLeDiff,Nat.reduceEqDiff,Int.reduceToNat,Nat.reduceSub,Nat.reduceMod,Nat.reduceDiv,Int.reducePow,Int.reduceLE,Int.reduceNeg,Int.reduceLT,Int.reduceBEq,Int.reduceBNe,Int.reduceEq,g0,g2,g3,g4,hb,hnl,jd,nC,hq,w1,w2,w3,w4,ha,hx,set_get,set_set,hfl,hput]
    exact⟨m-1,by omega,i+1,by omega,rfl,rfl⟩
  ·obtain rfl:i=L.length:=by omega
   have hb:decide ((L.length:Int)<(L.length:Int))=false:=by simp
   have htk:(lM (F L.length)).take 16=lM (F L.length):=List.take_of_length_le (by omega)
   have v2:∀X Y,((H.set k1 X).set k2 Y) k1=some X:=fun X Y=>lE n12
   rw[hZ]
   have hp:bG (lM (List.replicate 16 0)) 0 (lM (F L.length))=lM (F L.length):=by
    rw[ah,hfl]
    simp[lM]
   have hzl:(lM (List.replicate 16 0)).length=16:=rfl
   simp(disch:=omega)only[↓kX,kW,aS,Nat.reduceBEq,Nat.reduceLT,reduceCtorEq,↓reduceIte,Nat.reduceMul,Nat.reduceAdd,Nat.reduceLeDiff,Nat.reduceEqDiff,Int.reduceToNat,Nat.reduceSub,Nat.reduceMod,Nat.reduceDiv,Int.reducePow,Int.reduceLE,Int.reduceNeg,Int.reduceLT,Int.reduceBEq,Int.reduceBNe,Int.reduceEq,g0,g2,g3,g4,hb,hnl,v2,set_get,hfl,htk,hp,hzl]
   refine⟨by rw[ke],?_⟩
   exact((Sub.set_new hk1).set_free hk2').set_free hk1
theorem nO{l:List AV}(h:l.length=16):bG [.sc (.int .i64 0),.sc (.int .i64 0),.sc (.int .i64 0),.sc (.int .i64 0),.sc (.int .i64 0),.sc (.int .i64 0),.sc (.int .i64 0),.sc (.int .i64 0),.sc (.int .i64 0),.sc (.int .i64 0),.sc (.int .i64 0),.sc (.int .i64 0),.sc (.int .i64 0),.sc (.int .i64 0),.sc (.int .i64 0),.sc (.int .i64 0)] 0 l=l:=by
 rw[ah,h]
 simp
theorem mP{l:List AV}(h:l.length=4):bG [.sc (.int .u64 0),.sc (.int .u64 0),.sc (.int .u64 0),.sc (.int .u64 0)] 0 l=l:=by
 rw[ah,h]
 simp
theorem oX{l m:List AV}(h:m.length=l.length):bG l 0 m=m:=by
 rw[ah,Nat.zero_add,List.drop_of_length_le (by omega)]
 simp
theorem numA_two(l:List Nat)(x y:Nat):lM l++[.sc (.int .i64 x),.sc (.int .i64 y)]=lM (l++[x,y]):=by simp[lM]
theorem fstD_two(i n:Nat):oZ (2*(i+1)) n=oZ (2*i) n++[n/256^(2*i) % 256,n/256^(2*i+1) % 256]:=by
 rw[show 2*(i+1)=(2*i+1)+1 by omega,ql,ql,List.append_assoc]
 rfl
theorem qW(n:Nat)(hn:n<256^32):APure Tryz.prog 102 [.agg (lM (lJ n))] (D n):=by
 have hwl:(lM (lJ n)).length=16:=by rw[lO,lT]
 have hwt:(lM (lJ n)).take 16=lM (lJ n):=List.take_of_length_le (by omega)
 have aw:=fun i (h:i<16)=>mV (l:=lJ n) (i:=i) (by rw[lT];omega)
 have lo:=fun i h=>Go.Nam.pair_low n i h
 have hi':=fun i h=>Go.Nam.pair_high n i h
 have gl:=fun i=>mh (mM n) i
 have ht:=pV (oZ 32 n) (fstD_ok 32 n) (by rw[nW];omega)
 have he:=trim_fst (k:=32) (n:=n) hn
 rw[he]at ht
 have hs:=fun k=>fstD_two k n
 have hl:=fun k=>nW k n
 have hz:oZ (2*0) n=[]:=rfl
 have h32:oZ 32 n=oZ (2*16) n:=rfl
 rw[h32]at ht
 generalize hF:(fun k=>oZ k n)=F at *
 have hF':∀k,oZ k n=F k:=fun k=>by rw[←hF]
 simp only[hF']at ht hs hl hz
 clear hF hF' he hn h32
 generalize lJ n=X at *
 refine az (c:=⟨Tryz.prog,22,[(5,[0,0,0,1,0,0,0,1,0,0,2,0]),(1000000,[1])],[],[]⟩) (rs:=[ResultVar.tmp 2]) Tryz.mixed Tryz.func102 rfl rfl rfl (Nat.le_of_ble_eq_true rfl) (by kernel_rfl) fun H=>?_
 simp(disch:=omega)only[↓kX,kW,aS,simprocAttr,hwl,hwt]
 intro k1 hk10 hk1
 rw[aj hk1]
 refine jn 3 (by simp(disch:=omega)only[↓kX,kW,aS,simprocAttr]) fun k hk0 hk=>?_
 refine br (c:=⟨Tryz.prog,22,[(5,[0,0,0,1,0,0,0,1,0,0,2,0]),(1000000,[1])],[],[]⟩) Tryz.mixed (by kernel_rfl) (fun m σ H'=>∃i:Nat,i+m=16∧σ 1=.ip (lM X) 0∧σ 4=.sc (.int .i64 i)∧∃k o,k≠0∧H k=none∧H'=H.set k o∧cy0 3 1 o (2*i)∧σ 3=.imm k (lM (F (2*i))) (2*i)) 16 ?_ ?_
 ·refine⟨0,by omega,?_⟩
  rw[hz]
  simp(disch:=omega)only[↓kX,kW,aS,simprocAttr]
  exact⟨k,_,hk0,hk,rfl,.inr ⟨rfl,rfl⟩,rfl⟩
 ·rintro m σ H' ⟨i,hi,g1,g4,k,o,hk0,hk,rfl,ho,g3⟩
  by_cases hlt:i<16
  ·have hb:decide ((i:Int)<16)=true:=dT (by omega)
   have ha:=aw i hlt
   have hsn:=hs i
   rw[←lo i hlt,←hi' i hlt]at hsn
   have hxl:=gl i
   have hnl:=lO (F (2*i))
   rw[hl]at hnl
   generalize X.getD i 0=x at *
   have w2:IntKind.i64.wrap ((i:Int)+1)=((i+1:Nat):Int):=by rw[iw (by omega)];rfl
   have w3:IntKind.i64.wrap ((x/256:Nat):Int)=((x/256:Nat):Int):=iw (by omega)
   simp(disch:=omega)only[↓kX,kW,aS,simprocAttr,g1,g3,g4,hb,ha,hwl,jd,nC,w2,w3,hk0,ho,hnl]
   intro k' o' hk0' hk' ho'
   exact⟨m-1,by omega,i+1,by omega,rfl,k',o',hk0',am hk',rfl,by rw[Nat.mul_add];exact ho',by rw[hsn,←numA_two,Nat.mul_add]⟩
  ·obtain rfl:i=16:=by omega
   have hb:decide (((16:Nat):Int)<16)=false:=by decide
   unfold pZ at ht
   rw[hl]at ht
   simp(disch:=omega)only[↓kX,kW,aS,simprocAttr,g1,g3,g4,hb]
   first|refine CallK.p (ht) ?_|refine CallP.i (ht) ?_
   simp(disch:=omega)only[↓kX,kW,aS,simprocAttr]
   exact Sub.set_new hk
theorem fof_pure(n:Nat)(hn:n<18446744073709551616^4):APure Tryz.prog 45 [.agg (lH (kZ 4 n))] (.agg (lM (lJ (n % p25)))):=by
 have hwl:(lH (kZ 4 n)).length=4:=by rw[lV,lL]
 have hwt:(lH (kZ 4 n)).take 4=lH (kZ 4 n):=List.take_of_length_le (by omega)
 have c1:=digits_pure n hn
 have c2:=sM
 have c3:=dmod_pure n p25 (by decide) (by have:=dlen (n:=n) (k:=32) hn;omega) (by rw[digs_p];decide)
 have hm:n % p25<p25:=Nat.mod_lt _ (by decide)
 have c4:=sO (n % p25) (Nat.lt_trans hm (by decide))
 have hfl:(lM (lJ (n % p25))).length=16:=by rw[lO,lT]
 generalize n % p25=r at *
 generalize p25=q at *
 generalize kZ 4 n=W at *
 refine az (c:=⟨Tryz.prog,8,[(1000000,[1])],[],[]⟩) (rs:=[ResultVar.cell 2 46]) Tryz.mixed Tryz.func45 rfl rfl rfl (Nat.le_of_ble_eq_true rfl) (by kernel_rfl) fun H=>?_
 simp(disch:=omega)only[↓kX,kW,aS,simprocAttr,hwl,hwt]
 intro k1 hk10 hk1 k2 hk20 hk2
 have n12:=bK0 hk2
 have hk2':=am hk2
 have v1:∀X Y,((H.set k1 X).set k2 Y) k1=some X:=fun X Y=>lE n12
 simp(disch:=omega)only[↓kX,kW,aS,simprocAttr,v1,mD n12 hk1,hwl,hwt,kY]
 first|refine CallK.p (c1) ?_|refine CallP.i (c1) ?_
 simp(disch:=omega)only[↓kX,kW,aS,simprocAttr]
 first|refine CallK.p (c2) ?_|refine CallP.i (c2) ?_
 simp(disch:=omega)only[↓kX,kW,aS,simprocAttr]
 first|refine CallK.p (c3) ?_|refine CallP.i (c3) ?_
 simp(disch:=omega)only[↓kX,kW,aS,simprocAttr]
 have zx:=nO hfl
 have tx:(lM (lJ r)).take 16=lM (lJ r):=List.take_of_length_le (by omega)
 first|refine CallK.p (c4) ?_|refine CallP.i (c4) ?_
 simp(disch:=omega)only[↓kX,kW,aS,simprocAttr,set_get,hfl,ke,zx,tx]
 first|exact Sub.set_new hk2'|exact⟨rfl,Sub.set_new hk2'⟩
theorem fnum_pure(n:Nat)(hn:n<256^32):APure Tryz.prog 84 [.agg (lM (lJ n))] (.agg (lH (kZ 4 n))):=by
 have hwl:(lM (lJ n)).length=16:=by rw[lO,lT]
 have hwt:(lM (lJ n)).take 16=lM (lJ n):=List.take_of_length_le (by omega)
 have c1:=qW n hn
 have c2:=of_pure n
 have hfl:(lH (kZ 4 n)).length=4:=by rw[lV,lL]
 have zx:=mP hfl
 have tx:(lH (kZ 4 n)).take 4=lH (kZ 4 n):=List.take_of_length_le (by omega)
 generalize kZ 4 n=W at *
 generalize lJ n=X at *
 refine az (c:=⟨Tryz.prog,6,[(1000000,[1])],[],[]⟩) (rs:=[ResultVar.cell 2 58]) Tryz.mixed Tryz.func84 rfl rfl rfl (Nat.le_of_ble_eq_true rfl) (by kernel_rfl) fun H=>?_
 simp(disch:=omega)only[↓kX,kW,aS,simprocAttr,hwl,hwt]
 intro k1 hk10 hk1 k2 hk20 hk2
 have n12:=bK0 hk2
 have hk2':=am hk2
 have v1:∀X Y,((H.set k1 X).set k2 Y) k1=some X:=fun X Y=>lE n12
 simp(disch:=omega)only[↓kX,kW,aS,simprocAttr,v1,mD n12 hk1,hwl,hwt,ke]
 first|refine CallK.p (c1) ?_|refine CallP.i (c1) ?_
 simp(disch:=omega)only[↓kX,kW,aS,simprocAttr]
 first|refine CallK.p (c2) ?_|refine CallP.i (c2) ?_
 simp(disch:=omega)only[↓kX,kW,aS,simprocAttr,set_get,hfl,kY,zx,tx]
 first|exact Sub.set_new hk2'|exact⟨rfl,Sub.set_new hk2'⟩
theorem digX_int{n:Nat}(h:n<65536):lJ n=(List.replicate 16 0).set 0 n:=by
 apply List.ext_getElem (by rw[lT];rfl)
 intro i a b
 have e:=oQ n i (by rw[lT]at a;exact a)
 rw[Go.Nam.getD_elem a,e]
 by_cases h0:i=0
 ·subst h0
  rw[Nat.pow_zero,Nat.div_one,Nat.mod_eq_of_lt h,List.getElem_set_self]
 ·rw[List.getElem_set_ne (by omega),List.getElem_replicate]
  rw[Nat.div_eq_of_lt,Nat.zero_mod]
  refine Nat.lt_of_lt_of_le h ?_
  conv=>lhs;rw[←Nat.pow_one 65536]
  exact Nat.pow_le_pow_right (by decide) (by omega)
theorem nJ(n:Nat)(hn:n<65536):APure Tryz.prog 47 [.sc (.int .i64 n)] (.agg (lM (lJ n))):=by
 rw[digX_int hn]
 have hp:bG (lM (List.replicate 16 0)) 0 [.sc (.int .i64 n)]=lM ((List.replicate 16 0).set 0 n):=oO (by decide)
 rw[show lM (List.replicate 16 0)=[.sc (.int .i64 0),.sc (.int .i64 0),.sc (.int .i64 0),.sc (.int .i64 0),.sc (.int .i64 0),.sc (.int .i64 0),.sc (.int .i64 0),.sc (.int .i64 0),.sc (.int .i64 0),.sc (.int .i64 0),.sc (.int .i64 0),.sc (.int .i64 0),.sc (.int .i64 0),.sc (.int .i64 0),.sc (.int .i64 0),.sc (.int .i64 0)] from rfl]at hp
 have hfl:(lM ((List.replicate 16 0).set 0 n)).length=16:=rfl
 have zx:=nO hfl
 have tx:(lM ((List.replicate 16 0).set 0 n)).take 16=lM ((List.replicate 16 0).set 0 n):=List.take_of_length_le (by omega)
 generalize (List.replicate 16 0).set 0 n=X at *
 refine az (c:=⟨Tryz.prog,7,[],[],[]⟩) (rs:=[ResultVar.cell 2 46]) Tryz.mixed Tryz.func47 rfl rfl rfl (Nat.le_of_ble_eq_true rfl) (by kernel_rfl) fun H=>?_
 simp(disch:=omega)only[↓kX,kW,aS,simprocAttr]
 intro k1 hk10 hk1 k2 hk20 hk2
 have n12:=bK0 hk2
 have hk2':=am hk2
 have v1:∀X Y,((H.set k1 X).set k2 Y) k1=some X:=fun X Y=>lE n12
 simp(disch:=omega)only[↓kX,kW,aS,simprocAttr,v1,set_get,set_set,hp,hfl,zx,tx]
 refine⟨by rw[ke],?_⟩
 exact((Sub.set_new hk1).set_free hk2').set_free hk1
theorem least_pure(u:Nat)(hu:u<57896044618658097711785492504343953926634992332820282019728792003956564819968):APure Tryz.prog 139 [.agg (lM (lJ u))] (.agg (lM (lJ (u % p25)))):=by
 have hwl:(lM (lJ u)).length=16:=by rw[lO,lT]
 have hwt:(lM (lJ u)).take 16=lM (lJ u):=List.take_of_length_le (by omega)
 have aw:=fun i (h:i<16)=>mV (l:=lJ u) (i:=i) (by rw[lT];omega)
 have hiff:=Go.Nam.least_iff hu
 have hlow:¬p25≤u→lJ (u % p25)=lJ u:=fun h=>by rw[Nat.mod_eq_of_lt (by omega)]
 have hhigh:=Go.Nam.least_low hu
 have gl:=fun i=>mh (mM u) i
 generalize lJ (u % p25)=R at *
 generalize (p25≤u)=Q at *
 generalize lJ u=X at *
 obtain⟨Z,hZ⟩:∃Z:AObj,Z=.cells [.sc (.int .i64 0),.sc (.int .i64 0),.sc (.int .i64 0),.sc (.int .i64 0),.sc (.int .i64 0),.sc (.int .i64 0),.sc (.int .i64 0),.sc (.int .i64 0),.sc (.int .i64 0),.sc (.int .i64 0),.sc (.int .i64 0),.sc (.int .i64 0),.sc (.int .i64 0),.sc (.int .i64 0),.sc (.int .i64 0),.sc (.int .i64 0)] 46 16:=⟨_,rfl⟩
 have zx:=nO hwl
 refine az (c:=⟨Tryz.prog,28,[(1000000,[1])],[],[]⟩) (rs:=[ResultVar.cell 2 46]) Tryz.mixed Tryz.func139 rfl rfl rfl (Nat.le_of_ble_eq_true rfl) (by kernel_rfl) fun H=>?_
 simp(disch:=omega)only[↓kX,kW,aS,simprocAttr,hwl,hwt]
 intro k1 hk10 hk1 k2 hk20 hk2
 have n12:=bK0 hk2
 have hk2':=am hk2
 rw[←hZ]
 have v1:∀X Y,((H.set k1 X).set k2 Y) k1=some X:=fun X Y=>lE n12
 simp(disch:=omega)only[↓kX,kW,aS,simprocAttr,v1,mD n12 hk1,hwl,hwt]
 refine br (c:=⟨Tryz.prog,28,[(1000000,[1])],[],[]⟩) Tryz.mixed (by kernel_rfl) (fun m σ H'=>∃i:Nat,i+m=15∧1≤i∧(∀j,1≤j→j<i→X.getD j 0=65535)∧σ 1=.ip (lM X) 0∧σ 2=.ptr k2 0∧σ 3=.sc (.int .i64 i)∧H'=H.set k2 Z) 14 ?_ ?_
 ·refine⟨1,by omega,by omega,fun j h1 h2=>absurd h1 (by omega),?_⟩
  simp(disch:=omega)only[↓kX,kW,aS,simprocAttr]
  first|rfl|exact⟨rfl,rfl⟩|trace_state
 ·rintro m σ H' ⟨i,hi,hi1,hall,g1,g2,g3,rfl⟩
  by_cases hlt:i<15
  ·have hb:decide ((i:Int)<15)=true:=dT (by omega)
   have ha:=aw i (by omega)
   have w1:IntKind.i64.wrap ((i:Int)+1)=((i+1:Nat):Int):=by rw[iw (by omega)];rfl
   by_cases hx:X.getD i 0=65535
   ·have hq:(((X.getD i 0:Nat):Int) != 65535)=false:=by rw[hx];rfl
    have hall2:∀j,1≤j→j<i+1→X.getD j 0=65535:=fun j h1 h2=>by
     by_cases e:j=i
     ·rw[e];exact hx
     ·exact hall j h1 (by omega)
    generalize X.getD i 0=x at *
    simp(disch:=omega)only[↓kX,kW,aS,simprocAttr,g1,g2,g3,hb,ha,hwl,hq,w1]
    exact⟨m-1,by omega,i+1,by omega,by omega,hall2,rfl⟩
   ·have hq:(((X.getD i 0:Nat):Int) != 65535)=true:=nT (by omega)
    have hR:=hlow fun h=>hx ((hiff.2 h).1 i hi1 hlt)
    rw[hR]
    generalize X.getD i 0=x at *
    rw[hZ]
    simp(disch:=omega)only[↓kX,kW,aS,simprocAttr,g1,g2,g3,hb,ha,hwl,hwt,hq,w1,set_get,set_set,zx]
    refine⟨by rw[ke],Sub.set_new hk2'⟩
  ·obtain rfl:i=15:=by omega
   have hb:decide (((15:Nat):Int)<15)=false:=by decide
   have a15:=aw 15 (by omega)
   have a0:=aw 0 (by omega)
   have l0:=gl 0
   by_cases h15:X.getD 15 0=32767
   ·have q1:(((X.getD 15 0:Nat):Int) != 32767)=false:=by rw[h15];rfl
    by_cases h0:65517≤X.getD 0 0
    ·have q2:decide (((X.getD 0 0:Nat):Int)<65517)=false:=dF (by omega)
     have hR:=hhigh (hiff.1 ⟨hall,h15,h0⟩)
     rw[hR]
     have hp:bG (lM (List.replicate 16 0)) 0 [.sc (.int .i64 (X.getD 0 0-65517:Nat))]=lM ((List.replicate 16 0).set 0 (X.getD 0 0-65517)):=oO (by decide)
     rw[show lM (List.replicate 16 0)=[.sc (.int .i64 0),.sc (.int .i64 0),.sc (.int .i64 0),.sc (.int .i64 0),.sc (.int .i64 0),.sc (.int .i64 0),.sc (.int .i64 0),.sc (.int .i64 0),.sc (.int .i64 0),.sc (.int .i64 0),.sc (.int .i64 0),.sc (.int .i64 0),.sc (.int .i64 0),.sc (.int .i64 0),.sc (.int .i64 0),.sc (.int .i64 0)] from rfl]at hp
     have hrl:(lM ((List.replicate 16 0).set 0 (X.getD 0 0-65517))).length=16:=rfl
     have zr:=nO hrl
     have tr:(lM ((List.replicate 16 0).set 0 (X.getD 0 0-65517))).take 16=lM ((List.replicate 16 0).set 0 (X.getD 0 0-65517)):=List.take_of_length_le (by omega)
     have w1:IntKind.i64.wrap (((X.getD 0 0:Nat):Int)-65517)=((X.getD 0 0-65517:Nat):Int):=by rw[iw (by omega)];omega
     generalize (List.replicate 16 0).set 0 (X.getD 0 0-65517)=Y at *
     generalize X.getD 15 0=x15 at *
     generalize X.getD 0 0=x0 at *
     rw[hZ]
     simp(disch:=omega)only[↓kX,kW,aS,simprocAttr,g1,g2,g3,hb,a15,a0,hwl,q1,q2]
     intro k4 hk40 hk4
     have n24:=bK0 hk4
     have hk4':=am hk4
     have v2:∀X Y,((H.set k2 X).set k4 Y) k2=some X:=fun X Y=>lE n24
     simp(disch:=omega)only[↓kX,kW,aS,simprocAttr,g1,g2,g3,a15,a0,hwl,w1,v2,set_get,set_set,hp,hrl,zr,tr]
     refine⟨by rw[ke],?_⟩
     exact((Sub.set_new hk2').set_free hk4').set_free hk2'
    ·have q2:decide (((X.getD 0 0:Nat):Int)<65517)=true:=dT (by omega)
     have hR:=hlow fun h=>h0 (hiff.2 h).2.2
     rw[hR]
     generalize X.getD 15 0=x15 at *
     generalize X.getD 0 0=x0 at *
     rw[hZ]
     simp(disch:=omega)only[↓kX,kW,aS,simprocAttr,g1,g2,g3,hb,a15,a0,hwl,hwt,q1,q2,set_get,set_set,zx]
     refine⟨by rw[ke],Sub.set_new hk2'⟩
   ·have q1:(((X.getD 15 0:Nat):Int) != 32767)=true:=nT (by omega)
    have hR:=hlow fun h=>h15 (hiff.2 h).2.1
    rw[hR]
    generalize X.getD 15 0=x15 at *
    rw[hZ]
    simp(disch:=omega)only[↓kX,kW,aS,simprocAttr,g1,g2,g3,hb,a15,a0,hwl,hwt,q1,set_get,set_set,zx]
    refine⟨by rw[ke],Sub.set_new hk2'⟩
end Go.Proofs.YtcncplameclkfaaGreatDoor
end
section
set_option maxRecDepth 20000
set_option maxHeartbeats 8000000
namespace Go.Proofs.YtcncplameclkfaaGreatDoor
open Go Go.Abs Go.Proofs Go.Box
open Go.Nam (p25 lJ lT oQ mM mR DgX mh OkX rE highX iterX pL qo nH)
theorem car_step{L:List Nat}{i x y z:Nat}(h:i<L.length)(hz:y=z):(lM L)[i]? = some (.sc (.int .i64 (L.getD i 0:Nat)))∧bG (lM L) i [.sc (.int .i64 x)]=lM (L.set i x)∧(lM (L.set i x))[i]? = some (.sc (.int .i64 x))∧bG (lM (L.set i x)) i [.sc (.int .i64 y)]=lM (L.set i z)∧(lM L).length=L.length∧(lM (L.set i x)).length=L.length:=by
 subst hz
 have e:=mV (l:=L.set i x) (i:=i) (by rw[List.length_set];exact h)
 rw[Go.Nam.getD_set_eq h]at e
 have e2:=oO (l:=L.set i x) (i:=i) (x:=y) (by rw[List.length_set];exact h)
 rw[List.set_set]at e2
 exact⟨mV h,oO h,e,e2,lO _,by rw[lO,List.length_set]⟩
theorem sC(l:List Nat)(v:Nat)(hv:OkX l v):APure Tryz.prog 100 [.agg (lM l)] (.agg (lM (lJ (v % p25)))):=by
 have hiter:=fun n=>Go.Nam.okX_iter hv n
 obtain⟨w,hw,hwm,hw5⟩:=Go.Nam.okX_five hv
 have hP:∀L,rE L=(nH L 0 16).1.set 0 ((nH L 0 16).1.getD 0 0+38*(nH L 0 16).2):=fun _=>rfl
 have hR:∀n,Nat.repeat rE (n+1) l=rE (Nat.repeat rE n l):=fun _=>rfl
 have hlen:=hv.len
 have hL:∀n,(Nat.repeat rE n l).length=16:=fun n=>(hiter n).len
 have hS:∀n j,(Nat.repeat rE n l).getD j 0≤4503599627370496:=fun n=>(hiter n).small
 have h0:Nat.repeat rE 0 l=l:=rfl
 clear hiter
 have c0:∀L c,(nH L c 0).1=L∧(nH L c 0).2=c:=fun _ _=>⟨rfl,rfl⟩
 have cS:∀L c i,(nH L c (i+1)).1=(nH L c i).1.set i (((nH L c i).1.getD i 0+(nH L c i).2) % 65536)∧(nH L c (i+1)).2=((nH L c i).1.getD i 0+(nH L c i).2)/65536:=fun _ _ _=>⟨rfl,rfl⟩
 have cF:=fun(L:List Nat) (c i:Nat) (h:i≤L.length)=>Go.Nam.carI_spec L c i h
 have cB:=fun(L:List Nat) (c B:Nat) (h1:∀j,L.getD j 0≤B) (h2:c≤B) i (h:i≤L.length)=>Go.Nam.carI_small (l:=L) (c:=c) (B:=B) h1 h2 i h
 have t1:qo w<57896044618658097711785492504343953926634992332820282019728792003956564819987:=Go.Nam.top_two hw
 have t2:qo (qo w)<57896044618658097711785492504343953926634992332820282019728792003956564819968:=Go.Nam.top_one t1
 have hH0:=Go.Nam.highX_eq hw
 have hH1:=Go.Nam.highX_eq (u:=qo w) (by omega)
 have hHd:∀L,highX L=(nH (L.set 15 (L.getD 15 0 % 32768)) (19*(L.getD 15 0/32768)) 16).1:=fun _=>rfl
 have hle:=least_pure (qo (qo w)) t2
 rw[Go.Nam.topX_mod,Go.Nam.topX_mod,hwm]at hle
 have hUl:(lJ (qo (qo w))).length=16:=lT _
 have hXl:∀u,(lJ u).length=16:=fun u=>lT u
 have hXg:∀u j,(lJ u).getD j 0<65536:=fun u j=>mh (mM u) j
 have hVl:=lT (v % p25)
 generalize lJ (v % p25)=OUT at *
 obtain⟨T,hT⟩:∃T:Nat→List Nat,T=fun n=>if n=0 then lJ w else if n=1 then lJ (qo w) else lJ (qo (qo w)):=⟨_,rfl⟩
 have T0:T 0=lJ w:=by rw[hT];rfl
 have T2:T 2=lJ (qo (qo w)):=by rw[hT];rfl
 have TS:∀n,n<2→T (n+1)=highX (T n):=fun n hn=>by
  have:n=0∨n=1:=by omega
  rcases this with rfl|rfl
  ·rw[hT];exact hH0.symm
  ·rw[hT];exact hH1.symm
 have TL:∀n,(T n).length=16:=fun n=>by
  rw[hT]
  simp only
  split
  ·exact hXl _
  ·split<;>exact hXl _
 have TG:∀n j,(T n).getD j 0<65536:=fun n j=>by
  rw[hT]
  simp only
  split
  ·exact hXg _ _
  ·split<;>exact hXg _ _
 rw[←T2]at hle
 have hw6:Nat.repeat rE 5 l=T 0:=by rw[hw5,T0]
 clear hw5 hT T0 T2 hH0 hH1 hXl hXg hUl t1 t2 hw hwm hv
 generalize hN:(fun n=>Nat.repeat rE n l)=N at *
 have hN':∀n,Nat.repeat rE n l=N n:=fun n=>by rw[←hN]
 simp only[hN']at hR hL hS h0 hw6
 clear hN hN'
 generalize rE=pX at *
 generalize highX=hX at *
 obtain⟨Z,hZ⟩:∃Z:AObj,Z=.cells [.sc (.int .i64 0),.sc (.int .i64 0),.sc (.int .i64 0),.sc (.int .i64 0),.sc (.int .i64 0),.sc (.int .i64 0),.sc (.int .i64 0),.sc (.int .i64 0),.sc (.int .i64 0),.sc (.int .i64 0),.sc (.int .i64 0),.sc (.int .i64 0),.sc (.int .i64 0),.sc (.int .i64 0),.sc (.int .i64 0),.sc (.int .i64 0)] 46 16:=⟨_,rfl⟩
 have hll:(lM l).length=16:=by rw[lO,hlen]
 refine az (c:=⟨Tryz.prog,73,[(4000022,[1,2,6,7,8]),(4000021,[1,2,6,7,8]),(4000020,[1,2,6,8]),(4000016,[1,2,6,7]),(4000015,[1,2,6,7]),(4000011,[1,2,3]),(4000010,[1,2,3,4,5]),(4000009,[1,2,3,4,5]),(4000008,[1,2,3,5])],[],[]⟩) (rs:=[ResultVar.cell 2 46]) Tryz.mixed Tryz.func100 rfl rfl rfl (Nat.le_of_ble_eq_true rfl) (by kernel_rfl) fun H=>?_
 simp(disch:=omega)only[↓kX,kW,aS,simprocAttr,hll]
 intro k1 hk10 hk1 k2 hk20 hk2
 have n12:=bK0 hk2
 have hk2':=am hk2
 rw[←hZ]
 have v1:∀X Y,((H.set k1 X).set k2 Y) k1=some X:=fun X Y=>lE n12
 have v2:∀X Y X',((H.set k1 X).set k2 Y).set k1 X'=(H.set k1 X').set k2 Y:=fun X Y X'=>mG n12
 refine br (c:=⟨Tryz.prog,73,[(4000022,[1,2,6,7,8]),(4000021,[1,2,6,7,8]),(4000020,[1,2,6,8]),(4000016,[1,2,6,7]),(4000015,[1,2,6,7]),(4000011,[1,2,3]),(4000010,[1,2,3,4,5]),(4000009,[1,2,3,4,5]),(4000008,[1,2,3,5])],[],[]⟩) Tryz.mixed (by kernel_rfl) (fun m σ H'=>∃n:Nat,n+m=5∧σ 1=.ptr k1 0∧σ 2=.ptr k2 0∧σ 3=.sc (.int .i64 n)∧H'=(H.set k1 (.cells (lM (N n)) 46 16)).set k2 Z) 5 ?_ ?_
 ·refine⟨0,by omega,?_⟩
  rw[h0]
  simp(disch:=omega)only[↓kX,kW,aS,simprocAttr]
  first|rfl|exact⟨rfl,rfl⟩|trace_state
 ·rintro m σ H' ⟨n,hn,g1,g2,g3,rfl⟩
  by_cases hlt:n<5
  ·have hb:decide ((n:Int)<5)=true:=dT (by omega)
   have wn:IntKind.i64.wrap ((n:Int)+1)=((n+1:Nat):Int):=by rw[iw (by omega)];rfl
   have hLn:=hL n
   have hSn:=hS n
   have hRn:=hR n
   rw[hP]at hRn
   have cFn:=fun i (h:i≤16)=>cF (N n) 0 i (by omega)
   have cBn:=fun i (h:i≤16)=>cB (N n) 0 4503599627370496 hSn (by omega) i (by omega)
   have cSn:=fun i=>cS (N n) 0 i
   have c0n:=c0 (N n) 0
   generalize hA:(fun i=>(nH (N n) 0 i).1)=A at *
   generalize hK:(fun i=>(nH (N n) 0 i).2)=K at *
   have hA':∀i,(nH (N n) 0 i).1=A i:=fun i=>by rw[←hA]
   have hK':∀i,(nH (N n) 0 i).2=K i:=fun i=>by rw[←hK]
   simp only[hA',hK']at hRn cFn cBn cSn c0n
   clear hA hK hA' hK'
   obtain⟨c01,c02⟩:=c0n
   simp(disch:=omega)only[↓kX,kW,aS,simprocAttr,g1,g2,g3,hb]
   refine br (c:=⟨Tryz.prog,73,[(4000022,[1,2,6,7,8]),(4000021,[1,2,6,7,8]),(4000020,[1,2,6,8]),(4000016,[1,2,6,7]),(4000015,[1,2,6,7]),(4000011,[1,2,3]),(4000010,[1,2,3,4,5]),(4000009,[1,2,3,4,5]),(4000008,[1,2,3,5])],[],[]⟩) Tryz.mixed (by kernel_rfl) (fun m2 σ2 H2=>∃i:Nat,i+m2=16∧σ2 1=.ptr k1 0∧σ2 2=.ptr k2 0∧σ2 3=.sc (.int .i64 n)∧σ2 4=.sc (.int .i64 (K i:Nat))∧σ2 5=.sc (.int .i64 i)∧H2=(H.set k1 (.cells (lM (A i)) 46 16)).set k2 Z) 16 ?_ ?_
   ·refine⟨0,by omega,?_⟩
    rw[c01,c02]
    simp(disch:=omega)only[↓kX,kW,aS,simprocAttr,g1,g2,g3]
    first|rfl|exact⟨rfl,rfl⟩|trace_state
   ·clear g1 g2 g3
    clear σ
    rintro m2 σ H2 ⟨i,hi,g1,g2,g3,g4,g5,rfl⟩
    obtain⟨f1,f2,f3,f4⟩:=cFn i (by omega)
    have fB:=cBn i (by omega)
    by_cases hl2:i<16
    ·have hb2:decide ((i:Int)<16)=true:=dT (by omega)
     have hx:=hSn i
     rw[←f2 i (Nat.le_refl _)]at hx
     obtain⟨s1,s2⟩:=cSn i
     obtain⟨d1,d2,d3,d4,d5,d6⟩:=car_step (L:=A i) (i:=i) (x:=(A i).getD i 0+K i) (y:=((A i).getD i 0+K i) % 65536) (by omega) rfl
     rw[←s1]at d4
     rw[f1,hLn]at d5 d6
     generalize (A i).getD i 0=x at *
     generalize hKi:K i=c at *
     have w1:IntKind.i64.wrap ((x:Int)+(c:Int))=((x+c:Nat):Int):=by rw[iw (by omega)];omega
     have w2:IntKind.i64.wrap (((x+c)/65536:Nat):Int)=(((x+c)/65536:Nat):Int):=iw (by omega)
     have w3:IntKind.i64.wrap ((i:Int)+1)=((i+1:Nat):Int):=by rw[iw (by omega)];rfl
     simp(disch:=omega)only[↓kX,kW,aS,simprocAttr,g1,g2,g3,g4,g5,hb2,v1,v2,d1,d2,d3,d4,d5,d6,w1,w2,w3,jd,nC]
     exact⟨m2-1,by omega,i+1,by omega,by rw[s2],rfl,rfl⟩
    ·obtain rfl:i=16:=by omega
     have hb2:decide (((16:Nat):Int)<16)=false:=by decide
     have a0:=mV (l:=A 16) (i:=0) (by omega)
     have p0:=oO (l:=A 16) (i:=0) (x:=(A 16).getD 0 0+38*K 16) (by omega)
     rw[←hRn]at p0
     have hal:(lM (A 16)).length=16:=by rw[lO,f1,hLn]
     have fg:=f3 0 (by omega)
     generalize (A 16).getD 0 0=x at *
     generalize K 16=c at *
     have w1:IntKind.i64.wrap (38*(c:Int))=((38*c:Nat):Int):=by rw[iw (by omega)];omega
     have w2:IntKind.i64.wrap ((x:Int)+((38*c:Nat):Int))=((x+38*c:Nat):Int):=by rw[iw (by omega)];omega
     simp(disch:=omega)only[↓kX,kW,aS,simprocAttr,g1,g2,g3,g4,g5,hb2,v1,v2,a0,p0,hal,w1,w2,wn]
     exact⟨m-1,by omega,n+1,by omega,rfl,rfl⟩
  ·obtain rfl:n=5:=by omega
   have hb:decide (((5:Nat):Int)<5)=false:=by decide
   rw[hw6]
   simp(disch:=omega)only[↓kX,kW,aS,simprocAttr,g1,g2,g3,hb]
   clear g3
   refine br (c:=⟨Tryz.prog,73,[(4000022,[1,2,6,7,8]),(4000021,[1,2,6,7,8]),(4000020,[1,2,6,8]),(4000016,[1,2,6,7]),(4000015,[1,2,6,7]),(4000011,[1,2,3]),(4000010,[1,2,3,4,5]),(4000009,[1,2,3,4,5]),(4000008,[1,2,3,5])],[],[]⟩) Tryz.mixed (by kernel_rfl) (fun m σ H'=>∃n:Nat,n+m=2∧σ 1=.ptr k1 0∧σ 2=.ptr k2 0∧σ 6=.sc (.int .i64 n)∧H'=(H.set k1 (.cells (lM (T n)) 46 16)).set k2 Z) 2 ?_ ?_
   ·refine⟨0,by omega,?_⟩
    simp(disch:=omega)only[↓kX,kW,aS,simprocAttr,g1,g2]
    first|rfl|exact⟨rfl,rfl⟩|trace_state
   ·clear g1 g2
    clear σ
    rintro m σ H' ⟨n,hn,g1,g2,g6,rfl⟩
    have hLn:=TL n
    have hGn:=TG n
    by_cases hlt:n<2
    ·have hb:decide ((n:Int)<2)=true:=dT (by omega)
     have wn:IntKind.i64.wrap ((n:Int)+1)=((n+1:Nat):Int):=by rw[iw (by omega)];rfl
     have hRn:=TS n hlt
     rw[hHd]at hRn
     have a15:=mV (l:=T n) (i:=15) (by omega)
     have p15:=oO (l:=T n) (i:=15) (x:=(T n).getD 15 0 % 32768) (by omega)
     have hal:(lM (T n)).length=16:=by rw[lO,hLn]
     have hYl:((T n).set 15 ((T n).getD 15 0 % 32768)).length=16:=by rw[List.length_set,hLn]
     have hYg:∀j,((T n).set 15 ((T n).getD 15 0 % 32768)).getD j 0≤4503599627370496:=fun j=>by
      have k1:=hGn j
      have k2:=hGn 15
      by_cases e:15=j
      ·subst e
       rw[Go.Nam.getD_set_eq (by omega)]
       omega
      ·rw[Go.Nam.getD_set_ne e]
       omega
     have h15:=hGn 15
     generalize hY:(T n).set 15 ((T n).getD 15 0 % 32768)=Y at *
     generalize (T n).getD 15 0=x15 at *
     have cFn:=fun i (h:i≤16)=>cF Y (19*(x15/32768)) i (by omega)
     have cBn:=fun i (h:i≤16)=>cB Y (19*(x15/32768)) 4503599627370496 hYg (by omega) i (by omega)
     have cSn:=fun i=>cS Y (19*(x15/32768)) i
     have c0n:=c0 Y (19*(x15/32768))
     generalize hA:(fun i=>(nH Y (19*(x15/32768)) i).1)=A at *
     generalize hK:(fun i=>(nH Y (19*(x15/32768)) i).2)=K at *
     have hA':∀i,(nH Y (19*(x15/32768)) i).1=A i:=fun i=>by rw[←hA]
     have hK':∀i,(nH Y (19*(x15/32768)) i).2=K i:=fun i=>by rw[←hK]
     simp only[hA',hK']at hRn cFn cBn cSn c0n
     clear hA hK hA' hK'
     obtain⟨c01,c02⟩:=c0n
     have w1:IntKind.i64.wrap ((x15/32768:Nat):Int)=((x15/32768:Nat):Int):=iw (by omega)
     have w2:IntKind.i64.wrap (19*((x15/32768:Nat):Int))=((19*(x15/32768):Nat):Int):=by rw[iw (by omega)];omega
     simp(disch:=omega)only[↓kX,kW,aS,simprocAttr,g1,g2,g6,hb,v1,v2,a15,p15,hal,jd,nC,w1,w2]
     refine br (c:=⟨Tryz.prog,73,[(4000022,[1,2,6,7,8]),(4000021,[1,2,6,7,8]),(4000020,[1,2,6,8]),(4000016,[1,2,6,7]),(4000015,[1,2,6,7]),(4000011,[1,2,3]),(4000010,[1,2,3,4,5]),(4000009,[1,2,3,4,5]),(4000008,[1,2,3,5])],[],[]⟩) Tryz.mixed (by kernel_rfl) (fun m2 σ2 H2=>∃i:Nat,i+m2=16∧σ2 1=.ptr k1 0∧σ2 2=.ptr k2 0∧σ2 6=.sc (.int .i64 n)∧σ2 7=.sc (.int .i64 (K i:Nat))∧σ2 8=.sc (.int .i64 i)∧H2=(H.set k1 (.cells (lM (A i)) 46 16)).set k2 Z) 16 ?_ ?_
     ·refine⟨0,by omega,?_⟩
      rw[c01,c02]
      simp(disch:=omega)only[↓kX,kW,aS,simprocAttr,g1,g2,g6]
      first|rfl|exact⟨rfl,rfl⟩|trace_state
     ·clear g1 g2 g6
      clear σ
      rintro m2 σ H2 ⟨i,hi,g1,g2,g6,g7,g8,rfl⟩
      obtain⟨f1,f2,f3,f4⟩:=cFn i (by omega)
      have fB:=cBn i (by omega)
      by_cases hl2:i<16
      ·have hb2:decide ((i:Int)<16)=true:=dT (by omega)
       have hx:=hYg i
       rw[←f2 i (Nat.le_refl _)]at hx
       obtain⟨s1,s2⟩:=cSn i
       obtain⟨d1,d2,d3,d4,d5,d6⟩:=car_step (L:=A i) (i:=i) (x:=(A i).getD i 0+K i) (y:=((A i).getD i 0+K i) % 65536) (by omega) rfl
       rw[←s1]at d4
       rw[f1,hYl]at d5 d6
       generalize (A i).getD i 0=x at *
       generalize hKi:K i=c at *
       have w1:IntKind.i64.wrap ((x:Int)+(c:Int))=((x+c:Nat):Int):=by rw[iw (by omega)];omega
       have w2:IntKind.i64.wrap (((x+c)/65536:Nat):Int)=(((x+c)/65536:Nat):Int):=iw (by omega)
       have w3:IntKind.i64.wrap ((i:Int)+1)=((i+1:Nat):Int):=by rw[iw (by omega)];rfl
       simp(disch:=omega)only[↓kX,kW,aS,simprocAttr,g1,g2,g6,g7,g8,hb2,v1,v2,d1,d2,d3,d4,d5,d6,w1,w2,w3,jd,nC]
       exact⟨m2-1,by omega,i+1,by omega,by rw[s2],rfl,rfl⟩
      ·obtain rfl:i=16:=by omega
       have hb2:decide (((16:Nat):Int)<16)=false:=by decide
       simp(disch:=omega)only[↓kX,kW,aS,simprocAttr,g1,g2,g6,g7,g8,hb2,wn]
       exact⟨m-1,by omega,n+1,by omega,rfl,by rw[hRn]⟩
    ·obtain rfl:n=2:=by omega
     have hb:decide (((2:Nat):Int)<2)=false:=by decide
     have hal:(lM (T 2)).length=16:=by rw[lO,hLn]
     have htk:(lM (T 2)).take 16=lM (T 2):=List.take_of_length_le (by omega)
     have hol:(lM OUT).length=16:=by rw[lO,hVl]
     have zx:=nO hol
     have tx:(lM OUT).take 16=lM OUT:=List.take_of_length_le (by omega)
     rw[hZ]
     simp(disch:=omega)only[↓kX,kW,aS,simprocAttr,g1,g2,g6,hb,v1,hal,htk]
     rw[ke]
     first|refine CallK.p (hle) ?_|refine CallP.i (hle) ?_
     simp(disch:=omega)only[↓kX,kW,aS,simprocAttr,g1,g2,set_get,set_set,hol,zx,tx,ke]
     exact(Sub.set_new hk1).set_free hk2'
end Go.Proofs.YtcncplameclkfaaGreatDoor
end
