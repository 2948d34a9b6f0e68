/-
  Several texts in one: each says what it proves.
  Conditions: none. Lemmas only.
-/
import Derived.Test.YtcncplameclkfaaGreatDoorNwG3
import Derived.Test.YtcncplameclkfaaGreatDoorNmG2
import Derived.Test.YtcncplameclkfaaGreatDoorNwG5
set_option linter.all false
section
set_option maxRecDepth 20000
set_option maxHeartbeats 4000000
namespace Go.Proofs.YtcncplameclkfaaGreatDoor
open Go Go.Abs Go.Proofs Go.Box
theorem sdouble_pure(b:List UInt8)(hb:b.length≤64):APure Tryz.prog 146 [eu b] (.tup [.agg (lH (kZ 8 (lY b))),.sc (.int .i64 0)]):=by
 have hel:=gz b
 have b1:decide ((64:Int)<(b.length:Int))=false:=dF (by omega)
 have hF:lY (b.take b.length)=lY b:=by rw[List.take_length]
 have hlt:=fun i (h:i≤b.length)=>(show lY (b.take i)<256^i by have:=pq (b.take i);rwa [List.length_take,Nat.min_eq_left h]at this)
 have hs:=fun i h=>numL_snoc b (i:=i) h
 rw[←hF]
 generalize hG:(fun i=>lY (b.take i))=G
 have hG':∀i,lY (b.take i)=G i:=fun i=>by rw[←hG]
 simp only[hG']at hlt hs ⊢
 have hz:lH (kZ 8 (G 0))=[.sc (.int .u64 0),.sc (.int .u64 0),.sc (.int .u64 0),.sc (.int .u64 0),.sc (.int .u64 0),.sc (.int .u64 0),.sc (.int .u64 0),.sc (.int .u64 0)]:=by
  rw[←hG]
  show lH (kZ 8 (lY (b.take 0)))=_
  rw[List.take_zero]
  rfl
 clear hG hG' hF
 unfold eu
 refine az (c:=⟨Tryz.prog,32,[(7,[0,0,0,1,0,0,0,0,0,0,0,0,2])],[],[]⟩) (rs:=[ResultVar.cell 2 136,ResultVar.tmp 3]) Tryz.mixed Tryz.func146 rfl rfl rfl (Nat.le_of_ble_eq_true rfl) (by kernel_rfl) fun H=>?_
 simp(disch:=omega)only[↓kX,kW,aS,simprocAttr,b1]
 intro k hk0 hk k2 hk20 hk2
 have n2:=bK0 hk2
 have hk2':=am hk2
 refine br (c:=⟨Tryz.prog,32,[(7,[0,0,0,1,0,0,0,0,0,0,0,0,2])],[],[]⟩) Tryz.mixed (by kernel_rfl) (fun m σ H'=>∃i,i+m=b.length∧σ 2=.ptr k 0∧σ 3=.sc (.int .i64 0)∧σ 4=.ptr k2 0∧σ 11=.imm 0 (bw b) b.length∧σ 12=.sc (.int .i64 b.length)∧σ 13=.sc (.int .i64 (i:Nat))∧H'=(H.set k (.cells [.sc (.int .u64 0),.sc (.int .u64 0),.sc (.int .u64 0),.sc (.int .u64 0),.sc (.int .u64 0),.sc (.int .u64 0),.sc (.int .u64 0),.sc (.int .u64 0)] 136 8)).set k2 (.cells (lH (kZ 8 (G i))) 136 8)) b.length ?_ ?_
 ·refine⟨0,by omega,?_⟩
  rw[hz]
  simp(disch:=omega)only[↓kX,kW,aS,simprocAttr]
  first|rfl|exact⟨rfl,rfl⟩|trace_state
 ·rintro m σ H' ⟨i,hi,g2,g3,g4,g11,g12,g13,rfl⟩
  by_cases hl:i<b.length
  ·have hb2:decide ((i:Int)<(b.length:Int))=true:=dT (by omega)
   have ha:=nX (l:=b) (i:=i) hl
   have hm:=byte_more (k:=8) (hlt i (by omega)) (b.getD i 0).toNat_lt (by omega:i<8*8)
   rw[←hs i hl]at hm
   have hx:=(b.getD i 0).toNat_lt
   have aw:=mf (l:=kZ 8 (G i)) (i:=i/8) (by rw[lL];omega)
   have hput:=fun x=>oL (l:=kZ 8 (G i)) (i:=i/8) (x:=x) (by rw[lL];omega)
   have hwl:(lH (kZ 8 (G i))).length=8:=by rw[lV,lL]
   have hwg:=wget 8 (G i) (i/8)
   have hp8:(256:Nat)^(i % 8)=2^(8*(i % 8)):=by rw[Nat.pow_mul]
   have hx8:(b.getD i 0).toNat*2^(8*(i % 8))<18446744073709551616:=by
    rw[←hp8]
    have h1:(b.getD i 0).toNat*256^(i % 8)≤255*256^(i % 8):=Nat.mul_le_mul_right _ (by omega)
    have h2:(256:Nat)^(i % 8)≤256^7:=Nat.pow_le_pow_right (by decide) (by omega)
    have h3:(255:Nat)*256^7<18446744073709551616:=by decide
    omega
   rw[hp8]at hm
   generalize (b.getD i 0).toNat=x at *
   obtain⟨hm1,hm2⟩:=hm
   generalize kZ 8 (G i)=W at *
   generalize hW':kZ 8 (G (i+1))=W' at *
   generalize W.getD (i/8) 0=y at *
   have w1:IntKind.i64.wrap ((i/8:Nat):Int)=((i/8:Nat):Int):=iw (by omega)
   have w2:IntKind.u64.wrap (x:Int)=(x:Int):=jw (by omega)
   have w3:8*((i % 8:Nat):Int)=((8*(i % 8):Nat):Int):=by omega
   have w4:IntKind.i64.wrap ((8*(i % 8):Nat):Int)=((8*(i % 8):Nat):Int):=iw (by omega)
   have b3:decide (((8*(i % 8):Nat):Int)<0)=false:=dF (by omega)
   have hmin:min (8*(i % 8)) 64=8*(i % 8):=by omega
   have w5:IntKind.u64.wrap ((x:Int)*2^(8*(i % 8)))=((x*2^(8*(i % 8)):Nat):Int):=by
    rw[show((x:Int)*2^(8*(i % 8)))=((x*2^(8*(i % 8)):Nat):Int) by rw[Int.natCast_mul,Int.natCast_pow];rfl]
    exact jw hx8
   have hor:bits .or .u64 (y:Int) ((x*2^(8*(i % 8)):Nat):Int)=((y+x*2^(8*(i % 8)):Nat):Int):=by
    rw[ou hwg hx8,or_add hm2,Nat.mul_comm x]
   have hput:=hput (y+x*2^(8*(i % 8)))
   rw[hm1]at hput
   simp(disch:=omega)only[↓kX,kW,aS,simprocAttr,g2,g3,g4,g11,g12,g13,hb2,ha,hel,jd,nC,w1,w2,w3,w4,w5,b3,mS,hmin,aw,hwl,set_get,set_set,hor,hput]
   exact⟨m-1,by omega,i+1,by omega,rfl,by rw[hW']⟩
  ·obtain rfl:i=b.length:=by omega
   have hb2:decide ((b.length:Int)<(b.length:Int))=false:=by simp
   have hwl:(lH (kZ 8 (G b.length))).length=8:=by rw[lV,lL]
   have htk:(lH (kZ 8 (G b.length))).take 8=lH (kZ 8 (G b.length)):=List.take_of_length_le (by omega)
   have v1:∀Y,((H.set k (.cells [.sc (.int .u64 0),.sc (.int .u64 0),.sc (.int .u64 0),.sc (.int .u64 0),.sc (.int .u64 0),.sc (.int .u64 0),.sc (.int .u64 0),.sc (.int .u64 0)] 136 8)).set k2 Y) k=some (.cells [.sc (.int .u64 0),.sc (.int .u64 0),.sc (.int .u64 0),.sc (.int .u64 0),.sc (.int .u64 0),.sc (.int .u64 0),.sc (.int .u64 0),.sc (.int .u64 0)] 136 8):=fun Y=>by
    first
     |(rw[aP n2];exact set_get)
     |(rw[aP (fun e=>n2 e.symm)];exact set_get)
   simp(disch:=omega)only[↓kX,kW,aS,simprocAttr,g2,g3,g4,g11,g12,g13,hb2,set_get,hwl,htk,v1,ah]
   exact⟨by rw[kY],((Sub.set_new hk).set_free hk2').set_free hk⟩
theorem w8_len(n:Nat):(lH (kZ 8 n)).length=8:=by rw[lV,lL]
theorem w8_take(n:Nat):(lH (kZ 8 n)).take 8=lH (kZ 8 n):=List.take_of_length_le (by rw[w8_len];omega)
abbrev B512:Nat:=13407807929942597099574024998205846127479365820592393377723561443721764030073546976801874298166903427690031858186486050853753882811946569946433649006084096
theorem b512:B512=2^512:=by decide +kernel
theorem smod_pure(a m:Nat)(ha:a<B512)(hm0:0<m)(hm:m<2^255):APure Tryz.prog 147 [.agg (lH (kZ 8 a)),nA m] (.tup [nA (a % m),.sc (.int .i64 0)]):=by
 have hmB:m<lX:=Nat.lt_trans hm (by decide)
 have hq:=eqN hmB (show 0<lX by decide)
 rw[decide_eq_false (by omega:¬m=0)]at hq
 have hc1:=ckN m
 have hc2:=ckN 0
 have heo:=eoN
 have w0:lH (kZ 4 0)=[.sc (.int .u64 0),.sc (.int .u64 0),.sc (.int .u64 0),.sc (.int .u64 0)]:=rfl
 unfold nA at *
 rw[w0]at hq hc2
 have sl:=mI
 have st:=mH
 have sp:=nA_put
 have s8:=w8_len a
 have t8:=w8_take a
 have zq:=fun x=>mP (sl x)
 have hst:=fun j=>Go.Nam.mod_turn a m j hm0
 have hz:a/2^512 % m=0:=by rw[Nat.div_eq_of_lt (by rw[←b512];exact ha),Nat.zero_mod]
 have hend:a/2^0 % m=a % m:=by rw[Nat.pow_zero,Nat.div_one]
 have hlt:=fun j=>Nat.mod_lt (a/2^j) hm0
 rw[←hend]
 clear hend
 have cA:=fun l (h:l<m)=>qN l l (by rw[←qz];omega) (by rw[←qz];omega)
 have hb2:∀j,a/2^j % 2≤1:=fun j=>by omega
 have aw:=fun j (h:j<512)=>mf (l:=kZ 8 a) (i:=j/64) (by rw[lL];omega)
 have ab:=fun j (h:j<512)=>Go.Nam.words_at 8 a j (by omega)
 have mw:=fun j=>wget 8 a (j/64)
 generalize hX:(fun j=>a/2^j % m)=X at *
 have hX':∀j,a/2^j % m=X j:=fun j=>by rw[←hX]
 simp only[hX']at hst hz hlt ⊢
 clear hX hX'
 generalize kZ 8 a=W at *
 obtain⟨Z,hZ⟩:∃Z:AObj,Z=.cells [.sc (.int .u64 0),.sc (.int .u64 0),.sc (.int .u64 0),.sc (.int .u64 0)] 58 4:=⟨_,rfl⟩
 have hm2:m+m<lX:=by
  have:(2:Nat)^255+2^255=lX:=by decide
  omega
 refine az (c:=⟨Tryz.prog,55,[(9,[0,1,0,0,0,1,0,0,0,0,0,0,2]),(1000000,[3,2]),(1000010,[11]),(1000009,[9])],[],[]⟩) (rs:=[ResultVar.cell 4 58,ResultVar.tmp 5]) Tryz.mixed Tryz.func147 rfl rfl rfl (Nat.le_of_ble_eq_true rfl) (by kernel_rfl) fun H=>?_
 simp(disch:=omega)only[↓kX,kW,aS,simprocAttr,sl,st,s8,t8]
 intro k2 hk20 hk2 k3 hk30 hk3 k4 hk40 hk4
 obtain⟨q1,q2,q3,q4,n24,hk4'⟩:=frz3 hk2 hk3 hk4
 rw[←hZ]
 simp(disch:=omega)only[↓kX,kW,aS,simprocAttr,q1,q2,q3,q4,sl,st,s8,t8,hq,hc1,hc2,heo,kY]
 intro k6 hk60 hk6
 have n46:=bK0 hk6
 have hk6':=am hk6
 have v4:∀X Y,((H.set k4 X).set k6 Y) k4=some X:=fun X Y=>lE n46
 refine br (c:=⟨Tryz.prog,55,[(9,[0,1,0,0,0,1,0,0,0,0,0,0,2]),(1000000,[3,2]),(1000010,[11]),(1000009,[9])],[],[]⟩) Tryz.mixed (by kernel_rfl) (fun j σ H'=>∃i:Nat,i+j=512∧σ 2=.ip (lH W) 0∧σ 3=.ip (lH (kZ 4 m)) 0∧σ 4=.ptr k4 0∧σ 6=.ptr k6 0∧σ 17=.sc (.int .i64 i)∧H'=(H.set k4 Z).set k6 (.cells (lH (kZ 4 (X j))) 58 4)) 512 ?_ ?_
 ·refine⟨0,by omega,?_⟩
  rw[hz,w0]
  simp(disch:=omega)only[↓kX,kW,aS,simprocAttr]
  first|rfl|exact⟨rfl,rfl⟩|trace_state
 ·rintro j σ H' ⟨i,hi,g2,g3,g4,g6,g17,rfl⟩
  by_cases hj0:j=0
  ·subst hj0
   obtain rfl:i=512:=by omega
   have hb:decide (((512:Nat):Int)<512)=false:=by decide
   rw[hZ]
   simp(disch:=omega)only[↓kX,kW,aS,simprocAttr,g2,g3,g4,g6,g17,hb,v4,set_get,set_set,sl,st,zq,kY]
   first|exact((Sub.set_new hk4').set_free hk6').set_free hk4'|exact⟨rfl,((Sub.set_new hk4').set_free hk6').set_free hk4'⟩|trace_state
  ·obtain⟨j,rfl⟩:∃j',j=j'+1:=⟨j-1,by omega⟩
   have hb:decide ((i:Int)<512)=true:=dT (by omega)
   have w1:IntKind.i64.wrap ((i:Int)+1)=((i+1:Nat):Int):=by rw[iw (by omega)];rfl
   have w2:IntKind.i64.wrap (511-(i:Int))=(j:Int):=by rw[iw (by omega)];omega
   have w3:IntKind.i64.wrap ((j/64:Nat):Int)=((j/64:Nat):Int):=iw (by omega)
   have b3:decide (((j % 64:Nat):Int)<0)=false:=dF (by omega)
   have hmin:min (j % 64) 64=j % 64:=by omega
   have c1:=cA (X (j+1)) (hlt _)
   have ht:=hst j
   have hl:=hlt (j+1)
   have hbt:=hb2 j
   have a9:=aw j (by omega)
   have e9:=ab j (by omega)
   have m9:=mw j
   have hx9:W.getD (j/64) 0/2^(j % 64)<18446744073709551616:=Nat.lt_of_le_of_lt (Nat.div_le_self _ _) m9
   have o1:=mJ (a:=W.getD (j/64) 0/2^(j % 64)) (b:=1) hx9 (by decide)
   rw[show((1:Nat):Int)=1 from rfl,Nat.and_one_is_mod,e9]at o1
   generalize W.getD (j/64) 0=x9 at *
   generalize hbv:a/2^j % 2=bt at *
   generalize hxj:X j=xj at *
   generalize X (j+1)=l at *
   have a0:=mf (l:=kZ 4 (l+l)) (i:=0) (by rw[lL];omega)
   have m0:=wget 4 (l+l) 0
   have p0:=oL (l:=kZ 4 (l+l)) (i:=0) (x:=(kZ 4 (l+l)).getD 0 0+bt) (by rw[lL];omega)
   rw[Go.Nam.words_bit (t:=l+l) (by omega) hbt]at p0
   have o2:=ou (a:=(kZ 4 (l+l)).getD 0 0) (b:=bt) m0 (by omega)
   rw[Go.Nam.even_or (by
    rw[mT 4 (l+l) 0 (by omega),Nat.pow_zero,Nat.div_one]
    omega) hbt]at o2
   generalize (kZ 4 (l+l)).getD 0 0=y9 at *
   have hov:(l+l)/18446744073709551616^4=0:=Nat.div_eq_of_lt (by rw[←qz];omega)
   rw[hov]at c1
   rw[show 2*l+bt=l+l+bt by omega]at ht
   have c2:=qp (l+l+bt) m (by rw[←qz];omega) (by rw[←qz];omega)
   simp(disch:=omega)only[↓kX,kW,aS,simprocAttr,g2,g3,g4,g6,g17,hb,w2,v4,set_get,set_set,sl,st,kY]
   first|refine CallK.p (c1) ?_|refine CallP.i (c1) ?_
   simp(disch:=omega)only[↓kX,kW,aS,simprocAttr,g2,g3,g4,g6,g17,sl,st,kY]
   intro k9 hk90 hk9
   rw[zq]
   have n69:=bK0 hk9
   have u6:∀X Y,(((H.set k4 Z).set k6 X).set k9 Y) k6=some X:=fun X Y=>lE n69
   simp(disch:=omega)only[↓kX,kW,aS,simprocAttr,g2,g3,g4,g6,g17,hb,w2,w3,v4,u6,aj hk9,set_get,set_set,sl,st,s8,a0,p0,a9,b3,hmin,mS,shrN,o1,o2,nC,jd,kY]
   generalize l+l+bt=tt at *
   by_cases htm:tt<m
   ·rw[if_pos htm]at c2 ht
    have c3:=nQ 0 tt (tt+18446744073709551616^4-m) (by omega)
    rw[if_pos rfl,←ht]at c3
    rw[←ht]at c2
    generalize xj+18446744073709551616^4-m=df at *
    rw[←ht]
    first|refine CallK.p (c2) ?_|refine CallP.i (c2) ?_
    simp(disch:=omega)only[↓kX,kW,aS,simprocAttr,g2,g3,g4,g6,g17,sl,st,kY]
    intro k11 hk110 hk11
    rw[zq,aj hk11]
    have e1:IntKind.u64.wrap (1-((1:Nat):Int))=0:=rfl
    have e2:bits .or .u64 ((0:Nat):Int) 0=((0:Nat):Int):=rfl
    simp(disch:=omega)only[↓kX,kW,aS,simprocAttr,g2,g3,g4,g6,g17,sl,st,e1,e2,kY]
    first|refine CallK.p (c3) ?_|refine CallP.i (c3) ?_
    simp(disch:=omega)only[↓kX,kW,aS,simprocAttr,g2,g3,g4,g6,g17,set_get,set_set,sl,st,sp,w1,kY]
    exact⟨j,by omega,i+1,by omega,rfl,by rw[hxj]⟩
   ·rw[if_neg htm]at c2 ht
    have c3:=nQ 1 tt (tt+18446744073709551616^4-m) (by omega)
    rw[if_neg (by decide),Go.Nam.words_sub (by omega),←ht]at c3
    rw[Go.Nam.words_sub (by omega),←ht]at c2
    first|refine CallK.p (c2) ?_|refine CallP.i (c2) ?_
    simp(disch:=omega)only[↓kX,kW,aS,simprocAttr,g2,g3,g4,g6,g17,sl,st,kY]
    intro k11 hk110 hk11
    rw[zq,aj hk11]
    have e1:IntKind.u64.wrap (1-((0:Nat):Int))=1:=rfl
    have e2:bits .or .u64 ((0:Nat):Int) 1=((1:Nat):Int):=rfl
    simp(disch:=omega)only[↓kX,kW,aS,simprocAttr,g2,g3,g4,g6,g17,sl,st,e1,e2,kY]
    first|refine CallK.p (c3) ?_|refine CallP.i (c3) ?_
    simp(disch:=omega)only[↓kX,kW,aS,simprocAttr,g2,g3,g4,g6,g17,set_get,set_set,sl,st,sp,w1,kY]
    exact⟨j,by omega,i+1,by omega,rfl,by rw[hxj]⟩
end Go.Proofs.YtcncplameclkfaaGreatDoor
end
section
set_option maxRecDepth 20000
set_option maxHeartbeats 4000000
namespace Go.Proofs.YtcncplameclkfaaGreatDoor
open Go Go.Abs Go.Proofs Go.Box
open Go.Nam (lN oU)
theorem lN_b{n:Nat}:n % lN<lX:=Nat.lt_trans (Nat.mod_lt _ oU) (by decide)
theorem sorder_pure:APure Tryz.prog 118 [] (nA lN):=by
 unfold nA
 rw[show lH (kZ 4 lN)=[.sc (.int .u64 6346243789798364141),.sc (.int .u64 1503914060200516822),.sc (.int .u64 0),.sc (.int .u64 1152921504606846976)] from rfl]
 refine az (c:=⟨Tryz.prog,2,[],[],[]⟩) (rs:=[ResultVar.cell 0 58]) Tryz.mixed Tryz.func118 rfl rfl rfl (Nat.le_of_ble_eq_true rfl) (by kernel_rfl) fun H=>?_
 simp(disch:=omega)only[↓kX,kW,aS,simprocAttr]
 intro k hk0 hk
 exact⟨rfl,Sub.set_new hk⟩
theorem sleft_pure(a:Nat)(ha:a<B512):APure Tryz.prog 112 [.agg (lH (kZ 8 a))] (nA (a % lN)):=by
 have c1:=sorder_pure
 have c2:=smod_pure a lN ha oU (by decide)
 unfold nA at *
 have sl:=mI
 have st:=mH
 have s8:=w8_len a
 have t8:=w8_take a
 have zq:=fun x=>mP (sl x)
 generalize a % lN=r at *
 generalize lN=L at *
 generalize kZ 8 a=W at *
 refine az (c:=⟨Tryz.prog,12,[(1,[0,0,0,0,0,0,2,2,0]),(1000000,[1]),(1000001,[3])],[],[]⟩) (rs:=[ResultVar.cell 2 86]) Tryz.mixed Tryz.func112 rfl rfl rfl (Nat.le_of_ble_eq_true rfl) (by kernel_rfl) fun H=>?_
 simp(disch:=omega)only[↓kX,kW,aS,simprocAttr,sl,st,s8,t8]
 intro k1 hk10 hk1 k2 hk20 hk2
 have n12:=bK0 hk2
 have hk2':=am hk2
 have v1:∀X Y,((H.set k1 X).set k2 Y) k1=some X:=fun X Y=>lE n12
 simp(disch:=omega)only[↓kX,kW,aS,simprocAttr,v1,mD n12 hk1,sl,st,s8,t8,kY]
 first|refine CallK.p (c1) ?_|refine CallP.i (c1) ?_
 simp(disch:=omega)only[↓kX,kW,aS,simprocAttr,sl,st,kY]
 first|refine CallK.p (c2) ?_|refine CallP.i (c2) ?_
 simp(disch:=omega)only[↓kX,kW,aS,simprocAttr,sl,st,kY]
 intro k5 hk50 hk5
 rw[zq,aj hk5]
 simp(disch:=omega)only[↓kX,kW,aS,simprocAttr,set_get,set_set,sl,st,zq,kY]
 first|exact Sub.set_new hk2'|exact⟨rfl,Sub.set_new hk2'⟩|trace_state
theorem rz(a:Nat)(ha:a<lX):APure Tryz.prog 65 [nA a] (nA (a % lN)):=by
 have c1:=sleft_pure a (Nat.lt_trans ha (by decide))
 rw[words_wide ha]at c1
 unfold nA at *
 have sl:=mI
 have zq:=fun x=>mP (sl x)
 have st:=mH
 generalize a % lN=r at *
 obtain⟨x0,x1,x2,x3,hW⟩:∃x0 x1 x2 x3,kZ 4 a=[x0,x1,x2,x3]:=⟨_,_,_,_,rfl⟩
 rw[hW]at c1 ⊢
 have e1:lH ([x0,x1,x2,x3]++[0,0,0,0])=[.sc (.int .u64 x0),.sc (.int .u64 x1),.sc (.int .u64 x2),.sc (.int .u64 x3),.sc (.int .u64 0),.sc (.int .u64 0),.sc (.int .u64 0),.sc (.int .u64 0)]:=rfl
 have e2:lH [x0,x1,x2,x3]=[.sc (.int .u64 x0),.sc (.int .u64 x1),.sc (.int .u64 x2),.sc (.int .u64 x3)]:=rfl
 rw[e1]at c1
 rw[e2]
 refine az (c:=⟨Tryz.prog,13,[(1000000,[1])],[],[]⟩) (rs:=[ResultVar.cell 2 86]) Tryz.mixed Tryz.func65 rfl rfl rfl (Nat.le_of_ble_eq_true rfl) (by kernel_rfl) fun H=>?_
 simp(disch:=omega)only[↓kX,kW,aS,simprocAttr]
 intro k1 hk10 hk1 k2 hk20 hk2
 have n12:=bK0 hk2
 have hk2':=am hk2
 have v1:∀X Y,((H.set k1 X).set k2 Y) k1=some X:=fun X Y=>lE n12
 simp(disch:=omega)only[↓kX,kW,aS,simprocAttr,v1,mD n12 hk1,set_get]
 first|refine CallK.p (c1) ?_|refine CallP.i (c1) ?_
 simp(disch:=omega)only[↓kX,kW,aS,simprocAttr,set_get,set_set,sl,st,zq,kY]
 first|exact Sub.set_new hk2'|exact⟨rfl,Sub.set_new hk2'⟩|trace_state
theorem pW(a:Nat)(ha:a<lX):APure Tryz.prog 61 [nA a] (nA (a % lN)):=by
 have c1:=rz a ha
 unfold nA at *
 have sl:=mI
 have st:=mH
 have zq:=fun x=>mP (sl x)
 generalize a % lN=r at *
 refine az (c:=⟨Tryz.prog,5,[(1000000,[1])],[],[]⟩) (rs:=[ResultVar.cell 2 58]) Tryz.mixed Tryz.func61 rfl rfl rfl (Nat.le_of_ble_eq_true rfl) (by kernel_rfl) fun H=>?_
 simp(disch:=omega)only[↓kX,kW,aS,simprocAttr,sl,st]
 intro k1 hk10 hk1 k2 hk20 hk2
 have n12:=bK0 hk2
 have hk2':=am hk2
 have v1:∀X Y,((H.set k1 X).set k2 Y) k1=some X:=fun X Y=>lE n12
 simp(disch:=omega)only[↓kX,kW,aS,simprocAttr,v1,mD n12 hk1,sl,st,kY]
 first|refine CallK.p (c1) ?_|refine CallP.i (c1) ?_
 simp(disch:=omega)only[↓kX,kW,aS,simprocAttr,set_get,set_set,sl,st,zq,kY]
 first|exact Sub.set_new hk2'|exact⟨rfl,Sub.set_new hk2'⟩|trace_state
theorem sbytes_pure(a:Nat)(ha:a<lX):APure Tryz.prog 66 [nA a] (eu (lQ 32 (a % lN))):=by
 have c1:=pW a ha
 have c2:=swbytes_pure (a % lN)
 unfold nA at *
 have sl:=mI
 have st:=mH
 generalize lQ 32 (a % lN)=R at *
 generalize a % lN=r at *
 refine az (c:=⟨Tryz.prog,6,[(1000000,[1])],[],[]⟩) (rs:=[ResultVar.tmp 2]) Tryz.mixed Tryz.func66 rfl rfl rfl (Nat.le_of_ble_eq_true rfl) (by kernel_rfl) fun H=>?_
 simp(disch:=omega)only[↓kX,kW,aS,simprocAttr,sl,st]
 intro k1 hk10 hk1
 simp(disch:=omega)only[↓kX,kW,aS,simprocAttr,aj hk1,sl,st,kY]
 first|refine CallK.p (c1) ?_|refine CallP.i (c1) ?_
 simp(disch:=omega)only[↓kX,kW,aS,simprocAttr,sl,st,kY]
 first|refine CallK.p (c2) ?_|refine CallP.i (c2) ?_
 simp(disch:=omega)only[↓kX,kW,aS,simprocAttr]
 try rw[aj hk1]
 first|exact Abs.Sub.refl _|exact⟨rfl,Abs.Sub.refl _⟩|trace_state
theorem sadd_pure(a b:Nat)(ha:a<lX)(hb:b<lX):APure Tryz.prog 63 [nA a,nA b] (nA ((a % lN+b % lN) % lN)):=by
 have c1:=pW a ha
 have c2:=pW b hb
 have ra:a % lN<lN:=Nat.mod_lt _ oU
 have rb:b % lN<lN:=Nat.mod_lt _ oU
 have hs:a % lN+b % lN<lX:=by
  have:lN+lN<lX:=by decide
  omega
 have c3:=qN (a % lN) (b % lN) (by rw[←qz];omega) (by rw[←qz];omega)
 have c4:=rz (a % lN+b % lN) hs
 unfold nA at *
 have sl:=mI
 have st:=mH
 have zq:=fun x=>mP (sl x)
 generalize (a % lN+b % lN) % lN=R at *
 generalize (a % lN+b % lN)/18446744073709551616^4=cy at *
 generalize a % lN+b % lN=s at *
 generalize a % lN=x at *
 generalize b % lN=y at *
 refine az (c:=⟨Tryz.prog,17,[(1,[0,0,0,0,0,0,0,0,2,2,0]),(1000000,[3,2]),(1000001,[5])],[],[]⟩) (rs:=[ResultVar.cell 4 86]) Tryz.mixed Tryz.func63 rfl rfl rfl (Nat.le_of_ble_eq_true rfl) (by kernel_rfl) fun H=>?_
 simp(disch:=omega)only[↓kX,kW,aS,simprocAttr,sl,st]
 intro k1 hk10 hk1 k2 hk20 hk2 k3 hk30 hk3
 obtain⟨q1,q2,q3,q4,n13,hk3'⟩:=frz3 hk1 hk2 hk3
 simp(disch:=omega)only[↓kX,kW,aS,simprocAttr,q1,q2,q3,q4,sl,st,kY]
 first|refine CallK.p (c1) ?_|refine CallP.i (c1) ?_
 simp(disch:=omega)only[↓kX,kW,aS,simprocAttr,sl,st,kY]
 first|refine CallK.p (c2) ?_|refine CallP.i (c2) ?_
 simp(disch:=omega)only[↓kX,kW,aS,simprocAttr,sl,st,kY]
 first|refine CallK.p (c3) ?_|refine CallP.i (c3) ?_
 simp(disch:=omega)only[↓kX,kW,aS,simprocAttr,sl,st,kY]
 intro k5 hk50 hk5
 rw[zq,aj hk5]
 simp(disch:=omega)only[↓kX,kW,aS,simprocAttr,sl,st,kY]
 first|refine CallK.p (c4) ?_|refine CallP.i (c4) ?_
 simp(disch:=omega)only[↓kX,kW,aS,simprocAttr,set_get,set_set,sl,st,zq,kY]
 first|exact Sub.set_new hk3'|exact⟨rfl,Sub.set_new hk3'⟩|trace_state
theorem smul_pure(a b:Nat)(ha:a<lX)(hb:b<lX):APure Tryz.prog 64 [nA a,nA b] (nA ((a % lN*(b % lN)) % lN)):=by
 have c1:=pW a ha
 have c2:=pW b hb
 have ra:a % lN<lX:=lN_b
 have rb:b % lN<lX:=lN_b
 have hs:a % lN*(b % lN)<B512:=by
  have h1:=Nat.mul_le_mul (Nat.le_of_lt ra) (Nat.le_of_lt rb)
  have h2:a % lN*(b % lN)<lX*lX:=Nat.mul_lt_mul_of_lt_of_le ra (Nat.le_of_lt rb) (by decide)
  exact Nat.lt_of_lt_of_le h2 (by decide)
 have c3:=swmul_pure (a % lN) (b % lN) (by rw[←qz];exact ra) (by rw[←qz];exact rb)
 have c4:=sleft_pure (a % lN*(b % lN)) hs
 unfold nA at *
 have sl:=mI
 have st:=mH
 have s8:=w8_len (a % lN*(b % lN))
 have t8:=w8_take (a % lN*(b % lN))
 have zq:=fun x=>mP (sl x)
 generalize (a % lN*(b % lN)) % lN=R at *
 generalize a % lN*(b % lN)=s at *
 generalize a % lN=x at *
 generalize b % lN=y at *
 refine az (c:=⟨Tryz.prog,11,[(1,[1,0,1,0,0,0,2]),(1000000,[3,2])],[],[]⟩) (rs:=[ResultVar.cell 4 86]) Tryz.mixed Tryz.func64 rfl rfl rfl (Nat.le_of_ble_eq_true rfl) (by kernel_rfl) fun H=>?_
 simp(disch:=omega)only[↓kX,kW,aS,simprocAttr,sl,st]
 intro k1 hk10 hk1 k2 hk20 hk2 k3 hk30 hk3
 obtain⟨q1,q2,q3,q4,n13,hk3'⟩:=frz3 hk1 hk2 hk3
 simp(disch:=omega)only[↓kX,kW,aS,simprocAttr,q1,q2,q3,q4,sl,st,kY]
 first|refine CallK.p (c1) ?_|refine CallP.i (c1) ?_
 simp(disch:=omega)only[↓kX,kW,aS,simprocAttr,sl,st,kY]
 first|refine CallK.p (c2) ?_|refine CallP.i (c2) ?_
 simp(disch:=omega)only[↓kX,kW,aS,simprocAttr,sl,st,kY]
 first|refine CallK.p (c3) ?_|refine CallP.i (c3) ?_
 simp(disch:=omega)only[↓kX,kW,aS,simprocAttr,sl,st,kY]
 first|refine CallK.p (c4) ?_|refine CallP.i (c4) ?_
 simp(disch:=omega)only[↓kX,kW,aS,simprocAttr,set_get,set_set,sl,st,zq,kY]
 first|exact Sub.set_new hk3'|exact⟨rfl,Sub.set_new hk3'⟩|trace_state
theorem sof_pure(b:List UInt8)(hb:b.length≤64):APure Tryz.prog 110 [eu b] (.tup [nA (lY b % lN),.sc (.int .i64 0)]):=by
 have c1:=sdouble_pure b hb
 have hn:lY b<B512:=by
  have h1:=pq b
  have h2:256^b.length≤256^64:=Nat.pow_le_pow_right (by decide) hb
  have h3:(256:Nat)^64=B512:=by decide
  omega
 have c2:=sleft_pure (lY b) hn
 unfold nA eu at *
 have sl:=mI
 have st:=mH
 have s8:=w8_len (lY b)
 have t8:=w8_take (lY b)
 have zq:=fun x=>mP (sl x)
 have z8:bG [.sc (.int .u64 0),.sc (.int .u64 0),.sc (.int .u64 0),.sc (.int .u64 0),.sc (.int .u64 0),.sc (.int .u64 0),.sc (.int .u64 0),.sc (.int .u64 0)] 0 (lH (kZ 8 (lY b)))=lH (kZ 8 (lY b)):=oX (by rw[s8];rfl)
 generalize lY b % lN=r at *
 generalize kZ 8 (lY b)=W at *
 refine az (c:=⟨Tryz.prog,17,[(1000001,[4])],[],[]⟩) (rs:=[ResultVar.cell 2 86,ResultVar.tmp 3]) Tryz.mixed Tryz.func110 rfl rfl rfl (Nat.le_of_ble_eq_true rfl) (by kernel_rfl) fun H=>?_
 simp(disch:=omega)only[↓kX,kW,aS,simprocAttr,sl,st]
 intro k1 hk10 hk1
 first|refine CallK.p (c1) ?_|refine CallP.i (c1) ?_
 simp(disch:=omega)only[↓kX,kW,aS,simprocAttr,s8,t8,kY]
 intro k4 hk40 hk4
 rw[z8,aj hk4]
 simp(disch:=omega)only[↓kX,kW,aS,simprocAttr,s8,t8,kY]
 first|refine CallK.p (c2) ?_|refine CallP.i (c2) ?_
 simp(disch:=omega)only[↓kX,kW,aS,simprocAttr,set_get,set_set,sl,st,zq,kY]
 first|exact Sub.set_new hk1|exact⟨rfl,Sub.set_new hk1⟩|trace_state
def rC(b:List UInt8):Nat × Nat:=if b.length≠32 then (0,1) else if lY b<lN then (lY b,0) else (0,6)
theorem sdecode_pure(b:List UInt8):APure Tryz.prog 70 [eu b] (.tup [nA (rC b).1,.sc (.int .i64 (rC b).2)]):=by
 unfold rC
 have w0:lH (kZ 4 0)=[.sc (.int .u64 0),.sc (.int .u64 0),.sc (.int .u64 0),.sc (.int .u64 0)]:=rfl
 have sl:=mI
 have st:=mH
 have zq:=fun x=>mP (sl x)
 unfold nA eu at *
 by_cases h32:b.length=32
 ·rw[if_neg (by simp[h32])]
  have b1:((b.length:Int) != 32)=false:=by rw[h32];rfl
  have hn:lY b<lX:=by
   have h1:=pq b
   rw[h32]at h1
   exact h1
  have c1:=qr b (by omega)
  have c2:=sorder_pure
  have c3:=qp (lY b) lN (by rw[←qz];exact hn) (by decide)
  unfold nA eu at *
  generalize lY b+18446744073709551616^4-lN=df at *
  by_cases hl:lY b<lN
  ·rw[if_pos hl]at *
   generalize lY b=n at *
   generalize lN=L at *
   have b2:(((1:Nat):Int) == 0)=false:=rfl
   refine az (c:=⟨Tryz.prog,27,[(4,[0,0,0,0,0,0,2,2,0]),(1000003,[4]),(1000004,[6])],[],[]⟩) (rs:=[ResultVar.cell 2 86,ResultVar.tmp 3]) Tryz.mixed Tryz.func70 rfl rfl rfl (Nat.le_of_ble_eq_true rfl) (by kernel_rfl) fun H=>?_
   simp(disch:=omega)only[↓kX,kW,aS,simprocAttr,b1]
   intro k1 hk10 hk1
   first|refine CallK.p (c1) ?_|refine CallP.i (c1) ?_
   simp(disch:=omega)only[↓kX,kW,aS,simprocAttr,sl,st,kY]
   intro k4 hk40 hk4
   rw[zq,aj hk4]
   simp(disch:=omega)only[↓kX,kW,aS,simprocAttr,sl,st,kY]
   first|refine CallK.p (c2) ?_|refine CallP.i (c2) ?_
   simp(disch:=omega)only[↓kX,kW,aS,simprocAttr,sl,st,kY]
   first|refine CallK.p (c3) ?_|refine CallP.i (c3) ?_
   simp(disch:=omega)only[↓kX,kW,aS,simprocAttr,sl,st,kY]
   intro k6 hk60 hk6
   rw[zq,aj hk6]
   simp(disch:=omega)only[↓kX,kW,aS,simprocAttr,b2,set_get,set_set,sl,st,zq,kY]
   first|exact Sub.set_new hk1|exact⟨rfl,Sub.set_new hk1⟩|trace_state
  ·rw[if_neg hl]at *
   generalize lY b=n at *
   generalize lN=L at *
   have b2:(((0:Nat):Int) == 0)=true:=rfl
   rw[w0]
   refine az (c:=⟨Tryz.prog,27,[(4,[0,0,0,0,0,0,2,2,0]),(1000003,[4]),(1000004,[6])],[],[]⟩) (rs:=[ResultVar.cell 2 86,ResultVar.tmp 3]) Tryz.mixed Tryz.func70 rfl rfl rfl (Nat.le_of_ble_eq_true rfl) (by kernel_rfl) fun H=>?_
   simp(disch:=omega)only[↓kX,kW,aS,simprocAttr,b1]
   intro k1 hk10 hk1
   first|refine CallK.p (c1) ?_|refine CallP.i (c1) ?_
   simp(disch:=omega)only[↓kX,kW,aS,simprocAttr,sl,st,kY]
   intro k4 hk40 hk4
   rw[zq,aj hk4]
   simp(disch:=omega)only[↓kX,kW,aS,simprocAttr,sl,st,kY]
   first|refine CallK.p (c2) ?_|refine CallP.i (c2) ?_
   simp(disch:=omega)only[↓kX,kW,aS,simprocAttr,sl,st,kY]
   first|refine CallK.p (c3) ?_|refine CallP.i (c3) ?_
   simp(disch:=omega)only[↓kX,kW,aS,simprocAttr,sl,st,kY]
   intro k6 hk60 hk6
   rw[zq,aj hk6]
   simp(disch:=omega)only[↓kX,kW,aS,simprocAttr,b2,set_get,set_set,sl,st,zq,kY,ah]
   first|exact Sub.set_new hk1|exact⟨rfl,Sub.set_new hk1⟩|trace_state
 ·rw[if_pos h32]
  have b1:((b.length:Int) != 32)=true:=nT (by omega)
  rw[w0]
  refine az (c:=⟨Tryz.prog,27,[(4,[0,0,0,0,0,0,2,2,0]),(1000003,[4]),(1000004,[6])],[],[]⟩) (rs:=[ResultVar.cell 2 86,ResultVar.tmp 3]) Tryz.mixed Tryz.func70 rfl rfl rfl (Nat.le_of_ble_eq_true rfl) (by kernel_rfl) fun H=>?_
  simp(disch:=omega)only[↓kX,kW,aS,simprocAttr,b1]
  intro k1 hk10 hk1
  simp(disch:=omega)only[↓kX,kW,aS,simprocAttr,set_get,set_set,ah]
  first|exact Sub.set_new hk1|exact⟨rfl,Sub.set_new hk1⟩|trace_state
theorem digs_l:digs lN=[237,211,245,92,26,99,18,88,214,156,247,162,222,249,222,20,0,0,0,0,0,0,0,0,0,0,0,0,0,0,0,16]:=by
 have h:pG [237,211,245,92,26,99,18,88,214,156,247,162,222,249,222,20,0,0,0,0,0,0,0,0,0,0,0,0,0,0,0,16]=lN:=by decide
 rw[←h]
 exact digs_of (by decide) (by decide)
theorem dorder_pure:APure Tryz.prog 77 [] (D lN):=by
 unfold D pZ
 rw[digs_l]
 refine az (c:=⟨Tryz.prog,2,[],[],[]⟩) (rs:=[ResultVar.tmp 0]) Tryz.mixed Tryz.func77 rfl rfl rfl (Nat.le_of_ble_eq_true rfl) (by kernel_rfl) fun H=>?_
 simp(disch:=omega)only[↓kX,kW,aS,simprocAttr]
 exact⟨rfl,Abs.Sub.refl _⟩
theorem dll:(digs lN).length≤400:=by rw[digs_l];decide
theorem rH(n:Nat)(hn:(digs n).length≤1000):APure Tryz.prog 69 [D n] (D (n % lN)):=by
 have c1:=dorder_pure
 have c2:=dmod_pure n lN oU hn dll
 generalize n % lN=r at *
 generalize lN=L at *
 refine az (c:=⟨Tryz.prog,6,[],[],[]⟩) (rs:=[ResultVar.tmp 2]) Tryz.mixed Tryz.func69 rfl rfl rfl (Nat.le_of_ble_eq_true rfl) (by kernel_rfl) fun H=>?_
 simp(disch:=omega)only[↓kX,kW,aS,simprocAttr]
 first|refine CallK.p (c1) ?_|refine CallP.i (c1) ?_
 simp(disch:=omega)only[↓kX,kW,aS,simprocAttr]
 first|refine CallK.p (c2) ?_|refine CallP.i (c2) ?_
 simp(disch:=omega)only[↓kX,kW,aS,simprocAttr]
 exact Abs.Sub.refl _
theorem dladd_pure(a b:Nat)(ha:(digs a).length≤400)(hb:(digs b).length≤400)(hs:(digs (a+b)).length≤1000):APure Tryz.prog 67 [D a,D b] (D ((a+b) % lN)):=by
 have c1:=sum_pure a b (by omega) (by omega)
 have c2:=rH (a+b) hs
 generalize (a+b) % lN=r at *
 generalize a+b=s at *
 refine az (c:=⟨Tryz.prog,9,[],[],[]⟩) (rs:=[ResultVar.tmp 4]) Tryz.mixed Tryz.func67 rfl rfl rfl (Nat.le_of_ble_eq_true rfl) (by kernel_rfl) fun H=>?_
 simp(disch:=omega)only[↓kX,kW,aS,simprocAttr]
 first|refine CallK.p (c1) ?_|refine CallP.i (c1) ?_
 simp(disch:=omega)only[↓kX,kW,aS,simprocAttr]
 first|refine CallK.p (c2) ?_|refine CallP.i (c2) ?_
 simp(disch:=omega)only[↓kX,kW,aS,simprocAttr]
 exact Abs.Sub.refl _
theorem dlmul_pure(a b:Nat)(ha:(digs a).length≤400)(hb:(digs b).length≤400)(hs:(digs (a*b)).length≤1000):APure Tryz.prog 68 [D a,D b] (D ((a*b) % lN)):=by
 have c1:=times_pure a b ha hb
 have c2:=rH (a*b) hs
 generalize (a*b) % lN=r at *
 generalize a*b=s at *
 refine az (c:=⟨Tryz.prog,9,[],[],[]⟩) (rs:=[ResultVar.tmp 4]) Tryz.mixed Tryz.func68 rfl rfl rfl (Nat.le_of_ble_eq_true rfl) (by kernel_rfl) fun H=>?_
 simp(disch:=omega)only[↓kX,kW,aS,simprocAttr]
 first|refine CallK.p (c1) ?_|refine CallP.i (c1) ?_
 simp(disch:=omega)only[↓kX,kW,aS,simprocAttr]
 first|refine CallK.p (c2) ?_|refine CallP.i (c2) ?_
 simp(disch:=omega)only[↓kX,kW,aS,simprocAttr]
 exact Abs.Sub.refl _
theorem d0:D 0=.imm 0 [] 0:=by
 unfold D
 rw[qQ]
 rfl
theorem dldecode_pure(b:List UInt8)(hb:b.length≤1000000):APure Tryz.prog 31 [eu b] (.tup [D (rC b).1,.sc (.int .i64 (rC b).2)]):=by
 unfold rC
 have c1:=qj b hb
 by_cases h32:b.length=32
 ·rw[if_neg (by simp[h32])]
  have b1:((b.length:Int) != 32)=false:=by rw[h32];rfl
  have hl:=pq b
  rw[h32]at hl
  have c2:=dorder_pure
  have c3:=less_pure (lY b) lN (by have:=dlen (n:=lY b) (k:=32) hl;omega) (Nat.le_trans dll (by decide))
  unfold eu at *
  generalize lY b=n at *
  by_cases hlt:n<lN
  ·rw[if_pos hlt]
   rw[decide_eq_true hlt]at c3
   generalize lN=q at *
   refine az (c:=⟨Tryz.prog,15,[],[],[]⟩) (rs:=[ResultVar.tmp 2,ResultVar.tmp 3]) Tryz.mixed Tryz.func31 rfl rfl rfl (Nat.le_of_ble_eq_true rfl) (by kernel_rfl) fun H=>?_
   simp(disch:=omega)only[↓kX,kW,aS,simprocAttr,b1]
   first|refine CallK.p (c1) ?_|refine CallP.i (c1) ?_
   simp(disch:=omega)only[↓kX,kW,aS,simprocAttr,b1]
   first|refine CallK.p (c2) ?_|refine CallP.i (c2) ?_
   simp(disch:=omega)only[↓kX,kW,aS,simprocAttr]
   first|refine CallK.p (c3) ?_|refine CallP.i (c3) ?_
   simp(disch:=omega)only[↓kX,kW,aS,simprocAttr]
   first|exact Abs.Sub.refl _|exact⟨rfl,Abs.Sub.refl _⟩|trace_state
  ·rw[if_neg hlt]
   rw[decide_eq_false hlt]at c3
   rw[d0]
   generalize lN=q at *
   refine az (c:=⟨Tryz.prog,15,[],[],[]⟩) (rs:=[ResultVar.tmp 2,ResultVar.tmp 3]) Tryz.mixed Tryz.func31 rfl rfl rfl (Nat.le_of_ble_eq_true rfl) (by kernel_rfl) fun H=>?_
   simp(disch:=omega)only[↓kX,kW,aS,simprocAttr,b1]
   first|refine CallK.p (c1) ?_|refine CallP.i (c1) ?_
   simp(disch:=omega)only[↓kX,kW,aS,simprocAttr,b1]
   first|refine CallK.p (c2) ?_|refine CallP.i (c2) ?_
   simp(disch:=omega)only[↓kX,kW,aS,simprocAttr]
   first|refine CallK.p (c3) ?_|refine CallP.i (c3) ?_
   simp(disch:=omega)only[↓kX,kW,aS,simprocAttr]
   first|exact Abs.Sub.refl _|exact⟨rfl,Abs.Sub.refl _⟩|trace_state
 ·rw[if_pos h32]
  have b1:((b.length:Int) != 32)=true:=nT (by omega)
  rw[d0]
  unfold eu at *
  refine az (c:=⟨Tryz.prog,15,[],[],[]⟩) (rs:=[ResultVar.tmp 2,ResultVar.tmp 3]) Tryz.mixed Tryz.func31 rfl rfl rfl (Nat.le_of_ble_eq_true rfl) (by kernel_rfl) fun H=>?_
  simp(disch:=omega)only[↓kX,kW,aS,simprocAttr,b1]
  first|refine CallK.p (c1) ?_|refine CallP.i (c1) ?_
  simp(disch:=omega)only[↓kX,kW,aS,simprocAttr,b1]
  first|exact Abs.Sub.refl _|exact⟨rfl,Abs.Sub.refl _⟩|trace_state
end Go.Proofs.YtcncplameclkfaaGreatDoor
end
