/-
  Several texts in one: each says what it proves.
  Conditions: none. Lemmas only.
-/
import Derived.Test.YtcncplameclkfaaGreatDoorNwG1
import Derived.Test.YtcncplameclkfaaGreatDoorNmG2
set_option linter.all false
section
set_option maxRecDepth 20000
set_option maxHeartbeats 8000000
namespace Go.Proofs.YtcncplameclkfaaGreatDoor
open Go Go.Abs Go.Proofs Go.Box
open Go.Nam (p25 lJ lT oQ mM mR nI DgX mh OkX okX_of okX_dig)
abbrev fA(n:Nat):AV:=.agg (lM (lJ n))
theorem nU(n:Nat):(lM (lJ n)).length=16:=by rw[lO,lT]
theorem mz(n:Nat):(lM (lJ n)).take 16=lM (lJ n):=List.take_of_length_le (by rw[nU];omega)
theorem p25_lt{n:Nat}(h:n<p25):n<65536^16:=Nat.lt_trans h (by decide)
def sumX(a b:List Nat)(i:Nat):List Nat:=(List.range 16).map fun t=>if t<i then a.getD t 0+b.getD t 0 else a.getD t 0
theorem qq(a b:List Nat)(i:Nat):(sumX a b i).length=16:=by simp[sumX]
theorem sumX_zero{a b:List Nat}(h:a.length=16):sumX a b 0=a:=by
 apply List.ext_getElem (by rw[qq,h])
 intro t h1 h2
 simp[sumX,List.getD,h2]
theorem sumX_get(a b:List Nat){i:Nat}(h:i<16):(sumX a b i).getD i 0=a.getD i 0:=by simp[sumX,List.getD,h]
theorem sumX_set(a b:List Nat){i:Nat}(h:i<16):(sumX a b i).set i (a.getD i 0+b.getD i 0)=sumX a b (i+1):=by
 apply List.ext_getElem (by rw[List.length_set,qq,qq])
 intro t h1 h2
 by_cases e:i=t
 ·subst e
  rw[List.getElem_set_self]
  simp[sumX]
 ·rw[List.getElem_set_ne e]
  simp only[sumX,List.getElem_map,List.getElem_range]
  by_cases c:t<i
  ·rw[if_pos c,if_pos (by omega)]
  ·rw[if_neg c,if_neg (by omega)]
theorem sumX_part{a b:List Nat}(ha:a.length=16)(hb:b.length=16):∀i,i≤16→mR (sumX a b i)=mR a+mR (b.take i)
 |0,_=>by rw[sumX_zero ha,List.take_zero,mR,Nat.add_zero]
 |i+1,h=>by
  have ih:=sumX_part ha hb i (by omega)
  have hv:=Go.Nam.valX_set (l:=sumX a b i) (i:=i) (a.getD i 0+b.getD i 0) (by rw[qq];omega)
  rw[sumX_set a b (by omega),sumX_get a b (by omega),ih,Nat.add_mul]at hv
  rw[Go.Nam.valX_take (by omega)]
  omega
theorem sumX_val{a b:List Nat}(ha:a.length=16)(hb:b.length=16):mR (sumX a b 16)=mR a+mR b:=by
 rw[sumX_part ha hb 16 (by omega),List.take_of_length_le (by omega)]
theorem fadd_pure(a b:Nat)(ha:a<p25)(hb:b<p25):APure Tryz.prog 49 [fA a,fA b] (fA ((a+b) % p25)):=by
 unfold fA
 have hal:=nU a
 have hbl:=nU b
 have hat:=mz a
 have hbt:=mz b
 have ga:=fun i=>mh (mM a) i
 have gb:=fun i=>mh (mM b) i
 have aB:=fun i (h:i<16)=>mV (l:=lJ b) (i:=i) (by rw[lT];omega)
 have hv:=sumX_val (lT a) (lT b)
 rw[nI (p25_lt ha),nI (p25_lt hb)]at hv
 have hok:OkX (sumX (lJ a) (lJ b) 16) (a+b):=by
  rw[←hv]
  refine okX_of (qq _ _ _) fun j=>?_
  by_cases hj:j<16
  ·have e:(sumX (lJ a) (lJ b) 16).getD j 0=(lJ a).getD j 0+(lJ b).getD j 0:=by simp[sumX,List.getD,hj]
   have:=ga j
   have:=gb j
   omega
  ·rw[List.getD,List.getElem?_eq_none (by rw[qq];omega)]
   simp
 have c1:=sC _ _ hok
 have s0:=sumX_zero (b:=lJ b) (lT a)
 have sl:=qq (lJ a) (lJ b)
 have sg:=fun i h=>sumX_get (lJ a) (lJ b) (i:=i) h
 have ss:=fun i h=>sumX_set (lJ a) (lJ b) (i:=i) h
 have hol:=nU ((a+b) % p25)
 have tx:=mz ((a+b) % p25)
 have zx:=nO hol
 generalize lJ ((a+b) % p25)=R at *
 generalize sumX (lJ a) (lJ b)=F at *
 generalize lJ a=A at *
 generalize lJ b=B at *
 clear hv hok
 refine az (c:=⟨Tryz.prog,20,[(4,[0,0,1,0,0,1,0,0,2]),(1000000,[3])],[],[]⟩) (rs:=[ResultVar.cell 4 46]) Tryz.mixed Tryz.func49 rfl rfl rfl (Nat.le_of_ble_eq_true rfl) (by kernel_rfl) fun H=>?_
 simp(disch:=omega)only[↓kX,kW,aS,simprocAttr,hal,hbl,hat,hbt]
 intro k1 hk10 hk1 k2 hk20 hk2 k3 hk30 hk3
 obtain⟨q1,q2,q3,q4,n13,hk3'⟩:=frz3 hk1 hk2 hk3
 obtain⟨Z,hZ⟩:∃Z:AObj,Z=.cells [.sc (.int .i64 0),.sc (.int .i64 0),.sc (.int .i64 0),.sc (.int .i64 0),.sc (.int .i64 0),.sc (.int .i64 0),.sc (.int .i64 0),.sc (.int .i64 0),.sc (.int .i64 0),.sc (.int .i64 0),.sc (.int .i64 0),.sc (.int .i64 0),.sc (.int .i64 0),.sc (.int .i64 0),.sc (.int .i64 0),.sc (.int .i64 0)] 46 16:=⟨_,rfl⟩
 rw[←hZ]
 simp(disch:=omega)only[↓kX,kW,aS,simprocAttr,q1,q2,hal,hbl,hat,hbt]
 have v1:∀X Y,((H.set k1 X).set k3 Y) k1=some X:=fun X Y=>lE n13
 have v2:∀X Y X',((H.set k1 X).set k3 Y).set k1 X'=(H.set k1 X').set k3 Y:=fun X Y X'=>mG n13
 refine br (c:=⟨Tryz.prog,20,[(4,[0,0,1,0,0,1,0,0,2]),(1000000,[3])],[],[]⟩) Tryz.mixed (by kernel_rfl) (fun m σ H'=>∃i:Nat,i+m=16∧σ 2=.ptr k1 0∧σ 3=.ip (lM B) 0∧σ 4=.ptr k3 0∧σ 5=.sc (.int .i64 i)∧H'=(H.set k1 (.cells (lM (F i)) 46 16)).set k3 Z) 16 ?_ ?_
 ·refine⟨0,by omega,?_⟩
  rw[s0]
  simp(disch:=omega)only[↓kX,kW,aS,simprocAttr]
  first|rfl|exact⟨rfl,rfl⟩|trace_state
 ·rintro m σ H' ⟨i,hi,g2,g3,g4,g5,rfl⟩
  have hl:=sl i
  have hfl:(lM (F i)).length=16:=by rw[lO,hl]
  by_cases hlt:i<16
  ·have hb2:decide ((i:Int)<16)=true:=dT (by omega)
   have xa:=mV (l:=F i) (i:=i) (by omega)
   rw[sg i hlt]at xa
   have xb:=aB i hlt
   have hput:=oO (l:=F i) (i:=i) (x:=A.getD i 0+B.getD i 0) (by omega)
   rw[ss i hlt]at hput
   have k1l:=ga i
   have k2l:=gb i
   generalize A.getD i 0=x at *
   generalize B.getD i 0=y at *
   have w1:IntKind.i64.wrap ((i:Int)+1)=((i+1:Nat):Int):=by rw[iw (by omega)];rfl
   have w2:IntKind.i64.wrap ((x:Int)+(y:Int))=((x+y:Nat):Int):=by rw[iw (by omega)];omega
   simp(disch:=omega)only[↓kX,kW,aS,simprocAttr,g2,g3,g4,g5,hb2,xa,xb,hfl,hbl,v1,v2,w1,w2,hput]
   exact⟨m-1,by omega,i+1,by omega,rfl,rfl⟩
  ·obtain rfl:i=16:=by omega
   have hb2:decide (((16:Nat):Int)<16)=false:=by decide
   have htk:(lM (F 16)).take 16=lM (F 16):=List.take_of_length_le (by omega)
   rw[hZ]
   simp(disch:=omega)only[↓kX,kW,aS,simprocAttr,g2,g3,g4,g5,hb2,v1,hfl,htk]
   rw[ke]
   first|refine CallK.p (c1) ?_|refine CallP.i (c1) ?_
   simp(disch:=omega)only[↓kX,kW,aS,simprocAttr,g2,g3,g4,set_get,set_set,hol,zx,tx,ke]
   first|exact(Sub.set_new hk1).set_free hk3'|exact⟨rfl,(Sub.set_new hk1).set_free hk3'⟩|trace_state
theorem fneg_pure(a:Nat)(ha:a<p25):APure Tryz.prog 101 [fA a] (fA ((p25-a) % p25)):=by
 unfold fA
 have hal:=nU a
 have hat:=mz a
 have c1:=sM
 have c2:=sO p25 (by decide)
 have c3:=qW p25 (by decide)
 have c4:=qW a (Nat.lt_trans ha (by decide))
 have c5:=minus_pure p25 a (Nat.le_of_lt ha) (by rw[digs_p];decide) (by have:=dlen (n:=a) (k:=32) (Nat.lt_trans ha (by decide));omega)
 have hm:p25-a<256^32:=Nat.lt_of_le_of_lt (Nat.sub_le _ _) (by decide)
 have c6:=sO (p25-a) hm
 have c7:=sC _ _ (okX_dig (n:=p25-a) (Nat.lt_of_le_of_lt (Nat.sub_le _ _) (by decide)))
 have hpl:=nU p25
 have hpt:=mz p25
 have zp:=nO hpl
 have hml:=nU (p25-a)
 have hol:=nU ((p25-a) % p25)
 have tx:=mz ((p25-a) % p25)
 have zx:=nO hol
 have c6':APure Tryz.prog 140 [D (p25-a)] (.agg (lM (lJ (p25-a)))):=by
  have zm:=nO hml
  have tm:=mz (p25-a)
  generalize lJ (p25-a)=M at *
  generalize p25-a=m at *
  refine az (c:=⟨Tryz.prog,5,[],[],[]⟩) (rs:=[ResultVar.cell 2 46]) Tryz.mixed Tryz.func140 rfl rfl rfl (Nat.le_of_ble_eq_true rfl) (by kernel_rfl) fun H=>?_
  simp(disch:=omega)only[↓kX,kW,aS,simprocAttr]
  intro k hk0 hk
  first|refine CallK.p (c6) ?_|refine CallP.i (c6) ?_
  simp(disch:=omega)only[↓kX,kW,aS,simprocAttr,set_get,set_set,hml,zm,tm,ke]
  first|exact Sub.set_new hk|trace_state
 generalize lJ ((p25-a) % p25)=R at *
 generalize lJ (p25-a)=M at *
 generalize p25-a=m at *
 generalize lJ a=A at *
 generalize lJ p25=Q at *
 generalize p25=q at *
 refine az (c:=⟨Tryz.prog,13,[(2,[1,0,1,0,0,0,0,2]),(1000000,[1]),(1000001,[3])],[],[]⟩) (rs:=[ResultVar.cell 2 46]) Tryz.mixed Tryz.func101 rfl rfl rfl (Nat.le_of_ble_eq_true rfl) (by kernel_rfl) fun H=>?_
 simp(disch:=omega)only[↓kX,kW,aS,simprocAttr,hal,hat]
 intro k1 hk10 hk1 k2 hk20 hk2
 have n12:=bK0 hk2
 have hk2':=am hk2
 have v1:∀X Y,((H.set k1 X).set k2 Y) k1=some X:=fun X Y=>lE n12
 simp(disch:=omega)only[↓kX,kW,aS,simprocAttr,v1,mD n12 hk1,hal,hat]
 first|refine CallK.p (c1) ?_|refine CallP.i (c1) ?_
 simp(disch:=omega)only[↓kX,kW,aS,simprocAttr]
 first|refine CallK.p (c2) ?_|refine CallP.i (c2) ?_
 simp(disch:=omega)only[↓kX,kW,aS,simprocAttr,hpl]
 intro k3 hk30 hk3
 rw[zp,aj hk3]
 simp(disch:=omega)only[↓kX,kW,aS,simprocAttr,hpl,hpt]
 rw[ke]
 first|refine CallK.p (c3) ?_|refine CallP.i (c3) ?_
 simp(disch:=omega)only[↓kX,kW,aS,simprocAttr,hal,hat]
 rw[ke]
 first|refine CallK.p (c4) ?_|refine CallP.i (c4) ?_
 simp(disch:=omega)only[↓kX,kW,aS,simprocAttr]
 first|refine CallK.p (c5) ?_|refine CallP.i (c5) ?_
 simp(disch:=omega)only[↓kX,kW,aS,simprocAttr]
 first|refine CallK.p (c6') ?_|refine CallP.i (c6') ?_
 simp(disch:=omega)only[↓kX,kW,aS,simprocAttr]
 rw[ke]
 first|refine CallK.p (c7) ?_|refine CallP.i (c7) ?_
 simp(disch:=omega)only[↓kX,kW,aS,simprocAttr,set_get,set_set,hol,zx,tx,ke]
 first|exact Sub.set_new hk2'|exact⟨rfl,Sub.set_new hk2'⟩|trace_state
end Go.Proofs.YtcncplameclkfaaGreatDoor
end
section
set_option maxRecDepth 20000
set_option maxHeartbeats 8000000
namespace Go.Proofs.YtcncplameclkfaaGreatDoor
open Go Go.Abs Go.Proofs Go.Box
open Go.Nam (p25 lJ lT oQ mM mR nI DgX mh OkX pg qw cutX)
theorem fsub_pure(a b:Nat)(ha:a<p25)(hb:b<p25):APure Tryz.prog 50 [fA a,fA b] (fA ((a+(p25-b) % p25) % p25)):=by
 unfold fA
 have hal:=nU a
 have hbl:=nU b
 have hat:=mz a
 have hbt:=mz b
 have c1:=fneg_pure b hb
 have c2:=fadd_pure a ((p25-b) % p25) ha (Nat.mod_lt _ (by decide))
 unfold fA at c1 c2
 have hol:=nU ((a+(p25-b) % p25) % p25)
 have tx:=mz ((a+(p25-b) % p25) % p25)
 have zx:=nO hol
 generalize lJ ((a+(p25-b) % p25) % p25)=R at *
 generalize lJ ((p25-b) % p25)=M at *
 generalize lJ a=A at *
 generalize lJ b=B at *
 refine az (c:=⟨Tryz.prog,9,[(1,[1,1,0,0,2]),(1000000,[3,2])],[],[]⟩) (rs:=[ResultVar.cell 4 46]) Tryz.mixed Tryz.func50 rfl rfl rfl (Nat.le_of_ble_eq_true rfl) (by kernel_rfl) fun H=>?_
 simp(disch:=omega)only[↓kX,kW,aS,simprocAttr,hal,hbl,hat,hbt]
 intro k1 hk10 hk1 k2 hk20 hk2 k3 hk30 hk3
 obtain⟨q1,q2,q3,q4,n13,hk3'⟩:=frz3 hk1 hk2 hk3
 simp(disch:=omega)only[↓kX,kW,aS,simprocAttr,q1,q2,q3,q4,hal,hbl,hat,hbt,ke]
 first|refine CallK.p (c1) ?_|refine CallP.i (c1) ?_
 simp(disch:=omega)only[↓kX,kW,aS,simprocAttr,ke]
 first|refine CallK.p (c2) ?_|refine CallP.i (c2) ?_
 simp(disch:=omega)only[↓kX,kW,aS,simprocAttr,set_get,set_set,hol,zx,tx,ke]
 first|exact Sub.set_new hk3'|exact⟨rfl,Sub.set_new hk3'⟩|trace_state
theorem rW(a b:Nat)(ha:a<p25)(hb:b<p25):APure Tryz.prog 51 [fA a,fA b] (fA (a*b % p25)):=by
 unfold fA
 have hal:=nU a
 have hbl:=nU b
 have hat:=mz a
 have hbt:=mz b
 have aA:=fun i (h:i<16)=>mV (l:=lJ a) (i:=i) (by rw[lT];omega)
 have aB:=fun i (h:i<16)=>mV (l:=lJ b) (i:=i) (by rw[lT];omega)
 have gA:=fun i=>mh (mM a) i
 have gB:=fun i=>mh (mM b) i
 obtain⟨v,hok,hv⟩:=Go.Nam.okX_cut (lT a) (mM a) (lT b) (mM b)
 rw[nI (p25_lt ha),nI (p25_lt hb)]at hv
 have c1:=sC _ _ hok
 rw[hv]at c1
 have sI:=fun i h=>Go.Nam.cnvI_spec (lT a) (lT b) (Go.Nam.prod_max (mM a) (mM b)) i h
 have sK:=fun i (h:i<16) k (hk:k≤16)=>Go.Nam.cnvK_spec (x:=(lJ a).getD i 0) (i:=i) h (lT b) (Go.Nam.prod_max (mM a) (mM b) i) k (d:=pg (lJ a) (lJ b) i) hk (sI i (by omega)).1 (sI i (by omega)).2.1
 have lK:=fun i k=>Go.Nam.cnvK_len ((lJ a).getD i 0) (lJ b) i k (pg (lJ a) (lJ b) i)
 have eI:∀i,pg (lJ a) (lJ b) (i+1)=qw ((lJ a).getD i 0) (lJ b) i 16 (pg (lJ a) (lJ b) i):=fun _=>rfl
 have eK:∀i k,qw ((lJ a).getD i 0) (lJ b) i (k+1) (pg (lJ a) (lJ b) i)=(qw ((lJ a).getD i 0) (lJ b) i k (pg (lJ a) (lJ b) i)).set (i+k) ((qw ((lJ a).getD i 0) (lJ b) i k (pg (lJ a) (lJ b) i)).getD (i+k) 0+(lJ a).getD i 0*(lJ b).getD k 0):=fun _ _=>rfl
 have eK0:∀i,qw ((lJ a).getD i 0) (lJ b) i 0 (pg (lJ a) (lJ b) i)=pg (lJ a) (lJ b) i:=fun _=>rfl
 have eI0:pg (lJ a) (lJ b) 0=List.replicate 31 0:=rfl
 have hpm:=fun i k=>Go.Nam.prod_max (mM a) (mM b) i k
 have hol:=nU (a*b % p25)
 have tx:=mz (a*b % p25)
 have zx:=nO hol
 have uL:=Go.Nam.cutX_len (pg (lJ a) (lJ b) 16)
 have uS:=fun i h=>Go.Nam.cutX_set (pg (lJ a) (lJ b) 16) (i:=i) h
 have uG:=fun i t h=>Go.Nam.cutX_get (pg (lJ a) (lJ b) 16) i (t:=t) h
 have u0:cutX (pg (lJ a) (lJ b) 16) 0=List.replicate 16 0:=rfl
 generalize lJ (a*b % p25)=R at *
 clear hok hv
 generalize cutX (pg (lJ a) (lJ b) 16)=U at *
 generalize hNK:(fun i k=>qw ((lJ a).getD i 0) (lJ b) i k (pg (lJ a) (lJ b) i))=NK at *
 have hNK':∀i k,qw ((lJ a).getD i 0) (lJ b) i k (pg (lJ a) (lJ b) i)=NK i k:=fun i k=>by rw[←hNK]
 simp only[hNK']at sK lK eI eK eK0
 clear hNK hNK'
 generalize pg (lJ a) (lJ b)=NI at *
 generalize lJ a=A at *
 generalize lJ b=B at *
 have bI:∀i,i≤16→∀j,(NI i).getD j 0≤68717379600:=fun i hi j=>Nat.le_trans ((sI i hi).2.1 j) (Nat.le_trans (Nat.mul_le_mul_right _ hi) (by decide))
 have lI:∀i,i≤16→(NI i).length=31:=fun i hi=>(sI i hi).1
 have bK:∀i,i<16→∀k,k≤16→∀j,(NK i k).getD j 0≤73012215825:=fun i hi k hk j=>by
  obtain⟨-,h1,h2⟩:=sK i hi k hk
  have h3:i*(65535*65535)≤68717379600:=Nat.le_trans (Nat.mul_le_mul_right _ (Nat.le_of_lt hi)) (by decide)
  by_cases e:j<i+k
  ·exact Nat.le_trans (h1 j e) (Nat.le_trans (Nat.add_le_add_right h3 _) (by decide))
  ·exact Nat.le_trans (h2 j (Nat.le_of_not_lt e)) (Nat.le_trans h3 (by decide))
 have pM:∀i k,A.getD i 0*B.getD k 0≤4294836225:=hpm
 have lNK:∀i k,i<16→(NK i k).length=31:=fun i k hi=>by rw[lK,lI i (by omega)]
 clear sI sK lK hpm
 obtain⟨Z,hZ⟩:∃Z:AObj,Z=.cells [.sc (.int .i64 0),.sc (.int .i64 0),.sc (.int .i64 0),.sc (.int .i64 0),.sc (.int .i64 0),.sc (.int .i64 0),.sc (.int .i64 0),.sc (.int .i64 0),.sc (.int .i64 0),.sc (.int .i64 0),.sc (.int .i64 0),.sc (.int .i64 0),.sc (.int .i64 0),.sc (.int .i64 0),.sc (.int .i64 0),.sc (.int .i64 0)] 46 16:=⟨_,rfl⟩
 have z31:lM (List.replicate 31 0)=[.sc (.int .i64 0),.sc (.int .i64 0),.sc (.int .i64 0),.sc (.int .i64 0),.sc (.int .i64 0),.sc (.int .i64 0),.sc (.int .i64 0),.sc (.int .i64 0),.sc (.int .i64 0),.sc (.int .i64 0),.sc (.int .i64 0),.sc (.int .i64 0),.sc (.int .i64 0),.sc (.int .i64 0),.sc (.int .i64 0),.sc (.int .i64 0),.sc (.int .i64 0),.sc (.int .i64 0),.sc (.int .i64 0),.sc (.int .i64 0),.sc (.int .i64 0),.sc (.int .i64 0),.sc (.int .i64 0),.sc (.int .i64 0),.sc (.int .i64 0),.sc (.int .i64 0),.sc (.int .i64 0),.sc (.int .i64 0),.sc (.int .i64 0),.sc (.int .i64 0),.sc (.int .i64 0)]:=rfl
 have z16:lM (List.replicate 16 0)=[.sc (.int .i64 0),.sc (.int .i64 0),.sc (.int .i64 0),.sc (.int .i64 0),.sc (.int .i64 0),.sc (.int .i64 0),.sc (.int .i64 0),.sc (.int .i64 0),.sc (.int .i64 0),.sc (.int .i64 0),.sc (.int .i64 0),.sc (.int .i64 0),.sc (.int .i64 0),.sc (.int .i64 0),.sc (.int .i64 0),.sc (.int .i64 0)]:=rfl
 refine az (c:=⟨Tryz.prog,56,[(8,[0,0,0,0,1,0,0,1,0,0,1,0,0,0,2]),(15,[0,0,1,0,0,0,1,0,0,0,2]),(1000000,[3,2])],[],[]⟩) (rs:=[ResultVar.cell 4 46]) Tryz.mixed Tryz.func51 rfl rfl rfl (Nat.le_of_ble_eq_true rfl) (by kernel_rfl) fun H=>?_
 simp(disch:=omega)only[↓kX,kW,aS,simprocAttr,hal,hbl,hat,hbt]
 intro k1 hk10 hk1 k2 hk20 hk2 k3 hk30 hk3
 obtain⟨q1,q2,q3,q4,n13,hk3'⟩:=frz3 hk1 hk2 hk3
 rw[←hZ]
 simp(disch:=omega)only[↓kX,kW,aS,simprocAttr,q1,q2,q3,q4,hal,hbl,hat,hbt]
 intro k5 hk50 hk5
 have n35:=bK0 hk5
 have hk5':=am hk5
 have v1:∀X Y,((H.set k3 X).set k5 Y) k3=some X:=fun X Y=>lE n35
 refine br (c:=⟨Tryz.prog,56,[(8,[0,0,0,0,1,0,0,1,0,0,1,0,0,0,2]),(15,[0,0,1,0,0,0,1,0,0,0,2]),(1000000,[3,2])],[],[]⟩) Tryz.mixed (by kernel_rfl) (fun m σ H'=>∃i:Nat,i+m=16∧σ 2=.ip (lM A) 0∧σ 3=.ip (lM B) 0∧σ 4=.ptr k3 0∧σ 5=.ptr k5 0∧σ 6=.sc (.int .i64 i)∧H'=(H.set k3 Z).set k5 (.cells (lM (NI i)) 126 31)) 16 ?_ ?_
 ·refine⟨0,by omega,?_⟩
  rw[eI0,z31]
  simp(disch:=omega)only[↓kX,kW,aS,simprocAttr]
  first|rfl|exact⟨rfl,rfl⟩|trace_state
 ·rintro m σ H' ⟨i,hi,g2,g3,g4,g5,g6,rfl⟩
  by_cases hlt:i<16
  ·have hb2:decide ((i:Int)<16)=true:=dT (by omega)
   have w1:IntKind.i64.wrap ((i:Int)+1)=((i+1:Nat):Int):=by rw[iw (by omega)];rfl
   have xa:=aA i hlt
   have e0:=eK0 i
   simp(disch:=omega)only[↓kX,kW,aS,simprocAttr,g2,g3,g4,g5,g6,hb2]
   refine br (c:=⟨Tryz.prog,56,[(8,[0,0,0,0,1,0,0,1,0,0,1,0,0,0,2]),(15,[0,0,1,0,0,0,1,0,0,0,2]),(1000000,[3,2])],[],[]⟩) Tryz.mixed (by kernel_rfl) (fun m2 σ2 H2=>∃k:Nat,k+m2=16∧σ2 2=.ip (lM A) 0∧σ2 3=.ip (lM B) 0∧σ2 4=.ptr k3 0∧σ2 5=.ptr k5 0∧σ2 6=.sc (.int .i64 i)∧σ2 7=.sc (.int .i64 k)∧H2=(H.set k3 Z).set k5 (.cells (lM (NK i k)) 126 31)) 16 ?_ ?_
   ·refine⟨0,by omega,?_⟩
    rw[e0]
    simp(disch:=omega)only[↓kX,kW,aS,simprocAttr,g2,g3,g4,g5,g6]
    first|rfl|exact⟨rfl,rfl⟩|trace_state
   ·clear g2 g3 g4 g5 g6
    clear σ
    rintro m2 σ H2 ⟨k,hk,g2,g3,g4,g5,g6,g7,rfl⟩
    by_cases hl2:k<16
    ·have hb3:decide ((k:Int)<16)=true:=dT (by omega)
     have w2:IntKind.i64.wrap ((k:Int)+1)=((k+1:Nat):Int):=by rw[iw (by omega)];rfl
     have w3:IntKind.i64.wrap ((i:Int)+(k:Int))=((i+k:Nat):Int):=by rw[iw (by omega)];omega
     have xb:=aB k hl2
     have hNl:=lNK i k hlt
     have xd:=mV (l:=NK i k) (i:=i+k) (by omega)
     have hput:=oO (l:=NK i k) (i:=i+k) (x:=(NK i k).getD (i+k) 0+A.getD i 0*B.getD k 0) (by omega)
     rw[←eK]at hput
     have hdl:(lM (NK i k)).length=31:=by rw[lO,hNl]
     have b1:=bK i hlt k (by omega) (i+k)
     have b2:=pM i k
     have w4:IntKind.i64.wrap (((A.getD i 0:Nat):Int)*((B.getD k 0:Nat):Int))=((A.getD i 0*B.getD k 0:Nat):Int):=by rw[←Int.natCast_mul];exact iw (by omega)
     generalize A.getD i 0*B.getD k 0=p at *
     generalize (NK i k).getD (i+k) 0=x at *
     have w5:IntKind.i64.wrap ((x:Int)+(p:Int))=((x+p:Nat):Int):=by rw[iw (by omega)];omega
     generalize A.getD i 0=xi at *
     generalize B.getD k 0=yk at *
     simp(disch:=omega)only[↓kX,kW,aS,simprocAttr,g2,g3,g4,g5,g6,g7,hb3,w2,w3,w4,w5,xa,xb,xd,hal,hbl,hdl,set_get,set_set,hput]
     exact⟨m2-1,by omega,k+1,by omega,rfl,rfl⟩
    ·obtain rfl:k=16:=by omega
     have hb3:decide (((16:Nat):Int)<16)=false:=by decide
     simp(disch:=omega)only[↓kX,kW,aS,simprocAttr,g2,g3,g4,g5,g6,g7,hb3,w1]
     exact⟨m-1,by omega,i+1,by omega,rfl,by rw[eI]⟩
  ·obtain rfl:i=16:=by omega
   have hb2:decide (((16:Nat):Int)<16)=false:=by decide
   have hNl:=lI 16 (by omega)
   have hNb:=bI 16 (by omega)
   have hdl:(lM (NI 16)).length=31:=by rw[lO,hNl]
   have xd:=fun j (h:j<31)=>mV (l:=NI 16) (i:=j) (by omega)
   generalize NI 16=N at *
   simp(disch:=omega)only[↓kX,kW,aS,simprocAttr,g2,g3,g4,g5,g6,hb2]
   intro k8 hk80 hk8
   have n58:=bK0 hk8
   have hk8a:=am hk8
   have n38:=bK0 hk8a
   have hk8':=am hk8a
   have v5:∀X Y Z,(((H.set k3 X).set k5 Y).set k8 Z) k5=some Y:=fun X Y Z=>by rw[aP n58,set_get]
   have v3:∀X Y Z,(((H.set k3 X).set k5 Y).set k8 Z) k3=some X:=fun X Y Z=>by rw[aP n38,v1]
   rw[←z16]
   refine br (c:=⟨Tryz.prog,56,[(8,[0,0,0,0,1,0,0,1,0,0,1,0,0,0,2]),(15,[0,0,1,0,0,0,1,0,0,0,2]),(1000000,[3,2])],[],[]⟩) Tryz.mixed (by kernel_rfl) (fun m σ H'=>∃i:Nat,i+m=16∧σ 4=.ptr k3 0∧σ 5=.ptr k5 0∧σ 8=.ptr k8 0∧σ 9=.sc (.int .i64 i)∧H'=((H.set k3 Z).set k5 (.cells (lM N) 126 31)).set k8 (.cells (lM (U i)) 46 16)) 16 ?_ ?_
   ·refine⟨0,by omega,?_⟩
    rw[u0]
    simp(disch:=omega)only[↓kX,kW,aS,simprocAttr,g4,g5]
    first|rfl|exact⟨rfl,rfl⟩|trace_state
   ·clear g2 g3 g4 g5 g6
    clear σ
    rintro m σ H' ⟨i,hi,g4,g5,g8,g9,rfl⟩
    have hUl:(lM (U i)).length=16:=by rw[lO,uL i]
    by_cases hlt:i<16
    ·have hb2:decide ((i:Int)<16)=true:=dT (by omega)
     have w1:IntKind.i64.wrap ((i:Int)+1)=((i+1:Nat):Int):=by rw[iw (by omega)];rfl
     have w2:IntKind.i64.wrap ((i:Int)+16)=((i+16:Nat):Int):=by rw[iw (by omega)];rfl
     have x1:=xd i (by omega)
     have b1:=hNb i
     have b2:=hNb (i+16)
     have hus:=uS i hlt
     by_cases h31:i+16<31
     ·have hb3:decide (((i+16:Nat):Int)<31)=true:=dT (by omega)
      have x2:=xd (i+16) h31
      obtain⟨d1,d2,d3,d4,d5,d6⟩:=car_step (L:=U i) (i:=i) (x:=N.getD i 0) (y:=N.getD i 0+38*N.getD (i+16) 0) (by rw[uL];omega) rfl
      rw[hus]at d4
      rw[uL]at d5 d6
      generalize N.getD i 0=x at *
      generalize N.getD (i+16) 0=y at *
      have w3:IntKind.i64.wrap (38*(y:Int))=((38*y:Nat):Int):=by rw[iw (by omega)];omega
      have w4:IntKind.i64.wrap ((x:Int)+((38*y:Nat):Int))=((x+38*y:Nat):Int):=by rw[iw (by omega)];omega
      simp(disch:=omega)only[↓kX,kW,aS,simprocAttr,g4,g5,g8,g9,hb2,hb3,w1,w2,w3,w4,x1,x2,v5,d2,d3,d4,d5,d6,hdl,set_get,set_set]
      exact⟨m-1,by omega,i+1,by omega,rfl,rfl⟩
     ·have hb3:decide (((i+16:Nat):Int)<31)=false:=dF (by omega)
      have hz:N.getD (i+16) 0=0:=by rw[List.getD,List.getElem?_eq_none (by omega)];rfl
      have hput:=oO (l:=U i) (i:=i) (x:=N.getD i 0) (by rw[uL];omega)
      rw[hz,Nat.mul_zero,Nat.add_zero]at hus
      rw[hus]at hput
      generalize N.getD i 0=x at *
      simp(disch:=omega)only[↓kX,kW,aS,simprocAttr,g4,g5,g8,g9,hb2,hb3,w1,w2,x1,v5,hput,hUl,hdl,set_get,set_set]
      exact⟨m-1,by omega,i+1,by omega,rfl,rfl⟩
    ·obtain rfl:i=16:=by omega
     have hb2:decide (((16:Nat):Int)<16)=false:=by decide
     have htk:(lM (U 16)).take 16=lM (U 16):=List.take_of_length_le (by omega)
     rw[hZ]
     simp(disch:=omega)only[↓kX,kW,aS,simprocAttr,g4,g5,g8,g9,hb2,hUl,htk,set_get]
     rw[ke]
     first|refine CallK.p (c1) ?_|refine CallP.i (c1) ?_
     simp(disch:=omega)only[↓kX,kW,aS,simprocAttr,g4,g5,g8,v3,set_get,set_set,hol,zx,tx,ke]
     exact(((Sub.set_new hk3').set_free hk5').set_free hk8').set_free hk3'
end Go.Proofs.YtcncplameclkfaaGreatDoor
end
section
set_option maxRecDepth 20000
set_option maxHeartbeats 8000000
namespace Go.Proofs.YtcncplameclkfaaGreatDoor
open Go Go.Abs Go.Proofs Go.Box
open Go.Nam (p25 lJ lT oQ mM mR nI DgX mh)
theorem fpower_pure(a e:Nat)(ha:a<p25)(he:(digs e).length≤1000):APure Tryz.prog 103 [fA a,D e] (fA (a^e % p25)):=by
 unfold fA
 have hp0:0<p25:=by decide
 have hla:=nE e
 have hend:=Go.Nam.pow_end a e _ hla
 have hdbl:=fun j=>Go.Nam.pow_dbl a j
 have hbit:=fun j=>Go.Nam.pow_bit a e j
 have hbo:=fun i k hk=>Go.Nam.bit_of e i k hk
 have hz1:a^(e % 2^0) % p25=1:=by rw[Nat.pow_zero,Nat.mod_one,Nat.pow_zero];rfl
 have hz2:a^2^0 % p25=a:=by rw[Nat.pow_zero,Nat.pow_one,Nat.mod_eq_of_lt ha]
 have l1:∀j,a^(e % 2^j) % p25<p25:=fun j=>Nat.mod_lt _ hp0
 have l2:∀j,a^2^j % p25<p25:=fun j=>Nat.mod_lt _ hp0
 have hdg:=oP e
 have hat:=fun i (h:i<(digs e).length)=>mV (l:=digs e) (i:=i) h
 have hnl:=lO (digs e)
 unfold D pZ
 rw[←hend]
 clear hend hla
 generalize hE:(fun j=>a^(e % 2^j) % p25)=E at *
 have hE':∀j,a^(e % 2^j) % p25=E j:=fun j=>by rw[←hE]
 generalize hA:(fun j=>a^2^j % p25)=A at *
 have hA':∀j,a^2^j % p25=A j:=fun j=>by rw[←hA]
 simp only[hE',hA']at hdbl hbit hz1 hz2 l1 l2 ⊢
 clear hE hA hE' hA'
 rw[←hz2]
 generalize digs e=L at *
 have c1:=nJ 1 (by decide)
 rw[←hz1]at c1
 have cM:=fun x y hx hy=>rW x y hx hy
 unfold fA at cM
 have sl:=nU
 have st:=mz
 have zx:=nO (sl (E 0))
 refine az (c:=⟨Tryz.prog,36,[],[],[]⟩) (rs:=[ResultVar.cell 4 46]) Tryz.mixed Tryz.func103 rfl rfl rfl (Nat.le_of_ble_eq_true rfl) (by kernel_rfl) fun H=>?_
 simp(disch:=omega)only[↓kX,kW,aS,simprocAttr,sl,st]
 intro k1 hk10 hk1 k2 hk20 hk2
 have n12:=bK0 hk2
 have hk2':=am hk2
 obtain⟨Z,hZ⟩:∃Z:AObj,Z=.cells [.sc (.int .i64 0),.sc (.int .i64 0),.sc (.int .i64 0),.sc (.int .i64 0),.sc (.int .i64 0),.sc (.int .i64 0),.sc (.int .i64 0),.sc (.int .i64 0),.sc (.int .i64 0),.sc (.int .i64 0),.sc (.int .i64 0),.sc (.int .i64 0),.sc (.int .i64 0),.sc (.int .i64 0),.sc (.int .i64 0),.sc (.int .i64 0)] 46 16:=⟨_,rfl⟩
 rw[←hZ]
 rw[hz1]at c1
 first|refine CallK.p (c1) ?_|refine CallP.i (c1) ?_
 simp(disch:=omega)only[↓kX,kW,aS,simprocAttr,sl,st]
 intro k3 hk30 hk3
 have n23:=bK0 hk3
 have hk3a:=am hk3
 have n13:=bK0 hk3a
 have hk3':=am hk3a
 have v1:∀X Y W,(((H.set k1 X).set k2 Y).set k3 W) k1=some X:=fun X Y W=>by rw[aP n13,lE n12]
 have v2:∀X Y W,(((H.set k1 X).set k2 Y).set k3 W) k2=some Y:=fun X Y W=>lE n23
 have s1:∀X Y W X',(((H.set k1 X).set k2 Y).set k3 W).set k1 X'=((H.set k1 X').set k2 Y).set k3 W:=fun X Y W X'=>by rw[fD n13,mG n12]
 have pa:∀x y,bG (lM (lJ x)) 0 (lM (lJ y))=lM (lJ y):=fun x y=>oX (by rw[sl,sl])
 rw[nO (sl 1)]
 refine br (c:=⟨Tryz.prog,36,[],[],[]⟩) Tryz.mixed (by kernel_rfl) (fun m σ H'=>∃i:Nat,i+m=L.length∧σ 1=.imm 0 (lM L) L.length∧σ 2=.ptr k1 0∧σ 4=.ptr k2 0∧σ 5=.ptr k3 0∧σ 6=.sc (.int .i64 i)∧H'=((H.set k1 (.cells (lM (lJ (A (8*i)))) 46 16)).set k2 Z).set k3 (.cells (lM (lJ (E (8*i)))) 46 16)) L.length ?_ ?_
 ·refine⟨0,by omega,?_⟩
  rw[Nat.mul_zero,hz1]
  simp(disch:=omega)only[↓kX,kW,aS,simprocAttr]
  first|rfl|exact⟨rfl,rfl⟩|trace_state
 ·rintro m σ H' ⟨i,hi,g1,g2,g4,g5,g6,rfl⟩
  by_cases hlt:i<L.length
  ·have hb:decide ((i:Int)<(L.length:Int))=true:=dT (by omega)
   have w1:IntKind.i64.wrap ((i:Int)+1)=((i+1:Nat):Int):=by rw[iw (by omega)];rfl
   have xa:=hat i hlt
   have hd:=hdg i
   have hdl:L.getD i 0<256:=by rw[hd];exact Nat.mod_lt _ (by decide)
   have hbi:=fun k h=>hbo i k h
   rw[←hd]at hbi
   generalize L.getD i 0=d at *
   simp(disch:=omega)only[↓kX,kW,aS,simprocAttr,g1,g2,g4,g5,g6,hb,xa,hnl]
   refine br (c:=⟨Tryz.prog,36,[],[],[]⟩) Tryz.mixed (by kernel_rfl) (fun m2 σ2 H2=>∃k:Nat,k+m2=8∧σ2 1=.imm 0 (lM L) L.length∧σ2 2=.ptr k1 0∧σ2 4=.ptr k2 0∧σ2 5=.ptr k3 0∧σ2 6=.sc (.int .i64 i)∧σ2 7=.sc (.int .i64 (d/2^k:Nat))∧σ2 8=.sc (.int .i64 k)∧H2=((H.set k1 (.cells (lM (lJ (A (8*i+k)))) 46 16)).set k2 Z).set k3 (.cells (lM (lJ (E (8*i+k)))) 46 16)) 8 ?_ ?_
   ·refine⟨0,by omega,?_⟩
    simp(disch:=omega)only[↓kX,kW,aS,simprocAttr,g1,g2,g4,g5,g6,Nat.pow_zero,Nat.div_one,Nat.add_zero]
    first|rfl|exact⟨rfl,rfl⟩|trace_state
   ·clear g1 g2 g4 g5 g6
    clear σ
    rintro m2 σ H2 ⟨k,hk,g1,g2,g4,g5,g6,g7,g8,rfl⟩
    by_cases hl2:k<8
    ·have hb2:decide ((k:Int)<8)=true:=dT (by omega)
     have w2:IntKind.i64.wrap ((k:Int)+1)=((k+1:Nat):Int):=by rw[iw (by omega)];rfl
     have hbk:=hbi k hl2
     have hdk:d/2^k≤d:=Nat.div_le_self _ _
     have hdd:d/2^k/2=d/2^(k+1):=by rw[Nat.div_div_eq_div_mul,Nat.pow_succ]
     have cE:=cM (E (8*i+k)) (A (8*i+k)) (l1 _) (l2 _)
     have cA:=cM (A (8*i+k)) (A (8*i+k)) (l2 _) (l2 _)
     have hbt:=hbit (8*i+k)
     rw[←hbk]at hbt
     rw[←hdbl,Nat.add_assoc]at cA
     rw[Nat.add_assoc]at hbt
     generalize d/2^k=y at *
     have w3:IntKind.i64.wrap ((y/2:Nat):Int)=((y/2:Nat):Int):=iw (by omega)
     rcases Nat.mod_two_eq_zero_or_one y with h|h
     ·have hq:(((y % 2:Nat):Int) == 1)=false:=by rw[h];rfl
      rw[h,if_neg (by decide)]at hbt
      simp(disch:=omega)only[↓kX,kW,aS,simprocAttr,g1,g2,g4,g5,g6,g7,g8,hb2,jd,hq,v1,sl,st]
      rw[ke]
      first|refine CallK.p (cA) ?_|refine CallP.i (cA) ?_
      simp(disch:=omega)only[↓kX,kW,aS,simprocAttr,g1,g2,g4,g5,g6,g7,g8,v1,s1,sl,st,pa,ke,nC,w2,w3]
      exact⟨m2-1,by omega,k+1,by omega,by rw[←hdd],rfl,by rw[hbt]⟩
     ·have hq:(((y % 2:Nat):Int) == 1)=true:=by rw[h];rfl
      rw[h,if_pos rfl]at hbt
      rw[←hbt]at cE
      simp(disch:=omega)only[↓kX,kW,aS,simprocAttr,g1,g2,g4,g5,g6,g7,g8,hb2,jd,hq,v1,set_get,sl,st]
      rw[ke,ke]
      first|refine CallK.p (cE) ?_|refine CallP.i (cE) ?_
      simp(disch:=omega)only[↓kX,kW,aS,simprocAttr,g1,g2,g4,g5,g6,g7,g8,v1,s1,set_get,set_set,sl,st,pa,ke]
      first|refine CallK.p (cA) ?_|refine CallP.i (cA) ?_
      simp(disch:=omega)only[↓kX,kW,aS,simprocAttr,g1,g2,g4,g5,g6,g7,g8,v1,s1,sl,st,pa,ke,nC,w2,w3]
      exact⟨m2-1,by omega,k+1,by omega,by rw[←hdd],rfl,rfl⟩
    ·obtain rfl:k=8:=by omega
     have hb2:decide (((8:Nat):Int)<8)=false:=by decide
     simp(disch:=omega)only[↓kX,kW,aS,simprocAttr,g1,g2,g4,g5,g6,g7,g8,hb2,w1]
     exact⟨m-1,by omega,i+1,by omega,rfl,by rw[Nat.mul_add]⟩
  ·obtain rfl:i=L.length:=by omega
   have hb:decide ((L.length:Int)<(L.length:Int))=false:=by simp
   rw[hZ]
   have zy:=nO (sl (E (8*L.length)))
   simp(disch:=omega)only[↓kX,kW,aS,simprocAttr,g1,g2,g4,g5,g6,hb,v2,set_get,sl,st,zy]
   trace_state
   refine⟨by rw[ke],?_⟩
   exact(((Sub.set_new hk1).set_free hk2').set_free hk3').set_free hk2'
theorem eqF0(a0 a1 a2 a3 a4 a5 a6 a7 a8 a9 a10 a11 a12 a13 a14 a15 b0 b1 b2 b3 b4 b5 b6 b7 b8 b9 b10 b11 b12 b13 b14 b15:Int):eqG Tryz.prog 6 46 (.agg [.sc (.int .i64 a0),.sc (.int .i64 a1),.sc (.int .i64 a2),.sc (.int .i64 a3),.sc (.int .i64 a4),.sc (.int .i64 a5),.sc (.int .i64 a6),.sc (.int .i64 a7),.sc (.int .i64 a8),.sc (.int .i64 a9),.sc (.int .i64 a10),.sc (.int .i64 a11),.sc (.int .i64 a12),.sc (.int .i64 a13),.sc (.int .i64 a14),.sc (.int .i64 a15)]) (.agg [.sc (.int .i64 b0),.sc (.int .i64 b1),.sc (.int .i64 b2),.sc (.int .i64 b3),.sc (.int .i64 b4),.sc (.int .i64 b5),.sc (.int .i64 b6),.sc (.int .i64 b7),.sc (.int .i64 b8),.sc (.int .i64 b9),.sc (.int .i64 b10),.sc (.int .i64 b11),.sc (.int .i64 b12),.sc (.int .i64 b13),.sc (.int .i64 b14),.sc (.int .i64 b15)])=some ((a0 == b0)&&((a1 == b1)&&((a2 == b2)&&((a3 == b3)&&((a4 == b4)&&((a5 == b5)&&((a6 == b6)&&((a7 == b7)&&((a8 == b8)&&((a9 == b9)&&((a10 == b10)&&((a11 == b11)&&((a12 == b12)&&((a13 == b13)&&((a14 == b14)&&((a15 == b15)&&true)))))))))))))))):=by kernel_rfl
theorem ckF0(a0 a1 a2 a3 a4 a5 a6 a7 a8 a9 a10 a11 a12 a13 a14 a15:AV):cl0 Tryz.prog 6 46 (.agg [a0,a1,a2,a3,a4,a5,a6,a7,a8,a9,a10,a11,a12,a13,a14,a15])=true:=by kernel_rfl
theorem eqF{l l':List Nat}(h:l.length=16)(h':l'.length=16):eqG Tryz.prog 6 46 (.agg (lM l)) (.agg (lM l'))=some (decide (l=l')):=by
 match l,h,l',h' with
 |[a0,a1,a2,a3,a4,a5,a6,a7,a8,a9,a10,a11,a12,a13,a14,a15],_,[b0,b1,b2,b3,b4,b5,b6,b7,b8,b9,b10,b11,b12,b13,b14,b15],_=>
  show eqG Tryz.prog 6 46 (.agg [.sc (.int .i64 (a0:Nat)),.sc (.int .i64 (a1:Nat)),.sc (.int .i64 (a2:Nat)),.sc (.int .i64 (a3:Nat)),.sc (.int .i64 (a4:Nat)),.sc (.int .i64 (a5:Nat)),.sc (.int .i64 (a6:Nat)),.sc (.int .i64 (a7:Nat)),.sc (.int .i64 (a8:Nat)),.sc (.int .i64 (a9:Nat)),.sc (.int .i64 (a10:Nat)),.sc (.int .i64 (a11:Nat)),.sc (.int .i64 (a12:Nat)),.sc (.int .i64 (a13:Nat)),.sc (.int .i64 (a14:Nat)),.sc (.int .i64 (a15:Nat))]) (.agg [.sc (.int .i64 (b0:Nat)),.sc (.int .i64 (b1:Nat)),.sc (.int .i64 (b2:Nat)),.sc (.int .i64 (b3:Nat)),.sc (.int .i64 (b4:Nat)),.sc (.int .i64 (b5:Nat)),.sc (.int .i64 (b6:Nat)),.sc (.int .i64 (b7:Nat)),.sc (.int .i64 (b8:Nat)),.sc (.int .i64 (b9:Nat)),.sc (.int .i64 (b10:Nat)),.sc (.int .i64 (b11:Nat)),.sc (.int .i64 (b12:Nat)),.sc (.int .i64 (b13:Nat)),.sc (.int .i64 (b14:Nat)),.sc (.int .i64 (b15:Nat))])=_
  rw[eqF0]
  congr 1
  rw[Bool.eq_iff_iff]
  simp only[Bool.and_eq_true,beq_iff_eq,decide_eq_true_eq,List.cons.injEq,and_true,Int.ofNat_inj,Int.natCast_inj]
theorem ckF{l:List Nat}(h:l.length=16):cl0 Tryz.prog 6 46 (.agg (lM l))=true:=by
 match l,h with
 |[a0,a1,a2,a3,a4,a5,a6,a7,a8,a9,a10,a11,a12,a13,a14,a15],_=>exact ckF0 _ _ _ _ _ _ _ _ _ _ _ _ _ _ _ _
theorem digX_inj{a b:Nat}(ha:a<p25)(hb:b<p25):lJ a=lJ b↔a=b:=⟨fun h=>by rw[←nI (p25_lt ha),h,nI (p25_lt hb)],fun h=>by rw[h]⟩
theorem less25_pure(n b:Nat)(hn:0<n)(hn2:n<256)(hb:0<b)(hb2:b<256):APure Tryz.prog 104 [.sc (.int .i64 n),.sc (.int .i64 b)] (D ((p25-n)/b)):=by
 have c1:=sM
 have hdn:digs n=[n]:=by
  rw[qH hn,Nat.mod_eq_of_lt hn2,Nat.div_eq_of_lt hn2,qQ]
 have hpl:(digs p25).length=32:=by rw[digs_p];rfl
 have hnp:n≤p25:=Nat.le_of_lt (Nat.lt_trans hn2 (by decide))
 have c2:=minus_pure p25 n hnp (by rw[hpl];decide) (by rw[hdn];simp)
 unfold D pZ at c2
 rw[hdn]at c2
 have hNl:=nE (p25-n)
 have hNb:(digs (p25-n)).length≤32:=dlen (Nat.lt_of_le_of_lt (Nat.sub_le _ _) (by decide))
 have hat:=fun i (h:i<(digs (p25-n)).length)=>mV (l:=digs (p25-n)) (i:=i) h
 have hdg:=oP (p25-n)
 have hnl:=lO (digs (p25-n))
 have hq:=fun i=>Go.Nam.quo_step ((p25-n)/256^(i+1)) ((p25-n)/256^i % 256) b hb (Nat.mod_lt _ (by decide))
 have hst:∀i,256*((p25-n)/256^(i+1))+(p25-n)/256^i % 256=(p25-n)/256^i:=fun i=>by
  rw[Nat.pow_succ,←Nat.div_div_eq_div_mul]
  omega
 have htr:=pV (oZ (digs (p25-n)).length ((p25-n)/b)) (fstD_ok _ _) (by rw[nW];omega)
 rw[trim_fst (Nat.lt_of_le_of_lt (Nat.div_le_self _ _) hNl)]at htr
 unfold pZ at htr
 rw[nW]at htr
 have hfl:=fun k q=>nW k q
 have hqd:=fun q x k hx=>Go.Nam.quo_digs q x k hx
 have hz:(p25-n)/256^(digs (p25-n)).length=0:=Nat.div_eq_of_lt hNl
 unfold D pZ
 generalize p25-n=N at *
 generalize digs N=L at *
 refine az (c:=⟨Tryz.prog,39,[],[31],[]⟩) (rs:=[ResultVar.tmp 4]) Tryz.mixed Tryz.func104 rfl rfl rfl (Nat.le_of_ble_eq_true rfl) (by kernel_rfl) fun H=>?_
 simp(disch:=omega)only[↓kX,kW,aS,simprocAttr]
 first|refine CallK.p (c1) ?_|refine CallP.i (c1) ?_
 simp(disch:=omega)only[↓kX,kW,aS,simprocAttr]
 have w0:IntKind.i64.wrap ((L.length:Int)-1)=(L.length:Int)-1:=iw (by omega)
 have c2:APure Tryz.prog 138 [.imm 0 (lM (digs p25)) (digs p25).length,.imm 0 [.sc (.int .i64 n)] 1] (.imm 0 (lM L) L.length):=c2
 first|refine CallK.p (c2) ?_|refine CallP.i (c2) ?_
 simp(disch:=omega)only[↓kX,kW,aS,simprocAttr,w0]
 refine nil_l 6 (by simp(disch:=omega)only[↓kX,kW,aS,simprocAttr]) ?_
 refine br (c:=⟨Tryz.prog,39,[],[31],[]⟩) Tryz.mixed (by kernel_rfl) (fun m σ H'=>∃z:Int,z=(m:Int)-1∧m≤L.length∧σ 1=.sc (.int .i64 b)∧σ 5=.imm 0 (lM L) L.length∧(∃kk,σ 6=.imm kk (lM (oZ (L.length-m) (N/256^m/b))) (L.length-m))∧σ 7=.sc (.int .i64 (N/256^m % b:Nat))∧σ 8=.sc (.int .i64 z)∧Abs.Sub H H') L.length ?_ ?_
 ·refine⟨(L.length:Int)-1,by omega,by omega,?_⟩
  rw[hz,Nat.zero_mod,Nat.sub_self]
  have e0:oZ 0 (0/b)=[]:=rfl
  rw[e0]
  simp(disch:=omega)only[↓kX,kW,aS,simprocAttr]
  first|exact⟨rfl,⟨0,rfl⟩,rfl,Abs.Sub.refl _⟩|exact⟨⟨0,rfl⟩,rfl,Abs.Sub.refl _⟩|exact⟨⟨0,rfl⟩,Abs.Sub.refl _⟩|trace_state
 ·rintro m σ H' ⟨z,hz1,hm,g1,g5,⟨kk,g6⟩,g7,g8,hsub⟩
  match m with
  |0=>
   obtain rfl:z = -1:=by omega
   have hb3:decide ((0:Int) ≤ -1)=false:=by decide
   rw[Nat.pow_zero,Nat.div_one,Nat.sub_zero]at g6
   simp(disch:=omega)only[↓kX,kW,aS,simprocAttr,g1,g5,g6,g7,g8,hb3]
   first|refine CallK.p (htr) ?_|refine CallP.i (htr) ?_
   simp(disch:=omega)only[↓kX,kW,aS,simprocAttr]
   exact hsub
  |i+1=>
   obtain rfl:z=(i:Int):=by omega
   have hb3:decide ((0:Int)≤(i:Int))=true:=by simp
   have hax:=hat i (by omega)
   have hgi:=hdg i
   rw[hgi]at hax
   obtain⟨q1,q2,q3⟩:=hq i
   rw[hst i]at q1 q3
   have hqi:=hqd (N/256^(i+1)/b) ((N/256^(i+1) % b*256+N/256^i % 256)/b) (L.length-(i+1)) q2
   rw[←q1,show L.length-(i+1)+1=L.length-i by omega]at hqi
   have hr:=Nat.mod_lt (N/256^(i+1)) hb
   have hx:N/256^i % 256<256:=Nat.mod_lt _ (by decide)
   have hfli:=hfl (L.length-(i+1)) (N/256^(i+1)/b)
   generalize oZ (L.length-(i+1)) (N/256^(i+1)/b)=F at *
   generalize N/256^(i+1) % b=r at *
   generalize N/256^i % 256=x at *
   have hFl:=lO F
   rw[hfli]at hFl
   have w1:IntKind.i64.wrap ((i:Int)-1)=(i:Int)-1:=iw (by omega)
   have w2:IntKind.i64.wrap ((r:Int)*256)=((r*256:Nat):Int):=by rw[iw (by omega)];omega
   have w3:IntKind.i64.wrap (((r*256:Nat):Int)+(x:Int))=((r*256+x:Nat):Int):=by rw[iw (by omega)];omega
   obtain⟨y,hy⟩:∃y,y=(r*256+x)/b:=⟨_,rfl⟩
   obtain⟨u,hu⟩:∃u,u=(r*256+x) % b:=⟨_,rfl⟩
   rw[←hy]at hqi q2
   rw[←hu]at q3
   have w4:IntKind.i64.wrap (y:Int)=(y:Int):=iw (by omega)
   have hbq:(((b:Nat):Int) == 0)=false:=beq_eq_false_iff_ne.2 (by omega)
   have hb4:¬((b:Nat):Int)=0:=by omega
   have td:(((r*256+x:Nat):Int)).tdiv (b:Int)=(y:Int):=by rw[hy];rfl
   have tm:(((r*256+x:Nat):Int)).tmod (b:Int)=(u:Int):=by rw[hu];rfl
   simp(disch:=omega)only[↓kX,kW,aS,simprocAttr,g1,g5,g6,g7,g8,hb3,hax,hnl,w2,w3,hbq,td,tm,w4]
   intro k hk0 hk
   simp(disch:=omega)only[↓kX,kW,aS,simprocAttr,hk0,set_get,hFl]
   intro k' o' hk0' hk' ho'
   have hk1:H' k'=none:=am hk'
   try rw[ef hk]
   simp(disch:=omega)only[↓kX,kW,aS,simprocAttr,g1,g5,g8,w1,w4,hbq,td,tm,hb4]
   refine⟨i,by omega,(i:Int)-1,by omega,by omega,⟨k',?_⟩,?_,rfl,hsub.trans (Sub.set_new hk1)⟩
   ·rw[hqi]
    rw[show 1+(L.length-(i+1))=L.length-i by omega]
    rfl
   ·rw[q3]
theorem dlen25{n:Nat}(h:n≤p25):(digs n).length≤1000:=by
 have:=dlen (n:=n) (k:=32) (Nat.lt_of_le_of_lt h (by decide))
 omega
theorem finv_pure(a:Nat)(ha:a<p25):APure Tryz.prog 53 [fA a] (fA (a^(p25-2) % p25)):=by
 unfold fA
 have c1:=less25_pure 2 1 (by decide) (by decide) (by decide) (by decide)
 rw[Nat.div_one]at c1
 have c2:=fpower_pure a (p25-2) ha (dlen25 (Nat.sub_le _ _))
 unfold fA at c2
 have sl:=nU
 have st:=mz
 have zx:=nO (sl (a^(p25-2) % p25))
 generalize a^(p25-2) % p25=r at *
 generalize p25-2=e at *
 refine az (c:=⟨Tryz.prog,6,[(1,[1,0,0,2]),(1000000,[1])],[],[]⟩) (rs:=[ResultVar.cell 2 46]) Tryz.mixed Tryz.func53 rfl rfl rfl (Nat.le_of_ble_eq_true rfl) (by kernel_rfl) fun H=>?_
 simp(disch:=omega)only[↓kX,kW,aS,simprocAttr,sl,st]
 intro k1 hk10 hk1 k2 hk20 hk2
 have n12:=bK0 hk2
 have hk2':=am hk2
 have v1:∀X Y,((H.set k1 X).set k2 Y) k1=some X:=fun X Y=>lE n12
 simp(disch:=omega)only[↓kX,kW,aS,simprocAttr,v1,mD n12 hk1,sl,st,ke]
 first|refine CallK.p (c1) ?_|refine CallP.i (c1) ?_
 simp(disch:=omega)only[↓kX,kW,aS,simprocAttr]
 first|refine CallK.p (c2) ?_|refine CallP.i (c2) ?_
 simp(disch:=omega)only[↓kX,kW,aS,simprocAttr,set_get,set_set,sl,st,zx,ke]
 first|exact Sub.set_new hk2'|exact⟨rfl,Sub.set_new hk2'⟩|trace_state
theorem feven_pure(r a:Nat)(hr:r<p25)(ha:a<p25):APure Tryz.prog 150 [fA r,fA a] (.sc (.bool (decide (r % 2=0∧r*r % p25=a)))):=by
 unfold fA
 have sl:=nU
 have st:=mz
 have c1:=rW r r hr hr
 unfold fA at c1
 have a0:=mV (l:=lJ r) (i:=0) (by rw[lT];omega)
 have g0:=oQ r 0 (by omega)
 rw[Nat.pow_zero,Nat.div_one]at g0
 have hq:=eqF (lT (r*r % p25)) (lT a)
 have hc1:=ckF (lT (r*r % p25))
 have hc2:=ckF (lT a)
 have hi:=digX_inj (a:=r*r % p25) (b:=a) (Nat.mod_lt _ (by decide)) ha
 rw[show decide (lJ (r*r % p25)=lJ a)=decide (r*r % p25=a) by rw[decide_eq_decide];exact hi]at hq
 refine az (c:=⟨Tryz.prog,16,[(1,[0,1,0,0,0,1,1,0,1,0,0,0]),(1000000,[3,2])],[],[]⟩) (rs:=[ResultVar.tmp 4]) Tryz.mixed Tryz.func150 rfl rfl rfl (Nat.le_of_ble_eq_true rfl) (by kernel_rfl) fun H=>?_
 simp(disch:=omega)only[↓kX,kW,aS,simprocAttr,sl,st]
 intro k1 hk10 hk1 k2 hk20 hk2
 have n12:=bK0 hk2
 have hk2':=am hk2
 have v1:∀X Y,((H.set k1 X).set k2 Y) k1=some X:=fun X Y=>lE n12
 by_cases h2:r % 2=0
 ·have hb:((((lJ r).getD 0 0 % 2:Nat):Int) == 0)=true:=by rw[g0,show r % 65536 % 2=r % 2 by omega,h2];rfl
  rw[show decide (r % 2=0∧r*r % p25=a)=decide (r*r % p25=a) by simp[h2]]
  generalize (lJ r).getD 0 0=x at *
  generalize decide (r*r % p25=a)=bq at *
  simp(disch:=omega)only[↓kX,kW,aS,simprocAttr,v1,mD n12 hk1,aj hk1,aj hk2,set_get,sl,st,jd,a0,hb,ke]
  have heo:bB0 Tryz.prog 46=true:=by kernel_rfl
  first|refine CallK.p (c1) ?_|refine CallP.i (c1) ?_
  simp(disch:=omega)only[↓kX,kW,aS,simprocAttr,hb,hq,hc1,hc2,heo,sl,st,ke]
  first|exact Abs.Sub.refl _|exact⟨rfl,Abs.Sub.refl _⟩|trace_state
 ·have hb:((((lJ r).getD 0 0 % 2:Nat):Int) == 0)=false:=by rw[g0,show r % 65536 % 2=r % 2 by omega,show r % 2=1 by omega];rfl
  rw[show decide (r % 2=0∧r*r % p25=a)=false by simp[h2]]
  generalize (lJ r).getD 0 0=x at *
  simp(disch:=omega)only[↓kX,kW,aS,simprocAttr,v1,mD n12 hk1,aj hk1,aj hk2,set_get,sl,st,jd,a0,hb,ke]
  first|exact Abs.Sub.refl _|exact⟨rfl,Abs.Sub.refl _⟩|trace_state
def rootF(t a:Nat):Nat→Nat→Nat × Bool
 |0,_=>(0,false)
 |n+1,x=>if x % 2=0∧x*x % p25=a then (x,true) else rootF t a n (x*t % p25)
def rootD(a:Nat):Nat × Bool:=rootF Go.Nam.turnN a 4 (a^((p25-5)/8) % p25*a % p25)
theorem froot_pure(a:Nat)(ha:a<p25):APure Tryz.prog 131 [fA a] (.tup [fA (rootD a).1,.sc (.bool (rootD a).2)]):=by
 unfold rootD
 have hp0:0<p25:=by decide
 have c0:=nJ 2 (by decide)
 have c1:=less25_pure 1 4 (by decide) (by decide) (by decide) (by decide)
 have c2:=fpower_pure 2 ((p25-1)/4) (by decide) (dlen25 (Nat.le_trans (Nat.div_le_self _ _) (Nat.sub_le _ _)))
 have c3:=less25_pure 5 8 (by decide) (by decide) (by decide) (by decide)
 have c4:=fpower_pure a ((p25-5)/8) ha (dlen25 (Nat.le_trans (Nat.div_le_self _ _) (Nat.sub_le _ _)))
 rw[Go.Nam.turn_eq]at c2
 have ht:=Go.Nam.turn_lt
 have hy:a^((p25-5)/8) % p25<p25:=Nat.mod_lt _ hp0
 have c5:=rW (a^((p25-5)/8) % p25) a hy ha
 have hx0:a^((p25-5)/8) % p25*a % p25<p25:=Nat.mod_lt _ hp0
 generalize Go.Nam.turnN=t at *
 generalize a^((p25-5)/8) % p25*a % p25=x0 at *
 generalize a^((p25-5)/8) % p25=y at *
 generalize (p25-5)/8=e8 at *
 generalize (p25-1)/4=e4 at *
 have cE:=fun x (h:x<p25)=>feven_pure x a h ha
 have cM:=fun x (h:x<p25)=>rW x t h ht
 have cz:=nJ 0 (by decide)
 unfold fA at *
 have sl:=nU
 have st:=mz
 have zx:=fun x=>nO (sl x)
 have pa:∀x y,bG (lM (lJ x)) 0 (lM (lJ y))=lM (lJ y):=fun x y=>oX (by rw[sl,sl])
 obtain⟨Z,hZ⟩:∃Z:AObj,Z=.cells [.sc (.int .i64 0),.sc (.int .i64 0),.sc (.int .i64 0),.sc (.int .i64 0),.sc (.int .i64 0),.sc (.int .i64 0),.sc (.int .i64 0),.sc (.int .i64 0),.sc (.int .i64 0),.sc (.int .i64 0),.sc (.int .i64 0),.sc (.int .i64 0),.sc (.int .i64 0),.sc (.int .i64 0),.sc (.int .i64 0),.sc (.int .i64 0)] 46 16:=⟨_,rfl⟩
 refine az (c:=⟨Tryz.prog,27,[(2,[0,0,0,0,0,2,2]),(1000000,[1]),(1000001,[4])],[],[]⟩) (rs:=[ResultVar.cell 2 46,ResultVar.tmp 3]) Tryz.mixed Tryz.func131 rfl rfl rfl (Nat.le_of_ble_eq_true rfl) (by kernel_rfl) fun H=>?_
 simp(disch:=omega)only[↓kX,kW,aS,simprocAttr,sl,st]
 intro k1 hk10 hk1 k2 hk20 hk2
 have n12:=bK0 hk2
 have hk2':=am hk2
 have v1:∀X Y,((H.set k1 X).set k2 Y) k1=some X:=fun X Y=>lE n12
 rw[←hZ]
 simp(disch:=omega)only[↓kX,kW,aS,simprocAttr,v1,mD n12 hk1,sl,st,ke]
 first|refine CallK.p (c0) ?_|refine CallP.i (c0) ?_
 simp(disch:=omega)only[↓kX,kW,aS,simprocAttr]
 first|refine CallK.p (c1) ?_|refine CallP.i (c1) ?_
 simp(disch:=omega)only[↓kX,kW,aS,simprocAttr]
 first|refine CallK.p (c2) ?_|refine CallP.i (c2) ?_
 simp(disch:=omega)only[↓kX,kW,aS,simprocAttr,sl,st,ke]
 intro k4 hk40 hk4
 rw[zx,aj hk4]
 first|refine CallK.p (c3) ?_|refine CallP.i (c3) ?_
 simp(disch:=omega)only[↓kX,kW,aS,simprocAttr,sl,st,ke]
 first|refine CallK.p (c4) ?_|refine CallP.i (c4) ?_
 simp(disch:=omega)only[↓kX,kW,aS,simprocAttr,sl,st,ke]
 first|refine CallK.p (c5) ?_|refine CallP.i (c5) ?_
 simp(disch:=omega)only[↓kX,kW,aS,simprocAttr,sl,st,ke]
 intro k5 hk50 hk5
 have n25:=bK0 hk5
 have hk5':=am hk5
 have u1:∀X Y,((H.set k2 X).set k5 Y) k2=some X:=fun X Y=>lE n25
 rw[zx]
 refine br (c:=⟨Tryz.prog,27,[(2,[0,0,0,0,0,2,2]),(1000000,[1]),(1000001,[4])],[],[]⟩) Tryz.mixed (by kernel_rfl) (fun m σ H'=>∃(i:Nat) (x:Nat),i+m=4∧x<p25∧rootF t a m x=rootF t a 4 x0∧σ 1=.ip (lM (lJ a)) 0∧σ 2=.ptr k2 0∧σ 3=.sc (.bool false)∧σ 4=.ip (lM (lJ t)) 0∧σ 5=.ptr k5 0∧σ 6=.sc (.int .i64 i)∧H'=(H.set k2 Z).set k5 (.cells (lM (lJ x)) 46 16)) 4 ?_ ?_
 ·refine⟨0,x0,by omega,hx0,rfl,?_⟩
  simp(disch:=omega)only[↓kX,kW,aS,simprocAttr]
  first|rfl|exact⟨rfl,rfl⟩|trace_state
 ·rintro m σ H' ⟨i,x,hi,hx,hroot,g1,g2,g3,g4,g5,g6,rfl⟩
  rw[←hroot]
  by_cases hlt:i<4
  ·have hb:decide ((i:Int)<4)=true:=dT (by omega)
   have w1:IntKind.i64.wrap ((i:Int)+1)=((i+1:Nat):Int):=by rw[iw (by omega)];rfl
   obtain⟨m,rfl⟩:∃m',m=m'+1:=⟨m-1,by omega⟩
   have ce:=cE x hx
   have cm:=cM x hx
   by_cases hc:x % 2=0∧x*x % p25=a
   ·have hR:rootF t a (m+1) x=(x,true):=by rw[rootF,if_pos hc]
    rw[hR]
    rw[decide_eq_true hc]at ce
    rw[hZ]
    simp(disch:=omega)only[↓kX,kW,aS,simprocAttr,g1,g2,g3,g4,g5,g6,hb,u1,set_get,sl,st]
    rw[ke,ke]
    first|refine CallK.p (ce) ?_|refine CallP.i (ce) ?_
    simp(disch:=omega)only[↓kX,kW,aS,simprocAttr,g1,g2,g3,g4,g5,g6,u1,set_get,sl,st,zx,ke]
    exact((Sub.set_new hk2').set_free hk5').set_free hk2'
   ·have hR:rootF t a (m+1) x=rootF t a m (x*t % p25):=by rw[rootF,if_neg hc]
    have hR2:=hroot
    rw[hR]at hR2
    rw[decide_eq_false hc]at ce
    simp(disch:=omega)only[↓kX,kW,aS,simprocAttr,g1,g2,g3,g4,g5,g6,hb,u1,set_get,sl,st]
    rw[ke,ke]
    first|refine CallK.p (ce) ?_|refine CallP.i (ce) ?_
    simp(disch:=omega)only[↓kX,kW,aS,simprocAttr,g1,g2,g3,g4,g5,g6,u1,set_get,sl,st,ke]
    first|refine CallK.p (cm) ?_|refine CallP.i (cm) ?_
    simp(disch:=omega)only[↓kX,kW,aS,simprocAttr,g1,g2,g3,g4,g5,g6,u1,set_get,set_set,sl,st,pa,w1,ke]
    exact⟨m,by omega,i+1,x*t % p25,by omega,Nat.mod_lt _ hp0,by rw[hR],rfl,rfl⟩
  ·obtain rfl:i=4:=by omega
   obtain rfl:m=0:=by omega
   have hb:decide (((4:Nat):Int)<4)=false:=by decide
   rw[rootF]
   rw[hZ]
   simp(disch:=omega)only[↓kX,kW,aS,simprocAttr,g1,g2,g3,g4,g5,g6,hb]
   first|refine CallK.p (cz) ?_|refine CallP.i (cz) ?_
   simp(disch:=omega)only[↓kX,kW,aS,simprocAttr,g1,g2,g3,g4,g5,g6,u1,set_get,sl,st,zx,ke]
   exact((Sub.set_new hk2').set_free hk5').set_free hk2'
def decF(b:List UInt8):Nat × Nat:=if b.length≠32 then (0,1) else if lY b<p25 then (lY b,0) else (0,6)
theorem fdecode_pure(b:List UInt8)(hb:b.length≤1000000):APure Tryz.prog 78 [eu b] (.tup [fA (decF b).1,.sc (.int .i64 (decF b).2)]):=by
 unfold decF
 have cz:=nJ 0 (by decide)
 unfold fA at *
 have sl:=nU
 have zx:=fun x=>nO (sl x)
 have st:=mz
 by_cases h32:b.length=32
 ·rw[if_neg (by simp[h32])]
  have hb1:((b.length:Int) != 32)=false:=by rw[h32];rfl
  have c1:=qj b hb
  have c2:=sM
  have hl:=pq b
  rw[h32]at hl
  have c3:=less_pure (lY b) p25 (by have:=dlen (n:=lY b) (k:=32) hl;omega) (dlen25 (Nat.le_refl _))
  have c4:=sO (lY b) hl
  generalize lY b=n at *
  by_cases hlt:n<p25
  ·rw[if_pos hlt]
   rw[decide_eq_true hlt]at c3
   generalize p25=q at *
   refine az (c:=⟨Tryz.prog,18,[],[],[]⟩) (rs:=[ResultVar.cell 2 46,ResultVar.tmp 3]) Tryz.mixed Tryz.func78 rfl rfl rfl (Nat.le_of_ble_eq_true rfl) (by kernel_rfl) fun H=>?_
   simp(disch:=omega)only[↓kX,kW,aS,simprocAttr,hb1]
   intro k1 hk10 hk1
   first|refine CallK.p (c1) ?_|refine CallP.i (c1) ?_
   simp(disch:=omega)only[↓kX,kW,aS,simprocAttr]
   first|refine CallK.p (c2) ?_|refine CallP.i (c2) ?_
   simp(disch:=omega)only[↓kX,kW,aS,simprocAttr]
   first|refine CallK.p (c3) ?_|refine CallP.i (c3) ?_
   simp(disch:=omega)only[↓kX,kW,aS,simprocAttr]
   first|refine CallK.p (c4) ?_|refine CallP.i (c4) ?_
   simp(disch:=omega)only[↓kX,kW,aS,simprocAttr,set_get,set_set,sl,st,zx,ke]
   first|exact Sub.set_new hk1|exact⟨rfl,Sub.set_new hk1⟩|trace_state
  ·rw[if_neg hlt]
   rw[decide_eq_false hlt]at c3
   generalize p25=q at *
   refine az (c:=⟨Tryz.prog,18,[],[],[]⟩) (rs:=[ResultVar.cell 2 46,ResultVar.tmp 3]) Tryz.mixed Tryz.func78 rfl rfl rfl (Nat.le_of_ble_eq_true rfl) (by kernel_rfl) fun H=>?_
   simp(disch:=omega)only[↓kX,kW,aS,simprocAttr,hb1]
   intro k1 hk10 hk1
   first|refine CallK.p (c1) ?_|refine CallP.i (c1) ?_
   simp(disch:=omega)only[↓kX,kW,aS,simprocAttr]
   first|refine CallK.p (c2) ?_|refine CallP.i (c2) ?_
   simp(disch:=omega)only[↓kX,kW,aS,simprocAttr]
   first|refine CallK.p (c3) ?_|refine CallP.i (c3) ?_
   simp(disch:=omega)only[↓kX,kW,aS,simprocAttr]
   first|refine CallK.p (cz) ?_|refine CallP.i (cz) ?_
   simp(disch:=omega)only[↓kX,kW,aS,simprocAttr,set_get,set_set,sl,st,zx,ke]
   first|exact Sub.set_new hk1|exact⟨rfl,Sub.set_new hk1⟩|trace_state
 ·rw[if_pos h32]
  have hb1:((b.length:Int) != 32)=true:=nT (by omega)
  refine az (c:=⟨Tryz.prog,18,[],[],[]⟩) (rs:=[ResultVar.cell 2 46,ResultVar.tmp 3]) Tryz.mixed Tryz.func78 rfl rfl rfl (Nat.le_of_ble_eq_true rfl) (by kernel_rfl) fun H=>?_
  simp(disch:=omega)only[↓kX,kW,aS,simprocAttr,hb1]
  intro k1 hk10 hk1
  first|refine CallK.p (cz) ?_|refine CallP.i (cz) ?_
  simp(disch:=omega)only[↓kX,kW,aS,simprocAttr,set_get,set_set,sl,st,zx,ke]
  first|exact Sub.set_new hk1|exact⟨rfl,Sub.set_new hk1⟩|trace_state
theorem fencode_pure(a:Nat)(ha:a<p25):APure Tryz.prog 52 [fA a] (eu (lQ 32 a)):=by
 unfold fA
 have sl:=nU
 have st:=mz
 have hlt:a<256^32:=Nat.lt_trans ha (by decide)
 have c1:=qW a hlt
 have c2:=told_pure a 32 (by decide) (by have:=dlen (n:=a) (k:=32) hlt;omega)
 generalize lQ 32 a=R at *
 refine az (c:=⟨Tryz.prog,6,[(1000000,[1])],[],[]⟩) (rs:=[ResultVar.tmp 2]) Tryz.mixed Tryz.func52 rfl rfl rfl (Nat.le_of_ble_eq_true rfl) (by kernel_rfl) fun H=>?_
 simp(disch:=omega)only[↓kX,kW,aS,simprocAttr,sl,st]
 intro k1 hk10 hk1
 simp(disch:=omega)only[↓kX,kW,aS,simprocAttr,set_get,aj hk1,sl,st]
 rw[ke]
 first|refine CallK.p (c1) ?_|refine CallP.i (c1) ?_
 simp(disch:=omega)only[↓kX,kW,aS,simprocAttr]
 first|refine CallK.p (c2) ?_|refine CallP.i (c2) ?_
 simp(disch:=omega)only[↓kX,kW,aS,simprocAttr]
 first|exact Abs.Sub.refl _|exact⟨rfl,Abs.Sub.refl _⟩|trace_state
end Go.Proofs.YtcncplameclkfaaGreatDoor
end
