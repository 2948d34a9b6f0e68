/-
  Several texts in one: each says what it proves.
  Conditions: none. Lemmas only.
-/
import Derived.Test.YtcncplameclkfaaGreatDoorNxG1
import Derived.Test.YtcncplameclkfaaGreatDoorNwG3
import Derived.Test.YtcncplameclkfaaGreatDoorNwG5
set_option linter.all false
section
set_option maxRecDepth 20000
set_option maxHeartbeats 4000000
namespace Go.Proofs.YtcncplameclkfaaGreatDoor
open Go Go.Abs Go.Proofs Go.Box
open Go.Nam (p25 Fq dE W4 Pt rM wzero og On mF basP qK qL zeroP mZ inv)
theorem sqrV_lt(b:Nat):sqrV b<p25:=by
 unfold sqrV
 have hr:mU (b^((p25+3)/8) % p25) Go.Nam.turnN b<p25:=by
  unfold mU
  split
  ·exact Nat.mod_lt _ (by decide)
  ·exact Nat.mod_lt _ (by decide)
 generalize mU (b^((p25+3)/8) % p25) Go.Nam.turnN b=r at *
 unfold rootV
 split
 ·exact hr
 ·exact Nat.mod_lt _ (by decide)
noncomputable def rootQ(u:Fq):Option Fq:=@ite _ (sqrB u.val) (Classical.propDecidable _) (some ⟨sqrV u.val,sqrV_lt _⟩) none
def oW:Option Fq→AV
 |some x=>.tup [.agg (cN x),.sc (.bool true)]
 |none=>.tup [.agg (cN 0),.sc (.bool false)]
def rootD':Option Fq→AV
 |some x=>.tup [.agg (cF x),.sc (.bool true)]
 |none=>.tup [.agg (cF 0),.sc (.bool false)]
theorem proot_q(u:Fq):APure Tryz.prog 120 [.agg (cN u)] (oW (rootQ u)):=by
 have h:=@proot_pure u.val (fq_b u) (Classical.propDecidable _)
 have e:u.val % p25=u.val:=Nat.mod_eq_of_lt u.isLt
 unfold rootQ
 split
 ·rename_i hc
  rw[if_pos (by rw[e];exact hc),e]at h
  exact h
 ·rename_i hc
  rw[if_neg (by rw[e];exact hc)]at h
  exact h
theorem droot_q(u:Fq):APure Tryz.prog 131 [.agg (cF u)] (rootD' (rootQ u)):=by
 have h:=@droot_pure u.val u.isLt (Classical.propDecidable _)
 unfold rootQ
 split
 ·rename_i hc
  rw[if_pos hc]at h
  exact h
 ·rename_i hc
  rw[if_neg hc]at h
  exact h
theorem rootV_sq{r b:Nat}(hr:r<p25)(h:r*r % p25=b):rootV r*rootV r % p25=b:=by
 unfold rootV
 split
 ·exact h
 ·rw[Nat.mod_eq_of_lt hr,sq_neg hr]
  exact h
theorem rootQ_sq{u x:Fq}(h:rootQ u=some x):x*x=u:=by
 unfold rootQ at h
 split at h
 ·rename_i hc
  have hx:(⟨sqrV u.val,sqrV_lt _⟩:Fq)=x:=Option.some.inj h
  rw[←hx]
  apply Fin.ext
  show sqrV u.val*sqrV u.val % p25=u.val
  unfold sqrB at hc
  unfold sqrV
  have hr:mU (u.val^((p25+3)/8) % p25) Go.Nam.turnN u.val<p25:=by
   unfold mU
   split
   ·exact Nat.mod_lt _ (by decide)
   ·exact Nat.mod_lt _ (by decide)
  exact rootV_sq hr hc
 ·cases h
noncomputable def withQ(y:Fq)(bit:Nat):Option Pt:=
 match rootQ ((y*y-1)*inv (1+dE*(y*y))) with
 |none=>none
 |some x=>if x=0∧bit=1 then none else some ⟨if bit=0 then x else -x,y⟩
theorem withQ_on{y:Fq}{bit:Nat}{p:Pt}(h:withQ y bit=some p):p.on:=by
 unfold withQ at h
 split at h
 ·cases h
 ·rename_i x hx
  have hs:=Go.Nam.on_root (rootQ_sq hx)
  split at h
  ·cases h
  ·rw[←Option.some.inj h]
   show On (if bit=0 then x else -x) y
   split
   ·exact hs
   ·exact Go.Nam.on_negx hs
noncomputable def pK(b:List UInt8):Pt × Nat:=
 if b.length≠32 then (⟨0,0⟩,1) else
 if h:lY b % 57896044618658097711785492504343953926634992332820282019728792003956564819968<p25 then
  (match withQ ⟨lY b % 57896044618658097711785492504343953926634992332820282019728792003956564819968,h⟩ (lY b/57896044618658097711785492504343953926634992332820282019728792003956564819968) with
  |none=>(⟨0,0⟩,7)
  |some p=>(p,0)) else (⟨0,0⟩,6)
theorem pdecM_on{b:List UInt8}{p:Pt}(h:pK b=(p,0)):p.on:=by
 unfold pK at h
 split at h
 ·cases h
 ·split at h
  ·split at h
   ·cases h
   ·rename_i q hq
    have e:q=p:=congrArg Prod.fst h
    rw[←e]
    exact withQ_on hq
  ·cases h
theorem cP_none:cP ⟨0,0⟩=[.sc (.int .u64 0),.sc (.int .u64 0),.sc (.int .u64 0),.sc (.int .u64 0),.sc (.int .u64 0),.sc (.int .u64 0),.sc (.int .u64 0),.sc (.int .u64 0)]:=rfl
theorem words_sign{n:Nat}(h:n<lX):(kZ 4 n).getD 3 0/2^63=n/57896044618658097711785492504343953926634992332820282019728792003956564819968:=by
 show n/18446744073709551616/18446744073709551616/18446744073709551616 % 18446744073709551616/9223372036854775808=_
 unfold lX at h
 omega
theorem qdecode(b:List UInt8):APure Tryz.prog 71 [eu b] (.tup [.agg (cP (pK b).1),.sc (.int .i64 (pK b).2)]):=by
 have sl:=mO
 have st:=om
 have zq:=cN_zero
 have pl:=oV
 have pt:=oF
 have z8:=qh
 have pmk:=cP_mk
 have nl:=mI
 have nt:=mH
 have zn:=fun x=>mP (nl x)
 unfold pK
 by_cases h32:b.length=32
 ·rw[if_neg (by simp[h32])]
  have b1:((b.length:Int) != 32)=false:=by rw[h32];rfl
  have hn:lY b<lX:=by
   have h1:=pq b
   rw[h32]at h1
   exact h1
  have c1:=qr b (by omega)
  have a3:=mf (l:=kZ 4 (lY b)) (i:=3) (by rw[lL];omega)
  have p3:=u64A_put3 (lY b)
  have hmw:=wget 4 (lY b) 3
  have o3:=and63 hmw
  have s3:=words_sign hn
  have hsg:lY b/57896044618658097711785492504343953926634992332820282019728792003956564819968≤1:=by
   unfold lX at hn
   omega
  have hyB:lY b % 57896044618658097711785492504343953926634992332820282019728792003956564819968<lX:=Nat.lt_trans (Nat.mod_lt _ (by decide)) (by decide)
  have c2:=pright_pure _ hyB
  have hsr:((((kZ 4 (lY b)).getD 3 0:Nat):Int)).fdiv (2^min 63 64)=((lY b/57896044618658097711785492504343953926634992332820282019728792003956564819968:Nat):Int):=by
   rw[←s3,show min 63 64=63 from rfl,shrN]
  unfold nA eu at *
  generalize hyv:lY b % 57896044618658097711785492504343953926634992332820282019728792003956564819968=yv at *
  generalize lY b/57896044618658097711785492504343953926634992332820282019728792003956564819968=sg at *
  generalize (kZ 4 (lY b)).getD 3 0=w3 at *
  generalize lY b=n at *
  by_cases hy:yv<p25
  ·rw[dif_pos hy]
   rw[decide_eq_true hy]at c2
   obtain⟨y,hyq⟩:∃y:Fq,y=⟨yv,hy⟩:=⟨_,rfl⟩
   have hcy:lH (kZ 4 yv)=cN y:=by rw[hyq];rfl
   rw[←hyq]
   rw[hcy]at c2 p3
   have m1:=sL y y
   have m2:=qsub (y*y) 1
   have m3:=qd
   have m4:=sL dE (y*y)
   have m5:=qadd 1 (dE*(y*y))
   have m6:=qinv (1+dE*(y*y))
   have m7:=sL (y*y-1) (inv (1+dE*(y*y)))
   have m8:=proot_q ((y*y-1)*inv (1+dE*(y*y)))
   unfold withQ
   have o1:=cN_one.symm
   have o0:=cN_nought.symm
   generalize rootQ ((y*y-1)*inv (1+dE*(y*y)))=ro at *
   generalize (y*y-1)*inv (1+dE*(y*y))=u at *
   generalize inv (1+dE*(y*y))=r1 at *
   generalize 1+dE*(y*y)=r2 at *
   generalize dE*(y*y)=r3 at *
   generalize dE=r4 at *
   generalize y*y-1=r5 at *
   generalize y*y=yy at *
   refine az (c:=⟨Tryz.prog,68,[(9,[0,0,0,0,0,0,0,0,0,0,0,0,0,0,2,2,0]),(12,[0,1,1,0,0,1,0,2,0]),(1000008,[8,7]),(1000009,[9]),(4000012,[2,3]),(4000010,[2,4,6,9,59]),(4000009,[2,4,6,9,10]),(4000008,[2,4,6,7,8]),(4000005,[2,4,6]),(4000003,[2,4])],[],[]⟩) (rs:=[ResultVar.cell 2 60,ResultVar.tmp 3]) Tryz.mixed Tryz.func71 rfl rfl rfl (Nat.le_of_ble_eq_true rfl) (by kernel_rfl) fun H=>?_
   simp(disch:=omega)only[↓kX,kW,aS,simprocAttr,b1]
   intro k2 hk20 hk2
   first|refine CallK.p (c1) ?_|refine CallP.i (c1) ?_
   simp(disch:=omega)only[↓kX,kW,aS,simprocAttr,nl,nt,kY]
   intro k4 hk40 hk4
   rw[zn]
   have n24:=bK0 hk4
   have hk4':=am hk4
   have v2:∀X Y,((H.set k2 X).set k4 Y) k2=some X:=fun X Y=>lE n24
   have s2:∀X Y X',((H.set k2 X).set k4 Y).set k2 X'=(H.set k2 X').set k4 Y:=fun X Y X'=>mG n24
   simp(disch:=omega)only[↓kX,kW,aS,simprocAttr,v2,s2,set_get,set_set,a3,p3,o3,hsr,mS,sl,st,lG,pl,pt,nl,nt,kY]
   first|refine CallK.p (c2) ?_|refine CallP.i (c2) ?_
   simp(disch:=omega)only[↓kX,kW,aS,simprocAttr,v2,s2,set_get,set_set,sl,st,lG,pl,pt,nl,nt,kY,o1]
   first|refine CallK.p (m1) ?_|refine CallP.i (m1) ?_
   simp(disch:=omega)only[↓kX,kW,aS,simprocAttr,v2,s2,set_get,set_set,sl,st,lG,pl,pt,nl,nt,kY,o1]
   obtain⟨Z,hZ⟩:∃Z:AObj,Z=.cells [.sc (.int .u64 0),.sc (.int .u64 0),.sc (.int .u64 0),.sc (.int .u64 0),.sc (.int .u64 0),.sc (.int .u64 0),.sc (.int .u64 0),.sc (.int .u64 0)] 60 8:=⟨_,rfl⟩
   rw[←hZ]
   obtain⟨E,hE⟩:∃E,E=(H.set k2 Z).set k4 (.cells (cN y) 58 4):=⟨_,rfl⟩
   rw[←hE]
   have e4:E k4=some (.cells (cN y) 58 4):=by rw[hE,set_get]
   have e2:E k2=some Z:=by rw[hE,v2]
   have eS:∀X,E.set k2 X=(H.set k2 X).set k4 (.cells (cN y) 58 4):=fun X=>by rw[hE,s2]
   intro k7 hk70 hk7 k8 hk80 hk8
   have n78:=bK0 hk8
   have hk8':=am hk8
   have v7:∀X Y,((E.set k7 X).set k8 Y) k7=some X:=fun X Y=>lE n78
   have s7:∀X Y X',((E.set k7 X).set k8 Y).set k7 X'=(E.set k7 X').set k8 Y:=fun X Y X'=>mG n78
   have kk8:∀X Y,((E.set k7 X).set k8 Y).kill k8=E.set k7 X:=fun X Y=>kill_new (by rw[aP (fun e=>n78 e.symm)];exact hk8')
   simp(disch:=omega)only[↓kX,kW,aS,simprocAttr,v7,s7,kk8,aj hk7,set_get,set_set,zq,e4,sl,st,lG,pl,pt,nl,nt,kY]
   first|refine CallK.p (m2) ?_|refine CallP.i (m2) ?_
   simp(disch:=omega)only[↓kX,kW,aS,simprocAttr,e4,sl,st,lG,pl,pt,nl,nt,kY]
   first|refine CallK.p (m3) ?_|refine CallP.i (m3) ?_
   simp(disch:=omega)only[↓kX,kW,aS,simprocAttr,e4,sl,st,lG,pl,pt,nl,nt,kY]
   first|refine CallK.p (m4) ?_|refine CallP.i (m4) ?_
   simp(disch:=omega)only[↓kX,kW,aS,simprocAttr,e4,sl,st,lG,pl,pt,nl,nt,kY]
   first|refine CallK.p (m5) ?_|refine CallP.i (m5) ?_
   simp(disch:=omega)only[↓kX,kW,aS,simprocAttr,e4,sl,st,lG,pl,pt,nl,nt,kY]
   first|refine CallK.p (m6) ?_|refine CallP.i (m6) ?_
   simp(disch:=omega)only[↓kX,kW,aS,simprocAttr,e4,sl,st,lG,pl,pt,nl,nt,kY]
   first|refine CallK.p (m7) ?_|refine CallP.i (m7) ?_
   simp(disch:=omega)only[↓kX,kW,aS,simprocAttr,e4,sl,st,lG,pl,pt,nl,nt,kY]
   cases ro with
   |none=>
    unfold oW at m8
    rw[cP_none,hZ]at *
    first|refine CallK.p (m8) ?_|refine CallP.i (m8) ?_
    simp(disch:=omega)only[↓kX,kW,aS,simprocAttr,e4,sl,st,lG,pl,pt,nl,nt,kY]
    intro k9 hk90 hk9
    rw[zq,aj hk9]
    simp(disch:=omega)only[↓kX,kW,aS,simprocAttr,e4,e2,eS,v2,set_get,set_set,ah,sl,st,lG,pl,pt,nl,nt,kY]
    first|exact((Sub.set_new hk2).set_free hk4').set_free hk2|exact(Sub.set_new hk2).set_free hk4'|exact⟨rfl,(Sub.set_new hk2).set_free hk4'⟩|trace_state
   |some x=>
    unfold oW at m8
    have c5:=qneg x
    have c6:=qpick sg x (-x) hsg
    have q1:=qeq x 0
    have k1':=qck x
    have k2':=qck 0
    have eo:=eoN
    rw[cN_nought]at q1 k2'
    simp only
    generalize -x=nx at *
    by_cases hx0:x=0
    ·rw[decide_eq_true hx0]at q1
     by_cases hs1:sg=1
     ·rw[if_pos ⟨hx0,hs1⟩]
      have bs:((sg:Int) == 1)=true:=by rw[hs1];rfl
      rw[cP_none,hZ]at *
      first|refine CallK.p (m8) ?_|refine CallP.i (m8) ?_
      simp(disch:=omega)only[↓kX,kW,aS,simprocAttr,e4,sl,st,lG,pl,pt,nl,nt,kY]
      intro k9 hk90 hk9
      rw[zq,aj hk9]
      simp(disch:=omega)only[↓kX,kW,aS,simprocAttr,bs,q1,k1',k2',eo,e4,e2,eS,v2,set_get,set_set,ah,sl,st,lG,pl,pt,nl,nt,kY]
      first|exact((Sub.set_new hk2).set_free hk4').set_free hk2|exact(Sub.set_new hk2).set_free hk4'|exact⟨rfl,(Sub.set_new hk2).set_free hk4'⟩|trace_state
     ·rw[if_neg (fun h=>hs1 h.2)]
      have bs:((sg:Int) == 1)=false:=beq_eq_false_iff_ne.2 (by omega)
      rw[hZ]at *
      first|refine CallK.p (m8) ?_|refine CallP.i (m8) ?_
      simp(disch:=omega)only[↓kX,kW,aS,simprocAttr,e4,sl,st,lG,pl,pt,nl,nt,kY]
      intro k9 hk90 hk9
      rw[zq,aj hk9]
      simp(disch:=omega)only[↓kX,kW,aS,simprocAttr,bs,q1,k1',k2',eo,e4,e2,eS,v2,set_get,set_set,sl,st,lG,pl,pt,nl,nt,kY]
      first|refine CallK.p (c5) ?_|refine CallP.i (c5) ?_
      simp(disch:=omega)only[↓kX,kW,aS,simprocAttr,e4,e2,eS,v2,set_get,set_set,sl,st,lG,pl,pt,nl,nt,kY]
      first|refine CallK.p (c6) ?_|refine CallP.i (c6) ?_
      simp(disch:=omega)only[↓kX,kW,aS,simprocAttr,e4,e2,eS,v2,set_get,set_set,sl,st,lG,pl,pt,nl,nt,kY,bt4,bd8',List.append_assoc,List.append_nil,List.length_append,List.length_cons,List.length_nil,pmk,z8]
      first|exact((Sub.set_new hk2).set_free hk4').set_free hk2|exact(Sub.set_new hk2).set_free hk4'|exact⟨rfl,(Sub.set_new hk2).set_free hk4'⟩|trace_state
    ·rw[decide_eq_false hx0]at q1
     rw[if_neg (fun h=>hx0 h.1)]
     rw[hZ]at *
     first|refine CallK.p (m8) ?_|refine CallP.i (m8) ?_
     simp(disch:=omega)only[↓kX,kW,aS,simprocAttr,e4,sl,st,lG,pl,pt,nl,nt,kY]
     intro k9 hk90 hk9
     rw[zq,aj hk9]
     simp(disch:=omega)only[↓kX,kW,aS,simprocAttr,q1,k1',k2',eo,e4,e2,eS,v2,set_get,set_set,sl,st,lG,pl,pt,nl,nt,kY]
     first|refine CallK.p (c5) ?_|refine CallP.i (c5) ?_
     simp(disch:=omega)only[↓kX,kW,aS,simprocAttr,e4,e2,eS,v2,set_get,set_set,sl,st,lG,pl,pt,nl,nt,kY]
     first|refine CallK.p (c6) ?_|refine CallP.i (c6) ?_
     simp(disch:=omega)only[↓kX,kW,aS,simprocAttr,e4,e2,eS,v2,set_get,set_set,sl,st,lG,pl,pt,nl,nt,kY,bt4,bd8',List.append_assoc,List.append_nil,List.length_append,List.length_cons,List.length_nil,pmk,z8]
     first|exact((Sub.set_new hk2).set_free hk4').set_free hk2|exact(Sub.set_new hk2).set_free hk4'|exact⟨rfl,(Sub.set_new hk2).set_free hk4'⟩|trace_state
  ·rw[dif_neg hy]
   rw[decide_eq_false hy]at c2
   rw[cP_none]
   refine az (c:=⟨Tryz.prog,68,[(9,[0,0,0,0,0,0,0,0,0,0,0,0,0,0,2,2,0]),(12,[0,1,1,0,0,1,0,2,0]),(1000008,[8,7]),(1000009,[9]),(4000012,[2,3]),(4000010,[2,4,6,9,59]),(4000009,[2,4,6,9,10]),(4000008,[2,4,6,7,8]),(4000005,[2,4,6]),(4000003,[2,4])],[],[]⟩) (rs:=[ResultVar.cell 2 60,ResultVar.tmp 3]) Tryz.mixed Tryz.func71 rfl rfl rfl (Nat.le_of_ble_eq_true rfl) (by kernel_rfl) fun H=>?_
   simp(disch:=omega)only[↓kX,kW,aS,simprocAttr,b1]
   intro k2 hk20 hk2
   first|refine CallK.p (c1) ?_|refine CallP.i (c1) ?_
   simp(disch:=omega)only[↓kX,kW,aS,simprocAttr,nl,nt,kY]
   intro k4 hk40 hk4
   rw[zn]
   have n24:=bK0 hk4
   have hk4':=am hk4
   have v2:∀X Y,((H.set k2 X).set k4 Y) k2=some X:=fun X Y=>lE n24
   have s2:∀X Y X',((H.set k2 X).set k4 Y).set k2 X'=(H.set k2 X').set k4 Y:=fun X Y X'=>mG n24
   simp(disch:=omega)only[↓kX,kW,aS,simprocAttr,v2,s2,set_get,set_set,a3,p3,o3,hsr,mS,sl,st,lG,pl,pt,nl,nt,kY]
   first|refine CallK.p (c2) ?_|refine CallP.i (c2) ?_
   simp(disch:=omega)only[↓kX,kW,aS,simprocAttr,v2,s2,set_get,set_set,ah,sl,st,lG,pl,pt,nl,nt,kY]
   first|exact(Sub.set_new hk2).set_free hk4'|exact⟨rfl,(Sub.set_new hk2).set_free hk4'⟩|trace_state
 ·rw[if_pos h32]
  have b1:((b.length:Int) != 32)=true:=nT (by omega)
  rw[cP_none]
  unfold eu
  refine az (c:=⟨Tryz.prog,68,[(9,[0,0,0,0,0,0,0,0,0,0,0,0,0,0,2,2,0]),(12,[0,1,1,0,0,1,0,2,0]),(1000008,[8,7]),(1000009,[9]),(4000012,[2,3]),(4000010,[2,4,6,9,59]),(4000009,[2,4,6,9,10]),(4000008,[2,4,6,7,8]),(4000005,[2,4,6]),(4000003,[2,4])],[],[]⟩) (rs:=[ResultVar.cell 2 60,ResultVar.tmp 3]) Tryz.mixed Tryz.func71 rfl rfl rfl (Nat.le_of_ble_eq_true rfl) (by kernel_rfl) fun H=>?_
  simp(disch:=omega)only[↓kX,kW,aS,simprocAttr,b1]
  intro k2 hk20 hk2
  simp(disch:=omega)only[↓kX,kW,aS,simprocAttr,set_get,set_set,ah]
  first|exact Sub.set_new hk2|exact⟨rfl,Sub.set_new hk2⟩|trace_state
theorem swbytes_live(n:Nat)(H:AH):ACalls Tryz.prog 114 [.agg (lH (kZ 4 n))] H (OwnB (lQ 32 n) H):=by
 have hwl:(lH (kZ 4 n)).length=4:=by rw[lV,lL]
 have hwt:(lH (kZ 4 n)).take 4=lH (kZ 4 n):=List.take_of_length_le (by omega)
 have hbo:=fun i (h:i<32)=>byte_of 4 n i h
 have hat:=fun i (h:i<32)=>mf (l:=kZ 4 n) (i:=i/8) (by rw[lL];omega)
 have f0:=bytF_zero n
 have fe:=bytF_end n
 have fl:=rg n
 have fs:=fun i h=>bytF_set n (i:=i) h
 have hll:=mL 32 n
 rw[←fe]at hll ⊢
 generalize bytF n=F at *
 generalize kZ 4 n=W at *
 refine ao0 (c:=⟨Tryz.prog,25,[(1000000,[1])],[],[]⟩) (rs:=[ResultVar.tmp 2]) Tryz.mixed Tryz.func114 rfl rfl rfl (Nat.le_of_ble_eq_true rfl) (by kernel_rfl) ?_
 simp(disch:=omega)only[↓kX,kW,aS,simprocAttr,hwl,hwt]
 intro k hk0 hkn k2 hk20 hk2
 have hk2':H k2=none:=by rw[ef hkn]at hk2;exact hk2
 try rw[ef hkn]
 refine br (c:=⟨Tryz.prog,25,[(1000000,[1])],[],[]⟩) Tryz.mixed (by kernel_rfl) (fun m σ H'=>∃i:Nat,i+m=32∧σ 1=.ip (lH W) 0∧σ 3=.own k2 0 32∧σ 7=.sc (.int .i64 32)∧σ 8=.sc (.int .i64 i)∧H'=H.set k2 (.cells (bw (F i)) 5 1)) 32 ?_ ?_
 ·refine⟨0,by omega,?_⟩
  rw[f0]
  simp(disch:=omega)only[↓kX,kW,aS,simprocAttr]
  rfl
 ·rintro m σ H' ⟨i,hi,g1,g3,g7,g8,rfl⟩
  have hl:=fl i
  by_cases hlt:i<32
  ·have hb:decide ((i:Int)<32)=true:=dT (by omega)
   have ha:=hat i hlt
   have hby:=hbo i hlt
   have hput:=oT (l:=F i) (i:=i) (b:=UInt8.ofNat (n/256^i % 256)) (by omega)
   rw[fs i hlt,←hby,ofNat_mod]at hput
   have hfl:=gz (F i)
   have w1:IntKind.i64.wrap ((i/8:Nat):Int)=((i/8:Nat):Int):=iw (by omega)
   have w2:IntKind.i64.wrap (8*((i % 8:Nat):Int))=((8*(i % 8):Nat):Int):=by rw[iw (by omega)];omega
   have b2:decide (((8*(i % 8):Nat):Int)<0)=false:=dF (by omega)
   have hmin:min (8*(i % 8)) 64=8*(i % 8):=by omega
   have w3:IntKind.i64.wrap ((i:Int)+1)=((i+1:Nat):Int):=by rw[iw (by omega)];rfl
   generalize W.getD (i/8) 0=x at *
   have hmul:(8*(((i % 8:Nat)):Int))=((8*(i % 8):Nat):Int):=by omega
   generalize hF':F (i+1)=F' at *
   simp(disch:=omega)only[↓kX,kW,aS,simprocAttr,g1,g3,g7,g8,hb,ha,hwl,jd,nC,w1,w2,w3,b2,mS,hmin,shrN,hmul,↓jC,hl,hfl,hput]
   exact⟨m-1,by omega,i+1,by omega,rfl,by rw[hF']⟩
  ·obtain rfl:i=32:=by omega
   have hb:decide (((32:Nat):Int)<32)=false:=by decide
   have hfl:=gz (F 32)
   simp(disch:=omega)only[↓kX,kW,aS,simprocAttr,g1,g3,g7,g8,hb,hl]
   refine⟨_,rfl,_,Abs.Sub.refl _,k2,hk20,hk2',?_,rfl⟩
   rw[hl]
theorem qencode_live(a:Fq)(H:AH):ACalls Tryz.prog 92 [.agg (cN a)] H (OwnB (lQ 32 a.val) H):=by
 have c1:=nP a.val (fq_b a)
 rw[Nat.mod_eq_of_lt a.isLt]at c1
 have c2:=fun E=>swbytes_live a.val E
 have sl:=mO
 have st:=om
 rw[show nA a.val=.agg (cN a) from rfl]at c1
 rw[show lH (kZ 4 a.val)=cN a from rfl]at c2
 refine ao0 (c:=⟨Tryz.prog,6,[(1000000,[1])],[],[]⟩) (rs:=[ResultVar.tmp 2]) Tryz.mixed Tryz.func92 rfl rfl rfl (Nat.le_of_ble_eq_true rfl) (by kernel_rfl) ?_
 simp(disch:=omega)only[↓kX,kW,aS,simprocAttr,sl,st]
 intro k1 hk10 hk1
 rw[aj hk1]
 try simp(disch:=omega)only[↓kX,kW,aS,simprocAttr,lG]
 first|refine CallK.p (c1) ?_|refine CallP.i (c1) ?_
 simp(disch:=omega)only[↓kX,kW,aS,simprocAttr,lG]
 refine CallK.i (c2 _) ?_
 rintro v E ⟨k,hk0,hk,rfl,rfl⟩
 simp(disch:=omega)only[↓kX,kW,aS,simprocAttr]
 exact⟨_,rfl,_,Abs.Sub.refl _,k,hk0,hk,rfl,rfl⟩
def qg(p:Pt):List UInt8:=(lQ 32 p.y.val).set 31 ((lQ 32 p.y.val).getD 31 0+UInt8.ofNat (p.x.val % 2*128))
theorem rX(p:Pt):(qg p).length=32:=by unfold qg;rw[List.length_set,mL]
theorem top_small(y:Fq):((lQ 32 y.val).getD 31 0).toNat<128:=by
 have hl:=mL 32 y.val
 rw[List.getD,List.getElem?_eq_getElem (by rw[hl];omega),Option.getD_some,qx]
 have hy:=y.isLt
 rw[UInt8.toNat_ofNat']
 have:y.val/256^31<128:=by
  rw[Nat.div_lt_iff_lt_mul (Nat.pow_pos (by decide))]
  exact Nat.lt_trans hy (by decide)
 omega
theorem or128{z:UInt8}(h:z.toNat<128){bt:Nat}(hb:bt<2):bits .or .u8 (z.toNat:Int) (IntKind.u8.wrap (IntKind.u8.wrap (bt:Int)*2^min 7 8))=((z+UInt8.ofNat (bt*128)).toNat:Int):=by
 have key:∀n:Fin 128,(n.val ||| 128)=n.val+128:=by decide
 have h1:=key ⟨z.toNat,h⟩
 rcases (show bt=0∨bt=1 by omega) with rfl|rfl
 ·rw[show IntKind.u8.wrap (IntKind.u8.wrap ((0:Nat):Int)*2^min 7 8)=((0:UInt8).toNat:Int) from rfl,n8or,UInt8.or_zero]
  rw[show UInt8.ofNat (0*128)=0 from rfl,UInt8.add_zero]
 ·rw[show IntKind.u8.wrap (IntKind.u8.wrap ((1:Nat):Int)*2^min 7 8)=((128:UInt8).toNat:Int) from rfl,n8or]
  rw[show UInt8.ofNat (1*128)=128 from rfl,UInt8.toNat_or,UInt8.toNat_add]
  show((z.toNat ||| 128:Nat):Int)=(((z.toNat+128) % 256:Nat):Int)
  have h1:(z.toNat ||| 128)=z.toNat+128:=h1
  rw[h1,Nat.mod_eq_of_lt (by omega)]
theorem qpencode_live(p:Pt)(h:p.on)(H:AH):ACalls Tryz.prog 108 [.agg (cP p)] H (fun v H'=>∃k,k≠0∧H k=none∧v=.tup [.own k 0 32,.sc (.int .i64 0)]∧H'=H.set k (.cells (bw (qg p)) 5 1)):=by
 have c1:=qon p h
 have c2:=fun E=>qencode_live p.y E
 have hl:=mL 32 p.y.val
 have ht:=top_small p.y
 have he:qg p=(lQ 32 p.y.val).set 31 ((lQ 32 p.y.val).getD 31 0+UInt8.ofNat (p.x.val % 2*128)):=rfl
 have hel:=gz (lQ 32 p.y.val)
 have a31:=nX (l:=lQ 32 p.y.val) (i:=31) (by omega)
 have p31:=oT (l:=lQ 32 p.y.val) (i:=31) (b:=(lQ 32 p.y.val).getD 31 0+UInt8.ofNat (p.x.val % 2*128)) (by omega)
 rw[←he]at p31
 have pl:=oV
 have pt:=oF
 have px:=cP_x
 have py:=cP_y
 have sl:=mO
 have st:=om
 have a0:(cP p)[0]? = some (.sc (.int .u64 (p.x.val % 18446744073709551616:Nat))):=rfl
 have o1:=mJ (a:=p.x.val % 18446744073709551616) (b:=1) (Nat.mod_lt _ (by decide)) (by decide)
 rw[show((1:Nat):Int)=1 from rfl,Nat.and_one_is_mod,show p.x.val % 18446744073709551616 % 2=p.x.val % 2 by omega]at o1
 have hb2:p.x.val % 2<2:=Nat.mod_lt _ (by decide)
 generalize p.x.val % 18446744073709551616=w0 at *
 generalize p.x.val % 2=bt at *
 generalize (lQ 32 p.y.val).getD 31 0=z at *
 generalize hL:lQ 32 p.y.val=L at *
 generalize hR:qg p=R at *
 refine ao0 (c:=⟨Tryz.prog,23,[(4,[0,0,1,0,0,1,0,0,0,0,0,2]),(1000000,[1])],[],[]⟩) (rs:=[ResultVar.tmp 2,ResultVar.tmp 3]) Tryz.mixed Tryz.func108 rfl rfl rfl (Nat.le_of_ble_eq_true rfl) (by kernel_rfl) ?_
 simp(disch:=omega)only[↓kX,kW,aS,simprocAttr,pl,pt]
 intro k1 hk10 hk1
 rw[aj hk1]
 try simp(disch:=omega)only[↓kX,kW,aS,simprocAttr,pl,pt,px,py,sl,st,lG,kg]
 first|refine CallK.p (c1) ?_|refine CallP.i (c1) ?_
 simp(disch:=omega)only[↓kX,kW,aS,simprocAttr,pl,pt,px,py,sl,st,lG,kg]
 refine CallK.i (c2 _) ?_
 rintro v E ⟨k,hk0,hk,rfl,rfl⟩
 simp(disch:=omega)only[↓kX,kW,aS,simprocAttr,set_get,set_set,pl,pt,px,py,sl,st,lG,kg,a0,o1,a31,hel,hl]
 rw[or128 ht hb2,p31]
 exact⟨_,rfl,_,Abs.Sub.refl _,k,hk0,hk,rfl,rfl⟩
theorem own_tup{f:FuncId}{args:List AV}{l:List UInt8}{e:Int}(hl:l.length=32)(h:∀H,ACalls Tryz.prog f args H (fun v H'=>∃k,k≠0∧H k=none∧v=.tup [.own k 0 32,.sc (.int .i64 e)]∧H'=H.set k (.cells (bw l) 5 1))):APure Tryz.prog f args (.tup [eu l,.sc (.int .i64 e)]):=fun H=>(h H).freeze (by
 rintro v H' ⟨k,hk0,hk,rfl,rfl⟩
 refine⟨_,H,Abs.Sub.set_new hk,.tup2 (Frz.own set_get hk (by rw[gz,hl];decide)) .same,?_,rfl⟩
 rw[List.take_of_length_le (by rw[gz,hl];decide)]
 unfold eu
 rw[hl])
theorem qpencode(p:Pt)(h:p.on):APure Tryz.prog 108 [.agg (cP p)] (.tup [eu (qg p),.sc (.int .i64 0)]):=own_tup (rX p) fun H=>qpencode_live p h H
theorem qsigpoint(n:Nat)(hn:n<2^256):APure Tryz.prog 57 [nA n] (eu (qg (mF n basP))):=by
 have c1:=qbase
 have c2:=qmult n hn basP qK
 have c3:=qpencode (mF n basP) (Go.Nam.smul_on qK n)
 have hl:=rX (mF n basP)
 unfold nA at *
 have nl:=mI n
 have nt:=mH n
 have pl:=oV
 have pt:=oF
 have z8:=qh
 unfold eu at *
 generalize qg (mF n basP)=R at *
 generalize mF n basP=Q at *
 generalize basP=B at *
 generalize kZ 4 n=W at *
 refine az (c:=⟨Tryz.prog,19,[(1,[0,0,0,0,0,0,2,2,0]),(1000000,[1]),(1000001,[3])],[],[]⟩) (rs:=[ResultVar.tmp 2]) Tryz.mixed Tryz.func57 rfl rfl rfl (Nat.le_of_ble_eq_true rfl) (by kernel_rfl) fun H=>?_
 simp(disch:=omega)only[↓kX,kW,aS,simprocAttr,nl,nt]
 intro k1 hk10 hk1
 rw[aj hk1]
 try simp(disch:=omega)only[↓kX,kW,aS,simprocAttr,nl,nt,kY]
 first|refine CallK.p (c1) ?_|refine CallP.i (c1) ?_
 simp(disch:=omega)only[↓kX,kW,aS,simprocAttr,nl,nt,pl,pt,kg,kY]
 first|refine CallK.p (c2) ?_|refine CallP.i (c2) ?_
 simp(disch:=omega)only[↓kX,kW,aS,simprocAttr,nl,nt,pl,pt,kg,kY]
 intro k3 hk30 hk3
 rw[z8,aj hk3]
 try simp(disch:=omega)only[↓kX,kW,aS,simprocAttr,pl,pt,kg]
 first|refine CallK.p (c3) ?_|refine CallP.i (c3) ?_
 simp(disch:=omega)only[↓kX,kW,aS,simprocAttr,pl,pt,kg]
 first|exact Abs.Sub.refl _|exact⟨rfl,Abs.Sub.refl _⟩|trace_state
end Go.Proofs.YtcncplameclkfaaGreatDoor
end
section
set_option maxRecDepth 20000
set_option maxHeartbeats 4000000
namespace Go.Proofs.YtcncplameclkfaaGreatDoor
open Go Go.Abs Go.Proofs Go.Box
open Go.Nam (p25 Fq dE W3 Pt pU wnought nj On mF basP qK qL zeroP mZ inv)
def cV(w:W3):List AV:=cF w.x++(cF w.y++cF w.z)
theorem pS(w:W3):(cV w).length=48:=by unfold cV;simp only[List.length_append,nN]
theorem qJ(w:W3):(cV w).take 48=cV w:=List.take_of_length_le (by rw[pS];omega)
theorem cV_x(w:W3):(cV w).take 16=cF w.x:=List.take_left' (nN _)
theorem cV_y(w:W3):((cV w).drop 16).take 16=cF w.y:=by
 unfold cV
 rw[List.drop_left' (nN _),List.take_left' (nN _)]
theorem cV_z(w:W3):((cV w).drop 32).take 16=cF w.z:=by
 unfold cV
 rw[←List.append_assoc,List.drop_left' (by simp only[List.length_append,nN]),pR]
theorem lD(w:W3):(cV w).map AV.strip0=cV w:=by unfold cV;simp only[List.map_append,ku]
theorem cV_put(w v:W3):bG (cV w) 0 (cV v)=cV v:=oX (by rw[pS,pS])
theorem rI(w:W3):bG [.sc (.int .i64 0),.sc (.int .i64 0),.sc (.int .i64 0),.sc (.int .i64 0),.sc (.int .i64 0),.sc (.int .i64 0),.sc (.int .i64 0),.sc (.int .i64 0),.sc (.int .i64 0),.sc (.int .i64 0),.sc (.int .i64 0),.sc (.int .i64 0),.sc (.int .i64 0),.sc (.int .i64 0),.sc (.int .i64 0),.sc (.int .i64 0),.sc (.int .i64 0),.sc (.int .i64 0),.sc (.int .i64 0),.sc (.int .i64 0),.sc (.int .i64 0),.sc (.int .i64 0),.sc (.int .i64 0),.sc (.int .i64 0),.sc (.int .i64 0),.sc (.int .i64 0),.sc (.int .i64 0),.sc (.int .i64 0),.sc (.int .i64 0),.sc (.int .i64 0),.sc (.int .i64 0),.sc (.int .i64 0),.sc (.int .i64 0),.sc (.int .i64 0),.sc (.int .i64 0),.sc (.int .i64 0),.sc (.int .i64 0),.sc (.int .i64 0),.sc (.int .i64 0),.sc (.int .i64 0),.sc (.int .i64 0),.sc (.int .i64 0),.sc (.int .i64 0),.sc (.int .i64 0),.sc (.int .i64 0),.sc (.int .i64 0),.sc (.int .i64 0),.sc (.int .i64 0)] 0 (cV w)=cV w:=oX (by rw[pS];rfl)
theorem cV_mk(a b c:Fq):cF a++(cF b++cF c)=cV ⟨a,b,c⟩:=rfl
theorem dt16(a:Fq)(L:List AV):List.take 16 (cF a++L)=cF a:=List.take_left' (nN a)
theorem dt32(a b:Fq)(L:List AV):List.take 32 (cF a++(cF b++L))=cF a++cF b:=by
 rw[←List.append_assoc]
 exact List.take_left' (by rw[List.length_append,nN,nN])
theorem dd32(a:Fq):List.drop 32 (cF a++[.sc (.int .i64 0),.sc (.int .i64 0),.sc (.int .i64 0),.sc (.int .i64 0),.sc (.int .i64 0),.sc (.int .i64 0),.sc (.int .i64 0),.sc (.int .i64 0),.sc (.int .i64 0),.sc (.int .i64 0),.sc (.int .i64 0),.sc (.int .i64 0),.sc (.int .i64 0),.sc (.int .i64 0),.sc (.int .i64 0),.sc (.int .i64 0),.sc (.int .i64 0),.sc (.int .i64 0),.sc (.int .i64 0),.sc (.int .i64 0),.sc (.int .i64 0),.sc (.int .i64 0),.sc (.int .i64 0),.sc (.int .i64 0),.sc (.int .i64 0),.sc (.int .i64 0),.sc (.int .i64 0),.sc (.int .i64 0),.sc (.int .i64 0),.sc (.int .i64 0),.sc (.int .i64 0),.sc (.int .i64 0)])=[.sc (.int .i64 0),.sc (.int .i64 0),.sc (.int .i64 0),.sc (.int .i64 0),.sc (.int .i64 0),.sc (.int .i64 0),.sc (.int .i64 0),.sc (.int .i64 0),.sc (.int .i64 0),.sc (.int .i64 0),.sc (.int .i64 0),.sc (.int .i64 0),.sc (.int .i64 0),.sc (.int .i64 0),.sc (.int .i64 0),.sc (.int .i64 0)]:=by
 rw[List.drop_append,List.drop_of_length_le (by rw[nN];decide),nN]
 rfl
theorem dd48(a b:Fq):List.drop 48 (cF a++(cF b++[.sc (.int .i64 0),.sc (.int .i64 0),.sc (.int .i64 0),.sc (.int .i64 0),.sc (.int .i64 0),.sc (.int .i64 0),.sc (.int .i64 0),.sc (.int .i64 0),.sc (.int .i64 0),.sc (.int .i64 0),.sc (.int .i64 0),.sc (.int .i64 0),.sc (.int .i64 0),.sc (.int .i64 0),.sc (.int .i64 0),.sc (.int .i64 0)]))=[]:=List.drop_of_length_le (by simp only[List.length_append,nN,List.length_cons,List.length_nil];decide)
abbrev cD(a:Fq):AObj:=.cells (cF a) 46 16
theorem dnought:APure Tryz.prog 80 [] (.agg (cV wnought)):=by
 have c0:=rint0
 have c1:=rint1
 have sl:=nN
 have st:=pR
 have z48:=rI
 have vmk:=cV_mk
 have vl:=pS
 have vt:=qJ
 unfold wnought
 generalize (0:Fq)=a at *
 generalize (1:Fq)=b at *
 refine az (c:=⟨Tryz.prog,5,[],[],[]⟩) (rs:=[ResultVar.cell 0 48]) Tryz.mixed Tryz.func80 rfl rfl rfl (Nat.le_of_ble_eq_true rfl) (by kernel_rfl) fun H=>?_
 simp(disch:=omega)only[↓kX,kW,aS,simprocAttr]
 intro k hk0 hk
 first|refine CallK.p (c0) ?_|refine CallP.i (c0) ?_
 simp(disch:=omega)only[↓kX,kW,aS,simprocAttr,sl,st]
 first|refine CallK.p (c1) ?_|refine CallP.i (c1) ?_
 simp(disch:=omega)only[↓kX,kW,aS,simprocAttr,sl,st]
 first|refine CallK.p (c1) ?_|refine CallP.i (c1) ?_
 simp(disch:=omega)only[↓kX,kW,aS,simprocAttr,sl,st,dt16,dt32,dd32,dd48,List.append_assoc,List.append_nil,List.length_append,List.length_cons,List.length_nil,vmk,z48,set_get,set_set,vl,vt]
 first|exact Sub.set_new hk|exact⟨rfl,Sub.set_new hk⟩|trace_state
theorem dpoint(w:W3):APure Tryz.prog 39 [.agg (cV w)] (.agg (cP w.pt)):=by
 have sl:=nN
 have st:=pR
 have zx:=sX
 have nl:=mO
 have nt:=om
 have vl:=pS
 have vt:=qJ
 have vx:=cV_x
 have vy:=cV_y
 have vz:=cV_z
 have pl:=oV
 have pt:=oF
 have z8:=qh
 have pmk:=cP_mk
 have c1:=rinv w.z
 have c2:=rO w.x (inv w.z)
 have c3:=rO w.y (inv w.z)
 have c4:=rnum (w.x*inv w.z)
 have c5:=rnum (w.y*inv w.z)
 unfold W3.pt
 generalize w.x*inv w.z=a at *
 generalize w.y*inv w.z=b at *
 generalize inv w.z=v at *
 refine az (c:=⟨Tryz.prog,18,[(2,[0,1,1,0,0,0,1,1,0,0,0,2]),(1000000,[1]),(1000001,[3])],[],[]⟩) (rs:=[ResultVar.cell 2 60]) Tryz.mixed Tryz.func39 rfl rfl rfl (Nat.le_of_ble_eq_true rfl) (by kernel_rfl) fun H=>?_
 simp(disch:=omega)only[↓kX,kW,aS,simprocAttr,vl,vt]
 intro k1 hk10 hk1 k2 hk20 hk2
 have n12:=bK0 hk2
 have hk2':=am hk2
 have v1:∀X Y,((H.set k1 X).set k2 Y) k1=some X:=fun X Y=>lE n12
 simp(disch:=omega)only[↓kX,kW,aS,simprocAttr,v1,mD n12 hk1,vl,vt,vx,vy,vz,sl,st,ku,lD]
 first|refine CallK.p (c1) ?_|refine CallP.i (c1) ?_
 simp(disch:=omega)only[↓kX,kW,aS,simprocAttr,vl,vt,vx,vy,vz,sl,st,ku,lD]
 intro k3 hk30 hk3
 rw[zx,aj hk3]
 try simp(disch:=omega)only[↓kX,kW,aS,simprocAttr,vl,vt,vx,vy,vz,sl,st,ku,lD]
 first|refine CallK.p (c2) ?_|refine CallP.i (c2) ?_
 simp(disch:=omega)only[↓kX,kW,aS,simprocAttr,vl,vt,vx,vy,vz,sl,st,ku,lD]
 first|refine CallK.p (c4) ?_|refine CallP.i (c4) ?_
 simp(disch:=omega)only[↓kX,kW,aS,simprocAttr,vl,vt,vx,vy,vz,sl,st,nl,nt,lG,ku,lD]
 first|refine CallK.p (c3) ?_|refine CallP.i (c3) ?_
 simp(disch:=omega)only[↓kX,kW,aS,simprocAttr,vl,vt,vx,vy,vz,sl,st,nl,nt,lG,ku,lD]
 first|refine CallK.p (c5) ?_|refine CallP.i (c5) ?_
 simp(disch:=omega)only[↓kX,kW,aS,simprocAttr,nl,nt,lG,bt4,bd8',List.append_assoc,List.append_nil,List.length_append,List.length_cons,List.length_nil,pmk,z8,set_get,set_set,pl,pt]
 first|exact Sub.set_new hk2'|exact⟨rfl,Sub.set_new hk2'⟩|trace_state
theorem dplus(p q:W3):APure Tryz.prog 83 [.agg (cF dE),.agg (cV p),.agg (cV q)] (.agg (cV (pU p q))):=by
 unfold pU
 simp only
 have sl:=nN
 have st:=pR
 have zx:=sX
 have vl:=pS
 have vt:=qJ
 have vx:=cV_x
 have vy:=cV_y
 have vz:=cV_z
 have z48:=rI
 have vmk:=cV_mk
 have c1:=rO p.z q.z
 generalize p.z*q.z=a at *
 have c2:=rO a a
 generalize a*a=b at *
 have c3:=rO p.x q.x
 have c4:=rO p.y q.y
 generalize p.x*q.x=xx at *
 generalize p.y*q.y=yy at *
 have c5:=rO p.x q.y
 have c6:=rO p.y q.x
 have c7:=radd (p.x*q.y) (p.y*q.x)
 generalize p.x*q.y+p.y*q.x=xy at *
 generalize p.x*q.y=xy1 at *
 generalize p.y*q.x=xy2 at *
 have c8:=rO xx yy
 have c9:=rO dE (xx*yy)
 generalize dE*(xx*yy)=e at *
 generalize xx*yy=e1 at *
 generalize dE=D at *
 have c10:=rsub b e
 have c11:=radd b e
 generalize b-e=lo at *
 generalize b+e=hi at *
 have c12:=rO lo xy
 have c13:=rO a (lo*xy)
 generalize a*(lo*xy)=r1 at *
 generalize lo*xy=r0 at *
 have c14:=radd yy xx
 have c15:=rO hi (yy+xx)
 have c16:=rO a (hi*(yy+xx))
 generalize a*(hi*(yy+xx))=r2 at *
 generalize hi*(yy+xx)=r4 at *
 generalize yy+xx=r5 at *
 have c17:=rO lo hi
 generalize lo*hi=r3 at *
 refine az (c:=⟨Tryz.prog,71,[(3,[0,0,0,0,0,0,0,0,0,0,2,2,2,2]),(4,[0,0,0,0,0,0,0,0,0,0,0,2,2]),(5,[0,0,0,0,0,2,2]),(6,[0,0,0,0,0,0,2,2,2,2]),(7,[1,1,1,0,0,1,1,1,1,0,0,0,1,1,0,0,2]),(1000000,[5,4,3]),(1000001,[7]),(1000002,[8]),(1000003,[10,9]),(1000004,[11]),(1000005,[12]),(1000006,[14,13]),(4000007,[6]),(4000006,[6,7,9,10,11,13,14]),(4000005,[6,7,8,9,10,11,12]),(4000004,[3,6,7,8,9,10,11]),(4000003,[3,4,5,6,7,8,9,10]),(4000002,[3,4,5,6,7,8]),(4000001,[3,4,5,6,7])],[],[(3,(.op 0 0 (.op 1 0 (.op 2 0 (.op 3 0 (.op 4 0 (.op 5 0 (.op 6 0 (.op 7 0 (.op 8 0 (.op 9 0 (.or (.op 10 2 (.op 11 2 (.op 12 2 (.op 13 2 .nil)))) (.op 11 2 (.op 10 2 (.op 12 2 (.op 13 2 .nil)))))))))))))))),(6,(.op 0 0 (.op 1 0 (.op 2 0 (.op 3 0 (.op 4 0 (.op 5 0 (.or (.op 6 2 (.op 7 2 (.op 8 2 (.op 9 2 .nil)))) (.op 7 2 (.op 6 2 (.op 8 2 (.op 9 2 .nil))))))))))))]⟩) (rs:=[ResultVar.cell 6 48]) Tryz.mixed Tryz.func83 rfl rfl rfl (Nat.le_of_ble_eq_true rfl) (by kernel_rfl) fun H=>?_
 simp(disch:=omega)only[↓kX,kW,aS,simprocAttr,vl,vt,sl,st]
 intro k3 hk30 hk3 k4 hk40 hk4 k5 hk50 hk5 k6 hk60 hk6
 have n56:=bK0 hk6
 have f5:=am hk6
 have n46:=bK0 f5
 have f4:=am f5
 have n36:=bK0 f4
 have hk6':=am f4
 obtain⟨Z,hZ⟩:∃Z:AObj,Z=.cells [.sc (.int .i64 0),.sc (.int .i64 0),.sc (.int .i64 0),.sc (.int .i64 0),.sc (.int .i64 0),.sc (.int .i64 0),.sc (.int .i64 0),.sc (.int .i64 0),.sc (.int .i64 0),.sc (.int .i64 0),.sc (.int .i64 0),.sc (.int .i64 0),.sc (.int .i64 0),.sc (.int .i64 0),.sc (.int .i64 0),.sc (.int .i64 0),.sc (.int .i64 0),.sc (.int .i64 0),.sc (.int .i64 0),.sc (.int .i64 0),.sc (.int .i64 0),.sc (.int .i64 0),.sc (.int .i64 0),.sc (.int .i64 0),.sc (.int .i64 0),.sc (.int .i64 0),.sc (.int .i64 0),.sc (.int .i64 0),.sc (.int .i64 0),.sc (.int .i64 0),.sc (.int .i64 0),.sc (.int .i64 0),.sc (.int .i64 0),.sc (.int .i64 0),.sc (.int .i64 0),.sc (.int .i64 0),.sc (.int .i64 0),.sc (.int .i64 0),.sc (.int .i64 0),.sc (.int .i64 0),.sc (.int .i64 0),.sc (.int .i64 0),.sc (.int .i64 0),.sc (.int .i64 0),.sc (.int .i64 0),.sc (.int .i64 0),.sc (.int .i64 0),.sc (.int .i64 0)] 48 48:=⟨_,rfl⟩
 rw[←hZ]
 have v5:∀X,(((((H.set k3 (.cells (cF D) 46 16)).set k4 (.cells (cV p) 48 48)).set k5 X).set k6 Z)) k5=some X:=fun X=>lE n56
 have v4:∀X,((((H.set k3 (.cells (cF D) 46 16)).set k4 X).set k6 Z)) k4=some X:=fun X=>lE n46
 have v3:∀X,(((H.set k3 X).set k6 Z)) k3=some X:=fun X=>lE n36
 simp(disch:=omega)only[↓kX,kW,aS,simprocAttr,v5,v4,v3,mD n56 hk5,mD n46 hk4,mD n36 hk3,vl,vt,vx,vy,vz,sl,st,ku,lD]
 first|refine CallK.p (c1) ?_|refine CallP.i (c1) ?_
 simp(disch:=omega)only[↓kX,kW,aS,simprocAttr,vl,vt,vx,vy,vz,sl,st,ku,lD]
 intro k7 hk70 hk7
 rw[zx,aj hk7]
 clear hk7 hk70
 try simp(disch:=omega)only[↓kX,kW,aS,simprocAttr,vl,vt,vx,vy,vz,sl,st,ku,lD]
 first|refine CallK.p (c2) ?_|refine CallP.i (c2) ?_
 simp(disch:=omega)only[↓kX,kW,aS,simprocAttr,vl,vt,vx,vy,vz,sl,st,ku,lD]
 intro k8 hk80 hk8
 rw[zx,aj hk8]
 clear hk8 hk80
 try simp(disch:=omega)only[↓kX,kW,aS,simprocAttr,vl,vt,vx,vy,vz,sl,st,ku,lD]
 obtain⟨E,hE⟩:∃E,E=H.set k6 Z:=⟨_,rfl⟩
 rw[←hE]
 have e6:E k6=some Z:=by rw[hE,set_get]
 refine eI00 (fun σ F=>∃bA bB,σ 3=.ip (cF D) 0∧σ 4=.ip (cV p) 0∧σ 5=.ip (cV q) 0∧σ 6=.ptr k6 0∧σ 7=.ip (cF a) 0∧σ 8=.ip (cF b) 0∧σ 9=.ptr bA 0∧σ 10=.ptr bB 0∧¬bA=bB∧E bA=none∧E bB=none∧F=(E.set bA (cD xx)).set bB (cD yy)) ?_ ?_
 ·simp(disch:=omega)only[↓kX,kW,aS,simprocAttr,vl,vt,vx,vy,vz,sl,st,ku,lD]
  first|refine CallK.p (c3) ?_|refine CallP.i (c3) ?_
  simp(disch:=omega)only[↓kX,kW,aS,simprocAttr,vl,vt,vx,vy,vz,sl,st,ku,lD]
  first|refine CallK.p (c4) ?_|refine CallP.i (c4) ?_
  simp(disch:=omega)only[↓kX,kW,aS,simprocAttr,vl,vt,vx,vy,vz,sl,st,ku,lD]
  refine⟨?_,?_⟩
  ·intro bA hA0 hA bB hB0 hB
   have n67:=bK0 hB
   have hB':=am hB
   have u1:∀X Y,((E.set bA X).set bB Y) bA=some X:=fun X Y=>lE n67
   have u2:∀X Y X',((E.set bA X).set bB Y).set bA X'=(E.set bA X').set bB Y:=fun X Y X'=>mG n67
   simp(disch:=omega)only[↓kX,kW,aS,simprocAttr,u1,u2,set_get,set_set,sl,zx]
   exact⟨bA,bB,rfl,rfl,n67,hA,hB',rfl⟩
  ·intro bB hB0 hB bA hA0 hA
   have n76:=bK0 hA
   have hA':=am hA
   have u1:∀X Y,((E.set bB X).set bA Y) bB=some X:=fun X Y=>lE n76
   have u2:∀X Y X',((E.set bB X).set bA Y).set bB X'=(E.set bB X').set bA Y:=fun X Y X'=>mG n76
   simp(disch:=omega)only[↓kX,kW,aS,simprocAttr,u1,u2,set_get,set_set,sl,zx]
   exact⟨bA,bB,rfl,rfl,fun e=>n76 e.symm,hA',hB,by first|exact fD n76|exact fD (fun e=>n76 e.symm)|exact(fD n76).symm|exact(fD (fun e=>n76 e.symm)).symm⟩
 rintro σ F ⟨bA,bB,g3,g4,g5,g6,g7,g8,gA,gB,nAB,hA,hB,rfl⟩
 have hB':=qn (x:=cD xx) nAB hB
 have vA:∀X Y,((E.set bA X).set bB Y) bA=some X:=fun X Y=>lE nAB
 try simp(disch:=omega)only[↓kX,kW,aS,simprocAttr,vA,set_get,aj hB',aj hA,g3,g4,g5,g6,g7,g8,gA,gB,vl,vt,vx,vy,vz,sl,st,ku,lD]
 first|refine CallK.p (c5) ?_|refine CallP.i (c5) ?_
 simp(disch:=omega)only[↓kX,kW,aS,simprocAttr,vl,vt,vx,vy,vz,sl,st,ku,lD,g3,g4,g5,g6,g7,g8,gA,gB]
 first|refine CallK.p (c6) ?_|refine CallP.i (c6) ?_
 simp(disch:=omega)only[↓kX,kW,aS,simprocAttr,vl,vt,vx,vy,vz,sl,st,ku,lD,g3,g4,g5,g6,g7,g8,gA,gB]
 first|refine CallK.p (c7) ?_|refine CallP.i (c7) ?_
 simp(disch:=omega)only[↓kX,kW,aS,simprocAttr,vl,vt,vx,vy,vz,sl,st,ku,lD,g3,g4,g5,g6,g7,g8,gA,gB]
 intro k11 hk110 hk11
 rw[zx,aj hk11]
 clear hk11 hk110
 try simp(disch:=omega)only[↓kX,kW,aS,simprocAttr,vl,vt,vx,vy,vz,sl,st,ku,lD,g3,g4,g5,g6,g7,g8,gA,gB]
 first|refine CallK.p (c8) ?_|refine CallP.i (c8) ?_
 simp(disch:=omega)only[↓kX,kW,aS,simprocAttr,vl,vt,vx,vy,vz,sl,st,ku,lD,g3,g4,g5,g6,g7,g8,gA,gB]
 first|refine CallK.p (c9) ?_|refine CallP.i (c9) ?_
 simp(disch:=omega)only[↓kX,kW,aS,simprocAttr,vl,vt,vx,vy,vz,sl,st,ku,lD,g3,g4,g5,g6,g7,g8,gA,gB]
 intro k12 hk120 hk12
 rw[zx,aj hk12]
 clear hk12 hk120
 refine eI00 (fun σ F=>∃bA bB,σ 6=.ptr k6 0∧σ 7=.ip (cF a) 0∧σ 9=.ip (cF xx) 0∧σ 10=.ip (cF yy) 0∧σ 11=.ip (cF xy) 0∧σ 13=.ptr bA 0∧σ 14=.ptr bB 0∧¬bA=bB∧E bA=none∧E bB=none∧F=(E.set bA (cD lo)).set bB (cD hi)) ?_ ?_
 ·simp(disch:=omega)only[↓kX,kW,aS,simprocAttr,vl,vt,vx,vy,vz,sl,st,ku,lD,g3,g4,g5,g6,g7,g8,gA,gB]
  first|refine CallK.p (c10) ?_|refine CallP.i (c10) ?_
  simp(disch:=omega)only[↓kX,kW,aS,simprocAttr,vl,vt,vx,vy,vz,sl,st,ku,lD,g3,g4,g5,g6,g7,g8,gA,gB]
  first|refine CallK.p (c11) ?_|refine CallP.i (c11) ?_
  simp(disch:=omega)only[↓kX,kW,aS,simprocAttr,vl,vt,vx,vy,vz,sl,st,ku,lD,g3,g4,g5,g6,g7,g8,gA,gB]
  refine⟨?_,?_⟩
  ·intro bA hA0 hA bB hB0 hB
   have n67:=bK0 hB
   have hB':=am hB
   have u1:∀X Y,((E.set bA X).set bB Y) bA=some X:=fun X Y=>lE n67
   have u2:∀X Y X',((E.set bA X).set bB Y).set bA X'=(E.set bA X').set bB Y:=fun X Y X'=>mG n67
   simp(disch:=omega)only[↓kX,kW,aS,simprocAttr,u1,u2,set_get,set_set,sl,zx,g3,g4,g5,g6,g7,g8,gA,gB]
   exact⟨bA,bB,rfl,rfl,n67,hA,hB',rfl⟩
  ·intro bB hB0 hB bA hA0 hA
   have n76:=bK0 hA
   have hA':=am hA
   have u1:∀X Y,((E.set bB X).set bA Y) bB=some X:=fun X Y=>lE n76
   have u2:∀X Y X',((E.set bB X).set bA Y).set bB X'=(E.set bB X').set bA Y:=fun X Y X'=>mG n76
   simp(disch:=omega)only[↓kX,kW,aS,simprocAttr,u1,u2,set_get,set_set,sl,zx,g3,g4,g5,g6,g7,g8,gA,gB]
   exact⟨bA,bB,rfl,rfl,fun e=>n76 e.symm,hA',hB,by first|exact fD n76|exact fD (fun e=>n76 e.symm)|exact(fD n76).symm|exact(fD (fun e=>n76 e.symm)).symm⟩
 clear g3 g4 g5 g6 g7 g8 gA gB
 rintro σ F ⟨bA,bB,g6,g7,g9,g10,g11,gA,gB,nAB,hA,hB,rfl⟩
 have hB':=qn (x:=cD lo) nAB hB
 have vA:∀X Y,((E.set bA X).set bB Y) bA=some X:=fun X Y=>lE nAB
 try simp(disch:=omega)only[↓kX,kW,aS,simprocAttr,vA,set_get,aj hB',aj hA,g6,g7,g9,g10,g11,gA,gB,vl,vt,vx,vy,vz,sl,st,ku,lD]
 first|refine CallK.p (c12) ?_|refine CallP.i (c12) ?_
 simp(disch:=omega)only[↓kX,kW,aS,simprocAttr,vl,vt,vx,vy,vz,sl,st,ku,lD,g6,g7,g9,g10,g11,gA,gB,dt16,dt32,dd32,dd48,List.append_assoc,List.append_nil,List.length_append,List.length_cons,List.length_nil,vmk,z48,set_get,set_set,e6,hZ]
 first|refine CallK.p (c13) ?_|refine CallP.i (c13) ?_
 simp(disch:=omega)only[↓kX,kW,aS,simprocAttr,vl,vt,vx,vy,vz,sl,st,ku,lD,g6,g7,g9,g10,g11,gA,gB,dt16,dt32,dd32,dd48,List.append_assoc,List.append_nil,List.length_append,List.length_cons,List.length_nil,vmk,z48,set_get,set_set,e6,hZ]
 first|refine CallK.p (c14) ?_|refine CallP.i (c14) ?_
 simp(disch:=omega)only[↓kX,kW,aS,simprocAttr,vl,vt,vx,vy,vz,sl,st,ku,lD,g6,g7,g9,g10,g11,gA,gB,dt16,dt32,dd32,dd48,List.append_assoc,List.append_nil,List.length_append,List.length_cons,List.length_nil,vmk,z48,set_get,set_set,e6,hZ]
 first|refine CallK.p (c15) ?_|refine CallP.i (c15) ?_
 simp(disch:=omega)only[↓kX,kW,aS,simprocAttr,vl,vt,vx,vy,vz,sl,st,ku,lD,g6,g7,g9,g10,g11,gA,gB,dt16,dt32,dd32,dd48,List.append_assoc,List.append_nil,List.length_append,List.length_cons,List.length_nil,vmk,z48,set_get,set_set,e6,hZ]
 first|refine CallK.p (c16) ?_|refine CallP.i (c16) ?_
 simp(disch:=omega)only[↓kX,kW,aS,simprocAttr,vl,vt,vx,vy,vz,sl,st,ku,lD,g6,g7,g9,g10,g11,gA,gB,dt16,dt32,dd32,dd48,List.append_assoc,List.append_nil,List.length_append,List.length_cons,List.length_nil,vmk,z48,set_get,set_set,e6,hZ]
 first|refine CallK.p (c17) ?_|refine CallP.i (c17) ?_
 simp(disch:=omega)only[↓kX,kW,aS,simprocAttr,vl,vt,vx,vy,vz,sl,st,ku,lD,g6,g7,g9,g10,g11,gA,gB,dt16,dt32,dd32,dd48,List.append_assoc,List.append_nil,List.length_append,List.length_cons,List.length_nil,vmk,z48,set_get,set_set,e6,hZ]
 rw[hE]
 first|exact(Sub.set_new hk6').set_free hk6'|exact⟨rfl,(Sub.set_new hk6').set_free hk6'⟩|exact⟨rfl,by rw[set_set];exact Sub.set_new hk6'⟩|trace_state
end Go.Proofs.YtcncplameclkfaaGreatDoor
end
section
set_option maxRecDepth 20000
set_option maxHeartbeats 4000000
namespace Go.Proofs.YtcncplameclkfaaGreatDoor
open Go Go.Abs Go.Proofs Go.Box
open Go.Nam (p25 Fq dE W3 Pt pU wnought nj On mF basP qK qL zeroP mZ inv mN)
theorem dplusP(p q:W3):APure Tryz.prog 38 [.agg (cV p),.agg (cV q)] (.agg (cV (pU p q))):=by
 have c1:=rd
 have c2:=dplus p q
 have sl:=nN
 have st:=pR
 have vl:=pS
 have vt:=qJ
 have z48:=rI
 generalize pU p q=R at *
 generalize dE=D at *
 refine az (c:=⟨Tryz.prog,9,[(1,[0,1,1,0,2]),(1000000,[3,2])],[],[]⟩) (rs:=[ResultVar.cell 4 48]) Tryz.mixed Tryz.func38 rfl rfl rfl (Nat.le_of_ble_eq_true rfl) (by kernel_rfl) fun H=>?_
 simp(disch:=omega)only[↓kX,kW,aS,simprocAttr,vl,vt]
 intro k2 hk20 hk2 k3 hk30 hk3 k4 hk40 hk4
 obtain⟨q1,q2,q3,q4,n24,hk4'⟩:=frz3 hk2 hk3 hk4
 simp(disch:=omega)only[↓kX,kW,aS,simprocAttr,q1,q2,q3,q4,vl,vt,lD]
 first|refine CallK.p (c1) ?_|refine CallP.i (c1) ?_
 simp(disch:=omega)only[↓kX,kW,aS,simprocAttr,vl,vt,sl,st,ku,lD]
 first|refine CallK.p (c2) ?_|refine CallP.i (c2) ?_
 simp(disch:=omega)only[↓kX,kW,aS,simprocAttr,set_get,set_set,vl,vt,z48,lD]
 first|exact Sub.set_new hk4'|exact⟨rfl,Sub.set_new hk4'⟩|trace_state
abbrev cB(w:W3):AObj:=.cells (cV w) 48 48
theorem dtimes(n:Nat)(hn:(digs n).length≤1000)(w:W3):APure Tryz.prog 36 [D n,.agg (cV w)] (.agg (cV (mN n w (8*(digs n).length)).1)):=by
 have c1:=rd
 have c2:=dnought
 have cP:=dplus
 have sl:=nN
 have st:=pR
 have zx:=sX
 have vl:=pS
 have vt:=qJ
 have vp:=cV_put
 have z48:=rI
 have hat:=fun i (h:i<(digs n).length)=>mV (l:=digs n) (i:=i) h
 have hg:=fun i=>oP n i
 have hnl:=lO (digs n)
 have hbit:=fun i k (h:k<8)=>Go.Nam.bit_of n i k h
 have h0:mN n w 0=(wnought,w):=rfl
 have hS:∀j,mN n w (j+1)=(if n/2^j % 2=1 then pU (mN n w j).1 (mN n w j).2 else (mN n w j).1,pU (mN n w j).2 (mN n w j).2):=fun _=>rfl
 generalize mN n w=S at *
 unfold D pZ
 generalize digs n=L at *
 generalize dE=dd at *
 obtain⟨Z,hZ⟩:∃Z:AObj,Z=.cells [.sc (.int .i64 0),.sc (.int .i64 0),.sc (.int .i64 0),.sc (.int .i64 0),.sc (.int .i64 0),.sc (.int .i64 0),.sc (.int .i64 0),.sc (.int .i64 0),.sc (.int .i64 0),.sc (.int .i64 0),.sc (.int .i64 0),.sc (.int .i64 0),.sc (.int .i64 0),.sc (.int .i64 0),.sc (.int .i64 0),.sc (.int .i64 0),.sc (.int .i64 0),.sc (.int .i64 0),.sc (.int .i64 0),.sc (.int .i64 0),.sc (.int .i64 0),.sc (.int .i64 0),.sc (.int .i64 0),.sc (.int .i64 0),.sc (.int .i64 0),.sc (.int .i64 0),.sc (.int .i64 0),.sc (.int .i64 0),.sc (.int .i64 0),.sc (.int .i64 0),.sc (.int .i64 0),.sc (.int .i64 0),.sc (.int .i64 0),.sc (.int .i64 0),.sc (.int .i64 0),.sc (.int .i64 0),.sc (.int .i64 0),.sc (.int .i64 0),.sc (.int .i64 0),.sc (.int .i64 0),.sc (.int .i64 0),.sc (.int .i64 0),.sc (.int .i64 0),.sc (.int .i64 0),.sc (.int .i64 0),.sc (.int .i64 0),.sc (.int .i64 0),.sc (.int .i64 0)] 48 48:=⟨_,rfl⟩
 refine az (c:=⟨Tryz.prog,40,[(1000001,[5])],[],[]⟩) (rs:=[ResultVar.cell 4 48]) Tryz.mixed Tryz.func36 rfl rfl rfl (Nat.le_of_ble_eq_true rfl) (by kernel_rfl) fun H=>?_
 simp(disch:=omega)only[↓kX,kW,aS,simprocAttr,vl,vt]
 intro k3 hk30 hk3 k4 hk40 hk4
 rw[←hZ]
 first|refine CallK.p (c1) ?_|refine CallP.i (c1) ?_
 simp(disch:=omega)only[↓kX,kW,aS,simprocAttr,vl,vt,sl,st,ku,lD]
 intro k5 hk50 hk5
 rw[zx,aj hk5]
 try simp(disch:=omega)only[↓kX,kW,aS,simprocAttr,vl,vt,sl,st,ku,lD]
 first|refine CallK.p (c2) ?_|refine CallP.i (c2) ?_
 simp(disch:=omega)only[↓kX,kW,aS,simprocAttr,vl,vt,sl,st,ku,lD]
 intro k6 hk60 hk6
 rw[z48]
 have n46:=bK0 hk6
 have f4:=am hk6
 have n36:=bK0 f4
 have hk6':=am f4
 have n34:=bK0 hk4
 have hk4':=am hk4
 have v3:∀X Y,(((H.set k3 X).set k4 Z).set k6 Y) k3=some X:=fun X Y=>by rw[aP n36,lE n34]
 have v4:∀X Y,(((H.set k3 X).set k4 Z).set k6 Y) k4=some Z:=fun X Y=>lE n46
 have s3:∀X Y X',(((H.set k3 X).set k4 Z).set k6 Y).set k3 X'=((H.set k3 X').set k4 Z).set k6 Y:=fun X Y X'=>by
  rw[qs (fun e=>n36 e.symm),mG n34]
 refine br (c:=⟨Tryz.prog,40,[(1000001,[5])],[],[]⟩) Tryz.mixed (by kernel_rfl) (fun m σ H'=>∃i:Nat,i+m=L.length∧σ 0=.imm 0 (lM L) L.length∧σ 3=.ptr k3 0∧σ 4=.ptr k4 0∧σ 5=.ip (cF dd) 0∧σ 6=.ptr k6 0∧σ 7=.sc (.int .i64 i)∧H'=((H.set k3 (cB (S (8*i)).2)).set k4 Z).set k6 (cB (S (8*i)).1)) L.length ?_ ?_
 ·refine⟨0,by omega,?_⟩
  rw[Nat.mul_zero,h0]
  simp(disch:=omega)only[↓kX,kW,aS,simprocAttr]
  first|rfl|exact⟨rfl,rfl⟩|trace_state
 ·rintro m σ H' ⟨i,hi,g0,g3,g4,g5,g6,g7,rfl⟩
  by_cases hlt:i<L.length
  ·have hb:decide ((i:Int)<(L.length:Int))=true:=dT (by omega)
   have w1:IntKind.i64.wrap ((i:Int)+1)=((i+1:Nat):Int):=by rw[iw (by omega)];rfl
   have ha:=hat i hlt
   have hgi:=hg i
   have hbt:=hbit i
   rw[←hgi]at hbt
   have hx:L.getD i 0<256:=by rw[hgi];exact Nat.mod_lt _ (by decide)
   generalize L.getD i 0=x at *
   simp(disch:=omega)only[↓kX,kW,aS,simprocAttr,g0,g3,g4,g5,g6,g7,hb,ha,hnl]
   refine br (c:=⟨Tryz.prog,40,[(1000001,[5])],[],[]⟩) Tryz.mixed (by kernel_rfl) (fun m2 σ2 H2=>∃j:Nat,j+m2=8∧σ2 0=.imm 0 (lM L) L.length∧σ2 3=.ptr k3 0∧σ2 4=.ptr k4 0∧σ2 5=.ip (cF dd) 0∧σ2 6=.ptr k6 0∧σ2 7=.sc (.int .i64 i)∧σ2 8=.sc (.int .i64 (x/2^j:Nat))∧σ2 9=.sc (.int .i64 j)∧H2=((H.set k3 (cB (S (8*i+j)).2)).set k4 Z).set k6 (cB (S (8*i+j)).1)) 8 ?_ ?_
   ·refine⟨0,by omega,?_⟩
    simp(disch:=omega)only[↓kX,kW,aS,simprocAttr,g0,g3,g4,g5,g6,g7,Nat.pow_zero,Nat.div_one,Nat.add_zero]
    first|rfl|exact⟨rfl,rfl⟩|trace_state
   ·clear g0 g3 g4 g5 g6 g7
    clear σ
    rintro m2 σ H2 ⟨j,hj,g0,g3,g4,g5,g6,g7,g8,g9,rfl⟩
    by_cases hj8:j<8
    ·have hb2:decide ((j:Int)<8)=true:=dT (by omega)
     have w2:IntKind.i64.wrap ((j:Int)+1)=((j+1:Nat):Int):=by rw[iw (by omega)];rfl
     have hs:=hS (8*i+j)
     have hbj:=hbt j hj8
     rw[←hbj]at hs
     have hd2:x/2^j/2=x/2^(j+1):=by rw[Nat.div_div_eq_div_mul,Nat.pow_succ]
     have hle:x/2^j≤x:=Nat.div_le_self _ _
     generalize hsn:S (8*i+j+1)=sn at *
     generalize S (8*i+j)=s at *
     generalize hxj:x/2^j=y at *
     obtain⟨o,q⟩:=s
     have c3:=cP o q
     have c4:=cP q q
     have w3:IntKind.i64.wrap ((y/2:Nat):Int)=((y/2:Nat):Int):=iw (by omega)
     simp only at hs
     by_cases hy:y % 2=1
     ·have hb3:(((y % 2:Nat):Int) == 1)=true:=by rw[hy];rfl
      rw[if_pos hy]at hs
      generalize pU o q=o' at *
      generalize pU q q=q' at *
      simp(disch:=omega)only[↓kX,kW,aS,simprocAttr,g0,g3,g4,g5,g6,g7,g8,g9,hb2,hb3,jd,nC,w2,w3,v3,v4,s3,set_get,set_set,vl,vt,vp,sl,st,ku,lD]
      first|refine CallK.p (c3) ?_|refine CallP.i (c3) ?_
      simp(disch:=omega)only[↓kX,kW,aS,simprocAttr,g0,g3,g4,g5,g6,g7,g8,g9,hb2,hb3,jd,nC,w2,w3,v3,v4,s3,set_get,set_set,vl,vt,vp,sl,st,ku,lD]
      first|refine CallK.p (c4) ?_|refine CallP.i (c4) ?_
      simp(disch:=omega)only[↓kX,kW,aS,simprocAttr,g0,g3,g4,g5,g6,g7,g8,g9,hb2,hb3,jd,nC,w2,w3,v3,v4,s3,set_get,set_set,vl,vt,vp,sl,st,ku,lD]
      exact⟨m2-1,by omega,j+1,by omega,by rw[←hd2],rfl,by rw[←Nat.add_assoc,hsn,hs]⟩
     ·have hb3:(((y % 2:Nat):Int) == 1)=false:=beq_eq_false_iff_ne.2 (by omega)
      rw[if_neg hy]at hs
      generalize pU q q=q' at *
      simp(disch:=omega)only[↓kX,kW,aS,simprocAttr,g0,g3,g4,g5,g6,g7,g8,g9,hb2,hb3,jd,nC,w2,w3,v3,v4,s3,set_get,set_set,vl,vt,vp,sl,st,ku,lD]
      first|refine CallK.p (c4) ?_|refine CallP.i (c4) ?_
      simp(disch:=omega)only[↓kX,kW,aS,simprocAttr,g0,g3,g4,g5,g6,g7,g8,g9,hb2,hb3,jd,nC,w2,w3,v3,v4,s3,set_get,set_set,vl,vt,vp,sl,st,ku,lD]
      exact⟨m2-1,by omega,j+1,by omega,by rw[←hd2],rfl,by rw[←Nat.add_assoc,hsn,hs]⟩
    ·obtain rfl:j=8:=by omega
     have hb2:decide (((8:Nat):Int)<8)=false:=by decide
     simp(disch:=omega)only[↓kX,kW,aS,simprocAttr,g0,g3,g4,g5,g6,g7,g8,g9,hb2,w1]
     exact⟨m-1,by omega,i+1,by omega,rfl,by rw[Nat.mul_add]⟩
  ·obtain rfl:i=L.length:=by omega
   have hb:decide ((L.length:Int)<(L.length:Int))=false:=by simp
   rw[hZ]
   rw[hZ]at v3 v4
   simp(disch:=omega)only[↓kX,kW,aS,simprocAttr,g0,g3,g4,g5,g6,g7,hb,hnl,v3,v4,set_get,set_set,vl,vt,vp,sl,st,ku,lD,z48]
   first|exact(((Sub.set_new hk3).set_free hk4').set_free hk6').set_free hk4'|exact⟨rfl,(((Sub.set_new hk3).set_free hk4').set_free hk6').set_free hk4'⟩|trace_state
theorem sU(n:Nat)(w:W3)(p:Pt)(hw:w.Rep p)(hp:p.on):(mN n w (8*(digs n).length)).1.Rep (mF n p):=
 Go.Nam.timesL_all (by
  rw[Nat.pow_mul]
  exact nE n) hw hp
theorem digs8:digs 8=[8]:=by
 rw[qH (by decide),show 8/256=0 from rfl,qQ]
theorem dsmall(w:W3)(p:Pt)(hw:w.Rep p)(hp:p.on):APure Tryz.prog 33 [.agg (cV w)] (.sc (.bool (decide (mF 8 p=zeroP)))):=by
 have c1:=dtimes 8 (by rw[digs8];decide) w
 have r1:=sU 8 w p hw hp
 have d8:D 8=.imm 0 [.sc (.int .i64 8)] 1:=by
  unfold D
  rw[digs8]
  rfl
 rw[d8]at c1
 have c2:=dpoint (mN 8 w (8*(digs 8).length)).1
 rw[r1.pt]at c2
 have c3:=dnought
 have c4:=dpoint wnought
 rw[Go.Nam.wnought_rep.pt]at c4
 have e1:=eqP (mF 8 p) zeroP
 have k1':=ckP (mF 8 p)
 have k2':=ckP zeroP
 have eo:=eoP
 have vl:=pS
 have vt:=qJ
 have pl:=oV
 have pt:=oF
 generalize (mN 8 w (8*(digs 8).length)).1=T at *
 generalize decide (mF 8 p=zeroP)=b at *
 generalize mF 8 p=R at *
 generalize zeroP=O at *
 generalize wnought=wn at *
 refine az (c:=⟨Tryz.prog,10,[(1000000,[1])],[],[]⟩) (rs:=[ResultVar.tmp 2]) Tryz.mixed Tryz.func33 rfl rfl rfl (Nat.le_of_ble_eq_true rfl) (by kernel_rfl) fun H=>?_
 simp(disch:=omega)only[↓kX,kW,aS,simprocAttr,vl,vt]
 intro k1 hk10 hk1
 rw[aj hk1]
 try simp(disch:=omega)only[↓kX,kW,aS,simprocAttr,vl,vt,lD]
 first|refine CallK.p (c1) ?_|refine CallP.i (c1) ?_
 simp(disch:=omega)only[↓kX,kW,aS,simprocAttr,vl,vt,lD]
 first|refine CallK.p (c2) ?_|refine CallP.i (c2) ?_
 simp(disch:=omega)only[↓kX,kW,aS,simprocAttr,vl,vt,pl,pt,lD,kg]
 first|refine CallK.p (c3) ?_|refine CallP.i (c3) ?_
 simp(disch:=omega)only[↓kX,kW,aS,simprocAttr,vl,vt,pl,pt,lD,kg]
 first|refine CallK.p (c4) ?_|refine CallP.i (c4) ?_
 simp(disch:=omega)only[↓kX,kW,aS,simprocAttr,e1,k1',k2',eo,pl,pt,kg]
 first|exact Abs.Sub.refl _|exact⟨rfl,Abs.Sub.refl _⟩|trace_state
end Go.Proofs.YtcncplameclkfaaGreatDoor
end
