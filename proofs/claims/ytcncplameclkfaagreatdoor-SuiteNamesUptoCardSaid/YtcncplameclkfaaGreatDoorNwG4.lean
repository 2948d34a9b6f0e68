/-
  Several texts in one: each says what it proves.
  Conditions: none. Lemmas only.
-/
import Derived.Test.YtcncplameclkfaaGreatDoorNwG3
import Derived.Test.YtcncplameclkfaaGreatDoorNmG2
set_option linter.all false
section
set_option maxRecDepth 20000
set_option maxHeartbeats 8000000
namespace Go.Proofs.YtcncplameclkfaaGreatDoor
open Go Go.Abs Go.Proofs Go.Box
open Go.Nam (p25)
def mu(k:List UInt8):List UInt8:=(k.set 0 (k.getD 0 0-k.getD 0 0 % 8)).set 31 (k.getD 31 0 % 64+64)
theorem ni(k:List UInt8):(mu k).length=k.length:=by simp[mu]
theorem and248(x:UInt8):x &&& 248=x-x % 8:=by
 have key:∀n:Fin 256,n.val &&& 248=n.val-n.val % 8:=by decide
 apply UInt8.toNat.inj
 have hle:(x % 8).toNat≤x.toNat:=by rw[UInt8.toNat_mod];exact Nat.mod_le _ _
 rw[UInt8.toNat_and,UInt8.toNat_sub_of_le _ _ hle,UInt8.toNat_mod]
 exact key ⟨x.toNat,x.toNat_lt⟩
theorem or64(x:UInt8):x &&& 63 ||| 64=x % 64+64:=by
 have key:∀n:Fin 256,(n.val &&& 63 ||| 64)=n.val % 64+64:=by decide
 have h:=key ⟨x.toNat,x.toNat_lt⟩
 have hx:=x.toNat_lt
 apply UInt8.toNat.inj
 rw[UInt8.toNat_or,UInt8.toNat_and,UInt8.toNat_add,UInt8.toNat_mod]
 show(x.toNat &&& 63 ||| 64)=(x.toNat % 64+64) % 256
 rw[Nat.mod_eq_of_lt (by omega)]
 exact h
theorem dclamp_pure(k:List UInt8)(hk:k.length=32):APure Tryz.prog 44 [eu k] (.tup [eu (mu k),.sc (.int .i64 0)]):=by
 have b1:((k.length:Int) != 32)=false:=by rw[hk];rfl
 have hel:=gz k
 have a0:=nX (l:=k) (i:=0) (by omega)
 have p0:=oT (l:=k) (i:=0) (b:=k.getD 0 0-k.getD 0 0 % 8) (by omega)
 have hcl:=ni k
 rw[hk]at hcl
 have hC:mu k=(k.set 0 (k.getD 0 0-k.getD 0 0 % 8)).set 31 (k.getD 31 0 % 64+64):=rfl
 have e31:(k.set 0 (k.getD 0 0-k.getD 0 0 % 8)).getD 31 0=k.getD 31 0:=by simp[List.getD]
 have h1l:(k.set 0 (k.getD 0 0-k.getD 0 0 % 8)).length=32:=by rw[List.length_set,hk]
 have n0:((k.getD 0 0).toNat % 8:Nat)=(k.getD 0 0 % 8).toNat:=by simp
 have s0:IntKind.u8.wrap (((k.getD 0 0).toNat:Int)-((k.getD 0 0 % 8).toNat:Int))=((k.getD 0 0-k.getD 0 0 % 8).toNat:Int):=by
  have hle:(k.getD 0 0 % 8).toNat≤(k.getD 0 0).toNat:=by rw[UInt8.toNat_mod];exact Nat.mod_le _ _
  have hx:=(k.getD 0 0).toNat_lt
  rw[UInt8.toNat_sub_of_le _ _ hle,wrapU8 (by omega)]
  omega
 have w0:IntKind.u8.wrap ((k.getD 0 0 % 8).toNat:Int)=((k.getD 0 0 % 8).toNat:Int):=wrapU8 (by have:=(k.getD 0 0 % 8).toNat_lt;omega)
 generalize k.set 0 (k.getD 0 0-k.getD 0 0 % 8)=K at *
 have hKl:=gz K
 have a31:=nX (l:=K) (i:=31) (by omega)
 rw[e31]at a31
 have p31:=oT (l:=K) (i:=31) (b:=k.getD 31 0 % 64+64) (by omega)
 rw[←hC]at p31
 have n31:((k.getD 31 0).toNat % 64:Nat)=(k.getD 31 0 % 64).toNat:=by simp
 have s31:IntKind.u8.wrap (((k.getD 31 0 % 64).toNat:Int)+64)=((k.getD 31 0 % 64+64).toNat:Int):=n8wadd _ 64
 have w31:IntKind.u8.wrap ((k.getD 31 0 % 64).toNat:Int)=((k.getD 31 0 % 64).toNat:Int):=wrapU8 (by have:=(k.getD 31 0 % 64).toNat_lt;omega)
 generalize mu k=C at *
 generalize k.getD 31 0 % 64+64=y3 at *
 generalize k.getD 31 0 % 64=y2 at *
 generalize k.getD 31 0=y1 at *
 generalize k.getD 0 0-k.getD 0 0 % 8=x3 at *
 generalize k.getD 0 0 % 8=x2 at *
 generalize k.getD 0 0=x1 at *
 unfold eu
 refine az (c:=⟨Tryz.prog,29,[(4,[0,0,0,1,0,0,1,0,0,0,2])],[1000008,1000010],[]⟩) (rs:=[ResultVar.tmp 2,ResultVar.tmp 3]) Tryz.mixed Tryz.func44 rfl rfl rfl (Nat.le_of_ble_eq_true rfl) (by kernel_rfl) fun H=>?_
 simp(disch:=omega)only[↓kX,kW,aS,simprocAttr,b1,hel,hk]
 intro kz hkz0 hkz kw hkw
 have hwn:H kw=none:=by
  rcases hkw with rfl|⟨_,h⟩
  ·exact hkz
  ·exact am h
 try rw[ef hkz]
 simp(disch:=omega)only[↓kX,kW,aS,simprocAttr,set_get,set_set,hel,hk,a0,p0,n0,s0,w0,jd,a31,p31,n31,s31,w31,hKl,h1l]
 have hCe:=gz C
 rw[hwn]
 refine⟨?_,by omega,Sub.set_new hwn⟩
 show some (AV.tup [AV.imm 0 ((bw C).take (32*1)) 32,_])=_
 rw[List.take_of_length_le (by omega),hcl]
theorem pclamp_pure(k:List UInt8)(hk:k.length=32):APure Tryz.prog 87 [eu k] (.tup [eu (mu k),.sc (.int .i64 0)]):=by
 have b1:((k.length:Int) != 32)=false:=by rw[hk];rfl
 have hel:=gz k
 have a0:=nX (l:=k) (i:=0) (by omega)
 have p0:=oT (l:=k) (i:=0) (b:=k.getD 0 0-k.getD 0 0 % 8) (by omega)
 have hcl:=ni k
 rw[hk]at hcl
 have hC:mu k=(k.set 0 (k.getD 0 0-k.getD 0 0 % 8)).set 31 (k.getD 31 0 % 64+64):=rfl
 have e31:(k.set 0 (k.getD 0 0-k.getD 0 0 % 8)).getD 31 0=k.getD 31 0:=by simp[List.getD]
 have h1l:(k.set 0 (k.getD 0 0-k.getD 0 0 % 8)).length=32:=by rw[List.length_set,hk]
 have n0:bits .and .u8 ((k.getD 0 0).toNat:Int) 248=((k.getD 0 0-k.getD 0 0 % 8).toNat:Int):=by
  rw[←and248]
  exact n8and _ 248
 generalize k.set 0 (k.getD 0 0-k.getD 0 0 % 8)=K at *
 have hKl:=gz K
 have a31:=nX (l:=K) (i:=31) (by omega)
 rw[e31]at a31
 have p31:=oT (l:=K) (i:=31) (b:=k.getD 31 0 % 64+64) (by omega)
 rw[←hC]at p31
 have n31:bits .and .u8 ((k.getD 31 0).toNat:Int) 63=((k.getD 31 0 &&& 63).toNat:Int):=n8and _ 63
 have s31:bits .or .u8 ((k.getD 31 0 &&& 63).toNat:Int) 64=((k.getD 31 0 % 64+64).toNat:Int):=by
  rw[←or64]
  exact n8or _ 64
 generalize mu k=C at *
 generalize k.getD 31 0 % 64+64=y3 at *
 generalize k.getD 31 0 &&& 63=y2 at *
 generalize k.getD 31 0=y1 at *
 generalize k.getD 0 0-k.getD 0 0 % 8=x3 at *
 generalize k.getD 0 0=x1 at *
 unfold eu
 refine az (c:=⟨Tryz.prog,24,[],[1000008,1000010],[]⟩) (rs:=[ResultVar.tmp 2,ResultVar.tmp 3]) Tryz.mixed Tryz.func87 rfl rfl rfl (Nat.le_of_ble_eq_true rfl) (by kernel_rfl) fun H=>?_
 simp(disch:=omega)only[↓kX,kW,aS,simprocAttr,b1,hel,hk]
 intro kz hkz0 hkz kw hkw
 have hwn:H kw=none:=by
  rcases hkw with rfl|⟨_,h⟩
  ·exact hkz
  ·exact am h
 try rw[ef hkz]
 simp(disch:=omega)only[↓kX,kW,aS,simprocAttr,set_get,set_set,hel,hk,a0,p0,n0,a31,p31,n31,s31,hKl,h1l]
 have hCe:=gz C
 rw[hwn]
 refine⟨?_,by omega,Sub.set_new hwn⟩
 show some (AV.tup [AV.imm 0 ((bw C).take (32*1)) 32,_])=_
 rw[List.take_of_length_le (by omega),hcl]
theorem dbit_pure(k:List UInt8)(i:Nat)(hi:i<256)(hk:k.length=32):APure Tryz.prog 48 [eu k,.sc (.int .i64 i)] (.sc (.int .i64 ((k.getD (i/8) 0).toNat/2^(i % 8) % 2:Nat))):=by
 have hel:=gz k
 have a0:=nX (l:=k) (i:=i/8) (by omega)
 have hx:=(k.getD (i/8) 0).toNat_lt
 generalize (k.getD (i/8) 0).toNat=x at *
 unfold eu
 refine az (c:=⟨Tryz.prog,23,[],[],[]⟩) (rs:=[ResultVar.tmp 4]) Tryz.mixed Tryz.func48 rfl rfl rfl (Nat.le_of_ble_eq_true rfl) (by kernel_rfl) fun H=>?_
 have w1:IntKind.i64.wrap ((i/8:Nat):Int)=((i/8:Nat):Int):=iw (by omega)
 have w2:IntKind.i64.wrap (x:Int)=(x:Int):=iw (by omega)
 simp(disch:=omega)only[↓kX,kW,aS,simprocAttr,nC,w1,w2,a0,hel]
 refine br (c:=⟨Tryz.prog,23,[],[],[]⟩) Tryz.mixed (by kernel_rfl) (fun m σ H'=>∃j:Nat,j+m=i % 8∧σ 1=.sc (.int .i64 i)∧σ 5=.sc (.int .i64 (x/2^j:Nat))∧σ 6=.sc (.int .i64 j)∧H'=H) (i % 8) ?_ ?_
 ·refine⟨0,by omega,?_⟩
  simp(disch:=omega)only[↓kX,kW,aS,simprocAttr,Nat.pow_zero,Nat.div_one]
 ·rintro m σ H' ⟨j,hj,g1,g5,g6,rfl⟩
  have hxj:x/2^j≤x:=Nat.div_le_self _ _
  have hdd:x/2^j/2=x/2^(j+1):=by rw[Nat.div_div_eq_div_mul,Nat.pow_succ]
  by_cases hlt:j<i % 8
  ·have hb:decide ((j:Int)<((i % 8:Nat):Int))=true:=dT (by omega)
   generalize x/2^j=y at *
   have w3:IntKind.i64.wrap ((y/2:Nat):Int)=((y/2:Nat):Int):=iw (by omega)
   have w4:IntKind.i64.wrap ((j:Int)+1)=((j+1:Nat):Int):=by rw[iw (by omega)];rfl
   simp(disch:=omega)only[↓kX,kW,aS,simprocAttr,g1,g5,g6,jd,nC,hb,w3,w4]
   exact⟨m-1,by omega,j+1,by omega,by rw[hdd],rfl⟩
  ·obtain rfl:j=i % 8:=by omega
   have hb:decide (((i % 8:Nat):Int)<((i % 8:Nat):Int))=false:=by simp
   simp(disch:=omega)only[↓kX,kW,aS,simprocAttr,g1,g5,g6,jd,hb]
   first|exact Abs.Sub.refl _|exact⟨rfl,Abs.Sub.refl _⟩|trace_state
end Go.Proofs.YtcncplameclkfaaGreatDoor
end
section
set_option maxRecDepth 20000
set_option maxHeartbeats 8000000
namespace Go.Proofs.YtcncplameclkfaaGreatDoor
open Go Go.Abs Go.Proofs Go.Box
open Go.Nam (p25 nc nV mQ oE oD fmul_lt L4 stepL my turnL mY)
def prC(x z:Nat):List AV:=lH (kZ 4 x)++lH (kZ 4 z)
theorem sN(x z:Nat):(prC x z).length=8:=by unfold prC;rw[List.length_append,mI,mI]
theorem prC_take(x z:Nat):(prC x z).take 8=prC x z:=List.take_of_length_le (by rw[sN];omega)
theorem prC_fst(x z:Nat):(prC x z).take 4=lH (kZ 4 x):=by
 unfold prC
 exact List.take_left' (mI x)
theorem prC_snd(x z:Nat):((prC x z).drop 4).take 4=lH (kZ 4 z):=by
 unfold prC
 rw[List.drop_left' (mI x)]
 exact mH z
theorem qk(x z:Nat):(prC x z).map AV.strip0=prC x z:=by unfold prC;rw[List.map_append,kY,kY]
theorem frz4{H:AH}{k1 k2 k3 k4:Nat}{a b c:AObj}(h1:H k1=none)(h2:(H.set k1 a) k2=none)(h3:((H.set k1 a).set k2 b) k3=none)(h4:(((H.set k1 a).set k2 b).set k3 c) k4=none):
    (∀c d,((((H.set k1 a).set k2 b).set k3 c).set k4 d) k2=some b)∧(∀c d,((((H.set k1 a).set k2 b).set k3 c).set k4 d).kill k2=((H.set k1 a).set k3 c).set k4 d)∧(∀c d,(((H.set k1 a).set k3 c).set k4 d) k1=some a)∧(∀c d,(((H.set k1 a).set k3 c).set k4 d).kill k1=(H.set k3 c).set k4 d)∧¬k3=k4∧H k3=none∧H k4=none:=by
 have n12:¬k1=k2:=bK0 h2
 have n23:¬k2=k3:=bK0 h3
 have n34:¬k3=k4:=bK0 h4
 have h3':=am h3
 have n13:¬k1=k3:=bK0 h3'
 have h4':=am h4
 have n24:¬k2=k4:=bK0 h4'
 have h4'':=am h4'
 have n14:¬k1=k4:=bK0 h4''
 have km:∀ {G:AH} {x y z:Nat} {p q r:AObj},¬x=y→¬x=z→G x=none→(((G.set x p).set y q).set z r).kill x=(G.set y q).set z r:=fun {G x y z p q r} hxy hxz hn=>by
  funext w
  simp only[AH.set,AH.kill]
  by_cases e:w=x
  ·subst e
   simp[hxy,hxz,hn]
  ·simp[e]
 refine⟨fun c d=>?_,fun c d=>km n23 n24 h2,fun c d=>?_,fun c d=>km n13 n14 h1,n34,am h3',am h4''⟩
 ·rw[aP n24,aP n23,set_get]
 ·rw[aP n14,aP n13,set_get]
theorem pr_take(x:Nat)(L:List AV):List.take 4 (lH (kZ 4 x)++L)=lH (kZ 4 x):=List.take_left' (mI x)
theorem pr_drop(x:Nat):List.drop 8 (lH (kZ 4 x)++[.sc (.int .u64 0),.sc (.int .u64 0),.sc (.int .u64 0),.sc (.int .u64 0)])=[]:=List.drop_of_length_le (by rw[List.length_append,mI];decide)
theorem pr_pair(x z:Nat):lH (kZ 4 x)++lH (kZ 4 z)=prC x z:=rfl
theorem pr_zero(x z:Nat):bG [.sc (.int .u64 0),.sc (.int .u64 0),.sc (.int .u64 0),.sc (.int .u64 0),.sc (.int .u64 0),.sc (.int .u64 0),.sc (.int .u64 0),.sc (.int .u64 0)] 0 (prC x z)=prC x z:=oX (by rw[sN];rfl)
theorem pr_put(a b x z:Nat):bG (prC a b) 0 (prC x z)=prC x z:=oX (by rw[sN,sN])
theorem pswap_pure(bit a b c d:Nat)(hb:bit≤1):APure Tryz.prog 90 [.sc (.int .u64 bit),.agg (prC a b),.agg (prC c d)] (.tup [.agg (prC (my bit ⟨a,b,c,d⟩).a (my bit ⟨a,b,c,d⟩).b),.agg (prC (my bit ⟨a,b,c,d⟩).c (my bit ⟨a,b,c,d⟩).d)]):=by
 have e1:(my bit ⟨a,b,c,d⟩).a=if bit=0 then a else c:=by unfold my;split<;>rfl
 have e2:(my bit ⟨a,b,c,d⟩).b=if bit=0 then b else d:=by unfold my;split<;>rfl
 have e3:(my bit ⟨a,b,c,d⟩).c=if bit=0 then c else a:=by unfold my;split<;>rfl
 have e4:(my bit ⟨a,b,c,d⟩).d=if bit=0 then d else b:=by unfold my;split<;>rfl
 rw[e1,e2,e3,e4]
 have c1:=nQ bit a c hb
 have c2:=nQ bit b d hb
 have c3:=nQ bit c a hb
 have c4:=nQ bit d b hb
 generalize (if bit=0 then a else c)=r1 at *
 generalize (if bit=0 then b else d)=r2 at *
 generalize (if bit=0 then c else a)=r3 at *
 generalize (if bit=0 then d else b)=r4 at *
 have sl:=mI
 have st:=mH
 have pl:=sN
 have pt:=prC_take
 have pf:=prC_fst
 have ps:=prC_snd
 have tk:=pr_take
 have dk:=pr_drop
 have pp:=pr_pair
 have pz:=pr_zero
 refine az (c:=⟨Tryz.prog,34,[(1,[0,0,1,0,1,0,0,0,1,0,1,0,0,0,0,1,0,1,0,0,0,1,0,1,0,0,2,2]),(1000000,[5,4])],[],[]⟩) (rs:=[ResultVar.cell 6 116,ResultVar.cell 7 116]) Tryz.mixed Tryz.func90 rfl rfl rfl (Nat.le_of_ble_eq_true rfl) (by kernel_rfl) fun H=>?_
 simp(disch:=omega)only[↓kX,kW,aS,simprocAttr,pl,pt,pf,ps]
 intro k4 hk40 hk4 k5 hk50 hk5 k6 hk60 hk6 k7 hk70 hk7
 obtain⟨q1,q2,q3,q4,n67,hk6',hk7'⟩:=frz4 hk4 hk5 hk6 hk7
 simp(disch:=omega)only[↓kX,kW,aS,simprocAttr,q1,q2,q3,q4,pl,pt,pf,ps,kY]
 first|refine CallK.p (c1) ?_|refine CallP.i (c1) ?_
 simp(disch:=omega)only[↓kX,kW,aS,simprocAttr,pl,pt,pf,ps,kY]
 first|refine CallK.p (c2) ?_|refine CallP.i (c2) ?_
 simp(disch:=omega)only[↓kX,kW,aS,simprocAttr,pl,pt,pf,ps,sl,st,tk,dk,List.append_nil,pp,kY]
 first|refine CallK.p (c3) ?_|refine CallP.i (c3) ?_
 simp(disch:=omega)only[↓kX,kW,aS,simprocAttr,pl,pt,pf,ps,sl,st,tk,dk,List.append_nil,pp,kY]
 have v6:∀X Y,((H.set k6 X).set k7 Y) k6=some X:=fun X Y=>lE n67
 have s6:∀X Y X',((H.set k6 X).set k7 Y).set k6 X'=(H.set k6 X').set k7 Y:=fun X Y X'=>mG n67
 first|refine CallK.p (c4) ?_|refine CallP.i (c4) ?_
 simp(disch:=omega)only[↓kX,kW,aS,simprocAttr,pl,pt,pf,ps,sl,st,tk,dk,List.append_nil,pp,pz,v6,s6,set_get,set_set,kY]
 refine⟨by rw[qk,qk],?_⟩
 exact(Sub.set_new hk6').set_free hk7'
end Go.Proofs.YtcncplameclkfaaGreatDoor
end
section
set_option maxRecDepth 20000
set_option maxHeartbeats 8000000
namespace Go.Proofs.YtcncplameclkfaaGreatDoor
open Go Go.Abs Go.Proofs Go.Box
open Go.Nam (p25 nc nV mQ oE oD fmul_lt L4 my turnL mY)
theorem pn{x:Nat}(h:x<p25):x<lX:=Nat.lt_trans h (by decide)
theorem cadd(a b:Nat)(ha:a<lX)(hb:b<lX):APure Tryz.prog 122 [nA a,nA b] (nA (nc a b)):=padd_pure a b ha hb
theorem csub(a b:Nat)(ha:a<lX)(hb:b<lX):APure Tryz.prog 121 [nA a,nA b] (nA (nV a b)):=psub_pure a b ha hb
theorem cmul(a b:Nat)(ha:a<lX)(hb:b<lX):APure Tryz.prog 93 [nA a,nA b] (nA (mQ a b)):=pmul_pure a b ha hb
theorem qn{E:AH}{a b:Nat}{x:AObj}(n:¬a=b)(hb:E b=none):(E.set a x) b=none:=by
 first
  |(rw[aP n];exact hb)
  |(rw[aP (fun e=>n e.symm)];exact hb)
theorem kill_far{G:AH}{x y z:Nat}{p q r:AObj}(hxy:¬x=y)(hxz:¬x=z)(hn:G x=none):(((G.set x p).set y q).set z r).kill x=(G.set y q).set z r:=by
 funext w
 simp only[AH.set,AH.kill]
 by_cases e:w=x
 ·subst e
  simp[hxy,hxz,hn]
 ·simp[e]
theorem frz5{H:AH}{k1 k2 k3 k4 k5:Nat}{a b c d:AObj}(h1:H k1=none)(h2:(H.set k1 a) k2=none)(h3:((H.set k1 a).set k2 b) k3=none)(h4:(((H.set k1 a).set k2 b).set k3 c) k4=none)(h5:((((H.set k1 a).set k2 b).set k3 c).set k4 d) k5=none):
    (∀d e,(((((H.set k1 a).set k2 b).set k3 c).set k4 d).set k5 e) k3=some c)∧(∀d e,(((((H.set k1 a).set k2 b).set k3 c).set k4 d).set k5 e).kill k3=((((H.set k1 a).set k2 b)).set k4 d).set k5 e)∧
    (∀d e,((((H.set k1 a).set k2 b).set k4 d).set k5 e) k2=some b)∧(∀d e,((((H.set k1 a).set k2 b).set k4 d).set k5 e).kill k2=(((H.set k1 a)).set k4 d).set k5 e)∧
    (∀d e,(((H.set k1 a).set k4 d).set k5 e) k1=some a)∧(∀d e,(((H.set k1 a).set k4 d).set k5 e).kill k1=(H.set k4 d).set k5 e)∧¬k4=k5∧H k4=none∧H k5=none:=by
 have n12:¬k1=k2:=bK0 h2
 have n23:¬k2=k3:=bK0 h3
 have h3a:=am h3
 have n13:¬k1=k3:=bK0 h3a
 have n34:¬k3=k4:=bK0 h4
 have h4a:=am h4
 have n24:¬k2=k4:=bK0 h4a
 have h4b:=am h4a
 have n14:¬k1=k4:=bK0 h4b
 have n45:¬k4=k5:=bK0 h5
 have h5a:=am h5
 have n35:¬k3=k5:=bK0 h5a
 have h5b:=am h5a
 have n25:¬k2=k5:=bK0 h5b
 have h5c:=am h5b
 have n15:¬k1=k5:=bK0 h5c
 refine⟨fun d e=>?_,fun d e=>kill_far n34 n35 h3,fun d e=>?_,fun d e=>kill_far n24 n25 h2,fun d e=>?_,fun d e=>kill_far n14 n15 h1,n45,am h4b,am h5c⟩
 ·rw[aP n35,aP n34,set_get]
 ·rw[aP n25,aP n24,set_get]
 ·rw[aP n15,aP n14,set_get]
theorem pstep_pure(u a b c d:Nat)(hu:u<lX)(ha:a<lX)(hb:b<lX)(hc:c<lX)(hd:d<lX):APure Tryz.prog 91 [nA u,.agg (prC a b),.agg (prC c d)] (.tup [.agg (prC (Go.Nam.stepL u ⟨a,b,c,d⟩).a (Go.Nam.stepL u ⟨a,b,c,d⟩).b),.agg (prC (Go.Nam.stepL u ⟨a,b,c,d⟩).c (Go.Nam.stepL u ⟨a,b,c,d⟩).d)]):=by
 unfold Go.Nam.stepL
 simp only
 have cA1:=cadd a b ha hb
 have cS1:=csub a b ha hb
 have l1:=pn (oE a b)
 have l2:=pn (oD a b)
 generalize nc a b=A at *
 generalize nV a b=B at *
 have cS2:=csub c d hc hd
 have cA2:=cadd c d hc hd
 have l3:=pn (oD c d)
 have l4:=pn (oE c d)
 generalize nV c d=C at *
 generalize nc c d=D at *
 have cM1:=cmul C A l3 l1
 have cM2:=cmul D B l4 l2
 have l5:=pn (fmul_lt C A)
 have l6:=pn (fmul_lt D B)
 generalize mQ C A=da at *
 generalize mQ D B=cb at *
 have cM3:=cmul A A l1 l1
 have cM4:=cmul B B l2 l2
 have l7:=pn (fmul_lt A A)
 have l8:=pn (fmul_lt B B)
 generalize mQ A A=aa at *
 generalize mQ B B=bb at *
 have cS3:=csub aa bb l7 l8
 have l9:=pn (oD aa bb)
 generalize nV aa bb=e at *
 have cA3:=cadd da cb l5 l6
 have cS4:=csub da cb l5 l6
 have l10:=pn (oE da cb)
 have l11:=pn (oD da cb)
 generalize nc da cb=s at *
 generalize nV da cb=dd at *
 have cM5:=cmul aa bb l7 l8
 have cM6:=cmul 121665 e (by decide) l9
 have l12:=pn (fmul_lt 121665 e)
 generalize mQ 121665 e=f at *
 have cA4:=cadd aa f l7 l12
 have l13:=pn (oE aa f)
 generalize nc aa f=g at *
 have cM7:=cmul e g l9 l13
 have cM8:=cmul s s l10 l10
 have cM9:=cmul dd dd l11 l11
 have l14:=pn (fmul_lt dd dd)
 generalize mQ dd dd=h at *
 have cM10:=cmul u h hu l14
 generalize mQ aa bb=x2 at *
 generalize mQ e g=z2 at *
 generalize mQ s s=x3 at *
 generalize mQ u h=z3 at *
 clear l1 l2 l3 l4 l5 l6 l7 l8 l9 l10 l11 l12 l13 l14 hu ha hb hc hd
 unfold nA at *
 rw[show lH (kZ 4 121665)=[.sc (.int .u64 121665),.sc (.int .u64 0),.sc (.int .u64 0),.sc (.int .u64 0)] from rfl]at cM6
 have sl:=mI
 have st:=mH
 have zq:=fun x=>mP (sl x)
 have pl:=sN
 have pt:=prC_take
 have pf:=prC_fst
 have ps:=prC_snd
 have tk:=pr_take
 have dk:=pr_drop
 have pp:=pr_pair
 have pz:=pr_zero
 obtain⟨Z,hZ⟩:∃Z:AObj,Z=.cells [.sc (.int .u64 0),.sc (.int .u64 0),.sc (.int .u64 0),.sc (.int .u64 0),.sc (.int .u64 0),.sc (.int .u64 0),.sc (.int .u64 0),.sc (.int .u64 0)] 116 8:=⟨_,rfl⟩
 refine az (c:=⟨Tryz.prog,78,[(1,[0,0,0,0,0,0,0,0,0,0,2,2,2,2]),(2,[0,0,0,0,0,0,0,0,0,0,0,0,0,0,2,2,2,2]),(3,[0,0,0,0,0,0,2,2,2,2]),(5,[0,0,0,0,0,0,2,2,2,2]),(6,[0,0,0,0,0,0,0,0,0,0,0,2,2]),(7,[1,1,1,0,1,1,1,0,0,0,2,2]),(1000000,[5,4,3]),(1000001,[9,8]),(1000002,[11,10]),(1000003,[13,12]),(1000004,[14]),(1000005,[16,15]),(1000006,[17]),(4000007,[6,7]),(4000006,[3,6,7,15,16,17]),(4000005,[3,6,7,12,13,14,15,16]),(4000004,[3,6,7,10,11,12,13,14]),(4000003,[3,6,7,10,11,12,13]),(4000002,[3,6,7,8,9,10,11]),(4000001,[3,5,6,7,8,9]),(4000000,[3,4,5,6,7])],[],[(1,(.op 0 0 (.op 1 0 (.op 2 0 (.op 3 0 (.op 4 0 (.op 5 0 (.op 6 0 (.op 7 0 (.op 8 0 (.op 9 0 (.or (.op 10 3 (.op 11 3 (.op 12 2 (.op 13 2 .nil)))) (.op 11 3 (.op 10 3 (.op 12 2 (.op 13 2 .nil)))))))))))))))),(2,(.op 0 0 (.op 1 0 (.op 2 0 (.op 3 0 (.op 4 0 (.op 5 0 (.op 6 0 (.op 7 0 (.op 8 0 (.op 9 0 (.op 10 0 (.op 11 0 (.op 12 0 (.op 13 0 (.or (.op 14 3 (.op 15 3 (.op 16 2 (.op 17 2 .nil)))) (.op 15 3 (.op 14 3 (.op 16 2 (.op 17 2 .nil)))))))))))))))))))),(3,(.op 0 0 (.op 1 0 (.op 2 0 (.op 3 0 (.op 4 0 (.op 5 0 (.or (.op 6 3 (.op 7 3 (.op 8 2 (.op 9 2 .nil)))) (.op 7 3 (.op 6 3 (.op 8 2 (.op 9 2 .nil)))))))))))),(5,(.op 0 0 (.op 1 0 (.op 2 0 (.op 3 0 (.op 4 0 (.op 5 0 (.or (.op 6 3 (.op 7 3 (.op 8 2 (.op 9 2 .nil)))) (.op 7 3 (.op 6 3 (.op 8 2 (.op 9 2 .nil))))))))))))]⟩) (rs:=[ResultVar.cell 6 116,ResultVar.cell 7 116]) Tryz.mixed Tryz.func91 rfl rfl rfl (Nat.le_of_ble_eq_true rfl) (by kernel_rfl) fun H=>?_
 simp(disch:=omega)only[↓kX,kW,aS,simprocAttr,sl,st,pl,pt]
 intro k3 hk30 hk3 k4 hk40 hk4 k5 hk50 hk5 k6 hk60 hk6 k7 hk70 hk7
 obtain⟨q1,q2,q3,q4,q5,q6,n67,hk6',hk7'⟩:=frz5 hk3 hk4 hk5 hk6 hk7
 rw[←hZ]
 simp(disch:=omega)only[↓kX,kW,aS,simprocAttr,q1,q2,q3,q4,q5,q6,sl,st,pl,pt]
 obtain⟨E,hE⟩:∃E,E=(H.set k6 Z).set k7 Z:=⟨_,rfl⟩
 rw[←hE]
 refine eI00 (fun σ F=>∃bA bB,σ 3=.ip (lH (kZ 4 u)) 0∧σ 5=.ip (prC c d) 0∧σ 6=.ptr k6 0∧σ 7=.ptr k7 0∧σ 8=.ptr bA 0∧σ 9=.ptr bB 0∧¬bA=bB∧E bA=none∧E bB=none∧F=(E.set bA (.cells (lH (kZ 4 A)) 58 4)).set bB (.cells (lH (kZ 4 B)) 58 4)) ?_ ?_
 ·simp(disch:=omega)only[↓kX,kW,aS,simprocAttr,sl,st,pl,pt,pf,ps,kY]
  first|refine CallK.p (cA1) ?_|refine CallP.i (cA1) ?_
  simp(disch:=omega)only[↓kX,kW,aS,simprocAttr,sl,st,pl,pt,pf,ps,kY]
  first|refine CallK.p (cS1) ?_|refine CallP.i (cS1) ?_
  simp(disch:=omega)only[↓kX,kW,aS,simprocAttr,sl,st,pl,pt,pf,ps,kY]
  refine⟨?_,?_⟩
  ·intro bA hA0 hA bB hB0 hB
   have n67:=bK0 hB
   have hB':=am hB
   have u1:∀X Y,((E.set bA X).set bB Y) bA=some X:=fun X Y=>lE n67
   have u2:∀X Y X',((E.set bA X).set bB Y).set bA X'=(E.set bA X').set bB Y:=fun X Y X'=>mG n67
   simp(disch:=omega)only[↓kX,kW,aS,simprocAttr,u1,u2,set_get,set_set,sl,zq]
   exact⟨bA,bB,rfl,rfl,n67,hA,hB',rfl⟩
  ·intro bB hB0 hB bA hA0 hA
   have n76:=bK0 hA
   have hA':=am hA
   have u1:∀X Y,((E.set bB X).set bA Y) bB=some X:=fun X Y=>lE n76
   have u2:∀X Y X',((E.set bB X).set bA Y).set bB X'=(E.set bB X').set bA Y:=fun X Y X'=>mG n76
   simp(disch:=omega)only[↓kX,kW,aS,simprocAttr,u1,u2,set_get,set_set,sl,zq]
   exact⟨bA,bB,rfl,rfl,fun e=>n76 e.symm,hA',hB,by first|exact fD n76|exact fD (fun e=>n76 e.symm)|exact(fD n76).symm|exact(fD (fun e=>n76 e.symm)).symm⟩
 rintro σ F ⟨bA,bB,g3,g5,g6,g7,gA,gB,nAB,hA,hB,rfl⟩
 have hB':=qn (x:=(.cells (lH (kZ 4 A)) 58 4)) nAB hB
 have vA:∀X Y,((E.set bA X).set bB Y) bA=some X:=fun X Y=>lE nAB
 simp(disch:=omega)only[↓kX,kW,aS,simprocAttr,g3,g5,g6,g7,gA,gB,vA,set_get,aj hB',aj hA,sl,st,pl,pt,pf,ps,kY]
 refine eI00 (fun σ F=>∃bA bB,σ 3=.ip (lH (kZ 4 u)) 0∧σ 6=.ptr k6 0∧σ 7=.ptr k7 0∧σ 8=.ip (lH (kZ 4 A)) 0∧σ 9=.ip (lH (kZ 4 B)) 0∧σ 10=.ptr bA 0∧σ 11=.ptr bB 0∧¬bA=bB∧E bA=none∧E bB=none∧F=(E.set bA (.cells (lH (kZ 4 da)) 58 4)).set bB (.cells (lH (kZ 4 cb)) 58 4)) ?_ ?_
 ·simp(disch:=omega)only[↓kX,kW,aS,simprocAttr,sl,st,pl,pt,pf,ps,kY]
  first|refine CallK.p (cS2) ?_|refine CallP.i (cS2) ?_
  simp(disch:=omega)only[↓kX,kW,aS,simprocAttr,sl,st,pl,pt,pf,ps,kY]
  first|refine CallK.p (cM1) ?_|refine CallP.i (cM1) ?_
  simp(disch:=omega)only[↓kX,kW,aS,simprocAttr,sl,st,pl,pt,pf,ps,kY]
  first|refine CallK.p (cA2) ?_|refine CallP.i (cA2) ?_
  simp(disch:=omega)only[↓kX,kW,aS,simprocAttr,sl,st,pl,pt,pf,ps,kY]
  first|refine CallK.p (cM2) ?_|refine CallP.i (cM2) ?_
  simp(disch:=omega)only[↓kX,kW,aS,simprocAttr,sl,st,pl,pt,pf,ps,kY]
  refine⟨?_,?_⟩
  ·intro bA hA0 hA bB hB0 hB
   have n67:=bK0 hB
   have hB':=am hB
   have u1:∀X Y,((E.set bA X).set bB Y) bA=some X:=fun X Y=>lE n67
   have u2:∀X Y X',((E.set bA X).set bB Y).set bA X'=(E.set bA X').set bB Y:=fun X Y X'=>mG n67
   simp(disch:=omega)only[↓kX,kW,aS,simprocAttr,u1,u2,set_get,set_set,sl,zq]
   exact⟨bA,bB,rfl,rfl,n67,hA,hB',rfl⟩
  ·intro bB hB0 hB bA hA0 hA
   have n76:=bK0 hA
   have hA':=am hA
   have u1:∀X Y,((E.set bB X).set bA Y) bB=some X:=fun X Y=>lE n76
   have u2:∀X Y X',((E.set bB X).set bA Y).set bB X'=(E.set bB X').set bA Y:=fun X Y X'=>mG n76
   simp(disch:=omega)only[↓kX,kW,aS,simprocAttr,u1,u2,set_get,set_set,sl,zq]
   exact⟨bA,bB,rfl,rfl,fun e=>n76 e.symm,hA',hB,by first|exact fD n76|exact fD (fun e=>n76 e.symm)|exact(fD n76).symm|exact(fD (fun e=>n76 e.symm)).symm⟩
 rintro σ F ⟨bA,bB,g3,g6,g7,g8,g9,gA,gB,nAB,hA,hB,rfl⟩
 have hB':=qn (x:=(.cells (lH (kZ 4 da)) 58 4)) nAB hB
 have vA:∀X Y,((E.set bA X).set bB Y) bA=some X:=fun X Y=>lE nAB
 simp(disch:=omega)only[↓kX,kW,aS,simprocAttr,g3,g6,g7,g8,g9,gA,gB,vA,set_get,aj hB',aj hA,sl,st,pl,pt,pf,ps,kY]
 refine eI00 (fun σ F=>∃bA bB,σ 3=.ip (lH (kZ 4 u)) 0∧σ 6=.ptr k6 0∧σ 7=.ptr k7 0∧σ 10=.ip (lH (kZ 4 da)) 0∧σ 11=.ip (lH (kZ 4 cb)) 0∧σ 12=.ptr bA 0∧σ 13=.ptr bB 0∧¬bA=bB∧E bA=none∧E bB=none∧F=(E.set bA (.cells (lH (kZ 4 aa)) 58 4)).set bB (.cells (lH (kZ 4 bb)) 58 4)) ?_ ?_
 ·simp(disch:=omega)only[↓kX,kW,aS,simprocAttr,sl,st,pl,pt,pf,ps,kY]
  first|refine CallK.p (cM3) ?_|refine CallP.i (cM3) ?_
  simp(disch:=omega)only[↓kX,kW,aS,simprocAttr,sl,st,pl,pt,pf,ps,kY]
  first|refine CallK.p (cM4) ?_|refine CallP.i (cM4) ?_
  simp(disch:=omega)only[↓kX,kW,aS,simprocAttr,sl,st,pl,pt,pf,ps,kY]
  refine⟨?_,?_⟩
  ·intro bA hA0 hA bB hB0 hB
   have n67:=bK0 hB
   have hB':=am hB
   have u1:∀X Y,((E.set bA X).set bB Y) bA=some X:=fun X Y=>lE n67
   have u2:∀X Y X',((E.set bA X).set bB Y).set bA X'=(E.set bA X').set bB Y:=fun X Y X'=>mG n67
   simp(disch:=omega)only[↓kX,kW,aS,simprocAttr,u1,u2,set_get,set_set,sl,zq]
   exact⟨bA,bB,rfl,rfl,n67,hA,hB',rfl⟩
  ·intro bB hB0 hB bA hA0 hA
   have n76:=bK0 hA
   have hA':=am hA
   have u1:∀X Y,((E.set bB X).set bA Y) bB=some X:=fun X Y=>lE n76
   have u2:∀X Y X',((E.set bB X).set bA Y).set bB X'=(E.set bB X').set bA Y:=fun X Y X'=>mG n76
   simp(disch:=omega)only[↓kX,kW,aS,simprocAttr,u1,u2,set_get,set_set,sl,zq]
   exact⟨bA,bB,rfl,rfl,fun e=>n76 e.symm,hA',hB,by first|exact fD n76|exact fD (fun e=>n76 e.symm)|exact(fD n76).symm|exact(fD (fun e=>n76 e.symm)).symm⟩
 rintro σ F ⟨bA,bB,g3,g6,g7,g10,g11,gA,gB,nAB,hA,hB,rfl⟩
 have hB':=qn (x:=(.cells (lH (kZ 4 aa)) 58 4)) nAB hB
 have vA:∀X Y,((E.set bA X).set bB Y) bA=some X:=fun X Y=>lE nAB
 simp(disch:=omega)only[↓kX,kW,aS,simprocAttr,g3,g6,g7,g10,g11,gA,gB,vA,set_get,aj hB',aj hA,sl,st,pl,pt,pf,ps,kY]
 first|refine CallK.p (cS3) ?_|refine CallP.i (cS3) ?_
 simp(disch:=omega)only[↓kX,kW,aS,simprocAttr,sl,st,kY]
 intro k14 hk140 hk14
 rw[zq,aj hk14]
 refine eI00 (fun σ F=>∃bA bB,σ 3=.ip (lH (kZ 4 u)) 0∧σ 6=.ptr k6 0∧σ 7=.ptr k7 0∧σ 12=.ip (lH (kZ 4 aa)) 0∧σ 13=.ip (lH (kZ 4 bb)) 0∧σ 14=.ip (lH (kZ 4 e)) 0∧σ 15=.ptr bA 0∧σ 16=.ptr bB 0∧¬bA=bB∧E bA=none∧E bB=none∧F=(E.set bA (.cells (lH (kZ 4 s)) 58 4)).set bB (.cells (lH (kZ 4 dd)) 58 4)) ?_ ?_
 ·simp(disch:=omega)only[↓kX,kW,aS,simprocAttr,sl,st,pl,pt,pf,ps,kY]
  first|refine CallK.p (cA3) ?_|refine CallP.i (cA3) ?_
  simp(disch:=omega)only[↓kX,kW,aS,simprocAttr,sl,st,pl,pt,pf,ps,kY]
  first|refine CallK.p (cS4) ?_|refine CallP.i (cS4) ?_
  simp(disch:=omega)only[↓kX,kW,aS,simprocAttr,sl,st,pl,pt,pf,ps,kY]
  refine⟨?_,?_⟩
  ·intro bA hA0 hA bB hB0 hB
   have n67:=bK0 hB
   have hB':=am hB
   have u1:∀X Y,((E.set bA X).set bB Y) bA=some X:=fun X Y=>lE n67
   have u2:∀X Y X',((E.set bA X).set bB Y).set bA X'=(E.set bA X').set bB Y:=fun X Y X'=>mG n67
   simp(disch:=omega)only[↓kX,kW,aS,simprocAttr,u1,u2,set_get,set_set,sl,zq]
   exact⟨bA,bB,rfl,rfl,n67,hA,hB',rfl⟩
  ·intro bB hB0 hB bA hA0 hA
   have n76:=bK0 hA
   have hA':=am hA
   have u1:∀X Y,((E.set bB X).set bA Y) bB=some X:=fun X Y=>lE n76
   have u2:∀X Y X',((E.set bB X).set bA Y).set bB X'=(E.set bB X').set bA Y:=fun X Y X'=>mG n76
   simp(disch:=omega)only[↓kX,kW,aS,simprocAttr,u1,u2,set_get,set_set,sl,zq]
   exact⟨bA,bB,rfl,rfl,fun e=>n76 e.symm,hA',hB,by first|exact fD n76|exact fD (fun e=>n76 e.symm)|exact(fD n76).symm|exact(fD (fun e=>n76 e.symm)).symm⟩
 rintro σ F ⟨bA,bB,g3,g6,g7,g12,g13,g14,gA,gB,nAB,hA,hB,rfl⟩
 have hB':=qn (x:=(.cells (lH (kZ 4 s)) 58 4)) nAB hB
 have vA:∀X Y,((E.set bA X).set bB Y) bA=some X:=fun X Y=>lE nAB
 simp(disch:=omega)only[↓kX,kW,aS,simprocAttr,g3,g6,g7,g12,g13,g14,gA,gB,vA,set_get,aj hB',aj hA,sl,st,pl,pt,pf,ps,kY]
 first|refine CallK.p (cM5) ?_|refine CallP.i (cM5) ?_
 simp(disch:=omega)only[↓kX,kW,aS,simprocAttr,sl,st,kY]
 first|refine CallK.p (cM6) ?_|refine CallP.i (cM6) ?_
 simp(disch:=omega)only[↓kX,kW,aS,simprocAttr,sl,st,kY]
 first|refine CallK.p (cA4) ?_|refine CallP.i (cA4) ?_
 simp(disch:=omega)only[↓kX,kW,aS,simprocAttr,sl,st,kY]
 first|refine CallK.p (cM7) ?_|refine CallP.i (cM7) ?_
 simp(disch:=omega)only[↓kX,kW,aS,simprocAttr,sl,st,tk,dk,List.append_nil,pp,pl,kY]
 intro k17 hk170 hk17
 rw[pz,aj hk17]
 have e6:E k6=some Z:=by rw[hE,lE n67]
 have e7:∀X,(E.set k6 X) k7=some Z:=fun X=>by
  rw[aP (fun e=>n67 e.symm),hE,set_get]
 rw[hZ]at e6 e7
 have w6:∀X Y,((E.set k6 X).set k7 Y) k6=some X:=fun X Y=>lE n67
 simp(disch:=omega)only[↓kX,kW,aS,simprocAttr,sl,st,pl,pt,kY,qk]
 first|refine CallK.p (cM8) ?_|refine CallP.i (cM8) ?_
 simp(disch:=omega)only[↓kX,kW,aS,simprocAttr,sl,st,pl,pt,kY,qk]
 first|refine CallK.p (cM9) ?_|refine CallP.i (cM9) ?_
 simp(disch:=omega)only[↓kX,kW,aS,simprocAttr,sl,st,pl,pt,kY,qk]
 first|refine CallK.p (cM10) ?_|refine CallP.i (cM10) ?_
 simp(disch:=omega)only[↓kX,kW,aS,simprocAttr,sl,st,tk,dk,List.append_nil,pp,pl,pt,pz,e6,e7,w6,set_get,kY,qk]
 rw[hE]
 first|exact(((Sub.set_new hk6').set_free hk7').set_free hk6').set_free hk7'|exact⟨rfl,(((Sub.set_new hk6').set_free hk7').set_free hk6').set_free hk7'⟩|trace_state
end Go.Proofs.YtcncplameclkfaaGreatDoor
end
section
set_option maxRecDepth 20000
namespace Go.Proofs.YtcncplameclkfaaGreatDoor
open Go Go.Abs Go.Proofs
def F4(H:AH)(a r w s:Nat)(ca cr cw cs:AObj):AH:=(((H.set a ca).set r cr).set w cw).set s cs
structure D4(H:AH)(a r w s:Nat):Prop where
 na:H a=none
 nr:H r=none
 nw:H w=none
 ns:H s=none
 e1:a≠r
 e2:a≠w
 e3:a≠s
 e4:r≠w
 e5:r≠s
 e6:w≠s
theorem qs{H:AH}{a b:Nat}{x y:AObj}(h:a≠b):(H.set a x).set b y=(H.set b y).set a x:=by
 funext z
 simp only[AH.set]
 by_cases e1:z=a<;>by_cases e2:z=b<;>simp[e1,e2,h,Ne.symm h]
variable {H:AH} {a r w s:Nat}
theorem D4.getA(d:D4 H a r w s)(ca cr cw cs:AObj):F4 H a r w s ca cr cw cs a=some ca:=by simp[F4,AH.set,d.e1,d.e2,d.e3]
theorem D4.getR(d:D4 H a r w s)(ca cr cw cs:AObj):F4 H a r w s ca cr cw cs r=some cr:=by simp[F4,AH.set,d.e4,d.e5]
theorem D4.getW(d:D4 H a r w s)(ca cr cw cs:AObj):F4 H a r w s ca cr cw cs w=some cw:=by simp[F4,AH.set,d.e6]
theorem D4.getS(ca cr cw cs:AObj):F4 H a r w s ca cr cw cs s=some cs:=by simp[F4,AH.set]
theorem D4.setA(d:D4 H a r w s)(ca cr cw cs x:AObj):(F4 H a r w s ca cr cw cs).set a x=F4 H a r w s x cr cw cs:=by
 unfold F4
 rw[qs d.e3.symm,qs d.e2.symm,qs d.e1.symm,set_set]
theorem D4.setR(d:D4 H a r w s)(ca cr cw cs x:AObj):(F4 H a r w s ca cr cw cs).set r x=F4 H a r w s ca x cw cs:=by
 unfold F4
 rw[qs d.e5.symm,qs d.e4.symm,set_set]
theorem D4.setW(d:D4 H a r w s)(ca cr cw cs x:AObj):(F4 H a r w s ca cr cw cs).set w x=F4 H a r w s ca cr x cs:=by
 unfold F4
 rw[qs d.e6.symm,set_set]
theorem D4.setS(ca cr cw cs x:AObj):(F4 H a r w s ca cr cw cs).set s x=F4 H a r w s ca cr cw x:=by
 unfold F4
 rw[set_set]
theorem D4.sub(d:D4 H a r w s)(ca cr cw cs:AObj):Abs.Sub H (F4 H a r w s ca cr cw cs):=by
 intro x o hx
 have h1:x≠a:=fun e=>by rw[e,d.na]at hx;cases hx
 have h2:x≠r:=fun e=>by rw[e,d.nr]at hx;cases hx
 have h3:x≠w:=fun e=>by rw[e,d.nw]at hx;cases hx
 have h4:x≠s:=fun e=>by rw[e,d.ns]at hx;cases hx
 simp[F4,AH.set,h1,h2,h3,h4,hx]
theorem D4.of4{x y z:AObj}(h1:H a=none)(h2:(H.set a x) r=none)(h3:((H.set a x).set r y) w=none)(h4:(((H.set a x).set r y).set w z) s=none):D4 H a r w s:=by
 have n12:=bK0 h2
 have n23:=bK0 h3
 have h3':=am h3
 have n13:=bK0 h3'
 have n34:=bK0 h4
 have h4':=am h4
 have n24:=bK0 h4'
 have h4'':=am h4'
 exact⟨h1,am h2,am h3',am h4'',n12,n13,bK0 h4'',n23,n24,n34⟩
theorem F4_at(H:AH)(a r w s:Nat)(ca cr cw cs:AObj)(z:Nat):F4 H a r w s ca cr cw cs z=if z=s then some cs else if z=w then some cw else if z=r then some cr else if z=a then some ca else H z:=rfl
theorem F4.same{F:AH}{H:AH}{a b c e:Nat}{xa xb xc xe:AObj}(d:D4 H a b c e)(ha:F a=some xa)(hb:F b=some xb)(hc:F c=some xc)(he:F e=some xe)(ho:∀z,z≠a→z≠b→z≠c→z≠e→F z=H z):F=F4 H a b c e xa xb xc xe:=by
 funext z
 rw[F4_at]
 by_cases h1:z=e
 ·rw[if_pos h1,h1,he]
 ·rw[if_neg h1]
  by_cases h2:z=c
  ·rw[if_pos h2,h2,hc]
  ·rw[if_neg h2]
   by_cases h3:z=b
   ·rw[if_pos h3,h3,hb]
   ·rw[if_neg h3]
    by_cases h4:z=a
    ·rw[if_pos h4,h4,ha]
    ·rw[if_neg h4]
     exact ho z h4 h3 h2 h1
theorem D4.else(d:D4 H a r w s)(ca cr cw cs:AObj){z:Nat}(h1:z≠a)(h2:z≠r)(h3:z≠w)(h4:z≠s):F4 H a r w s ca cr cw cs z=H z:=by rw[F4_at,if_neg h4,if_neg h3,if_neg h2,if_neg h1]
theorem kill_new{E:AH}{k:Nat}{o:AObj}(h:E k=none):(E.set k o).kill k=E:=by
 funext z
 simp only[AH.set,AH.kill]
 split
 ·rename_i e
  rw[e,h]
 ·rfl
theorem D4.killS(d:D4 H a r w s)(ca cr cw cs:AObj):(F4 H a r w s ca cr cw cs).kill s=((H.set a ca).set r cr).set w cw:=by
 unfold F4
 refine kill_new ?_
 simp[AH.set,d.e3.symm,d.e5.symm,d.e6.symm,d.ns]
theorem D4.killW(d:D4 H a r w s)(ca cr cw:AObj):(((H.set a ca).set r cr).set w cw).kill w=(H.set a ca).set r cr:=by
 refine kill_new ?_
 simp[AH.set,d.e2.symm,d.e4.symm,d.nw]
theorem D4.killR(d:D4 H a r w s)(ca cr:AObj):((H.set a ca).set r cr).kill r=H.set a ca:=by
 refine kill_new ?_
 simp[AH.set,d.e1.symm,d.nr]
theorem D4.killA(d:D4 H a r w s)(ca:AObj):(H.set a ca).kill a=H:=kill_new d.na
theorem give_row{f:FuncId}{H:AH}{l:List UInt8}{k n:Nat}{v:AV}(hn:n=l.length)(hc:APure Tryz.prog f [.imm 0 (bw l) n] v)(h1:H k=none):ACalls Tryz.prog f [.own k 0 n] (H.set k (.cells (bw l) 5 1)) (fun v' H'=>v'=v∧H'=H):=by
 subst hn
 have hl:=gz l
 refine ACalls.give (args':=[.imm 0 (bw l) l.length]) (H0:=H) ((Abs.Sub.refl H).set_free h1) ⟨?_,trivial⟩ (hc.call ⟨rfl,rfl⟩)
 have:=Frz.own (H:=H.set k (.cells (bw l) 5 1)) (H0:=H) (k:=k) (n:=l.length) (cs:=bw l) set_get h1 (by omega)
 rwa [show(bw l).take (l.length*1)=bw l from List.take_of_length_le (by omega)]at this
end Go.Proofs.YtcncplameclkfaaGreatDoor
end
