/-
  Several texts in one: each says what it proves.
  Conditions: none. Lemmas only.
-/
import Derived.Test.YtcncplameclkfaaGreatDoorBxG4
import Derived.Test.YtcncplameclkfaaGreatDoorBxG1
import Derived.Test.YtcncplameclkfaaGreatDoorAbsG6
set_option linter.all false
section
set_option maxRecDepth 20000
set_option maxHeartbeats 4000000
namespace Go.Proofs.YtcncplameclkfaaGreatDoor
open Go Go.Abs Go.Proofs Go.Box
theorem oO{l:List Nat}{i x:Nat}(h:i<l.length):bG (lM l) i [.sc (.int .i64 x)]=lM (l.set i x):=by
 rw[ah,List.set_eq_take_append_cons_drop,if_pos h]
 simp[lM]
theorem valL_eq:∀l:List Nat,D8.valL l=pG l
 |[]=>rfl
 |x::l=>by simp[D8.valL,pG,valL_eq l]
theorem zeros_num(n:Nat):aQ [.sc (.int .i64 0)] n=lM (List.replicate n 0):=by
 induction n with
 |zero=>rfl
 |succ n ih=>
  rw[List.replicate_succ]
  show [AV.sc (.int .i64 0)]++aQ [.sc (.int .i64 0)] n=.sc (.int .i64 0)::lM (List.replicate n 0)
  rw[ih]
  rfl
theorem times_pure(a b:Nat)(ha:(digs a).length≤400)(hb:(digs b).length≤400):APure Tryz.prog 116 [D a,D b] (D (a*b)):=by
 have c2:=fun i=>qi (digs b) i
 have dA:=digs_ok a
 have dB:=digs_ok b
 have hspec:=fun i hi=>D8.mulI_spec dA dB i hi
 have hk2:=fun i hi k hk=>D8.mulK_spec (i:=i) (D8.dig_getD dA i) dB k (hspec i hi).1 hk (by have h:=(hspec i hi).2.1;omega)
 have htr:APure Tryz.prog 54 [pZ (D8.mulM (digs a) (digs b)++[0])] (D (a*b)):=by
  obtain⟨h1,h2,h3⟩:=D8.mulM_spec dA dB
  have ht:=pV (D8.mulM (digs a) (digs b)++[0]) (fun x hx=>by
   rcases List.mem_append.1 hx with hx|hx
   ·exact h1 x hx
   ·rw[List.mem_singleton.1 hx];decide) (by rw[List.length_append,h2];simp;omega)
  rw[trim_zero]at ht
  have he:qX (D8.mulM (digs a) (digs b))=digs (a*b):=by
   unfold qX
   rw[←valL_eq,h3,valL_eq,valL_eq,val_digs,val_digs]
  rw[he]at ht
  exact ht
 have hm0:D8.mulI (digs a) (digs b) 0=List.replicate ((digs a).length+(digs b).length) 0:=rfl
 have hmS:∀i,D8.mulI (digs a) (digs b) (i+1)=(D8.mulK ((digs a).getD i 0) (digs b) i (digs b).length (D8.mulI (digs a) (digs b) i,0)).1.set (i+(digs b).length) (D8.mulK ((digs a).getD i 0) (digs b) i (digs b).length (D8.mulI (digs a) (digs b) i,0)).2:=fun i=>rfl
 have hmm:D8.mulM (digs a) (digs b)=D8.mulI (digs a) (digs b) (digs a).length:=rfl
 rw[hmm]at htr
 have hgA:=fun i=>D8.dig_getD dA i
 have hgB:=fun i=>D8.dig_getD dB i
 have hal:=lO (digs a)
 have hbl:=lO (digs b)
 unfold D pZ at *
 generalize digs (a*b)=R at *
 generalize digs a=A at *
 generalize digs b=B at *
 have ws1:IntKind.i64.wrap ((A.length:Int)+(B.length:Int))=((A.length+B.length:Nat):Int):=by rw[iw (by omega)];rfl
 have ws2:IntKind.i64.wrap (((A.length+B.length:Nat):Int)+1)=((A.length+B.length+1:Nat):Int):=by rw[iw (by omega)];rfl
 refine az (c:=⟨Tryz.prog,61,[(9,[0,0,0,0,0,1,0,0,0,1,0,0,0,0,0,0,0,0]),(4000010,[0,1,5,6,8,9]),(4000009,[0,1,5,6,8,9]),(4000007,[0,1,5,6,7,8,30]),(4000001,[0,1,5])],[1000016],[]⟩) (rs:=[ResultVar.tmp 4]) Tryz.mixed Tryz.func116 rfl rfl rfl (Nat.le_of_ble_eq_true rfl) (by kernel_rfl) fun H=>?_
 simp(disch:=omega)only[↓kX,kW,aS,simprocAttr,hal,hbl,ws1,ws2]
 intro kw hkw0 hkw
 refine br (c:=⟨Tryz.prog,61,[(9,[0,0,0,0,0,1,0,0,0,1,0,0,0,0,0,0,0,0]),(4000010,[0,1,5,6,8,9]),(4000009,[0,1,5,6,8,9]),(4000007,[0,1,5,6,7,8,30]),(4000001,[0,1,5])],[1000016],[]⟩) Tryz.mixed (by kernel_rfl) (fun m σ H'=>∃i,i+m=A.length∧σ 0=.imm 0 (lM A) A.length∧σ 1=.imm 0 (lM B) B.length∧σ 5=.own kw 0 (A.length+B.length+1)∧σ 6=.sc (.int .i64 (i:Nat))∧H'=H.set kw (.cells (lM (D8.mulI A B i++[0])) 3 1)) A.length ?_ ?_
 ·refine⟨0,by omega,?_⟩
  simp(disch:=omega)only[↓kX,kW,aS,simprocAttr]
  rw[hm0,←List.replicate_succ',←zeros_num]
  first|rfl|exact⟨rfl,rfl⟩|trace_state
 ·rintro m σ H' ⟨i,hi,g0,g1,g5,g6,rfl⟩
  have w1:IntKind.i64.wrap ((i:Int)+1)=((i+1:Nat):Int):=by rw[iw (by omega)];rfl
  by_cases hlt:i<A.length
  ·have hb1:decide ((i:Int)<(A.length:Int))=true:=dT (by omega)
   have hM:=hspec i (by omega)
   have hKs:=hk2 i (by omega)
   have hS:=hmS i
   have hai:=mV hlt
   have hg:=hgA i
   obtain⟨hM1,hM2,hM3,-⟩:=hM
   generalize D8.mulI A B i=M at *
   generalize hN:D8.mulI A B (i+1)=N at *
   have hK0:D8.mulK (A.getD i 0) B i 0 (M,0)=(M,0):=rfl
   have hKS:∀k,D8.mulK (A.getD i 0) B i (k+1) (M,0)=((D8.mulK (A.getD i 0) B i k (M,0)).1.set (i+k) (((D8.mulK (A.getD i 0) B i k (M,0)).1.getD (i+k) 0+A.getD i 0*B.getD k 0+(D8.mulK (A.getD i 0) B i k (M,0)).2) % 256),((D8.mulK (A.getD i 0) B i k (M,0)).1.getD (i+k) 0+A.getD i 0*B.getD k 0+(D8.mulK (A.getD i 0) B i k (M,0)).2)/256):=fun k=>rfl
   generalize A.getD i 0=x at *
   generalize hG:(fun k=>D8.mulK x B i k (M,0))=G at *
   have hG':∀k,D8.mulK x B i k (M,0)=G k:=fun k=>by rw[←hG]
   simp only[hG']at hKs hS hK0 hKS
   clear hG hG'
   simp(disch:=omega)only[↓kX,kW,aS,simprocAttr,g0,g1,g5,g6,hb1,hal]
   refine br (c:=⟨Tryz.prog,61,[(9,[0,0,0,0,0,1,0,0,0,1,0,0,0,0,0,0,0,0]),(4000010,[0,1,5,6,8,9]),(4000009,[0,1,5,6,8,9]),(4000007,[0,1,5,6,7,8,30]),(4000001,[0,1,5])],[1000016],[]⟩) Tryz.mixed (by kernel_rfl) (fun m2 σ2 H2=>∃k c L,k+m2=B.length+1∧((k≤B.length∧L=(G k).1∧c=(G k).2)∨(k=B.length+1∧L=N∧c=0))∧σ2 0=.imm 0 (lM A) A.length∧σ2 1=.imm 0 (lM B) B.length∧σ2 5=.own kw 0 (A.length+B.length+1)∧σ2 6=.sc (.int .i64 (i:Nat))∧σ2 7=.sc (.int .i64 (c:Nat))∧σ2 8=.sc (.int .i64 (k:Nat))∧H2=H.set kw (.cells (lM (L++[0])) 3 1)) (B.length+1) ?_ ?_
   ·refine⟨0,0,M,by omega,.inl ⟨by omega,by rw[hK0],by rw[hK0]⟩,?_⟩
    simp(disch:=omega)only[↓kX,kW,aS,simprocAttr,g0,g1,g5,g6]
    first|rfl|exact⟨rfl,rfl⟩|trace_state
   ·rintro m2 σ2 H2 ⟨k,c,L,hk,hor,e0,e1,e5,e6,e7,e8,rfl⟩
    have w2:IntKind.i64.wrap ((k:Int)+1)=((k+1:Nat):Int):=by rw[iw (by omega)];rfl
    have w3:IntKind.i64.wrap ((i:Int)+(k:Int))=((i+k:Nat):Int):=by rw[iw (by omega)];rfl
    rcases hor with⟨hkl,rfl,rfl⟩|⟨rfl,rfl,rfl⟩
    ·obtain⟨q1,q2,q3,q4,-⟩:=hKs k hkl
     have hSk:=hKS k
     rw[hM2]at q3
     have hgx:=D8.dig_getD q1 (i+k)
     have cB:=c2 k
     have hgb:=hgB k
     have hz:B.length≤k→B.getD k 0=0:=fun h=>by simp[List.getD,List.getElem?_eq_none h]
     generalize hG1:(G k).1=L at *
     generalize hG2:(G k).2=c at *
     have hll:(lM (L++[0])).length=A.length+B.length+1:=by rw[lO,List.length_append,q3];rfl
     have hlx:(lM (L++[0]))[i+k]? = some (.sc (.int .i64 (L.getD (i+k) 0:Nat)))∨(i+k=A.length+B.length):=by
      by_cases h:i+k<L.length
      ·left
       rw[mV (by rw[List.length_append];omega)]
       simp[List.getD,List.getElem?_append_left h]
      ·right;omega
     have hp:x*B.getD k 0≤255*255:=Nat.mul_le_mul (by omega) (by omega)
     have hput:=fun y=>oO (l:=L++[0]) (i:=i+k) (x:=y) (by rw[List.length_append,q3];show _<_+1;omega)
     have hset:∀y,i+k<L.length→(L++[0]).set (i+k) y=L.set (i+k) y++[0]:=fun y h=>List.set_append_left _ _ h
     have hik:i+k<A.length+B.length:=by omega
     replace hlx:=hlx.resolve_right (by omega)
     replace hput:=fun y=>(hput y).trans (by rw[hset y (by omega)])
     by_cases hkB:k<B.length
     ·have hb2:decide ((k:Int)<(B.length:Int))=true:=dT (by omega)
      generalize B.getD k 0=yb at *
      generalize L.getD (i+k) 0=xo at *
      have w4:IntKind.i64.wrap ((x:Int)*(yb:Int))=((x*yb:Nat):Int):=by rw[iw (by rw[←Int.natCast_mul];omega),Int.natCast_mul]
      have w5:IntKind.i64.wrap ((xo:Int)+((x*yb:Nat):Int))=((xo+x*yb:Nat):Int):=by rw[iw (by omega)];rfl
      have w6:IntKind.i64.wrap (((xo+x*yb:Nat):Int)+(c:Int))=((xo+x*yb+c:Nat):Int):=by rw[iw (by omega)];rfl
      have hpt:=hput ((xo+x*yb+c) % 256)
      have w7:IntKind.i64.wrap ((((xo+x*yb+c)/256:Nat):Int))=(((xo+x*yb+c)/256:Nat):Int):=by rw[iw (by omega)]
      simp(disch:=omega)only[↓kX,kW,aS,simprocAttr,e0,e1,e5,e6,e7,e8,hb2,hal,hbl,hai,hlx,hll,w3]
      first|refine CallK.p (cB) ?_|refine CallP.i (cB) ?_
      simp(disch:=omega)only[↓kX,kW,aS,simprocAttr,e0,e1,e5,e6,e7,e8,hlx,hll,hai,hal,w2,w3,w4,w5,w6,w7,jd,nC,hpt]
      exact⟨m2-1,by omega,k+1,_,_,by omega,.inl ⟨by omega,by rw[hSk],by rw[hSk]⟩,rfl,rfl,rfl⟩
     ·obtain rfl:k=B.length:=by omega
      have hb2:decide ((B.length:Int)<(B.length:Int))=false:=by simp
      have hzz:=hz (Nat.le_refl _)
      have hxz:L.getD (i+B.length) 0=0:=by rw[q4 _ (Nat.le_refl _)];exact hM3 _ (Nat.le_refl _)
      rw[hG1,hG2]at hS
      rw[hzz,show(((0:Nat):Int))=0 from rfl]at cB
      rw[hxz,show(((0:Nat):Int))=0 from rfl]at hlx
      by_cases hc:0<c
      ·have hb3:decide ((0:Int)<(c:Int))=true:=dT (by omega)
       have w4:IntKind.i64.wrap ((x:Int)*0)=0:=by simp;decide
       have w5:IntKind.i64.wrap (0+0)=0:=by decide
       have w6:IntKind.i64.wrap (0+(c:Int))=(c:Int):=by rw[iw (by omega)];omega
       have hpt:=hput c
       have t1:c % 256=c:=Nat.mod_eq_of_lt q2
       have t2:c/256=0:=Nat.div_eq_of_lt q2
       have w7:IntKind.i64.wrap 0=0:=by decide
       have he0:(0:Int)+((x*0:Nat):Int)+(c:Int)=(c:Int):=by simp
       have he1:((c:Int)).tmod 256=(c:Int):=by rw[jd];exact congrArg _ t1
       have he2:((c:Int)).tdiv 256=0:=by rw[nC];exact congrArg Int.ofNat t2
       simp(disch:=omega)only[↓kX,kW,aS,simprocAttr,e0,e1,e5,e6,e7,e8,hb2,hb3,hal,hbl,hai,hlx,hll,w3]
       first|refine CallK.p (cB) ?_|refine CallP.i (cB) ?_
       simp(disch:=omega)only[↓kX,kW,aS,simprocAttr,e0,e1,e5,e6,e7,e8,hlx,hll,hai,hal,w2,w3,w4,w5,w6,he0,he1,he2,w7,hpt]
       exact⟨m2-1,by omega,B.length+1,0,N,by omega,.inr ⟨rfl,rfl,rfl⟩,rfl,rfl,by rw[hS]⟩
      ·obtain rfl:c=0:=by omega
       have hb3:decide ((0:Int)<((0:Nat):Int))=false:=by decide
       have hNe:N=L:=by
        rw[hS]
        apply List.ext_getElem?
        intro j
        by_cases hj:i+B.length=j
        ·subst hj
         rw[List.getElem?_set_self (by omega),List.getElem?_eq_getElem (by omega)]
         congr 1
         simp only[List.getD,List.getElem?_eq_getElem (show i+B.length<L.length by omega),Option.getD_some]at hxz
         exact hxz.symm
        ·rw[List.getElem?_set_ne hj]
       rw[hNe]at hN
       simp(disch:=omega)only[↓kX,kW,aS,simprocAttr,e0,e1,e5,e6,e7,e8,hb2,hb3,hal,hbl]
       exact⟨m-1,by omega,i+1,by omega,rfl,by rw[hN]⟩
    ·have hb2:decide (((B.length+1:Nat):Int)<(B.length:Int))=false:=dF (by omega)
     have hb3:decide ((0:Int)<((0:Nat):Int))=false:=by decide
     simp(disch:=omega)only[↓kX,kW,aS,simprocAttr,e0,e1,e5,e6,e7,e8,hb2,hb3,hal,hbl]
     exact⟨m-1,by omega,i+1,by omega,rfl,by rw[hN]⟩
  ·obtain rfl:i=A.length:=by omega
   have hb1:decide ((A.length:Int)<(A.length:Int))=false:=by simp
   have hsp:=(hspec A.length (Nat.le_refl _)).2.1
   generalize D8.mulI A B A.length=M at *
   have hll:(M++[0]).length=A.length+B.length+1:=by rw[List.length_append,hsp];rfl
   rw[hll]at htr
   have hrow:(H.set kw (.cells (lM (M++[0])) 3 1)) kw=some (.cells (lM (M++[0])) 3 1):=set_get
   have hnl:(lM (M++[0])).length=A.length+B.length+1:=by rw[lO,hll]
   simp(disch:=omega)only[↓kX,kW,aS,simprocAttr,g0,g1,g5,g6,hb1,hal,hbl]
   refine CallK.i (ACalls.give1 hrow (by omega) (by rw[List.take_of_length_le (by omega)];exact htr _)) ?_
   rintro v E ⟨rfl,rfl⟩
   simp(disch:=omega)only[↓kX,kW,aS,simprocAttr]
   rw[ef hkw]
   exact Abs.Sub.refl _
end Go.Proofs.YtcncplameclkfaaGreatDoor
end
section
set_option maxRecDepth 20000
set_option maxHeartbeats 4000000
namespace Go.Abs
open Go Go.RowKit
theorem nil_l{c:Cfg}{a:Code}{Q:Exit→Sg→AH→Prop}{σ:Sg}{H:AH}{t:Tie a}{t':Tie Q}(x:Nat)(hs:σ x=.sc (.slice none 0 0))
    (h:LoopT c a Q (σ.put (some x) (.imm 0 [] 0)) H ⟨⟩ ⟨⟩):LoopT c a Q σ H t t':=by
 intro Γ ro ok B a' w g
 obtain⟨n,i,cc,g1,g2,g3,g4,g5⟩:=g
 refine h Γ ro ok B a' w ⟨n,i,cc,g1,g2,g3,g4,fun t=>?_⟩
 show VR _ (if t=x then _ else σ t) _
 split
 ·rename_i ht
  have h1:=g5 t
  rw[ht,hs]at h1
  have h2:=nilR_rel h1
  rw[nilR_nil]at h2
  rw[ht]
  exact h2
 ·exact g5 t
end Go.Abs
namespace Go.Proofs.YtcncplameclkfaaGreatDoor
open Go Go.Abs Go.Proofs Go.Box
theorem dmod_pure(a m:Nat)(hm0:0<m)(ha:(digs a).length≤1000)(hm:(digs m).length≤400):APure Tryz.prog 96 [D a,D m] (D (a % m)):=by
 have hal:=lO (digs a)
 have hga:=oP a
 have hla:=nE a
 have hlm:=nE m
 have hz:a/256^(digs a).length=0:=Nat.div_eq_of_lt hla
 have hql:∀q,q<m→(digs q).length≤400:=fun q h=>Nat.le_trans (dlen (Nat.lt_trans h hlm)) hm
 have hvl:∀v,v<256*m→(digs v).length≤401:=fun v h=>Nat.le_trans (dlen (k:=(digs m).length+1) (by rw[Nat.pow_succ];omega)) (by omega)
 have hle:=fun v (h:v<256*m)=>less_pure v m (by have:=hvl v h;omega) (by omega)
 have hmi:=fun v (h:v<256*m) (h2:m≤v)=>minus_pure v m h2 (by have:=hvl v h;omega) (by omega)
 have htr:∀x q,x<256→q<m→APure Tryz.prog 54 [.imm 0 (.sc (.int .i64 (x:Nat))::lM (digs q)) (1+(digs q).length)] (D (x+256*q)):=fun x q hx hq=>by
  have h:=pV (x::digs q) (fun y hy=>by
   rcases List.mem_cons.1 hy with rfl|hy
   ·exact hx
   ·exact digs_ok q y hy) (by have:=hql q hq;rw[List.length_cons];omega)
  have e:qX (x::digs q)=digs (x+256*q):=by unfold qX;rw[pG,val_digs]
  rw[e]at h
  unfold pZ at h
  rw[List.length_cons,Nat.add_comm]at h
  exact h
 unfold D pZ at *
 generalize hA:digs a=A at *
 generalize hM:digs m=M at *
 refine az (c:=⟨Tryz.prog,30,[],[18],[]⟩) (rs:=[ResultVar.tmp 4]) Tryz.mixed Tryz.func96 rfl rfl rfl (Nat.le_of_ble_eq_true rfl) (by kernel_rfl) fun H=>?_
 have w0:IntKind.i64.wrap ((A.length:Int)-1)=(A.length:Int)-1:=iw (by omega)
 simp(disch:=omega)only[↓kX,kW,aS,simprocAttr,hal,w0]
 refine nil_l 5 (by simp(disch:=omega)only[↓kX,kW,aS,simprocAttr]) ?_
 refine br (c:=⟨Tryz.prog,30,[],[18],[]⟩) Tryz.mixed (by kernel_rfl) (fun n σ H'=>∃z:Int,z=(n:Int)-1∧n≤A.length∧σ 0=.imm 0 (lM A) A.length∧σ 1=.imm 0 (lM M) M.length∧σ 5=.imm 0 (lM (digs (a/256^n % m))) (digs (a/256^n % m)).length∧σ 6=.sc (.int .i64 z)∧Abs.Sub H H') A.length ?_ ?_
 ·refine⟨(A.length:Int)-1,by omega,by omega,?_⟩
  rw[hz,Nat.zero_mod,qQ]
  simp(disch:=omega)only[↓kX,kW,aS,simprocAttr]
  first|exact⟨rfl,Abs.Sub.refl _⟩|exact Abs.Sub.refl _|trace_state
 ·rintro n σ H' ⟨z,hz1,hn,g0,g1,g5,g6,hsub⟩
  match n with
  |0=>
   obtain rfl:z = -1:=by omega
   have hb2:decide ((0:Int) ≤ -1)=false:=by decide
   rw[Nat.pow_zero,Nat.div_one]at g5
   simp(disch:=omega)only[↓kX,kW,aS,simprocAttr,g0,g1,g5,g6,hb2]
   exact hsub
  |i+1=>
   obtain rfl:z=(i:Int):=by omega
   have hb2:decide ((0:Int)≤(i:Int))=true:=by simp
   have hax:=mV (l:=A) (i:=i) (by omega)
   have hgi:=hga i
   rw[hgi]at hax
   have hx:a/256^i % 256<256:=Nat.mod_lt _ (by decide)
   have hq:a/256^(i+1) % m<m:=Nat.mod_lt _ hm0
   have ht:=htr _ _ hx hq
   have hfin:(a/256^i % 256+256*(a/256^(i+1) % m)) % m=a/256^i % m:=by
    have e1:a/256^i=256*(a/256^(i+1))+a/256^i % 256:=by rw[Nat.pow_succ,←Nat.div_div_eq_div_mul];omega
    conv=>rhs;rw[e1]
    simp[Nat.add_mod,Nat.mul_mod,Nat.add_comm]
   have hv:a/256^i % 256+256*(a/256^(i+1) % m)<256*m:=by omega
   have hR:∀r,r=a/256^i % m→D r=D (a/256^i % m):=fun r h=>by rw[h]
   unfold D pZ at hR
   generalize hr0:a/256^i % m=r0 at *
   generalize a/256^i % 256=x at *
   generalize a/256^(i+1) % m=q at *
   have hnl:=lO (digs q)
   have hqb:=hql q hq
   have w1:IntKind.i64.wrap ((i:Int)-1)=(i:Int)-1:=iw (by omega)
   simp(disch:=omega)only[↓kX,kW,aS,simprocAttr,g0,g1,g5,g6,hb2,hax,hal]
   intro k hk0 hk
   simp(disch:=omega)only[↓kX,kW,aS,simprocAttr,hk0,set_get,hnl]
   intro k' o' hk0' hk' ho'
   have hk1:H' k'=none:=am hk'
   first|refine CallK.p (ht) ?_|refine CallP.i (ht) ?_
   simp(disch:=omega)only[↓kX,kW,aS,simprocAttr]
   try rw[ef hk]
   refine br (c:=⟨Tryz.prog,30,[],[18],[]⟩) Tryz.mixed (by kernel_rfl) (fun v σ2 H2=>v<256*m∧v % m=r0∧σ2 0=.imm 0 (lM A) A.length∧σ2 1=.imm 0 (lM M) M.length∧σ2 5=.imm 0 (lM (digs v)) (digs v).length∧σ2 6=.sc (.int .i64 (i:Nat))∧Abs.Sub H H2) (x+256*q) ?_ ?_
   ·refine⟨hv,hfin,?_⟩
    simp(disch:=omega)only[↓kX,kW,aS,simprocAttr,g0,g1,g5,g6]
    exact hsub.trans (Sub.set_new hk1)
   ·clear hsub hk hk' hk0 hk0' ho' g0 g1 g5 g6 hk1
    clear o' k' k H' σ
    rintro v σ H2 ⟨hv2,hvm,g0,g1,g5,g6,hsub⟩
    have cl:=hle v hv2
    by_cases h:v<m
    ·have hbl:decide (v<m)=true:=decide_eq_true h
     have he:v=r0:=by rw[←hvm,Nat.mod_eq_of_lt h]
     subst he
     rw[hbl]at cl
     simp(disch:=omega)only[↓kX,kW,aS,simprocAttr,g0,g1,g5,g6]
     first|refine CallK.p (cl) ?_|refine CallP.i (cl) ?_
     simp(disch:=omega)only[↓kX,kW,aS,simprocAttr,g0,g1,g5,g6,w1]
     exact⟨i,by omega,(i:Int)-1,by omega,by omega,by rw[hr0],rfl,hsub⟩
    ·have hbl:decide (v<m)=false:=decide_eq_false h
     have cm:=hmi v hv2 (by omega)
     rw[hbl]at cl
     simp(disch:=omega)only[↓kX,kW,aS,simprocAttr,g0,g1,g5,g6]
     first|refine CallK.p (cl) ?_|refine CallP.i (cl) ?_
     simp(disch:=omega)only[↓kX,kW,aS,simprocAttr,g0,g1,g5,g6]
     first|refine CallK.p (cm) ?_|refine CallP.i (cm) ?_
     simp(disch:=omega)only[↓kX,kW,aS,simprocAttr,g0,g1,g5,g6]
     exact⟨v-m,by omega,by omega,by rw[←Nat.mod_eq_sub_mod (by omega)];exact hvm,rfl,hsub⟩
end Go.Proofs.YtcncplameclkfaaGreatDoor
end
section
set_option maxRecDepth 20000
set_option maxHeartbeats 4000000
namespace Go.Proofs.YtcncplameclkfaaGreatDoor
open Go Go.Abs Go.Proofs Go.Box
end Go.Proofs.YtcncplameclkfaaGreatDoor
end
