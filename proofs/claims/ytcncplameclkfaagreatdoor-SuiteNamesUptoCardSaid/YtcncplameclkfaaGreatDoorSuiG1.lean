/-
  Several texts in one: each says what it proves.
  Conditions: none. Lemmas only.
-/
import Derived.Test.YtcncplameclkfaaGreatDoorSuiFacts
import Derived.Test.YtcncplameclkfaaGreatDoorAbsG5
set_option linter.all false
section
set_option maxRecDepth 20000
namespace Go.Proofs.YtcncplameclkfaaGreatDoor
open Go Go.Abs Go.Proofs
theorem own_pure(xs:List UInt8)(h:xs.length≤140737488355328):APure Tryz.prog 7 [eu xs] (eu xs):=by
 refine az (c:=⟨Tryz.prog,6,[],[3],[]⟩) (rs:=[ResultVar.tmp 2]) Tryz.mixed Tryz.func7 rfl rfl rfl (Nat.le_of_ble_eq_true rfl) (by kernel_rfl) fun H=>?_
 simp(disch:=omega)only[↓kX,kW,aS,simprocAttr]
 intro k hk0 hk
 simp(disch:=omega)only[↓kX,kW,aS,simprocAttr]
 intro k' o' _ hk' _
 exact Sub.set_new (am hk')
theorem jj0(n:Nat)(hn:n<9223372036854775808):APure Tryz.prog 42 [.sc (.int .i64 n)] (eu (fh 8 n)):=by
 have hl:=fe0 8 n
 have ht:=lowL_take 8 n
 generalize fh 8 n=L at *
 refine az (c:=⟨Tryz.prog,19,[],[],[]⟩) (rs:=[ResultVar.tmp 2]) Tryz.mixed Tryz.func42 rfl rfl rfl (Nat.le_of_ble_eq_true rfl) (by kernel_rfl) fun H=>?_
 simp(disch:=omega)only[↓kX,kW,aS,simprocAttr]
 refine jn 3 (by simp(disch:=omega)only[↓kX,kW,aS,simprocAttr]) fun k hk0 hk=>?_
 refine br (c:=⟨Tryz.prog,19,[],[],[]⟩) Tryz.mixed (by kernel_rfl) (fun m σ H'=>∃i,i+m=8∧σ 0=.sc (.int .i64 n)∧σ 5=.sc (.int .i64 i)∧∃k o,k≠0∧H k=none∧H'=H.set k o∧cy0 5 1 o i∧σ 3=.imm k (bw (L.take i)) i) 8 ?_ ?_
 ·refine⟨0,by omega,?_⟩
  simp(disch:=omega)only[↓kX,kW,aS,simprocAttr]
  exact⟨k,_,hk0,hk,rfl,.inr ⟨rfl,rfl⟩,by simp[bw]⟩
 ·rintro m σ H' ⟨i,hi,h0,h5,k,o,hk0,hk,rfl,ho,h3⟩
  by_cases hlt:i<8
  ·have hb1:decide ((i:Int)<8)=true:=by simp;omega
   have hz:=ht i hlt
   have hli:(L.take i).length=i:=by simp;omega
   generalize L.take i=l at *
   have hs:((n:Int)).fdiv (2^min (8*i) 64)=((n/256^i:Nat):Int):=by
    rw[Nat.min_eq_left (by omega),show(256:Nat)=2^8 from rfl,←Nat.pow_mul,Int.fdiv_eq_ediv_of_nonneg _ (by exact_mod_cast Nat.zero_le _)]
    simp
   simp(disch:=omega)only[↓kX,kW,aS,simprocAttr,h0,h3,h5,hb1,ho,hli,↓jw,↓jC,hs]
   intro k' o' hk0' hk' ho'
   exact⟨m-1,by omega,i+1,by omega,rfl,k',o',hk0',am hk',rfl,ho',by rw[hz]⟩
  ·have hb1:decide ((i:Int)<8)=false:=by simp;omega
   obtain rfl:m=0:=by omega
   obtain rfl:i=8:=by omega
   simp(disch:=omega)only[↓kX,kW,aS,simprocAttr,h0,h3,h5,hb1]
   rw[List.take_of_length_le (by omega),eu,hl]
   exact⟨rfl,Sub.set_new hk⟩
def iP(t:Term):Nat:=if t.kind=103 then 64 else if t.kind=98 then (t.parts.getD 3 []).length+16 else 32
def fW(t:Term)(n:Nat):List UInt8:=t.kind::fh 8 n++List.replicate (iP t-9) 0
def okT(t:Term):Prop:=(t.kind=98→4≤t.parts.length)∧t.parts.length≤1000000∧t.parts.flatten.length≤1000000000000
theorem flat_take{ls:List (List UInt8)}{i:Nat}(h:i<ls.length):(ls.take (i+1)).flatten=(ls.take i).flatten++ls[i]:=by
 rw[List.take_succ_eq_append_getElem h,List.flatten_append,List.flatten_singleton]
theorem flat_le{ls:List (List UInt8)}(i:Nat):(ls.take i).flatten.length≤ls.flatten.length:=by
 have:ls.flatten=(ls.take i).flatten++(ls.drop i).flatten:=by rw[←List.flatten_append,List.take_append_drop]
 rw[this,List.length_append];omega
theorem kN{ls:List (List UInt8)}{p:List UInt8}(h:p∈ls):p.length≤ls.flatten.length:=by
 obtain⟨i,hi,rfl⟩:=List.getElem_of_mem h
 have:=flat_le (ls:=ls) (i+1)
 rw[flat_take hi,List.length_append]at this
 omega
theorem sizeT_ge(t:Term):16≤iP t:=by
 unfold iP;split
 ·omega
 ·split<;>omega
theorem j4(t:Term)(n:Nat):(fW t n).length=iP t:=by
 have:=sizeT_ge t
 simp[fW,fe0];omega
theorem okT_3{t:Term}(h:okT t)(hk:t.kind=98):∃p,t.parts[3]? = some p∧(t.parts.map eu)[3]? = some (.imm 0 (bw p) p.length)∧iP t=p.length+16∧p.length≤1000000000000:=by
 have h3:3<t.parts.length:=by have:=h.1 hk;omega
 refine⟨t.parts[3],by simp[h3],by simp[h3],?_,Nat.le_trans (kN (List.getElem_mem h3)) h.2.2⟩
 unfold iP
 rw[if_neg (by rw[hk];decide),if_pos hk]
 simp[List.getD,h3]
theorem sizeT_le{t:Term}(h:okT t):iP t≤1000000000016:=by
 by_cases hk:t.kind=98
 ·obtain⟨p,_,_,h3,h4⟩:=okT_3 h hk;omega
 ·unfold iP
  rw[if_neg hk]
  split<;>omega
theorem size_pure(t:Term)(h:okT t):APure Tryz.prog 134 [jo t] (.sc (.int .i64 (iP t))):=by
 obtain⟨kd,parts⟩:=t
 refine az (c:=⟨Tryz.prog,15,[(1000000,[1])],[],[]⟩) (rs:=[ResultVar.tmp 2]) Tryz.mixed Tryz.func134 rfl rfl rfl (Nat.le_of_ble_eq_true rfl) (by kernel_rfl) fun H=>?_
 by_cases h1:kd=103
 ·subst h1
  have e:iP ⟨103,parts⟩=64:=by simp[iP]
  have hk:((103:UInt8).toNat:Int)=103:=rfl
  rw[e]
  simp(disch:=omega)only[↓kX,kW,aS,Nat.reduceBEq,Nat.reduceLT,reduceCtorEq,↓reduceIte,Nat.reduceMul,Nat.reduceAdd,Nat.reduceLeDiff,Nat.reduceEqDiff,Int.reduceToNat,Nat.reduceSub,Nat.reduceMod,Nat.reduceDiv,Int.reducePow,Int.reduceLE,Int.reduceNeg,Int.reduceLT,Int.reduceBEq,Int.reduceBNe,Int.reduceEq,hk]
  exact fun k hk0 hk=>Sub.box hk
 ·by_cases h2:kd=98
  ·subst h2
   obtain⟨p,h3,h4,h5,h6⟩:=okT_3 h rfl
   rw[h5]
   have hk:((98:UInt8).toNat:Int)=98:=rfl
   have hp:3<parts.length:=by have:=h.1 rfl;simp at this;omega
   simp(disch:=omega)only[↓kX,kW,aS,Nat.reduceBEq,Nat.reduceLT,reduceCtorEq,↓reduceIte,Nat.reduceMul,Nat.reduceAdd,Nat.reduceLeDiff,Nat.reduceEqDiff,Int.reduceToNat,Nat.reduceSub,Nat.reduceMod,Nat.reduceDiv,Int.reducePow,Int.reduceLE,Int.reduceNeg,Int.reduceLT,Int.reduceBEq,Int.reduceBNe,Int.reduceEq,hk]
   intro k hk0 hk
   simp(disch:=omega)only[↓kX,kW,aS,Nat.reduceBEq,Nat.reduceLT,reduceCtorEq,↓reduceIte,Nat.reduceMul,Nat.reduceAdd,Nat.reduceLeDiff,Nat.reduceEqDiff,Int.reduceToNat,Nat.reduceSub,Nat.reduceMod,Nat.reduceDiv,Int.reducePow,Int.reduceLE,Int.reduceNeg,Int.reduceLT,Int.reduceBEq,Int.reduceBNe,Int.reduceEq,aj hk,h4]
   exact Abs.Sub.refl _
  ·have e:iP ⟨kd,parts⟩=32:=by simp[iP,h1,h2]
   rw[e]
   have b1:((kd.toNat:Int) == 103)=false:=by rw[show(103:Int)=((103:UInt8).toNat:Int) from rfl,n8eq];simpa using h1
   have b2:((kd.toNat:Int) == 98)=false:=by rw[show(98:Int)=((98:UInt8).toNat:Int) from rfl,n8eq];simpa using h2
   simp(disch:=omega)only[↓kX,kW,aS,Nat.reduceBEq,Nat.reduceLT,reduceCtorEq,↓reduceIte,Nat.reduceMul,Nat.reduceAdd,Nat.reduceLeDiff,Nat.reduceEqDiff,Int.reduceToNat,Nat.reduceSub,Nat.reduceMod,Nat.reduceDiv,Int.reducePow,Int.reduceLE,Int.reduceNeg,Int.reduceLT,Int.reduceBEq,Int.reduceBNe,Int.reduceEq,b1,b2]
   exact fun k hk0 hk=>Sub.box hk
theorem called_live(t:Term)(n:Nat)(h:okT t)(hn:n<9223372036854775808)(H:AH):ACalls Tryz.prog 85 [jo t,.sc (.int .i64 n)] H (OwnB (fW t n) H):=by
 have he:=jj0 n hn
 have hz:=size_pure t h
 have hsz:=sizeT_le h
 have hsg:=sizeT_ge t
 have hlen:=fe0 8 n
 have hnl:=j4 t n
 have hnm:fW t n=t.kind::fh 8 n++List.replicate (iP t-9) 0:=rfl
 obtain⟨kd,parts⟩:=t
 generalize iP ⟨kd,parts⟩=s at *
 generalize fW ⟨kd,parts⟩ n=L at *
 generalize fh 8 n=E at *
 refine ao0 (c:=⟨Tryz.prog,17,[(2000001,[0,1,3,4,2,5,6]),(1,[0,1,0,0,2,2,0]),(1000000,[2])],[1000008,1000011,1000016],[]⟩) (rs:=[ResultVar.tmp 4]) Tryz.mixed Tryz.func85 rfl rfl rfl (Nat.le_of_ble_eq_true rfl) (by kernel_rfl) ?_
 simp(disch:=omega)only[↓kX,kW,aS,Nat.reduceBEq,Nat.reduceLT,reduceCtorEq,↓reduceIte,Nat.reduceMul,Nat.reduceAdd,Nat.reduceLeDiff,Nat.reduceEqDiff,Int.reduceToNat,Nat.reduceSub,Nat.reduceMod,Nat.reduceDiv,Int.reducePow,Int.reduceLE,Int.reduceNeg,Int.reduceLT,Int.reduceBEq,Int.reduceBNe,Int.reduceEq]
 intro k hk0 hk
 have hc:(AV.sc (.int .u8 kd.toNat)::bw E)=bw (kd::E):=rfl
 first|refine CallK.p (he) ?_|refine CallP.i (he) ?_
 simp(disch:=omega)only[↓kX,kW,aS,Nat.reduceBEq,Nat.reduceLT,reduceCtorEq,↓reduceIte,Nat.reduceMul,Nat.reduceAdd,Nat.reduceLeDiff,Nat.reduceEqDiff,Int.reduceToNat,Nat.reduceSub,Nat.reduceMod,Nat.reduceDiv,Int.reducePow,Int.reduceLE,Int.reduceNeg,Int.reduceLT,Int.reduceBEq,Int.reduceBNe,Int.reduceEq,aj hk]
 intro k1 hk10 hk1 k2 hk2
 obtain⟨hk20,hk2⟩:=iW hk10 hk1 hk2
 have hs9:((s:Int)-9).toNat=s-9:=by omega
 have hl9:(kd::E).length=9:=by simp[hlen]
 first|refine CallK.p (hz) ?_|refine CallP.i (hz) ?_
 simp(disch:=omega)only[↓kX,kW,aS,Nat.reduceBEq,Nat.reduceLT,reduceCtorEq,↓reduceIte,Nat.reduceMul,Nat.reduceAdd,Nat.reduceLeDiff,Nat.reduceEqDiff,Int.reduceToNat,Nat.reduceSub,Nat.reduceMod,Nat.reduceDiv,Int.reducePow,Int.reduceLE,Int.reduceNeg,Int.reduceLT,Int.reduceBEq,Int.reduceBNe,Int.reduceEq,aj hk1,hc,hlen,hs9,hl9]
 intro k3 hk3
 obtain⟨hk30,hk3⟩:=iW hk20 hk2 hk3
 refine⟨_,rfl,_,Abs.Sub.refl _,k3,hk30,hk3,?_,?_⟩
 ·show AV.own k3 0 (9+(s-9))=_
  rw[hnl];congr 1;omega
 ·rw[List.take_of_length_le (by rw[gz,hl9];omega),me,hnm]
def keyP(ps:List (List UInt8)):List UInt8:=ps.flatMap fun p=>fh 8 p.length++p
def keyT(t:Term):List UInt8:=t.kind::keyP t.parts
theorem keyP_take{ls:List (List UInt8)}{i:Nat}(h:i<ls.length):keyP (ls.take (i+1))=keyP (ls.take i)++(fh 8 ls[i].length++ls[i]):=by
 rw[List.take_succ_eq_append_getElem h,keyP,List.flatMap_append,List.flatMap_singleton];rfl
theorem jO(ls:List (List UInt8)):(keyP ls).length=8*ls.length+ls.flatten.length:=by
 induction ls with
 |nil=>rfl
 |cons p r ih=>
  have:keyP (p::r)=fh 8 p.length++p++keyP r:=rfl
  rw[this,List.length_append,List.length_append,fe0,ih];simp;omega
theorem key_pure(t:Term)(h:okT t):APure Tryz.prog 135 [jo t] (strV (keyT t)):=by
 obtain⟨kd,ps⟩:=t
 have h1:ps.length≤1000000:=h.2.1
 have h2:ps.flatten.length≤1000000000000:=h.2.2
 refine az (c:=⟨Tryz.prog,26,[(1000000,[1])],[8],[]⟩) (rs:=[ResultVar.tmp 2]) Tryz.mixed Tryz.func135 rfl rfl rfl (Nat.le_of_ble_eq_true rfl) (by kernel_rfl) fun H=>?_
 simp(disch:=omega)only[↓kX,kW,aS,simprocAttr]
 intro k hk0 hk k1 hk10 hk1
 simp(disch:=omega)only[↓kX,kW,aS,simprocAttr,aj hk]
 rw[aj hk]at hk1
 refine br (c:=⟨Tryz.prog,26,[(1000000,[1])],[8],[]⟩) Tryz.mixed (by kernel_rfl) (fun m σ H'=>∃i acc,i+m=ps.length∧acc=kd::keyP (ps.take i)∧σ 10=fZ ps∧σ 11=.sc (.int .i64 ps.length)∧σ 12=.sc (.int .i64 i)∧∃k o,k≠0∧H k=none∧H'=H.set k o∧cy0 5 1 o acc.length∧σ 3=.imm k (bw acc) acc.length) ps.length ?_ ?_
 ·refine⟨0,_,by omega,rfl,?_⟩
  simp(disch:=omega)only[↓kX,kW,aS,simprocAttr,aj hk]
  exact⟨k1,_,hk10,hk1,rfl,.inl rfl,rfl⟩
 ·rintro m σ H' ⟨i,acc,hi,hacc,h10,h11,h12,k,o,hk0,hk,rfl,ho,h3⟩
  have hal:acc.length=1+(8*i+(ps.take i).flatten.length):=by rw[hacc,List.length_cons,jO,List.length_take,Nat.min_eq_left (by omega)];omega
  have hfl:=flat_le (ls:=ps) i
  by_cases hlt:i<ps.length
  ·have hb1:decide ((i:Int)<(ps.length:Int))=true:=by simp;omega
   have g1:=getR hlt
   have hz:=keyP_take hlt
   have hpl:=kN (List.getElem_mem hlt)
   have he:=jj0 ps[i].length (by omega)
   have hel:=fe0 8 ps[i].length
   generalize ps[i]=p at *
   generalize fh 8 p.length=E at *
   simp(disch:=omega)only[↓kX,kW,aS,simprocAttr,h3,h10,h11,h12,hb1,g1,ho]
   first|refine CallK.p (he) ?_|refine CallP.i (he) ?_
   simp(disch:=omega)only[↓kX,kW,aS,simprocAttr,h3,h10,h11,h12,hb1,g1,ho,hel]
   intro k2 o2 hk20 hk2 ho2
   replace hk2:=am hk2
   have hap:bw acc++bw E++bw p=bw (acc++(E++p)):=by rw[me,me,List.append_assoc]
   simp(disch:=omega)only[↓kX,kW,aS,simprocAttr,h3,h10,h11,h12,hb1,g1,ho2,hel,hap]
   intro k3 o3 hk30 hk3 ho3
   have hzz:acc++(E++p)=kd::keyP (ps.take (i+1)):=by rw[hz,hacc];rfl
   have hll:(acc++(E++p)).length=acc.length+8+p.length:=by rw[List.length_append,List.length_append,hel];omega
   have hll':acc.length+(8+p.length)=acc.length+8+p.length:=by omega
   try rw[hll']at ho3
   exact⟨m-1,by omega,i+1,acc++(E++p),by omega,hzz,rfl,k3,o3,hk30,am hk3,rfl,by rw[hll];exact ho3,by rw[hll]⟩
  ·have hb1:decide ((i:Int)<(ps.length:Int))=false:=by simp;omega
   obtain rfl:i=ps.length:=by omega
   rw[List.take_length]at hacc
   simp(disch:=omega)only[↓kX,kW,aS,simprocAttr,h3,h10,h11,h12,hb1]
   rw[hacc]
   exact⟨rfl,Sub.set_new hk⟩
end Go.Proofs.YtcncplameclkfaaGreatDoor
end
