/-
  Several texts in one: each says what it proves.
  Conditions: none. Lemmas only.
-/
import Derived.Test.YtcncplameclkfaaGreatDoorSgG1
set_option linter.all false
section
set_option maxRecDepth 20000
namespace Go.Proofs.YtcncplameclkfaaGreatDoor
open Go Go.Abs Go.Proofs Go.Box Go.Sha Go.Shg
theorem mul_own(H:AH)(h h2:Nat)(a b:List Nat)(ha:Dig a)(hb:Dig b)(hla:a.length≤100)(hlb:b.length≤100)(hh:H h=some (.cells (lP b) 56 1))(hh2:H h2=some (.cells (lP a) 56 1)):ACalls Tryz.prog 163 [.own h2 0 a.length,.own h 0 b.length] H fun v H'=>∃k,k≠0∧H k=none∧v=.own k 0 (a.length+b.length)∧H'=H.set k (.cells (lP (mulM a b)) 56 1):=by
 have hal:=ll a
 have hbl:=ll b
 refine ao0 (c:=⟨Tryz.prog,63,[(9,[0,0,0,0,0,1,0,0,0,1,0,0,0,1,0,0,0,0,0]),(4000012,[0,1,5,6]),(4000010,[0,1,5,6,8,9]),(4000009,[0,1,5,6,8,9]),(4000001,[0,1,5])],[],[]⟩) (rs:=[ResultVar.tmp 4]) Tryz.mixed Tryz.func163 rfl rfl rfl (Nat.le_of_ble_eq_true rfl) (by kernel_rfl) ?_
 simp(disch:=omega)only[↓kX,kW,aS,simprocAttr]
 intro k hk0 hk
 have hkh:∀o,(H.set k o) h=some (.cells (lP b) 56 1):=fun o=>by
  rw[←hh]
  exact if_neg fun e=>by rw[e,hk]at hh;cases hh
 have hkh2:∀o,(H.set k o) h2=some (.cells (lP a) 56 1):=fun o=>by
  rw[←hh2]
  exact if_neg fun e=>by rw[e,hk]at hh2;cases hh2
 refine br (c:=⟨Tryz.prog,63,[(9,[0,0,0,0,0,1,0,0,0,1,0,0,0,1,0,0,0,0,0]),(4000012,[0,1,5,6]),(4000010,[0,1,5,6,8,9]),(4000009,[0,1,5,6,8,9]),(4000001,[0,1,5])],[],[]⟩) Tryz.mixed (by kernel_rfl) (fun m σ H'=>∃i:Nat,i+m=a.length∧σ 0=.own h2 0 a.length∧σ 1=.own h 0 b.length∧σ 5=.own k 0 (a.length+b.length)∧σ 6=.sc (.int .i64 i)∧H'=H.set k (.cells (lP (mulI a b i)) 56 1)) a.length ?_ ?_
 ·refine⟨0,by omega,?_⟩
  simp(disch:=omega)only[↓kX,kW,aS,simprocAttr]
  rw[repA_dig];rfl
 ·rintro m σ H' ⟨i,hi,h0,h1,h5,h6,rfl⟩
  by_cases hlt:i<a.length
  ·have hb1:decide ((i:Int)<(a.length:Int))=true:=by simp;omega
   have hat:=mE hlt
   have haD:=dig_getD ha i
   obtain⟨hd1,hd2,hd3⟩:=mulI_spec ha hb i (by omega)
   have hne:mulI a b (i+1)=(mulK (a.getD i 0) b i b.length (mulI a b i,0)).1.set (i+b.length) (mulK (a.getD i 0) b i b.length (mulI a b i,0)).2:=rfl
   generalize hps:mulI a b (i+1)=o' at *
   generalize mulI a b i=o at *
   generalize a.getD i 0=ai at *
   simp(disch:=omega)only[↓kX,kW,aS,simprocAttr,h0,h1,h5,h6,hb1]
   refine br (c:=⟨Tryz.prog,63,[(9,[0,0,0,0,0,1,0,0,0,1,0,0,0,1,0,0,0,0,0]),(4000012,[0,1,5,6]),(4000010,[0,1,5,6,8,9]),(4000009,[0,1,5,6,8,9]),(4000001,[0,1,5])],[],[]⟩) Tryz.mixed (by kernel_rfl) (fun m2 σ2 H2=>∃j:Nat,j+m2=b.length∧σ2 0=.own h2 0 a.length∧σ2 1=.own h 0 b.length∧σ2 5=.own k 0 (a.length+b.length)∧σ2 6=.sc (.int .i64 i)∧σ2 7=.sc (.int .u64 ((mulK ai b i j (o,0)).2:Nat))∧σ2 8=.sc (.int .i64 j)∧H2=H.set k (.cells (lP (mulK ai b i j (o,0)).1) 56 1)) b.length ?_ ?_
   ·refine⟨0,by omega,?_⟩
    simp(disch:=omega)only[↓kX,kW,aS,simprocAttr,h0,h1,h5,h6,mulK]
   ·rintro m2 σ2 H2 ⟨j,hj,g0,g1,g5,g6,g7,g8,rfl⟩
    obtain hsp:=mulK_spec (ai:=ai) (i:=i) haD hb j hd1 (by omega) (by omega)
    by_cases hltj:j<b.length
    ·have hb2:decide ((j:Int)<(b.length:Int))=true:=by simp;omega
     have hbt:=mE hltj
     have hbD:=dig_getD hb j
     have hst:mulK ai b i (j+1) (o,0)=((mulK ai b i j (o,0)).1.set (i+j) (((mulK ai b i j (o,0)).1.getD (i+j) 0+ai*b.getD j 0+(mulK ai b i j (o,0)).2) % 65536),((mulK ai b i j (o,0)).1.getD (i+j) 0+ai*b.getD j 0+(mulK ai b i j (o,0)).2)/65536):=rfl
     generalize hz:mulK ai b i j (o,0)=z at *
     obtain⟨zo,zc⟩:=z
     generalize b.getD j 0=bj at *
     obtain⟨p1,p2,p3,p4,p5⟩:=hsp
     simp only at p1 p2 p3 g7 hst
     have hw0:=dig_getD p1 (i+j)
     have hzt:=mE (l:=zo) (i:=i+j) (by omega)
     generalize hgw:zo.getD (i+j) 0=w at *
     have hP:ai*bj≤65535*65535:=Nat.mul_le_mul (by omega) (by omega)
     have hw1:IntKind.u64.wrap ((ai:Int)*(bj:Int))=((ai*bj:Nat):Int):=by rw[←Int.natCast_mul,jw (by omega)]
     generalize ai*bj=pr at *
     have hw2:IntKind.u64.wrap ((w:Int)+(pr:Int))=((w+pr:Nat):Int):=ph (by omega)
     have hw3:IntKind.u64.wrap (((w+pr:Nat):Int)+(zc:Int))=((w+pr+zc:Nat):Int):=ph (by omega)
     generalize hS:w+pr+zc=S at *
     have hw4:IntKind.u64.wrap ((S/65536:Nat):Int)=((S/65536:Nat):Int):=jw (by omega)
     have hput:=oh (l:=zo) (i:=i+j) (x:=S % 65536) (by omega)
     have hzl:=ll zo
     simp(disch:=omega)only[↓kX,kW,aS,simprocAttr,g0,g1,g5,g6,g7,g8,hb2,hkh,hkh2,hat,hbt,hal,hbl,hzt,hw1,hw2,hw3,hw4,jd,nC,hput,hzl]
     first|exact⟨m2-1,by omega,j+1,by omega,by rw[hst],rfl,by rw[hst]⟩|trace_state
    ·obtain rfl:j=b.length:=by omega
     have hb2:decide ((b.length:Int)<(b.length:Int))=false:=by simp
     obtain⟨p1,p2,p3,p4,p5⟩:=hsp
     generalize mulK ai b i b.length (o,0)=z at *
     have hput:=oh (l:=z.1) (i:=i+b.length) (x:=z.2) (by omega)
     have hzl:=ll z.1
     simp(disch:=omega)only[↓kX,kW,aS,simprocAttr,g0,g1,g5,g6,g7,g8,hb2,hkh,hkh2,hal,hbl,hput,hzl]
     first|exact⟨m-1,by omega,i+1,by omega,rfl,by rw[hps,hne]⟩|trace_state
  ·obtain rfl:i=a.length:=by omega
   have hb1:decide ((a.length:Int)<(a.length:Int))=false:=by simp
   simp(disch:=omega)only[↓kX,kW,aS,simprocAttr,h0,h1,h5,h6,hb1]
   exact⟨_,rfl,_,Abs.Sub.refl _,k,hk0,hk,rfl,rfl⟩
theorem own_dig{f:FuncId}{args:List AV}{H:AH}{l:List Nat}{n:Nat}(hn:n=l.length)(h:ACalls Tryz.prog f args H fun v H'=>∃k,k≠0∧H k=none∧v=.own k 0 n∧H'=H.set k (.cells (lP l) 56 1)):ACalls Tryz.prog f args H fun v H'=>v=.imm 0 (lP l) n∧H'=H:=h.freeze (by
 rintro v H' ⟨k,hk0,hk,rfl,rfl⟩
 refine⟨_,H,Abs.Sub.set_new hk,Frz.own set_get hk (by rw[ll];omega),?_,rfl⟩
 rw[List.take_of_length_le (by rw[ll];omega)])
theorem mul_ii(H:AH)(h:Nat)(a b:List Nat)(ha:Dig a)(hb:Dig b)(hla:a.length≤100)(hlb:b.length≤100)(hh:H h=some (.cells (lP b) 56 1)):ACalls Tryz.prog 163 [.imm 0 (lP a) a.length,.own h 0 b.length] H fun v H'=>v=.imm 0 (lP (mulM a b)) (a.length+b.length)∧H'=H:=
 own_dig (mulM_spec ha hb).2.1.symm (mul_live H h a b ha hb hla hlb hh)
theorem mul_oo(H:AH)(h:Nat)(a:List Nat)(ha:Dig a)(hla:a.length≤100)(hh:H h=some (.cells (lP a) 56 1)):ACalls Tryz.prog 163 [.own h 0 a.length,.own h 0 a.length] H fun v H'=>v=.imm 0 (lP (mulM a a)) (a.length+a.length)∧H'=H:=
 own_dig (mulM_spec ha ha).2.1.symm (mul_own H h h a a ha ha hla hla hh hh)
abbrev pos0(l:List Nat):Bool:=l.any fun x=>decide (0<x)
theorem pos_drop{l:List Nat}{i:Nat}(h:i<l.length):pos0 (l.drop i)=(decide (0<l.getD i 0) || pos0 (l.drop (i+1))):=by
 have e:l.getD i 0=l[i]:=by simp[List.getD,h]
 unfold pos0
 rw[e,List.drop_eq_getElem_cons h,List.any_cons]
theorem pos_take{l:List Nat}{i:Nat}(h:i<l.length):pos0 (l.take (i+1))=(pos0 (l.take i) || decide (0<l.getD i 0)):=by
 have e:l.getD i 0=l[i]:=by simp[List.getD,h]
 unfold pos0
 rw[e,List.take_succ_eq_append_getElem h,List.any_append,List.any_cons,List.any_nil,Bool.or_false]
theorem pos_drop_le{l:List Nat}{i j:Nat}(h:i≤j)(g:pos0 (l.drop i)=false):pos0 (l.drop j)=false:=by
 rw[show j=i+(j-i) by omega,←List.drop_drop]
 rw[List.any_eq_false]at g ⊢
 exact fun x hx=>g x (List.mem_of_mem_drop hx)
theorem pos_drop_ge{l:List Nat}{i j:Nat}(h:i≤j)(g:pos0 (l.drop j)=true):pos0 (l.drop i)=true:=by
 cases e:pos0 (l.drop i) with
 |true=>rfl
 |false=>rw[pos_drop_le h e]at g;cases g
theorem pos_take_le{l:List Nat}{i j:Nat}(h:i≤j)(g:pos0 (l.take i)=true):pos0 (l.take j)=true:=by
 rw[List.any_eq_true]at g ⊢
 obtain⟨x,hx,e⟩:=g
 refine⟨x,?_,e⟩
 have:l.take i=(l.take j).take i:=by rw[List.take_take,Nat.min_eq_left h]
 rw[this]at hx
 exact List.mem_of_mem_take hx
theorem dlt{a b:Nat}(h:a<b):decide ((a:Int)<(b:Int))=true:=by simp;omega
theorem dnl{a b:Nat}(h:¬a<b):decide ((a:Int)<(b:Int))=false:=by simp;omega
theorem dlt0{b:Nat}(h:0<b):decide ((0:Int)<(b:Int))=true:=by simp;omega
theorem dnl0{b:Nat}(h:¬0<b):decide ((0:Int)<(b:Int))=false:=by simp;omega
theorem most_pure(d:List Nat)(p n:Nat)(hd:Dig d)(hl:1≤d.length∧d.length≤100)(hp:p<65536)(hn:n≤100):APure Tryz.prog 164 [.imm 0 (lP d) d.length,.sc (.int .i64 p),.sc (.int .i64 n)] (.sc (.bool (qt d p n))):=by
 have hdl:=ll d
 have hpw:IntKind.u64.wrap (p:Int)=(p:Int):=jw (by omega)
 refine az (c:=⟨Tryz.prog,52,[],[],[]⟩) (rs:=[ResultVar.tmp 6]) Tryz.mixed Tryz.func164 rfl rfl rfl (Nat.le_of_ble_eq_true rfl) (by kernel_rfl) fun H=>?_
 have hi0:IntKind.i64.wrap ((d.length:Int)-1)=((d.length-1:Nat):Int):=wsub64n (n:=1) (by show 1≤_;omega) (by omega)
 simp(disch:=omega)only[↓kX,kW,aS,simprocAttr,hi0]
 refine br (c:=⟨Tryz.prog,52,[],[],[]⟩) Tryz.mixed (by kernel_rfl) (fun m σ H'=>∃i:Nat,i=m∧i+1≤d.length∧pos0 (d.drop (i+1))=false∧σ 0=.imm 0 (lP d) d.length∧σ 1=.sc (.int .i64 p)∧σ 2=.sc (.int .i64 n)∧σ 7=.sc (.int .i64 i)∧H'=H) (d.length-1) ?_ ?_
 ·refine⟨d.length-1,rfl,by omega,by rw[show d.length-1+1=d.length by omega,List.drop_length];rfl,?_⟩
  simp(disch:=omega)only[↓kX,kW,aS,simprocAttr]
 ·rintro m σ H' ⟨i,him,hil,hpo,h0,h1,h2,h7,rfl⟩
  by_cases hlt:n<i
  ·have hb1:decide ((n:Int)<(i:Int))=true:=dlt (by omega)
   have hat:=mE (l:=d) (i:=i) (by omega)
   have hpd:=pos_drop (l:=d) (i:=i) (by omega)
   by_cases hz:0<d.getD i 0
   ·have hb2:decide ((0:Int)<((d.getD i 0:Nat):Int))=true:=dlt0 hz
    have hm:qt d p n=true:=by
     unfold qt
     rw[if_pos]
     refine pos_drop_ge (show n+1≤i by omega) ?_
     rw[hpd,decide_eq_true hz,Bool.true_or]
    simp(disch:=omega)only[↓kX,kW,aS,simprocAttr,h0,h1,h2,h7,hb1,hat,hdl,hb2,hm]
    first|exact Abs.Sub.refl _|trace_state
   ·have hb2:decide ((0:Int)<((d.getD i 0:Nat):Int))=false:=dnl0 hz
    have hw:IntKind.i64.wrap ((i:Int)-1)=((i-1:Nat):Int):=wsub64n (n:=1) (by show 1≤_;omega) (by omega)
    simp(disch:=omega)only[↓kX,kW,aS,simprocAttr,h0,h1,h2,h7,hb1,hat,hdl,hb2,hw]
    first|exact⟨i-1,by omega,i-1,rfl,by omega,by rw[show i-1+1=i by omega,hpd,hpo,decide_eq_false hz];rfl,rfl⟩|trace_state
  ·have hb1:decide ((n:Int)<(i:Int))=false:=dnl (by omega)
   have hno:pos0 (d.drop (n+1))=false:=pos_drop_le (by omega) hpo
   have hm0:qt d p n=if d.length≤n∨d.getD n 0<p then false else if p<d.getD n 0 then true else pos0 (d.take n):=by
    unfold qt
    rw[if_neg (by rw[show((d.drop (n+1)).any fun x=>decide (0<x))=false from hno];simp)]
   generalize qt d p n=M at *
   by_cases hnl:d.length≤n
   ·have hb2:decide ((d.length:Int)≤(n:Int))=true:=by simp;omega
    rw[if_pos (.inl hnl)]at hm0
    subst hm0
    simp(disch:=omega)only[↓kX,kW,aS,simprocAttr,h0,h1,h2,h7,hb1,hb2,hdl]
    first|exact Abs.Sub.refl _|trace_state
   ·have hb2:decide ((d.length:Int)≤(n:Int))=false:=by simp;omega
    have hat:=mE (l:=d) (i:=n) (by omega)
    by_cases hc1:d.getD n 0<p
    ·have hb3:decide (((d.getD n 0:Nat):Int)<(p:Int))=true:=dlt (by omega)
     rw[if_pos (.inr hc1)]at hm0
     subst hm0
     simp(disch:=omega)only[↓kX,kW,aS,simprocAttr,h0,h1,h2,h7,hb1,hb2,hdl,hat,hb3,hpw]
     first|exact Abs.Sub.refl _|trace_state
    ·have hb3:decide (((d.getD n 0:Nat):Int)<(p:Int))=false:=dnl (by omega)
     rw[if_neg (by omega)]at hm0
     by_cases hc2:p<d.getD n 0
     ·have hb4:decide ((p:Int)<((d.getD n 0:Nat):Int))=true:=dlt (by omega)
      rw[if_pos hc2]at hm0
      subst hm0
      simp(disch:=omega)only[↓kX,kW,aS,simprocAttr,h0,h1,h2,h7,hb1,hb2,hdl,hat,hb3,hb4,hpw]
      first|exact Abs.Sub.refl _|trace_state
     ·have hb4:decide ((p:Int)<((d.getD n 0:Nat):Int))=false:=dnl (by omega)
      rw[if_neg hc2]at hm0
      subst hm0
      simp(disch:=omega)only[↓kX,kW,aS,simprocAttr,h0,h1,h2,h7,hb1,hb2,hdl,hat,hb3,hb4,hpw]
      refine br (c:=⟨Tryz.prog,52,[],[],[]⟩) Tryz.mixed (by kernel_rfl) (fun m σ H''=>∃i:Nat,i+m=n∧pos0 (d.take i)=false∧σ 0=.imm 0 (lP d) d.length∧σ 2=.sc (.int .i64 n)∧σ 8=.sc (.int .i64 i)∧H''=H') n ?_ ?_
      ·refine⟨0,by omega,rfl,?_⟩
       simp(disch:=omega)only[↓kX,kW,aS,simprocAttr,h0,h2]
      ·rintro m2 σ2 H2 ⟨j,hj,hjp,g0,g2,g8,rfl⟩
       by_cases hjn:j<n
       ·have hb5:decide ((j:Int)<(n:Int))=true:=dlt (by omega)
        have hat2:=mE (l:=d) (i:=j) (by omega)
        have hpt:=pos_take (l:=d) (i:=j) (by omega)
        by_cases hz:0<d.getD j 0
        ·have hb6:decide ((0:Int)<((d.getD j 0:Nat):Int))=true:=dlt0 hz
         have hm:pos0 (d.take n)=true:=pos_take_le (show j+1≤n by omega) (by rw[hpt,decide_eq_true hz,Bool.or_true])
         rw[hm]
         simp(disch:=omega)only[↓kX,kW,aS,simprocAttr,g0,g2,g8,hb5,hb6,hat2,hdl]
         first|exact Abs.Sub.refl _|trace_state
        ·have hb6:decide ((0:Int)<((d.getD j 0:Nat):Int))=false:=dnl0 hz
         simp(disch:=omega)only[↓kX,kW,aS,simprocAttr,g0,g2,g8,hb5,hb6,hat2,hdl]
         first|exact⟨m2-1,by omega,j+1,by omega,by rw[hpt,hjp,decide_eq_false hz];rfl,rfl⟩|trace_state
       ·obtain rfl:j=n:=by omega
        have hb5:decide ((j:Int)<(j:Int))=false:=by simp
        rw[hjp]
        simp(disch:=omega)only[↓kX,kW,aS,simprocAttr,g0,g2,g8,hb5]
        first|exact Abs.Sub.refl _|trace_state
theorem getD_set_ne{l:List Nat}{i j y:Nat}(h:i≠j):(l.set i y).getD j 0=l.getD j 0:=by simp[List.getD,List.getElem?_set,h]
theorem set_self{l:List Nat}{i x:Nat}(h:l.getD i 0=x)(hi:i<l.length):l.set i x=l:=by
 subst h
 simp only[List.getD,List.getElem?_eq_getElem hi,Option.getD_some,List.set_getElem_self]
theorem getD_set_eq{l:List Nat}{i y:Nat}(h:i<l.length):(l.set i y).getD i 0=y:=by simp[List.getD,h]
theorem root3_pure(p:Nat)(h1:1≤p)(h2:p<65536):APure Tryz.prog 158 [.sc (.int .i64 p),.sc (.int .i64 3)] (.sc (.int .u64 (oW p 3:Nat))):=by
 have hrs:=root_spec (p:=p) (power:=3) (by omega) h1 h2 _ rfl
 refine az (c:=⟨Tryz.prog,63,[(14,[0,0,1,0,0,0,1,0,0,0,0,1,0,0,0,0,1,0,0]),(4000014,[4]),(4000013,[0,1,5,6,7]),(4000012,[0,1,5,6,7,37]),(4000008,[0,1,5,6,7])],[],[]⟩) (rs:=[ResultVar.tmp 4]) Tryz.mixed Tryz.func158 rfl rfl rfl (Nat.le_of_ble_eq_true rfl) (by kernel_rfl) fun H=>?_
 simp(disch:=omega)only[↓kX,kW,aS,simprocAttr]
 intro k hk0 hk
 refine br (c:=⟨Tryz.prog,63,[(14,[0,0,1,0,0,0,1,0,0,0,0,1,0,0,0,0,1,0,0]),(4000014,[4]),(4000013,[0,1,5,6,7]),(4000012,[0,1,5,6,7,37]),(4000008,[0,1,5,6,7])],[],[]⟩) Tryz.mixed (by kernel_rfl) (fun m σ H'=>∃(i:Nat) (z:Int) (d:List Nat),i=m∧i≤5∧z=(i:Int)-1∧Dig d∧d.length=5∧(∀j,j<i→d.getD j 0=0)∧iZ p 3 i d=iZ p 3 5 [0,0,0,0,0]∧σ 0=.sc (.int .i64 p)∧σ 1=.sc (.int .i64 3)∧σ 5=.own k 0 5∧σ 6=.sc (.int .i64 z)∧H'=H.set k (.cells (lP d) 56 1)) 5 ?_ ?_
 ·refine⟨5,4,[0,0,0,0,0],rfl,by omega,by omega,by intro x hx;simp at hx;omega,rfl,fun j hj=>by match j,hj with|0,_|1,_|2,_|3,_|4,_=>rfl,rfl,?_⟩
  simp(disch:=omega)only[↓kX,kW,aS,simprocAttr]
  rfl
 ·rintro m σ H' ⟨i,z,d,him,hi5,hz,hd,hl,h00,hdg,g0,g1,g5,g6,rfl⟩
  match i with
  |0=>
   have hb1:decide ((0:Int)≤z)=false:=by simp;omega
   have hrd:d=iZ p 3 5 [0,0,0,0,0]:=hdg
   rw[←hrd]at hrs
   have t3:=mE (l:=d) (i:=3) (by omega)
   have t2:=mE (l:=d) (i:=2) (by omega)
   have t1:=mE (l:=d) (i:=1) (by omega)
   have t0:=mE (l:=d) (i:=0) (by omega)
   have b3:=dig_getD hd 3
   have b2:=dig_getD hd 2
   have b1:=dig_getD hd 1
   have b0:=dig_getD hd 0
   have hdl:=ll d
   rw[←hrs]
   generalize d.getD 3 0=w3 at *
   generalize d.getD 2 0=w2 at *
   generalize d.getD 1 0=w1 at *
   generalize d.getD 0 0=w0 at *
   have q3:IntKind.u64.wrap ((w3:Int)*281474976710656)=((w3*281474976710656:Nat):Int):=pP (n:=281474976710656) (by show w3*281474976710656<_;omega)
   have q2:IntKind.u64.wrap ((w2:Int)*4294967296)=((w2*4294967296:Nat):Int):=pP (n:=4294967296) (by show w2*4294967296<_;omega)
   have q1:IntKind.u64.wrap ((w1:Int)*65536)=((w1*65536:Nat):Int):=pP (n:=65536) (by show w1*65536<_;omega)
   have s1:IntKind.u64.wrap (((w3*281474976710656:Nat):Int)+((w2*4294967296:Nat):Int))=((w3*281474976710656+w2*4294967296:Nat):Int):=ph (by omega)
   have s2:IntKind.u64.wrap (((w3*281474976710656+w2*4294967296:Nat):Int)+((w1*65536:Nat):Int))=((w3*281474976710656+w2*4294967296+w1*65536:Nat):Int):=ph (by omega)
   have s3:IntKind.u64.wrap (((w3*281474976710656+w2*4294967296+w1*65536:Nat):Int)+(w0:Int))=((w3*281474976710656+w2*4294967296+w1*65536+w0:Nat):Int):=ph (by omega)
   simp(disch:=omega)only[↓kX,kW,aS,simprocAttr,g0,g1,g5,g6,hb1,t3,t2,t1,t0,hdl,q3,q2,q1,s1,s2,s3]
   first|exact Sub.set_new hk|trace_state
  |i+1=>
   obtain rfl:z=(i:Int):=by omega
   have hb1:decide ((0:Int)≤(i:Int))=true:=by simp
   have hdi:=h00 i (by omega)
   have hdj:∀j,j<i→d.getD j 0=0:=fun j hj=>h00 j (by omega)
   simp(disch:=omega)only[↓kX,kW,aS,simprocAttr,g0,g1,g5,g6,hb1]
   refine br (c:=⟨Tryz.prog,63,[(14,[0,0,1,0,0,0,1,0,0,0,0,1,0,0,0,0,1,0,0]),(4000014,[4]),(4000013,[0,1,5,6,7]),(4000012,[0,1,5,6,7,37]),(4000008,[0,1,5,6,7])],[],[]⟩) Tryz.mixed (by kernel_rfl) (fun m2 σ2 H2=>∃(s st:Nat) (d':List Nat),s=m2∧s≤16∧st=2^s/2∧Dig d'∧d'.length=5∧d'.getD i 0+2^s≤65536∧(∀j,j<i→d'.getD j 0=0)∧rL p 3 i s d'=rL p 3 i 16 d∧σ2 0=.sc (.int .i64 p)∧σ2 1=.sc (.int .i64 3)∧σ2 5=.own k 0 5∧σ2 6=.sc (.int .i64 i)∧σ2 7=.sc (.int .u64 st)∧H2=H.set k (.cells (lP d') 56 1)) 16 ?_ ?_
   ·refine⟨16,32768,d,rfl,by omega,rfl,hd,hl,by omega,hdj,rfl,?_⟩
    simp(disch:=omega)only[↓kX,kW,aS,simprocAttr,g0,g1,g5,g6]
   ·rintro m2 σ2 H2 ⟨s,st,d',hsm,hs16,hst,hd',hl',hlt,hdj',hbt,g0,g1,g5,g6,g7,rfl⟩
    match s with
    |0=>
     obtain rfl:st=0:=by simpa using hst
     have hw:IntKind.i64.wrap ((i:Int)-1)=(i:Int)-1:=iw (by omega)
     simp(disch:=omega)only[↓kX,kW,aS,simprocAttr,g0,g1,g5,g6,g7,hw]
     exact⟨i,by omega,i,_,d',rfl,by omega,rfl,hd',hl',hdj',by rw[←hdg];show _=iZ p 3 i (rL p 3 i 16 d);rw[←hbt];rfl,rfl,rfl⟩
    |s+1=>
     have hst':st=2^s:=by rw[hst,Nat.pow_succ];omega
     subst hst'
     have hps:2^(s+1)=2^s*2:=Nat.pow_succ ..
     have hpp:0<2^s:=Nat.two_pow_pos s
     have hb2:=dlt0 hpp
     have hat:=mE (l:=d') (i:=i) (by omega)
     have hbm:rL p 3 i (s+1) d'=rL p 3 i s (if qt (powM (d'.set i (d'.getD i 0+2^s)) 3) p (4*3) then d' else d'.set i (d'.getD i 0+2^s)):=rfl
     generalize hT:2^s=T at *
     generalize hX:d'.getD i 0=x at *
     have hwa:IntKind.u64.wrap ((x:Int)+(T:Int))=((x+T:Nat):Int):=ph (by omega)
     have hput:=oh (l:=d') (i:=i) (x:=x+T) (by omega)
     have hd'':Dig (d'.set i (x+T)):=qI hd' i (by omega)
     have hl'':(d'.set i (x+T)).length=5:=by rw[List.length_set];exact hl'
     have hdl':=ll d'
     have hdl'':=ll (d'.set i (x+T))
     simp(disch:=omega)only[↓kX,kW,aS,simprocAttr,g0,g1,g5,g6,g7,hb2,hat,hdl',hwa,hput]
     have hx1:=mulM_spec hd'' hd''
     have hm1:=mul_oo (H.set k (.cells (lP (d'.set i (x+T))) 56 1)) k (d'.set i (x+T)) hd'' (by omega) set_get
     rw[hl'']at hm1
     refine CallK.i hm1 ?_
     rintro v E ⟨rfl,rfl⟩
     simp(disch:=omega)only[↓kX,kW,aS,simprocAttr,g0,g1,g5,g6,g7]
     have hm2:=mul_ii (H.set k (.cells (lP (d'.set i (x+T))) 56 1)) k (mulM (d'.set i (x+T)) (d'.set i (x+T))) (d'.set i (x+T)) hx1.1 hd'' (by rw[hx1.2.1];omega) (by omega) set_get
     rw[hx1.2.1,hl'']at hm2
     refine CallK.i hm2 ?_
     rintro v2 E2 ⟨rfl,rfl⟩
     simp(disch:=omega)only[↓kX,kW,aS,simprocAttr,g0,g1,g5,g6,g7]
     have hxd:Dig (mulM (mulM (d'.set i (x+T)) (d'.set i (x+T))) (d'.set i (x+T))):=(mulM_spec hx1.1 hd'').1
     have hxl:(mulM (mulM (d'.set i (x+T)) (d'.set i (x+T))) (d'.set i (x+T))).length=15:=by rw[(mulM_spec hx1.1 hd'').2.1,hx1.2.1,hl'']
     have hms:=most_pure (mulM (mulM (d'.set i (x+T)) (d'.set i (x+T))) (d'.set i (x+T))) p 12 hxd (by omega) h2 (by omega)
     rw[hxl]at hms
     have hatn:=mE (l:=d'.set i (x+T)) (i:=i) (by omega)
     rw[getD_set_eq (by omega)]at hatn
     have hsb:IntKind.u64.wrap (((x+T:Nat):Int)-(T:Int))=(x:Int):=by
      rw[show((x+T:Nat):Int)-(T:Int)=(x:Int) by omega]
      exact jw (by omega)
     have hpb:bG (lP (d'.set i (x+T))) i [.sc (.int .u64 x)]=lP d':=by
      rw[oh (by omega),List.set_set,set_self hX (by omega)]
     have hst2:IntKind.u64.wrap ((T:Int).tdiv 2)=((T/2:Nat):Int):=(congrArg _ (show(T:Int).tdiv 2=((T/2:Nat):Int) from rfl)).trans (jw (by omega))
     have hTs:T/2=2^s/2:=by rw[hT]
     have h0':∀y,∀j,j<i→(d'.set i y).getD j 0=0:=fun y j hj=>by rw[getD_set_ne (by omega)];exact hdj' j hj
     first|refine CallK.p (hms) ?_|refine CallP.i (hms) ?_
     simp(disch:=omega)only[↓kX,kW,aS,simprocAttr,g0,g1,g5,g6,g7]
     by_cases hmost:qt (mulM (mulM (d'.set i (x+T)) (d'.set i (x+T))) (d'.set i (x+T))) p 12=true
     ·rw[hmost]
      simp(disch:=omega)only[↓kX,kW,aS,simprocAttr,g0,g1,g5,g6,g7,hatn,hsb,hpb,hdl'',hst2]
      exact⟨m2-1,by omega,s,T/2,d',by omega,by omega,hTs,hd',hl',by omega,hdj',by rw[←hbt,hbm];exact congrArg (rL p 3 i s) (if_pos hmost).symm,rfl,rfl⟩
     ·have hmf:qt (mulM (mulM (d'.set i (x+T)) (d'.set i (x+T))) (d'.set i (x+T))) p 12=false:=by simpa using hmost
      rw[hmf]
      simp(disch:=omega)only[↓kX,kW,aS,simprocAttr,g0,g1,g5,g6,g7,hst2]
      exact⟨m2-1,by omega,s,T/2,d'.set i (x+T),by omega,by omega,hTs,hd'',hl'',by rw[getD_set_eq (by omega)];omega,h0' _,by rw[←hbt,hbm];exact congrArg (rL p 3 i s) (if_neg hmost).symm,rfl,rfl⟩
theorem root2_pure(p:Nat)(h1:1≤p)(h2:p<65536):APure Tryz.prog 158 [.sc (.int .i64 p),.sc (.int .i64 2)] (.sc (.int .u64 (oW p 2:Nat))):=by
 have hrs:=root_spec (p:=p) (power:=2) (by omega) h1 h2 _ rfl
 refine az (c:=⟨Tryz.prog,63,[(14,[0,0,1,0,0,0,1,0,0,0,0,1,0,0,0,0,1,0,0]),(4000014,[4]),(4000013,[0,1,5,6,7]),(4000012,[0,1,5,6,7,37]),(4000008,[0,1,5,6,7])],[],[]⟩) (rs:=[ResultVar.tmp 4]) Tryz.mixed Tryz.func158 rfl rfl rfl (Nat.le_of_ble_eq_true rfl) (by kernel_rfl) fun H=>?_
 simp(disch:=omega)only[↓kX,kW,aS,simprocAttr]
 intro k hk0 hk
 refine br (c:=⟨Tryz.prog,63,[(14,[0,0,1,0,0,0,1,0,0,0,0,1,0,0,0,0,1,0,0]),(4000014,[4]),(4000013,[0,1,5,6,7]),(4000012,[0,1,5,6,7,37]),(4000008,[0,1,5,6,7])],[],[]⟩) Tryz.mixed (by kernel_rfl) (fun m σ H'=>∃(i:Nat) (z:Int) (d:List Nat),i=m∧i≤5∧z=(i:Int)-1∧Dig d∧d.length=5∧(∀j,j<i→d.getD j 0=0)∧iZ p 2 i d=iZ p 2 5 [0,0,0,0,0]∧σ 0=.sc (.int .i64 p)∧σ 1=.sc (.int .i64 2)∧σ 5=.own k 0 5∧σ 6=.sc (.int .i64 z)∧H'=H.set k (.cells (lP d) 56 1)) 5 ?_ ?_
 ·refine⟨5,4,[0,0,0,0,0],rfl,by omega,by omega,by intro x hx;simp at hx;omega,rfl,fun j hj=>by match j,hj with|0,_|1,_|2,_|3,_|4,_=>rfl,rfl,?_⟩
  simp(disch:=omega)only[↓kX,kW,aS,simprocAttr]
  rfl
 ·rintro m σ H' ⟨i,z,d,him,hi5,hz,hd,hl,h00,hdg,g0,g1,g5,g6,rfl⟩
  match i with
  |0=>
   have hb1:decide ((0:Int)≤z)=false:=by simp;omega
   have hrd:d=iZ p 2 5 [0,0,0,0,0]:=hdg
   rw[←hrd]at hrs
   have t3:=mE (l:=d) (i:=3) (by omega)
   have t2:=mE (l:=d) (i:=2) (by omega)
   have t1:=mE (l:=d) (i:=1) (by omega)
   have t0:=mE (l:=d) (i:=0) (by omega)
   have b3:=dig_getD hd 3
   have b2:=dig_getD hd 2
   have b1:=dig_getD hd 1
   have b0:=dig_getD hd 0
   have hdl:=ll d
   rw[←hrs]
   generalize d.getD 3 0=w3 at *
   generalize d.getD 2 0=w2 at *
   generalize d.getD 1 0=w1 at *
   generalize d.getD 0 0=w0 at *
   have q3:IntKind.u64.wrap ((w3:Int)*281474976710656)=((w3*281474976710656:Nat):Int):=pP (n:=281474976710656) (by show w3*281474976710656<_;omega)
   have q2:IntKind.u64.wrap ((w2:Int)*4294967296)=((w2*4294967296:Nat):Int):=pP (n:=4294967296) (by show w2*4294967296<_;omega)
   have q1:IntKind.u64.wrap ((w1:Int)*65536)=((w1*65536:Nat):Int):=pP (n:=65536) (by show w1*65536<_;omega)
   have s1:IntKind.u64.wrap (((w3*281474976710656:Nat):Int)+((w2*4294967296:Nat):Int))=((w3*281474976710656+w2*4294967296:Nat):Int):=ph (by omega)
   have s2:IntKind.u64.wrap (((w3*281474976710656+w2*4294967296:Nat):Int)+((w1*65536:Nat):Int))=((w3*281474976710656+w2*4294967296+w1*65536:Nat):Int):=ph (by omega)
   have s3:IntKind.u64.wrap (((w3*281474976710656+w2*4294967296+w1*65536:Nat):Int)+(w0:Int))=((w3*281474976710656+w2*4294967296+w1*65536+w0:Nat):Int):=ph (by omega)
   simp(disch:=omega)only[↓kX,kW,aS,simprocAttr,g0,g1,g5,g6,hb1,t3,t2,t1,t0,hdl,q3,q2,q1,s1,s2,s3]
   first|exact Sub.set_new hk|trace_state
  |i+1=>
   obtain rfl:z=(i:Int):=by omega
   have hb1:decide ((0:Int)≤(i:Int))=true:=by simp
   have hdi:=h00 i (by omega)
   have hdj:∀j,j<i→d.getD j 0=0:=fun j hj=>h00 j (by omega)
   simp(disch:=omega)only[↓kX,kW,aS,simprocAttr,g0,g1,g5,g6,hb1]
   refine br (c:=⟨Tryz.prog,63,[(14,[0,0,1,0,0,0,1,0,0,0,0,1,0,0,0,0,1,0,0]),(4000014,[4]),(4000013,[0,1,5,6,7]),(4000012,[0,1,5,6,7,37]),(4000008,[0,1,5,6,7])],[],[]⟩) Tryz.mixed (by kernel_rfl) (fun m2 σ2 H2=>∃(s st:Nat) (d':List Nat),s=m2∧s≤16∧st=2^s/2∧Dig d'∧d'.length=5∧d'.getD i 0+2^s≤65536∧(∀j,j<i→d'.getD j 0=0)∧rL p 2 i s d'=rL p 2 i 16 d∧σ2 0=.sc (.int .i64 p)∧σ2 1=.sc (.int .i64 2)∧σ2 5=.own k 0 5∧σ2 6=.sc (.int .i64 i)∧σ2 7=.sc (.int .u64 st)∧H2=H.set k (.cells (lP d') 56 1)) 16 ?_ ?_
   ·refine⟨16,32768,d,rfl,by omega,rfl,hd,hl,by omega,hdj,rfl,?_⟩
    simp(disch:=omega)only[↓kX,kW,aS,simprocAttr,g0,g1,g5,g6]
   ·rintro m2 σ2 H2 ⟨s,st,d',hsm,hs16,hst,hd',hl',hlt,hdj',hbt,g0,g1,g5,g6,g7,rfl⟩
    match s with
    |0=>
     obtain rfl:st=0:=by simpa using hst
     have hw:IntKind.i64.wrap ((i:Int)-1)=(i:Int)-1:=iw (by omega)
     simp(disch:=omega)only[↓kX,kW,aS,simprocAttr,g0,g1,g5,g6,g7,hw]
     exact⟨i,by omega,i,_,d',rfl,by omega,rfl,hd',hl',hdj',by rw[←hdg];show _=iZ p 2 i (rL p 2 i 16 d);rw[←hbt];rfl,rfl,rfl⟩
    |s+1=>
     have hst':st=2^s:=by rw[hst,Nat.pow_succ];omega
     subst hst'
     have hps:2^(s+1)=2^s*2:=Nat.pow_succ ..
     have hpp:0<2^s:=Nat.two_pow_pos s
     have hb2:=dlt0 hpp
     have hat:=mE (l:=d') (i:=i) (by omega)
     have hbm:rL p 2 i (s+1) d'=rL p 2 i s (if qt (powM (d'.set i (d'.getD i 0+2^s)) 2) p (4*2) then d' else d'.set i (d'.getD i 0+2^s)):=rfl
     generalize hT:2^s=T at *
     generalize hX:d'.getD i 0=x at *
     have hwa:IntKind.u64.wrap ((x:Int)+(T:Int))=((x+T:Nat):Int):=ph (by omega)
     have hput:=oh (l:=d') (i:=i) (x:=x+T) (by omega)
     have hd'':Dig (d'.set i (x+T)):=qI hd' i (by omega)
     have hl'':(d'.set i (x+T)).length=5:=by rw[List.length_set];exact hl'
     have hdl':=ll d'
     have hdl'':=ll (d'.set i (x+T))
     simp(disch:=omega)only[↓kX,kW,aS,simprocAttr,g0,g1,g5,g6,g7,hb2,hat,hdl',hwa,hput]
     have hx1:=mulM_spec hd'' hd''
     have hm1:=mul_oo (H.set k (.cells (lP (d'.set i (x+T))) 56 1)) k (d'.set i (x+T)) hd'' (by omega) set_get
     rw[hl'']at hm1
     refine CallK.i hm1 ?_
     rintro v E ⟨rfl,rfl⟩
     simp(disch:=omega)only[↓kX,kW,aS,simprocAttr,g0,g1,g5,g6,g7]
     have hxd:Dig (mulM (d'.set i (x+T)) (d'.set i (x+T))):=hx1.1
     have hxl:(mulM (d'.set i (x+T)) (d'.set i (x+T))).length=10:=by rw[hx1.2.1,hl'']
     have hms:=most_pure (mulM (d'.set i (x+T)) (d'.set i (x+T))) p 8 hxd (by omega) h2 (by omega)
     rw[hxl]at hms
     have hatn:=mE (l:=d'.set i (x+T)) (i:=i) (by omega)
     rw[getD_set_eq (by omega)]at hatn
     have hsb:IntKind.u64.wrap (((x+T:Nat):Int)-(T:Int))=(x:Int):=by
      rw[show((x+T:Nat):Int)-(T:Int)=(x:Int) by omega]
      exact jw (by omega)
     have hpb:bG (lP (d'.set i (x+T))) i [.sc (.int .u64 x)]=lP d':=by
      rw[oh (by omega),List.set_set,set_self hX (by omega)]
     have hst2:IntKind.u64.wrap ((T:Int).tdiv 2)=((T/2:Nat):Int):=(congrArg _ (show(T:Int).tdiv 2=((T/2:Nat):Int) from rfl)).trans (jw (by omega))
     have hTs:T/2=2^s/2:=by rw[hT]
     have h0':∀y,∀j,j<i→(d'.set i y).getD j 0=0:=fun y j hj=>by rw[getD_set_ne (by omega)];exact hdj' j hj
     first|refine CallK.p (hms) ?_|refine CallP.i (hms) ?_
     simp(disch:=omega)only[↓kX,kW,aS,simprocAttr,g0,g1,g5,g6,g7]
     by_cases hmost:qt (mulM (d'.set i (x+T)) (d'.set i (x+T))) p 8=true
     ·rw[hmost]
      simp(disch:=omega)only[↓kX,kW,aS,simprocAttr,g0,g1,g5,g6,g7,hatn,hsb,hpb,hdl'',hst2]
      exact⟨m2-1,by omega,s,T/2,d',by omega,by omega,hTs,hd',hl',by omega,hdj',by rw[←hbt,hbm];exact congrArg (rL p 2 i s) (if_pos hmost).symm,rfl,rfl⟩
     ·have hmf:qt (mulM (d'.set i (x+T)) (d'.set i (x+T))) p 8=false:=by simpa using hmost
      rw[hmf]
      simp(disch:=omega)only[↓kX,kW,aS,simprocAttr,g0,g1,g5,g6,g7,hst2]
      exact⟨m2-1,by omega,s,T/2,d'.set i (x+T),by omega,by omega,hTs,hd'',hl'',by rw[getD_set_eq (by omega)];omega,h0' _,by rw[←hbt,hbm];exact congrArg (rL p 2 i s) (if_neg hmost).symm,rfl,rfl⟩
theorem rf(l:List Nat)(x:Nat):lP l++[.sc (.int .u64 x)]=lP (l++[x]):=by simp[lP]
theorem root_lt(p w:Nat):oW p w<18446744073709551616:=Nat.mod_lt _ (by decide)
theorem numbers3_pure(ps:List Nat)(hps:APure Tryz.prog 157 [.sc (.int .i64 80)] (.imm 0 (rF ps) 80))(hl:ps.length=80)(hm:∀p∈ps,1≤p∧p<65536):APure Tryz.prog 151 [.sc (.int .i64 80),.sc (.int .i64 3),.sc (.int .i64 64)] (.imm 0 (lP (ps.map fun p=>oW p 3)) 80):=by
 have hnl:=qf ps
 generalize hL:(ps.map fun p=>oW p 3)=L
 have hLl:L.length=80:=by rw[←hL,List.length_map,hl]
 refine az (c:=⟨Tryz.prog,34,[],[],[]⟩) (rs:=[ResultVar.tmp 6]) Tryz.mixed Tryz.func151 rfl rfl rfl (Nat.le_of_ble_eq_true rfl) (by kernel_rfl) fun H=>?_
 simp(disch:=omega)only[↓kX,kW,aS,simprocAttr]
 first|refine CallK.p (hps) ?_|refine CallP.i (hps) ?_
 simp(disch:=omega)only[↓kX,kW,aS,simprocAttr]
 refine jn 7 (by simp(disch:=omega)only[↓kX,kW,aS,simprocAttr]) fun k hk0 hk=>?_
 refine br (c:=⟨Tryz.prog,34,[],[],[]⟩) Tryz.mixed (by kernel_rfl) (fun m σ H'=>∃i:Nat,i+m=80∧σ 0=.sc (.int .i64 80)∧σ 1=.sc (.int .i64 3)∧σ 2=.sc (.int .i64 64)∧σ 8=.imm 0 (rF ps) 80∧σ 9=.sc (.int .i64 i)∧∃k o,k≠0∧H k=none∧H'=H.set k o∧cy0 56 1 o i∧σ 7=.imm k (lP (L.take i)) i) 80 ?_ ?_
 ·refine⟨0,by omega,?_⟩
  simp(disch:=omega)only[↓kX,kW,aS,simprocAttr]
  exact⟨k,_,hk0,hk,rfl,.inr ⟨rfl,rfl⟩,rfl⟩
 ·rintro m σ H' ⟨i,hi,h0,h1,h2,h8,h9,k,o,hk0,hk,rfl,ho,h7⟩
  by_cases hlt:i<80
  ·have hb:decide ((i:Int)<80)=true:=by simp;omega
   have hat:=numsA_at (l:=ps) (i:=i) (by omega)
   obtain⟨p1,p2⟩:=hm _ (List.getElem_mem (show i<ps.length by omega))
   have hr:=root3_pure _ p1 p2
   have hLi:L.take (i+1)=L.take i++[oW ps[i] 3]:=by rw[List.take_succ_eq_append_getElem (by omega)];simp[←hL]
   have hrl:=root_lt ps[i] 3
   have hwl:IntKind.u64.wrap ((oW ps[i] 3:Nat):Int)=((oW ps[i] 3:Nat):Int):=jw (by omega)
   have htl:(lP (L.take i)).length=i:=by rw[ll,List.length_take];omega
   generalize ps[i]=p at *
   generalize oW p 3=r at *
   simp(disch:=omega)only[↓kX,kW,aS,simprocAttr,h0,h1,h2,h8,h9,h7,hb,hat,hnl,hl]
   first|refine CallK.p (hr) ?_|refine CallP.i (hr) ?_
   simp(disch:=omega)only[↓kX,kW,aS,simprocAttr,h0,h1,h2,h8,h9,h7,nC,hwl,hk0,ho,htl]
   intro k' o' hk0' hk' ho'
   exact⟨m-1,by omega,i+1,by omega,rfl,k',o',hk0',am hk',rfl,by simpa [htl] using ho',by rw[hLi,←rf]⟩
  ·obtain rfl:i=80:=by omega
   have hb:decide (((80:Nat):Int)<80)=false:=by decide
   have hLt:L.take 80=L:=List.take_of_length_le (by omega)
   rw[hLt]at h7
   simp(disch:=omega)only[↓kX,kW,aS,simprocAttr,h0,h1,h2,h8,h9,h7,hb,hnl,hl]
   first|exact Sub.set_new hk|trace_state
theorem numbers2_pure(ps:List Nat)(hps:APure Tryz.prog 157 [.sc (.int .i64 8)] (.imm 0 (rF ps) 8))(hl:ps.length=8)(hm:∀p∈ps,1≤p∧p<65536):APure Tryz.prog 151 [.sc (.int .i64 8),.sc (.int .i64 2),.sc (.int .i64 64)] (.imm 0 (lP (ps.map fun p=>oW p 2)) 8):=by
 have hnl:=qf ps
 generalize hL:(ps.map fun p=>oW p 2)=L
 have hLl:L.length=8:=by rw[←hL,List.length_map,hl]
 refine az (c:=⟨Tryz.prog,34,[],[],[]⟩) (rs:=[ResultVar.tmp 6]) Tryz.mixed Tryz.func151 rfl rfl rfl (Nat.le_of_ble_eq_true rfl) (by kernel_rfl) fun H=>?_
 simp(disch:=omega)only[↓kX,kW,aS,simprocAttr]
 first|refine CallK.p (hps) ?_|refine CallP.i (hps) ?_
 simp(disch:=omega)only[↓kX,kW,aS,simprocAttr]
 refine jn 7 (by simp(disch:=omega)only[↓kX,kW,aS,simprocAttr]) fun k hk0 hk=>?_
 refine br (c:=⟨Tryz.prog,34,[],[],[]⟩) Tryz.mixed (by kernel_rfl) (fun m σ H'=>∃i:Nat,i+m=8∧σ 0=.sc (.int .i64 8)∧σ 1=.sc (.int .i64 2)∧σ 2=.sc (.int .i64 64)∧σ 8=.imm 0 (rF ps) 8∧σ 9=.sc (.int .i64 i)∧∃k o,k≠0∧H k=none∧H'=H.set k o∧cy0 56 1 o i∧σ 7=.imm k (lP (L.take i)) i) 8 ?_ ?_
 ·refine⟨0,by omega,?_⟩
  simp(disch:=omega)only[↓kX,kW,aS,simprocAttr]
  exact⟨k,_,hk0,hk,rfl,.inr ⟨rfl,rfl⟩,rfl⟩
 ·rintro m σ H' ⟨i,hi,h0,h1,h2,h8,h9,k,o,hk0,hk,rfl,ho,h7⟩
  by_cases hlt:i<8
  ·have hb:decide ((i:Int)<8)=true:=by simp;omega
   have hat:=numsA_at (l:=ps) (i:=i) (by omega)
   obtain⟨p1,p2⟩:=hm _ (List.getElem_mem (show i<ps.length by omega))
   have hr:=root2_pure _ p1 p2
   have hLi:L.take (i+1)=L.take i++[oW ps[i] 2]:=by rw[List.take_succ_eq_append_getElem (by omega)];simp[←hL]
   have hrl:=root_lt ps[i] 2
   have hwl:IntKind.u64.wrap ((oW ps[i] 2:Nat):Int)=((oW ps[i] 2:Nat):Int):=jw (by omega)
   have htl:(lP (L.take i)).length=i:=by rw[ll,List.length_take];omega
   generalize ps[i]=p at *
   generalize oW p 2=r at *
   simp(disch:=omega)only[↓kX,kW,aS,simprocAttr,h0,h1,h2,h8,h9,h7,hb,hat,hnl,hl]
   first|refine CallK.p (hr) ?_|refine CallP.i (hr) ?_
   simp(disch:=omega)only[↓kX,kW,aS,simprocAttr,h0,h1,h2,h8,h9,h7,nC,hwl,hk0,ho,htl]
   intro k' o' hk0' hk' ho'
   exact⟨m-1,by omega,i+1,by omega,rfl,k',o',hk0',am hk',rfl,by simpa [htl] using ho',by rw[hLi,←rf]⟩
  ·obtain rfl:i=8:=by omega
   have hb:decide (((8:Nat):Int)<8)=false:=by decide
   have hLt:L.take 8=L:=List.take_of_length_le (by omega)
   rw[hLt]at h7
   simp(disch:=omega)only[↓kX,kW,aS,simprocAttr,h0,h1,h2,h8,h9,h7,hb,hnl,hl]
   first|exact Sub.set_new hk|trace_state
end Go.Proofs.YtcncplameclkfaaGreatDoor
end
section
set_option maxRecDepth 20000
set_option maxHeartbeats 4000000
namespace Go.Proofs.YtcncplameclkfaaGreatDoor
open Go Go.Abs Go.Proofs Go.Box Go.Sha Go.Shg
theorem prims{N p:Nat}(hN:N≤500)(h:p∈nD N):1≤p∧p<65536:=by
 have:=prim_mem h
 omega
theorem keys_pure:APure Tryz.prog 151 [.sc (.int .i64 80),.sc (.int .i64 3),.sc (.int .i64 64)] (.imm 0 (lP keys512) 80):=by
 have h:=numbers3_pure (nD 408) (primes_pure 80 408 (by omega) (by omega) prim_80 fun k hk=>by
  have:=prim_le (show k≤407 by omega)
  rw[prim_lt_80]at this
  omega) prim_80 (fun p=>prims (by omega))
 rwa [Go.Shg.keys_eq]at h
theorem firsts_pure:APure Tryz.prog 151 [.sc (.int .i64 8),.sc (.int .i64 2),.sc (.int .i64 64)] (.imm 0 (lP first512) 8):=by
 have h:=numbers2_pure (nD 18) (primes_pure 8 18 (by omega) (by omega) prim_8 fun k hk=>by
  have:=prim_le (show k≤17 by omega)
  rw[prim_lt_8]at this
  omega) prim_8 (fun p=>prims (by omega))
 rwa [Go.Shg.first_eq]at h
abbrev KS:AV:=.imm 0 (lP keys512) 80
abbrev FS:AV:=.imm 0 (lP first512) 8
abbrev kindS:AV:=lu KS FS
theorem great_pure:APure Tryz.prog 132 [] kindS:=by
 have h1:=keys_pure
 have h2:=firsts_pure
 unfold kindS lu KS FS
 generalize lP keys512=ks at *
 generalize lP first512=fs at *
 refine az (c:=⟨Tryz.prog,8,[],[],[]⟩) (rs:=[ResultVar.cell 0 153]) Tryz.mixed Tryz.func132 rfl rfl rfl (Nat.le_of_ble_eq_true rfl) (by kernel_rfl) fun H=>?_
 simp(disch:=omega)only[↓kX,kW,aS,Nat.reduceBEq,Nat.reduceLT,reduceCtorEq,↓reduceIte,Nat.reduceMul,Nat.reduceAdd,Nat.reduceLeDiff,Nat.reduceEqDiff,Int.reduceToNat,Nat.reduceSub,Nat.reduceMod,Nat.reduceDiv,Int.reducePow,Int.reduceLE,Int.reduceNeg,Int.reduceLT,Int.reduceBEq,Int.reduceBNe,Int.reduceEq]
 intro k hk0 hk
 first|refine CallK.p (h1) ?_|refine CallP.i (h1) ?_
 simp(disch:=omega)only[↓kX,kW,aS,Nat.reduceBEq,Nat.reduceLT,reduceCtorEq,↓reduceIte,Nat.reduceMul,Nat.reduceAdd,Nat.reduceLeDiff,Nat.reduceEqDiff,Int.reduceToNat,Nat.reduceSub,Nat.reduceMod,Nat.reduceDiv,Int.reducePow,Int.reduceLE,Int.reduceNeg,Int.reduceLT,Int.reduceBEq,Int.reduceBNe,Int.reduceEq]
 first|refine CallK.p (h2) ?_|refine CallP.i (h2) ?_
 simp(disch:=omega)only[↓kX,kW,aS,Nat.reduceBEq,Nat.reduceLT,reduceCtorEq,↓reduceIte,Nat.reduceMul,Nat.reduceAdd,Nat.reduceLeDiff,Nat.reduceEqDiff,Int.reduceToNat,Nat.reduceSub,Nat.reduceMod,Nat.reduceDiv,Int.reducePow,Int.reduceLE,Int.reduceNeg,Int.reduceLT,Int.reduceBEq,Int.reduceBNe,Int.reduceEq,ah]
 first|exact Sub.set_new hk|exact Sub.box hk|trace_state
def wpM(b:List UInt8)(t:Nat):Nat→Nat
 |0=>0
 |i+1=>wpM b t i*256+(b.getD (t*8+i) 0).toNat
theorem wpM_lt(b:List UInt8)(t:Nat):∀i,wpM b t i<256^i
 |0=>by simp[wpM]
 |i+1=>by
  have h1:=wpM_lt b t i
  have h2:=(b.getD (t*8+i) 0).toNat_lt
  rw[wpM,Nat.pow_succ]
  omega
theorem wpM_eight(b:List UInt8)(t:Nat):wpM b t 8=wordM b t:=by simp[wpM,wordM]
theorem wl_first(b:List UInt8){t:Nat}(h:t<16):wlM b (t+1)=wlM b t++[wordM b t]:=by rw[wlM,if_pos h]
theorem wl_next(b:List UInt8){t:Nat}(h:¬t<16):wlM b (t+1)=wlM b t++[nextM (wlM b t) t]:=by rw[wlM,if_neg h]
theorem wl_get_lt(b:List UInt8)(t i:Nat):(wlM b t).getD i 0<18446744073709551616:=by
 by_cases h:i<(wlM b t).length
 ·simp only[List.getD,List.getElem?_eq_getElem h,Option.getD_some]
  exact wlM_lt b t _ (List.getElem_mem h)
 ·simp only[List.getD,List.getElem?_eq_none (Nat.le_of_not_lt h),Option.getD_none]
  decide
theorem words_pure(b:List UInt8)(hbl:b.length=128):APure Tryz.prog 159 [kindS,.imm 0 (bw b) 128] (.imm 0 (lP (wlM b 80)) 80):=by
 have hcut:=fun x hx=>cut_pure (lP keys512) (lP first512) 80 8 x hx
 have hs1:=fun x hx=>dshifted_pure (lP keys512) (lP first512) 80 8 x 19 61 6 hx (by omega) (by omega) (by omega)
 have hs2:=fun x hx=>dshifted_pure (lP keys512) (lP first512) 80 8 x 1 8 7 hx (by omega) (by omega) (by omega)
 have hel:=gz b
 unfold kindS KS FS
 generalize lP keys512=ks at *
 generalize lP first512=fs at *
 unfold lu by3 at *
 refine az (c:=⟨Tryz.prog,82,[(15,[0,1,1,0,0,0,0,1,0,1,0,0,0,0,0,1,0,1,0,0,0,0,1,0,1,0,0,0,0,0,0,1,0,0,0,2,0]),(1000000,[2]),(4000015,[2,5,10]),(4000011,[1,2,5,6,7]),(4000010,[1,2,5,6,7,8,9])],[],[]⟩) (rs:=[ResultVar.tmp 4]) Tryz.mixed Tryz.func159 rfl rfl rfl (Nat.le_of_ble_eq_true rfl) (by kernel_rfl) fun H=>?_
 simp(disch:=omega)only[↓kX,kW,aS,Nat.reduceBEq,Nat.reduceLT,reduceCtorEq,↓reduceIte,Nat.reduceMul,Nat.reduceAdd,Nat.reduceLeDiff,Nat.reduceEqDiff,Int.reduceToNat,Nat.reduceSub,Nat.reduceMod,Nat.reduceDiv,Int.reducePow,Int.reduceLE,Int.reduceNeg,Int.reduceLT,Int.reduceBEq,Int.reduceBNe,Int.reduceEq]
 intro k hk0 hk
 refine jn 5 (by simp(disch:=omega)only[↓kX,kW,aS,Nat.reduceBEq,Nat.reduceLT,reduceCtorEq,↓reduceIte,Nat.reduceMul,Nat.reduceAdd,Nat.reduceLeDiff,Nat.reduceEqDiff,Int.reduceToNat,Nat.reduceSub,Nat.reduceMod,Nat.reduceDiv,Int.reducePow,Int.reduceLE,Int.reduceNeg,Int.reduceLT,Int.reduceBEq,Int.reduceBNe,Int.reduceEq]) fun kt hkt0 hkt=>?_
 refine br (c:=⟨Tryz.prog,82,[(15,[0,1,1,0,0,0,0,1,0,1,0,0,0,0,0,1,0,1,0,0,0,0,1,0,1,0,0,0,0,0,0,1,0,0,0,2,0]),(1000000,[2]),(4000015,[2,5,10]),(4000011,[1,2,5,6,7]),(4000010,[1,2,5,6,7,8,9])],[],[]⟩) Tryz.mixed (by kernel_rfl) (fun m σ H'=>∃t:Nat,t+m=16∧σ 1=.imm 0 (bw b) 128∧σ 2=.ip (AV.cellsOf (lu (.imm 0 ks 80) (.imm 0 fs 8))) 0∧σ 6=.sc (.int .i64 8)∧σ 7=.sc (.int .i64 t)∧∃k o,k≠0∧H k=none∧H'=H.set k o∧cy0 56 1 o t∧σ 5=.imm k (lP (wlM b t)) t) 16 ?_ ?_
 ·refine⟨0,by omega,?_⟩
  simp(disch:=omega)only[↓kX,kW,aS,Nat.reduceBEq,Nat.reduceLT,reduceCtorEq,↓reduceIte,Nat.reduceMul,Nat.reduceAdd,Nat.reduceLeDiff,Nat.reduceEqDiff,Int.reduceToNat,Nat.reduceSub,Nat.reduceMod,Nat.reduceDiv,Int.reducePow,Int.reduceLE,Int.reduceNeg,Int.reduceLT,Int.reduceBEq,Int.reduceBNe,Int.reduceEq,aj hk,lu]
  rw[ef hk]at hkt
  exact⟨rfl,kt,_,hkt0,hkt,rfl,.inr ⟨rfl,rfl⟩,rfl⟩
 ·rintro m σ H' ⟨t,ht,h1,h2,h6,h7,k,o,hk0,hk,rfl,ho,h5⟩
  have hwl:=qU b t
  have htl:(lP (wlM b t)).length=t:=by rw[ll,hwl]
  by_cases hlt:t<16
  ·have hb:decide ((t:Int)<16)=true:=by simp;omega
   simp(disch:=omega)only[↓kX,kW,aS,Nat.reduceBEq,Nat.reduceLT,reduceCtorEq,↓reduceIte,Nat.reduceMul,Nat.reduceAdd,Nat.reduceLeDiff,Nat.reduceEqDiff,Int.reduceToNat,Nat.reduceSub,Nat.reduceMod,Nat.reduceDiv,Int.reducePow,Int.reduceLE,Int.reduceNeg,Int.reduceLT,Int.reduceBEq,Int.reduceBNe,Int.reduceEq,h1,h2,h6,h7,h5,hb]
   refine br (c:=⟨Tryz.prog,82,[(15,[0,1,1,0,0,0,0,1,0,1,0,0,0,0,0,1,0,1,0,0,0,0,1,0,1,0,0,0,0,0,0,1,0,0,0,2,0]),(1000000,[2]),(4000015,[2,5,10]),(4000011,[1,2,5,6,7]),(4000010,[1,2,5,6,7,8,9])],[],[]⟩) Tryz.mixed (by kernel_rfl) (fun m2 σ2 H2=>∃i:Nat,i+m2=8∧σ2 1=.imm 0 (bw b) 128∧σ2 2=.ip (AV.cellsOf (lu (.imm 0 ks 80) (.imm 0 fs 8))) 0∧σ2 6=.sc (.int .i64 8)∧σ2 7=.sc (.int .i64 t)∧H2=H.set k o∧σ2 5=.imm k (lP (wlM b t)) t∧σ2 9=.sc (.int .i64 i)∧σ2 8=.sc (.int .u64 (wpM b t i:Nat))) 8 ?_ ?_
   ·refine⟨0,by omega,?_⟩
    simp(disch:=omega)only[↓kX,kW,aS,Nat.reduceBEq,Nat.reduceLT,reduceCtorEq,↓reduceIte,Nat.reduceMul,Nat.reduceAdd,Nat.reduceLeDiff,Nat.reduceEqDiff,Int.reduceToNat,Nat.reduceSub,Nat.reduceMod,Nat.reduceDiv,Int.reducePow,Int.reduceLE,Int.reduceNeg,Int.reduceLT,Int.reduceBEq,Int.reduceBNe,Int.reduceEq,h1,h2,h6,h7,h5]
    rfl
   ·rintro m2 σ2 H2 ⟨i,hi,g1,g2,g6,g7,rfl,g5,g9,g8⟩
    by_cases hil:i<8
    ·have hb2:decide ((i:Int)<8)=true:=by simp;omega
     have hat:=nX (l:=b) (i:=t*8+i) (by omega)
     have hw1:IntKind.i64.wrap ((t:Int)*8)=((t*8:Nat):Int):=by rw[iw (by omega)];omega
     have hw2:IntKind.i64.wrap (((t*8:Nat):Int)+(i:Int))=((t*8+i:Nat):Int):=by rw[iw (by omega)];omega
     have hpl:=wpM_lt b t i
     have hpp:256^i≤72057594037927936:=Nat.le_trans (Nat.pow_le_pow_right (by decide) (show i≤7 by omega)) (by decide)
     have hps:wpM b t (i+1)=wpM b t i*256+(b.getD (t*8+i) 0).toNat:=rfl
     have hx:=(b.getD (t*8+i) 0).toNat_lt
     generalize (b.getD (t*8+i) 0).toNat=x at *
     generalize wpM b t i=z at *
     have hw3:IntKind.u64.wrap ((z:Int)*256)=((z*256:Nat):Int):=pP (n:=256) (by show z*256<_;omega)
     have hw4:IntKind.u64.wrap (x:Int)=(x:Int):=jw (by omega)
     have hw5:IntKind.u64.wrap (((z*256:Nat):Int)+(x:Int))=((z*256+x:Nat):Int):=ph (by omega)
     simp(disch:=omega)only[↓kX,kW,aS,Nat.reduceBEq,Nat.reduceLT,reduceCtorEq,↓reduceIte,Nat.reduceMul,Nat.reduceAdd,Nat.reduceLeDiff,Nat.reduceEqDiff,Int.reduceToNat,Nat.reduceSub,Nat.reduceMod,Nat.reduceDiv,Int.reducePow,Int.reduceLE,Int.reduceNeg,Int.reduceLT,Int.reduceBEq,Int.reduceBNe,Int.reduceEq,g1,g2,g6,g7,g5,g9,g8,hb2,hw1,hw2,hw3,hw4,hw5,hat,hel]
     exact⟨m2-1,by omega,i+1,by omega,rfl,by rw[hps]⟩
    ·obtain rfl:i=8:=by omega
     have hb2:decide (((8:Nat):Int)<8)=false:=by decide
     rw[wpM_eight]at g8
     simp(disch:=omega)only[↓kX,kW,aS,Nat.reduceBEq,Nat.reduceLT,reduceCtorEq,↓reduceIte,Nat.reduceMul,Nat.reduceAdd,Nat.reduceLeDiff,Nat.reduceEqDiff,Int.reduceToNat,Nat.reduceSub,Nat.reduceMod,Nat.reduceDiv,Int.reducePow,Int.reduceLE,Int.reduceNeg,Int.reduceLT,Int.reduceBEq,Int.reduceBNe,Int.reduceEq,g1,g2,g6,g7,g5,g9,g8,hb2,hk0,ho,htl]
     intro k' o' hk0' hk' ho'
     exact⟨m-1,by omega,t+1,by omega,rfl,k',o',hk0',am hk',rfl,by simpa [htl] using ho',by rw[wl_first b hlt,←rf]⟩
  ·obtain rfl:t=16:=by omega
   have hb:decide (((16:Nat):Int)<16)=false:=by decide
   simp(disch:=omega)only[↓kX,kW,aS,Nat.reduceBEq,Nat.reduceLT,reduceCtorEq,↓reduceIte,Nat.reduceMul,Nat.reduceAdd,Nat.reduceLeDiff,Nat.reduceEqDiff,Int.reduceToNat,Nat.reduceSub,Nat.reduceMod,Nat.reduceDiv,Int.reducePow,Int.reduceLE,Int.reduceNeg,Int.reduceLT,Int.reduceBEq,Int.reduceBNe,Int.reduceEq,h1,h2,h6,h7,h5,hb]
   refine br (c:=⟨Tryz.prog,82,[(15,[0,1,1,0,0,0,0,1,0,1,0,0,0,0,0,1,0,1,0,0,0,0,1,0,1,0,0,0,0,0,0,1,0,0,0,2,0]),(1000000,[2]),(4000015,[2,5,10]),(4000011,[1,2,5,6,7]),(4000010,[1,2,5,6,7,8,9])],[],[]⟩) Tryz.mixed (by kernel_rfl) (fun m2 σ2 H2=>∃t:Nat,t+m2=80∧16≤t∧σ2 2=.ip (AV.cellsOf (lu (.imm 0 ks 80) (.imm 0 fs 8))) 0∧σ2 10=.sc (.int .i64 t)∧∃k o,k≠0∧H k=none∧H2=H.set k o∧cy0 56 1 o t∧σ2 5=.imm k (lP (wlM b t)) t) 64 ?_ ?_
   ·refine⟨16,by omega,by omega,?_⟩
    simp(disch:=omega)only[↓kX,kW,aS,Nat.reduceBEq,Nat.reduceLT,reduceCtorEq,↓reduceIte,Nat.reduceMul,Nat.reduceAdd,Nat.reduceLeDiff,Nat.reduceEqDiff,Int.reduceToNat,Nat.reduceSub,Nat.reduceMod,Nat.reduceDiv,Int.reducePow,Int.reduceLE,Int.reduceNeg,Int.reduceLT,Int.reduceBEq,Int.reduceBNe,Int.reduceEq,h1,h2,h6,h7,h5]
    exact⟨k,o,hk0,hk,rfl,ho,rfl⟩
   ·rintro m2 σ2 H2 ⟨t,ht2,h16,g2,g10,k,o,hk0,hk,rfl,ho,g5⟩
    clear hwl htl
    have hwl:=qU b t
    have htl:(lP (wlM b t)).length=t:=by rw[ll,hwl]
    by_cases hlt:t<80
    ·have hb:decide ((t:Int)<80)=true:=by simp;omega
     have w1:IntKind.i64.wrap ((t:Int)-2)=((t-2:Nat):Int):=by rw[iw (by omega)];omega
     have w2:IntKind.i64.wrap ((t:Int)-7)=((t-7:Nat):Int):=by rw[iw (by omega)];omega
     have w3:IntKind.i64.wrap ((t:Int)-15)=((t-15:Nat):Int):=by rw[iw (by omega)];omega
     have w4:IntKind.i64.wrap ((t:Int)-16)=((t-16:Nat):Int):=by rw[iw (by omega)];omega
     have a1:=mE (l:=wlM b t) (i:=t-2) (by omega)
     have a2:=mE (l:=wlM b t) (i:=t-7) (by omega)
     have a3:=mE (l:=wlM b t) (i:=t-15) (by omega)
     have a4:=mE (l:=wlM b t) (i:=t-16) (by omega)
     have hnx:=wl_next b (show ¬t<16 by omega)
     have b1:=wl_get_lt b t (t-2)
     have b2:=wl_get_lt b t (t-7)
     have b3:=wl_get_lt b t (t-15)
     have b4:=wl_get_lt b t (t-16)
     unfold nextM sumM at hnx
     generalize (wlM b t).getD (t-2) 0=x1 at *
     generalize (wlM b t).getD (t-7) 0=x2 at *
     generalize (wlM b t).getD (t-15) 0=x3 at *
     generalize (wlM b t).getD (t-16) 0=x4 at *
     have c1:=hs1 x1 b1
     have c2:=hs2 x3 b3
     have s1:shfM 64 x1 19 61 6<18446744073709551616:=shf_lt (w:=64) b1 (by omega) (by omega)
     have s2:shfM 64 x3 1 8 7<18446744073709551616:=shf_lt (w:=64) b3 (by omega) (by omega)
     generalize shfM 64 x1 19 61 6=y1 at *
     generalize shfM 64 x3 1 8 7=y3 at *
     have e1:IntKind.u64.wrap ((y1:Int)+(x2:Int))=(((y1+x2) % 18446744073709551616:Nat):Int):=mn
     have e2:IntKind.u64.wrap ((((y1+x2) % 18446744073709551616:Nat):Int)+(y3:Int))=(((y1+x2+y3) % 18446744073709551616:Nat):Int):=by rw[mn,Nat.mod_add_mod]
     have e3:IntKind.u64.wrap ((((y1+x2+y3) % 18446744073709551616:Nat):Int)+(x4:Int))=(((y1+x2+y3+x4) % 18446744073709551616:Nat):Int):=by rw[mn,Nat.mod_add_mod]
     have c3:=hcut ((y1+x2+y3+x4) % 18446744073709551616) (Nat.mod_lt _ (by decide))
     simp(disch:=omega)only[↓kX,kW,aS,Nat.reduceBEq,Nat.reduceLT,reduceCtorEq,↓reduceIte,Nat.reduceMul,Nat.reduceAdd,Nat.reduceLeDiff,Nat.reduceEqDiff,Int.reduceToNat,Nat.reduceSub,Nat.reduceMod,Nat.reduceDiv,Int.reducePow,Int.reduceLE,Int.reduceNeg,Int.reduceLT,Int.reduceBEq,Int.reduceBNe,Int.reduceEq,g2,g10,g5,hb,lu,w1,w2,w3,w4,a1,a2,a3,a4,htl]
     first|refine CallK.p (c1) ?_|refine CallP.i (c1) ?_
     simp(disch:=omega)only[↓kX,kW,aS,Nat.reduceBEq,Nat.reduceLT,reduceCtorEq,↓reduceIte,Nat.reduceMul,Nat.reduceAdd,Nat.reduceLeDiff,Nat.reduceEqDiff,Int.reduceToNat,Nat.reduceSub,Nat.reduceMod,Nat.reduceDiv,Int.reducePow,Int.reduceLE,Int.reduceNeg,Int.reduceLT,Int.reduceBEq,Int.reduceBNe,Int.reduceEq,g2,g10,g5,lu,w1,w2,w3,w4,a1,a2,a3,a4,htl,e1]
     first|refine CallK.p (c2) ?_|refine CallP.i (c2) ?_
     simp(disch:=omega)only[↓kX,kW,aS,Nat.reduceBEq,Nat.reduceLT,reduceCtorEq,↓reduceIte,Nat.reduceMul,Nat.reduceAdd,Nat.reduceLeDiff,Nat.reduceEqDiff,Int.reduceToNat,Nat.reduceSub,Nat.reduceMod,Nat.reduceDiv,Int.reducePow,Int.reduceLE,Int.reduceNeg,Int.reduceLT,Int.reduceBEq,Int.reduceBNe,Int.reduceEq,g2,g10,g5,lu,w1,w2,w3,w4,a1,a2,a3,a4,htl,e1,e2,e3]
     first|refine CallK.p (c3) ?_|refine CallP.i (c3) ?_
     simp(disch:=omega)only[↓kX,kW,aS,Nat.reduceBEq,Nat.reduceLT,reduceCtorEq,↓reduceIte,Nat.reduceMul,Nat.reduceAdd,Nat.reduceLeDiff,Nat.reduceEqDiff,Int.reduceToNat,Nat.reduceSub,Nat.reduceMod,Nat.reduceDiv,Int.reducePow,Int.reduceLE,Int.reduceNeg,Int.reduceLT,Int.reduceBEq,Int.reduceBNe,Int.reduceEq,g2,g10,g5,hk0,ho,htl]
     intro k' o' hk0' hk' ho'
     exact⟨m2-1,by omega,t+1,by omega,by omega,rfl,rfl,k',o',hk0',am hk',rfl,by simpa [htl] using ho',by rw[hnx,←rf]⟩
    ·obtain rfl:t=80:=by omega
     have hb:decide (((80:Nat):Int)<80)=false:=by decide
     simp(disch:=omega)only[↓kX,kW,aS,Nat.reduceBEq,Nat.reduceLT,reduceCtorEq,↓reduceIte,Nat.reduceMul,Nat.reduceAdd,Nat.reduceLeDiff,Nat.reduceEqDiff,Int.reduceToNat,Nat.reduceSub,Nat.reduceMod,Nat.reduceDiv,Int.reducePow,Int.reduceLE,Int.reduceNeg,Int.reduceLT,Int.reduceBEq,Int.reduceBNe,Int.reduceEq,g2,g10,g5,hb,lu]
     first|exact Sub.set_new hk|trace_state
end Go.Proofs.YtcncplameclkfaaGreatDoor
end
