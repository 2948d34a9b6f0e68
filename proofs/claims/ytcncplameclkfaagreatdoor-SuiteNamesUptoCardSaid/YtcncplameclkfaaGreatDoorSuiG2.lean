/-
  Several texts in one: each says what it proves.
  Conditions: none. Lemmas only.
-/
import Derived.Test.YtcncplameclkfaaGreatDoorSuiG1
import Derived.Test.YtcncplameclkfaaGreatDoorAbsG5
set_option linter.all false
section
set_option maxRecDepth 20000
namespace Go.Proofs.YtcncplameclkfaaGreatDoor
open Go Go.Abs Go.Proofs
def jL(i:Nat):List Term→List (AV × AV)
 |[]=>[]
 |t::r=>(strV (keyT t),.sc (.int .i64 ((i+1:Nat))))::jL (i+1) r
theorem mapFrom_snoc(i:Nat)(ts:List Term)(t:Term):jL i ts++[(strV (keyT t),.sc (.int .i64 ((i+ts.length+1:Nat))))]=jL i (ts++[t]):=by
 induction ts generalizing i with
 |nil=>rfl
 |cons a r ih=>
  simp only[jL,List.cons_append,List.length_cons]
  rw[←ih (i+1)]
  congr 6;omega
theorem lowL8_inj{n m:Nat}(hn:n<18446744073709551616)(hm:m<18446744073709551616)(h:fh 8 n=fh 8 m):n=m:=lowL_inj (by omega) (by omega) h
theorem keyP_inj:∀(p q:List (List UInt8)),(∀a∈p,a.length<18446744073709551616)→(∀a∈q,a.length<18446744073709551616)→keyP p=keyP q→p=q
 |[],[],_,_,_=>rfl
 |[],b::q,_,_,h=>by
  have:=congrArg List.length h
  rw[jO,jO]at this
  simp only[List.length_nil,List.length_cons,List.flatten_nil]at this
  omega
 |a::p,[],_,_,h=>by
  have:=congrArg List.length h
  rw[jO,jO]at this
  simp only[List.length_nil,List.length_cons,List.flatten_nil]at this
  omega
 |a::p,b::q,hp,hq,h=>by
  have e1:∀(a:List UInt8) (p:List (List UInt8)),keyP (a::p)=fh 8 a.length++(a++keyP p):=fun a p=>by
   show fh 8 a.length++a++keyP p=_
   rw[List.append_assoc]
  rw[e1,e1]at h
  have h1:=List.append_inj h (by rw[fe0,fe0])
  have hl:=lowL8_inj (hp a (by simp)) (hq b (by simp)) h1.1
  have h2:=List.append_inj h1.2 hl
  rw[h2.1,keyP_inj p q (fun x hx=>hp x (by simp[hx])) (fun x hx=>hq x (by simp[hx])) h2.2]
theorem keyT_inj{a b:Term}(ha:okT a)(hb:okT b)(h:keyT a=keyT b):a=b:=by
 obtain⟨k1,p1⟩:=a
 obtain⟨k2,p2⟩:=b
 simp only[keyT,List.cons.injEq]at h
 have:=keyP_inj p1 p2 (fun x hx=>by have h1:=kN hx;have h2:p1.flatten.length≤_:=ha.2.2;omega) (fun x hx=>by have h1:=kN hx;have h2:p2.flatten.length≤_:=hb.2.2;omega) h.2
 rw[h.1,this]
theorem find_key(t:Term)(ht:okT t):∀(ts:List Term) (i j:Nat),(∀x∈ts,okT x)→cY Tryz.prog 9 (strV (keyT t)) (jL j ts) i=some (if t∈ts then some (i+ts.idxOf t,.sc (.int .i64 ((j+ts.idxOf t+1:Nat)))) else none)
 |[],i,j,_=>rfl
 |a::r,i,j,h=>by
  have ih:=find_key t ht r (i+1) (j+1) fun x hx=>h x (by simp[hx])
  have e:eqG Tryz.prog 6 9 (strV (keyT t)) (strV (keyT a))=some (keyT t == keyT a):=by
   rw[eqG_str,Tryz.underlying9,strE_str,ba_beq]
  simp only[jL,cY,e]
  by_cases ha:t=a
  ·subst ha
   simp
  ·have hk:(keyT t == keyT a)=false:=by
    simp only[beq_eq_false_iff_ne,ne_eq]
    exact fun e=>ha (keyT_inj ht (h a (by simp)) e)
   have hne:(a == t)=false:=by simp;exact fun e=>ha e.symm
   rw[hk]
   simp only[ih,List.mem_cons,ha,false_or]
   rw[List.idxOf_cons,hne]
   simp only[cond_false]
   split
   ·congr 2
    ·congr 1
     ·omega
     ·congr 3;omega
   ·rfl
structure IsI(H:AH)(h m k d:Nat)(ts:List Term):Prop where
 k0:k≠0
 hi:H h=some (.cells [.imm k (dC ts) ts.length,.mp m,.sc (.int .i64 d)] 67 3)
 hm:H m=some (.map (jL 0 ts))
 ht:∃o,H k=some o∧cy0 110 2 o (ts.length*2)
theorem IsI.hmne{H:AH}{h m k d:Nat}{ts:List Term}(g:IsI H h m k d ts):¬h=m:=by
 rintro rfl
 have:=g.hi.symm.trans g.hm
 cases this
theorem IsI.hkne{H:AH}{h m k d:Nat}{ts:List Term}(g:IsI H h m k d ts):¬h=k:=by
 rintro rfl
 obtain⟨o,h1,h2⟩:=g.ht
 have:=g.hi.symm.trans h1
 cases this
 rcases h2 with h2|⟨_,h2⟩<;>cases h2
theorem IsI.mkne{H:AH}{h m k d:Nat}{ts:List Term}(g:IsI H h m k d ts):¬m=k:=by
 rintro rfl
 obtain⟨o,h1,h2⟩:=g.ht
 have:=g.hm.symm.trans h1
 cases this
 rcases h2 with h2|⟨_,h2⟩<;>cases h2
def NewI(H:AH)(v:AV)(H':AH):Prop:=∃h m k,v=.ptr h 0∧IsI H' h m k 0 []∧H h=none∧H m=none∧H k=none∧∀x,x≠h→x≠m→x≠k→H' x=H x
def StepI(H:AH)(h m k d':Nat)(ts':List Term)(H':AH):Prop:=∃k',(k'=k∨(k'≠0∧H k'=none))∧IsI H' h m k' d' ts'∧∀x,x≠h→x≠m→x≠k→x≠k'→H' x=H x
theorem new_live(H:AH):ACalls Tryz.prog 17 [] H (NewI H):=by
 have key:ACalls Tryz.prog 17 [] H fun v H'=>∃h m,h≠0∧m≠0∧H m=none∧H h=none∧h≠m∧v=.ptr h 0∧H'=(H.set m (.map [])).set h (.cells [.sc (.slice none 0 0),.mp m,.sc (.int .i64 0)] 67 3):=by
  refine ao0 (c:=⟨Tryz.prog,5,[],[],[]⟩) (rs:=[ResultVar.tmp 0]) Tryz.mixed Tryz.func17 rfl rfl rfl (Nat.le_of_ble_eq_true rfl) (by kernel_rfl) ?_
  simp(disch:=omega)only[↓kX,kW,aS,simprocAttr]
  intro m hm0 hm h hh0 hh
  exact⟨_,rfl,_,Abs.Sub.refl _,h,m,hh0,hm0,hm,am hh,fun e=>bK0 hh e.symm,rfl,rfl⟩
 refine key.tokCell ?_
 rintro v H' ⟨h,m,hh0,hm0,hm,hh,hne,rfl,rfl⟩
 refine⟨h,_,_,0,_,set_get,rfl,fun k hk0 hk=>⟨h,m,k,rfl,?_,hh,hm,?_,?_⟩⟩
 ·have h1:¬h=k:=bK0 hk
  have hk':=am hk
  have h2:¬m=k:=bK0 hk'
  refine⟨hk0,set_get,?_,.nilt,?_,.inr ⟨rfl,rfl⟩⟩
  ·rw[aP (fun e=>hne e.symm),aP h2,aP (fun e=>hne e.symm),set_get];rfl
  ·rw[aP (fun e=>h1 e.symm),set_get]
 ·exact am (am hk)
 ·intro x x1 x2 x3
  rw[aP x1,aP x3,aP x1,aP x2]
def fC(ts:List Term)(t:Term):List Term × Nat:=if t∈ts then (ts,ts.idxOf t+1) else (ts++[t],ts.length+1)
def NumR(H:AH)(h m k d:Nat)(ts:List Term)(t:Term)(v:AV)(H':AH):Prop:=v=.sc (.int .i64 (fC ts t).2)∧StepI H h m k d (fC ts t).1 H'
theorem number_live(H:AH)(h m k d:Nat)(ts:List Term)(t:Term)(ht:okT t)(hts:∀x∈ts,okT x)(hl:ts.length≤1000000)(g:IsI H h m k d ts):ACalls Tryz.prog 86 [.ptr h 0,jo t] H (NumR H h m k d ts t):=by
 have hkey:=key_pure t ht
 have hf:=find_key t ht ts 0 0 hts
 obtain⟨k0,hi,hm,o,hk,ho⟩:=id g
 obtain⟨kd,ps⟩:=t
 simp only[Nat.zero_add]at hf
 by_cases hin:(⟨kd,ps⟩:Term)∈ts
 ·rw[if_pos hin]at hf
  generalize keyT ⟨kd,ps⟩=K at *
  refine ao0 (c:=⟨Tryz.prog,59,[(10,[0,0,0,0,1,0,1,0,0,0,2,0,0,2]),(1000000,[3])],[28],[]⟩) (rs:=[ResultVar.tmp 4]) Tryz.mixed Tryz.func86 rfl rfl rfl (Nat.le_of_ble_eq_true rfl) (by kernel_rfl) ?_
  simp(disch:=omega)only[↓kX,kW,aS,simprocAttr]
  intro b hb0 hb
  have hz:((((ts.idxOf (⟨kd,ps⟩:Term))+1:Nat):Int) == 0)=false:=by simp;omega
  first|refine CallK.p (hkey) ?_|refine CallP.i (hkey) ?_
  simp(disch:=omega)only[↓kX,kW,aS,simprocAttr,aj hb,hi,hm,hf,hz]
  refine⟨_,rfl,H,Abs.Sub.refl _,?_,k,.inl rfl,?_,fun x _ _ _ _=>rfl⟩
  ·rw[fC,if_pos hin]
  ·rw[fC,if_pos hin];exact g
 ·rw[if_neg hin]at hf
  have hps:ps.length≤1000000:=ht.2.1
  have hfl:ps.flatten.length≤1000000000000:=ht.2.2
  have hK:jL 0 ts++[(strV (keyT ⟨kd,ps⟩),.sc (.int .i64 ((ts.length+1:Nat))))]=jL 0 (ts++[⟨kd,ps⟩]):=by
   have:=mapFrom_snoc 0 ts ⟨kd,ps⟩
   rw[Nat.zero_add]at this
   exact this
  have hT:dC ts++[.sc (.int .u8 kd.toNat),.imm 0 (ps.map eu) ps.length]=dC (ts++[⟨kd,ps⟩]):=termsC_snoc ts ⟨kd,ps⟩
  have hTl:=jJ ts
  have hmne:=g.hmne
  have hkne:=g.hkne
  have mkne:=g.mkne
  generalize keyT ⟨kd,ps⟩=K at *
  refine ao0 (c:=⟨Tryz.prog,59,[(10,[0,0,0,0,1,0,1,0,0,0,2,0,0,2]),(1000000,[3])],[28],[]⟩) (rs:=[ResultVar.tmp 4]) Tryz.mixed Tryz.func86 rfl rfl rfl (Nat.le_of_ble_eq_true rfl) (by kernel_rfl) ?_
  simp(disch:=omega)only[↓kX,kW,aS,simprocAttr]
  intro b hb0 hb
  first|refine CallK.p (hkey) ?_|refine CallP.i (hkey) ?_
  simp(disch:=omega)only[↓kX,kW,aS,simprocAttr,aj hb,hi,hm,hf]
  refine jn 7 (by simp(disch:=omega)only[↓kX,kW,aS,simprocAttr,aj hb]) fun kp hkp0 hkp=>?_
  refine br (c:=⟨Tryz.prog,59,[(10,[0,0,0,0,1,0,1,0,0,0,2,0,0,2]),(1000000,[3])],[28],[]⟩) Tryz.mixed (by kernel_rfl) (fun mm σ H'=>Abs.Sub H H'∧∃i,i+mm=ps.length∧σ 0=.ptr h 0∧σ 3=.ip [.sc (.int .u8 kd.toNat),fZ ps] 0∧σ 5=strV K∧σ 21=fZ ps∧σ 22=.sc (.int .i64 ps.length)∧σ 23=.sc (.int .i64 i)∧∃kp op,kp≠0∧H kp=none∧H' kp=some op∧cy0 22 1 op i∧σ 7=.imm kp ((ps.take i).map eu) i) ps.length ?_ ?_
  ·refine⟨?_,0,by omega,?_⟩
   ·try rw[aj hb]
    exact Abs.Sub.set_new hkp
   ·simp(disch:=omega)only[↓kX,kW,aS,simprocAttr,aj hb]
    exact⟨kp,.nilt,hkp0,hkp,set_get,.inr ⟨rfl,rfl⟩,rfl⟩
  ·rintro mm σ H' ⟨hsub,i,him,h0,h3,h5,h21,h22,h23,kp,op,hkp0,hkp,hkp',hop,h7⟩
   have hi':=hsub _ _ hi
   have hm':=hsub _ _ hm
   have hk':=hsub _ _ hk
   by_cases hlt:i<ps.length
   ·have hb1:decide ((i:Int)<(ps.length:Int))=true:=by simp;omega
    have g1:=getR hlt
    have hpl:=kN (List.getElem_mem hlt)
    have hz:(ps.take (i+1)).map eu=(ps.take i).map eu++[eu ps[i]]:=by rw[List.take_succ_eq_append_getElem hlt,List.map_append];rfl
    generalize ps[i]=p at *
    have hil:(ps.take i).length=i:=by rw[List.length_take];omega
    simp(disch:=omega)only[↓kX,kW,aS,simprocAttr,h0,h3,h5,h7,h21,h22,h23,hb1,g1]
    intro kb hkb0 hkb
    simp(disch:=omega)only[↓kX,kW,aS,simprocAttr,h0,h3,h5,h7,h21,h22,h23,hb1,g1]
    intro k1 o1 hk10 hk1 ho1
    replace hk1:=am hk1
    have hn1:=bA0 hkp' hk1
    simp(disch:=omega)only[↓kX,kW,aS,simprocAttr,h0,h3,h5,h7,h21,h22,h23,hb1,g1,aP,hkp',hop,hil]
    intro k2 o2 hk20 hk2 ho2
    have hk2':H' k2=none:=by
     by_cases e:k2=k1
     ·rw[e];exact hk1
     ·have:=am hk2
      first|exact this|(rw[aP e]at hk2;exact hk2)
    exact⟨mm-1,by omega,((hsub.set_free (hsub.free hk1)).kill_free hkp).set_free (hsub.free hk2'),i+1,by omega,rfl,k2,o2,hk20,hsub.free hk2',set_get,ho2,by rw[hz]⟩
   ·have hb1:decide ((i:Int)<(ps.length:Int))=false:=by simp;omega
    obtain rfl:i=ps.length:=by omega
    rw[List.take_length]at h7
    simp(disch:=omega)only[↓kX,kW,aS,simprocAttr,h0,h3,h5,h7,h21,h22,h23,hb1,hi',hm',hk',ho,hTl]
    intro k2 o2 hk20 hk2 ho2
    have n1:=bA0 hi' hk2
    have n2:=bA0 hm' hk2
    simp(disch:=omega)only[↓kX,kW,aS,simprocAttr,h0,h3,h5,h7,h21,h22,h23,hb1,hi',hm',hk',ho,hTl,aP,bZ,hT,hf,hK,ah]
    have hk2f:=hsub.free hk2
    refine⟨_,rfl,(((H.kill k).set k2 o2).set h (.cells [.imm k2 (dC (ts++[⟨kd,ps⟩])) (ts.length+1),.mp m,.sc (.int .i64 d)] 67 3)).set m (.map (jL 0 (ts++[⟨kd,ps⟩]))),hsub.mkill.mset.mset.mset,?_,k2,.inr ⟨hk20,hk2f⟩,?_,?_⟩
    ·rw[fC,if_neg hin]
    ·rw[fC,if_neg hin]
     refine⟨hk20,?_,set_get,o2,?_,?_⟩
     ·rw[aP hmne,set_get,List.length_append];rfl
     ·rw[aP (fun e=>n2 e.symm),aP (fun e=>n1 e.symm),set_get]
     ·rw[List.length_append]
      have e:(ts.length + [(⟨kd,ps⟩:Term)].length)*2=ts.length*2+2:=by simp;omega
      rw[e]
      first|exact ho2|(simp only[List.length_cons,List.length_nil]at ho2;exact ho2)
    ·intro x x1 x2 x3 x4
     rw[aP x2,aP x1,aP x4,bZ x3]
theorem numT_le(ts:List Term)(t:Term):(fC ts t).2≤ts.length+1:=by
 unfold fC
 split
 ·rename_i h;have:=List.idxOf_lt_length_of_mem h;simp;omega
 ·simp
def NameR(H:AH)(h m k d:Nat)(ts:List Term)(t:Term)(v:AV)(H':AH):Prop:=∃H1,StepI H h m k d (fC ts t).1 H1∧OwnB (fW t (fC ts t).2) H1 v H'
theorem name_live(H:AH)(h m k d:Nat)(ts:List Term)(t:Term)(ht:okT t)(hts:∀x∈ts,okT x)(hl:ts.length≤1000000)(g:IsI H h m k d ts):ACalls Tryz.prog 41 [.ptr h 0,.sc (.int .u8 t.kind.toNat),fZ t.parts] H (NameR H h m k d ts t):=by
 have hn:=number_live H h m k d ts t ht hts hl g
 have hc:=fun H=>called_live t (fC ts t).2 ht (by have:=numT_le ts t;omega) H
 obtain⟨k0,hi,hm,o,hk,ho⟩:=id g
 obtain⟨kd,ps⟩:=t
 refine ao0 (c:=⟨Tryz.prog,18,[(2,[0,0,0,0,1,2,2,0]),(1000001,[7])],[],[]⟩) (rs:=[ResultVar.tmp 6]) Tryz.mixed Tryz.func41 rfl rfl rfl (Nat.le_of_ble_eq_true rfl) (by kernel_rfl) ?_
 simp(disch:=omega)only[↓kX,kW,aS,simprocAttr,ah]
 intro b hb0 hb
 have hbi:=bA0 hi hb
 first|simp(disch:=omega)only[↓kX,kW,aS,simprocAttr,aj hb,ah]|skip
 refine CallK.i hn ?_
 rintro v H1 ⟨rfl,hs⟩
 simp(disch:=omega)only[↓kX,kW,aS,simprocAttr]
 refine CallK.i (hc H1) ?_
 rintro v H2 hown
 simp(disch:=omega)only[↓kX,kW,aS,simprocAttr]
 obtain⟨kk,hkk0,hkk,rfl,rfl⟩:=hown
 exact⟨_,rfl,_,Abs.Sub.refl _,H1,hs,kk,hkk0,hkk,rfl,rfl⟩
theorem jY(H:AH)(h m k d:Nat)(ts:List Term)(g:IsI H h m k d ts):ACalls Tryz.prog 40 [.ptr h 0] H fun v H'=>v=.sc (.bool true)∧H'=H:=by
 obtain⟨k0,hi,hm,o,hk,ho⟩:=id g
 refine ao0 (c:=⟨Tryz.prog,13,[],[],[]⟩) (rs:=[ResultVar.tmp 2]) Tryz.mixed Tryz.func40 rfl rfl rfl (Nat.le_of_ble_eq_true rfl) (by kernel_rfl) ?_
 simp(disch:=omega)only[↓kX,kW,aS,simprocAttr,hi]
 exact⟨_,rfl,H,Abs.Sub.refl _,rfl,rfl⟩
theorem hash_live(H:AH)(h m k d:Nat)(ts:List Term)(a:List UInt8)(ht:okT ⟨104,[a]⟩)(hts:∀x∈ts,okT x)(hl:ts.length≤1000000)(g:IsI H h m k d ts):ACalls Tryz.prog 19 [.ptr h 0,eu a] H (NameR H h m k d ts ⟨104,[a]⟩):=by
 have hm:=jY H h m k d ts g
 have hn:=name_live H h m k d ts ⟨104,[a]⟩ ht hts hl g
 refine ao0 (c:=⟨Tryz.prog,12,[],[],[]⟩) (rs:=[ResultVar.tmp 4]) Tryz.mixed Tryz.func19 rfl rfl rfl (Nat.le_of_ble_eq_true rfl) (by kernel_rfl) ?_
 simp(disch:=omega)only[↓kX,kW,aS,simprocAttr]
 refine CallK.i hm ?_
 rintro v H1 ⟨rfl,rfl⟩
 simp(disch:=omega)only[↓kX,kW,aS,simprocAttr]
 refine CallK.i hn ?_
 rintro v H2 ⟨H3,hs,kk,hkk0,hkk,rfl,rfl⟩
 simp(disch:=omega)only[↓kX,kW,aS,simprocAttr]
 exact⟨_,rfl,_,Abs.Sub.refl _,H3,hs,kk,hkk0,hkk,rfl,rfl⟩
theorem IsI.draw{H:AH}{h m k d:Nat}{ts:List Term}(g:IsI H h m k d ts):IsI (H.set h (.cells [.imm k (dC ts) ts.length,.mp m,.sc (.int .i64 ((d+1:Nat)))] 67 3)) h m k (d+1) ts:=by
 obtain⟨k0,hi,hm,o,hk,ho⟩:=id g
 exact⟨k0,set_get,by rw[aP (fun e=>g.hmne e.symm)];exact hm,o,by rw[aP (fun e=>g.hkne e.symm)];exact hk,ho⟩
theorem StepI.over{H H1:AH}{h m k d':Nat}{ts':List Term}{c:AObj}(hh:∃o,H h=some o)(s:StepI (H.set h c) h m k d' ts' H1):StepI H h m k d' ts' H1:=by
 obtain⟨k',h1,h2,h3⟩:=s
 refine⟨k',?_,h2,fun x x1 x2 x3 x4=>?_⟩
 ·rcases h1 with h1|⟨h1,h4⟩
  ·exact .inl h1
  ·exact .inr ⟨h1,am h4⟩
 ·rw[h3 x x1 x2 x3 x4,aP x1]
def DrawR(H:AH)(h m k d:Nat)(ts:List Term)(v:AV)(H':AH):Prop:=∃H1,StepI H h m k (d+1) (fC ts ⟨115,[fh 8 (d+1)]⟩).1 H1∧OwnB (fW ⟨115,[fh 8 (d+1)]⟩ (fC ts ⟨115,[fh 8 (d+1)]⟩).2) H1 v H'
theorem draw_live(H:AH)(h m k d:Nat)(ts:List Term)(hd:d≤1000000)(hts:∀x∈ts,okT x)(hl:ts.length≤1000000)(g:IsI H h m k d ts):ACalls Tryz.prog 18 [.ptr h 0] H (DrawR H h m k d ts):=by
 have hm:=jY H h m k d ts g
 have ht:okT ⟨115,[fh 8 (d+1)]⟩:=⟨fun h=>absurd h (by simp),by simp,by simp[fe0]⟩
 have hn:=name_live _ h m k (d+1) ts ⟨115,[fh 8 (d+1)]⟩ ht hts hl g.draw
 have he:=jj0 (d+1) (by omega)
 obtain⟨k0,hi,_,_⟩:=id g
 refine ao0 (c:=⟨Tryz.prog,21,[],[],[]⟩) (rs:=[ResultVar.tmp 2]) Tryz.mixed Tryz.func18 rfl rfl rfl (Nat.le_of_ble_eq_true rfl) (by kernel_rfl) ?_
 simp(disch:=omega)only[↓kX,kW,aS,simprocAttr]
 refine CallK.i hm ?_
 rintro v H1 ⟨rfl,rfl⟩
 simp(disch:=omega)only[↓kX,kW,aS,simprocAttr,hi,ah]
 first|refine CallK.p (he) ?_|refine CallP.i (he) ?_
 simp(disch:=omega)only[↓kX,kW,aS,simprocAttr,hi,ah]
 refine CallK.i hn ?_
 rintro v H2 ⟨H3,hs,kk,hkk0,hkk,rfl,rfl⟩
 simp(disch:=omega)only[↓kX,kW,aS,simprocAttr]
 exact⟨_,rfl,_,Abs.Sub.refl _,H3,hs.over ⟨_,hi⟩,kk,hkk0,hkk,rfl,rfl⟩
end Go.Proofs.YtcncplameclkfaaGreatDoor
end
