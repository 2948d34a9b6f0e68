/-
  Several texts in one: each says what it proves.
  Conditions: none. Lemmas only.
-/
import Derived.Test.YtcncplameclkfaaGreatDoorAbsG4
import Derived.OpenShut
import Derived.ShutString
import Derived.ChangeOld
import Derived.Carry
import Derived.DataReads
import Derived.Test.YtcncplameclkfaaGreatDoorAbsG5
import Derived.Lib.Overlaps
set_option linter.all false
section
namespace Go.Abs
open Go Go.RowKit Go.ChangeShapes Go.WideShapes
mutual
def cN0{H:Type}:DataW H→Nat
 |.lit (.string bytes)=>bytes.length+1
 |.slice elems spare=>cd elems+cd spare+1
 |.agg parts=>cd parts+1
 |_=>1
def cd{H:Type}:List (DataW H)→Nat
 |[]=>0
 |d::r=>cN0 d+cd r
end
abbrev W0(w:World):Ctx:=⟨fun _=>none,1,fun _=>0,fun _=>0,w⟩
theorem not_wr0{w:World}{a:Addr}:¬Wr (W0 w) a:=fun⟨_,h⟩=>h
def GlobW(w:World):Prop:=∀g cs,globT g=some cs→∀j (h:j<cs.length),w.cell? ⟨g,j,none⟩=some cs[j]∧cs[j].oneCell'=true
theorem wr0(w:World)(hg:GlobW w):WR (W0 w):=⟨Nat.zero_lt_one,rfl,fun _ _ h=>(nomatch h),fun _ _ h=>(nomatch h),fun _ _ _ _ h=>(nomatch h),fun _ _ h=>(nomatch h),fun g cs h j hj=>⟨(hg g cs h j hj).1,not_wr0,(hg g cs h j hj).2⟩⟩
def Fit(w:World)(cells:List AV)(cs:List Value):Prop:=cs.length=cells.length∧∀j (h:j<cells.length),VR (W0 w) cells[j] (cs.getD j undef)∧(cs.getD j undef).oneCell'=true
theorem Fit.one{w:World}{a:AV}{v:Value}(h:VR (W0 w) a v)(h1:v.oneCell'=true):Fit w [a] [v]:=⟨rfl,fun j hj=>by
 obtain rfl:j=0:=by simp at hj;omega
 exact⟨h,h1⟩⟩
structure Ty(P:Program)(t:TypeId)(α:Type) where
 enc:α→List AV
 ok:α→Prop
 size:α→Nat
 len:∀x,(enc x).length=P.cellsOf t
 rd:∀ {H:Type} {ec:TypeId × Value→H} {w:World} {fuel:Nat} {cs:List Value} {d:DataW H} {ps:List MemPlace},DataW.trod ec P w 0 (fun _=>true) true fuel t cs=some (d,ps)→
  ∃x,ok x∧size x≤cN0 d∧Fit w (enc x) cs
section inv
variable {P:Program} {t:TypeId} {H:Type} {ec:TypeId × Value→H} {w:World} {fuel:Nat} {cs:List Value} {d:DataW H} {ps:List MemPlace}
theorem trod_bool(ht:P.underlying t=some .bool)(h:DataW.trod ec P w 0 (fun _=>true) true fuel t cs=some (d,ps)):∃b,cs=[.bool b]∧d=.lit (.bool b):=by
 cases fuel with
 |zero=>simp[DataW.trod]at h
 |succ fuel=>
  rcases cs with _|⟨v,_|⟨v2,r⟩⟩
  ·simp[DataW.trod,ht]at h
  ·cases v<;>simp[DataW.trod,ht]at h
   exact⟨_,rfl,h.1.symm⟩
  ·simp[DataW.trod,ht]at h
theorem trod_int{k:IntKind}(ht:P.underlying t=some (.int k))(h:DataW.trod ec P w 0 (fun _=>true) true fuel t cs=some (d,ps)):∃n,cs=[.int k n]∧d=.lit (.int k n)∧(Lit.int k n).wf=true:=by
 cases fuel with
 |zero=>simp[DataW.trod]at h
 |succ fuel=>
  rcases cs with _|⟨v,_|⟨v2,r⟩⟩
  ·simp[DataW.trod,ht]at h
  ·cases v<;>simp[DataW.trod,ht]at h
   obtain⟨⟨h0,hw⟩,h1,h2⟩:=h
   exact⟨_,by rw[h0],h1.symm,hw⟩
  ·simp[DataW.trod,ht]at h
theorem trod_str(ht:P.underlying t=some .string)(h:DataW.trod ec P w 0 (fun _=>true) true fuel t cs=some (d,ps)):∃s:ByteArray,cs=[.string s]∧d=.lit (.string s.data.toList)∧s.size≤maxLen:=by
 cases fuel with
 |zero=>simp[DataW.trod]at h
 |succ fuel=>
  rcases cs with _|⟨v,_|⟨v2,r⟩⟩
  ·simp[DataW.trod,ht]at h
  ·cases v<;>simp[DataW.trod,ht]at h
   obtain⟨h0,h1,h2⟩:=h
   exact⟨_,rfl,h1.symm,h0⟩
  ·simp[DataW.trod,ht]at h
theorem trod_slice{e:TypeId}(ht:P.underlying t=some (.slice e))(h:DataW.trod ec P w 0 (fun _=>true) true fuel t cs=some (d, ps)):
    (cs=[.slice none 0 0]∧d=.nil)∨∃a len cap fuel' elems rest,cs=[.slice (some a) len cap]∧len≤cap∧cap≤maxLen∧d=.slice elems rest∧
     ∃el:List (DataW H × List MemPlace),elems=el.map (·.1)∧(List.range len).mapM (fun i=>(w.cells? 0 (a.add (i*P.cellsOf e)) (P.cellsOf e)).bind (DataW.trod ec P w 0 (fun _=>true) true fuel' e))=some el:=by
 cases fuel with
 |zero=>simp[DataW.trod]at h
 |succ fuel=>
  rcases cs with _|⟨v,_|⟨v2,r⟩⟩
  ·simp[DataW.trod,ht]at h
  ·cases v
   case slice a len cap=>
    cases a with
    |none=>
     rcases len with _|len
     ·rcases cap with _|cap
      ·simp[DataW.trod,ht]at h
       exact .inl ⟨rfl,h.1.symm⟩
      ·simp[DataW.trod,ht]at h
     ·simp[DataW.trod,ht]at h
    |some a=>
     right
     simp only[DataW.trod,ht]at h
     split at h
     ·rename_i hc
      obtain⟨-,h1,h2⟩:=hc
      simp only[Option.bind_eq_some_iff,Option.map_eq_some_iff]at h
      obtain⟨el,hel,rest,hr,hd⟩:=h
      simp only[Prod.mk.injEq]at hd
      exact⟨a,len,cap,fuel,_,_,rfl,h1,h2,hd.1.symm,el,rfl,hel⟩
     ·cases h
   all_goals simp[DataW.trod,ht]at h
  ·simp[DataW.trod,ht]at h
theorem trod_struct{fs:Array Field}(ht:P.underlying t=some (.struct fs))(h:DataW.trod ec P w 0 (fun _=>true) true fuel t cs=some (d, ps)):
    cs.length=P.cellsOf t∧∃fuel' xs,d=.agg (xs.map (·.1))∧fs.toList.mapM (fun f=>DataW.trod ec P w 0 (fun _=>true) true fuel' f.type ((cs.drop f.offset).take (P.cellsOf f.type)))=some xs:=by
 cases fuel with
 |zero=>simp[DataW.trod]at h
 |succ fuel=>
  simp only[DataW.trod,ht]at h
  split at h
  ·rename_i hl
   simp only[Option.map_eq_some_iff,Prod.mk.injEq]at h
   obtain⟨xs,h1,h2,-⟩:=h
   exact⟨hl,fuel,xs,h2.symm,h1⟩
  ·cases h
end inv
section prims
variable {P:Program} {t:TypeId}
def Ty.bool(ht:P.underlying t=some .bool)(hc:P.cellsOf t=1):Ty P t Bool where
 enc b:=[.sc (.bool b)]
 ok _:=True
 size _:=1
 len _:=hc.symm
 rd h:=by
  obtain⟨b,rfl,rfl⟩:=trod_bool ht h
  exact⟨b,trivial,by simp[cN0],Fit.one (.sc _) rfl⟩
def Ty.int(k:IntKind)(ht:P.underlying t=some (.int k))(hc:P.cellsOf t=1):Ty P t Int where
 enc n:=[.sc (.int k n)]
 ok n:=(Lit.int k n).wf=true
 size _:=1
 len _:=hc.symm
 rd h:=by
  obtain⟨n,rfl,rfl,hw⟩:=trod_int ht h
  exact⟨n,hw,by simp[cN0],Fit.one (.sc _) rfl⟩
def Ty.u8(ht:P.underlying t=some (.int .u8))(hc:P.cellsOf t=1):Ty P t UInt8 where
 enc b:=[.sc (.int .u8 b.toNat)]
 ok _:=True
 size _:=1
 len _:=hc.symm
 rd h:=by
  obtain⟨n,rfl,rfl,hw⟩:=trod_int ht h
  have hr:0≤n∧n≤255:=by simpa [Lit.wf,IntKind.min,IntKind.max,IntKind.signed,IntKind.bits] using hw
  refine⟨UInt8.ofNat n.toNat,trivial,by simp[cN0],Fit.one ?_ rfl⟩
  have:((UInt8.ofNat n.toNat).toNat:Int)=n:=by rw[UInt8.toNat_ofNat'];omega
  rw[this]
  exact .sc _
def Ty.str(ht:P.underlying t=some .string)(hc:P.cellsOf t=1):Ty P t (List UInt8) where
 enc l:=[strV l]
 ok _:=True
 size l:=l.length+1
 len _:=hc.symm
 rd h:=by
  obtain⟨s,rfl,rfl,hw⟩:=trod_str ht h
  refine⟨s.data.toList,trivial,by simp[cN0],Fit.one ?_ rfl⟩
  simp only[strV,Array.toArray_toList]
  exact .sc _
end prims
theorem flat_length{α:Type}{f:α→List AV}{s:Nat}(h:∀x,(f x).length=s)(l:List α):(l.flatMap f).length=l.length*s:=by
 induction l with
 |nil=>simp
 |cons x l ih=>simp[List.flatMap_cons,ih,h x,Nat.succ_mul];omega
theorem flat_gets{α:Type}{f:α→List AV}{s:Nat}(h:∀x,(f x).length=s)(l:List α)(i r:Nat)(hr:r<s):(l.flatMap f)[i*s+r]? = (l[i]?).bind fun x=>(f x)[r]?:=by
 induction l generalizing i with
 |nil=>simp
 |cons x l ih=>
  cases i with
  |zero=>simp[List.flatMap_cons,List.getElem?_append_left (show r<(f x).length by rw[h];exact hr)]
  |succ i=>
   have hle:(f x).length≤(i+1)*s+r:=by rw[h,Nat.succ_mul];omega
   rw[List.flatMap_cons,List.getElem?_append_right hle,h]
   have e:(i+1)*s+r-s=i*s+r:=by rw[Nat.succ_mul];omega
   rw[e,ih]
   rfl
theorem mapM_pick{α β:Type}{f:α→Option β}{l:List α}{r:List β}(h:l.mapM f=some r):r.length=l.length∧∀i (hi:i<l.length) (hi':i<r.length),f l[i]=some r[i]:=by
 induction l generalizing r with
 |nil=>simp at h;subst h;exact⟨rfl,fun i hi=>absurd hi (by simp)⟩
 |cons x l ih=>
  simp only[List.mapM_cons]at h
  cases hx:f x with
  |none=>simp[hx]at h
  |some y=>
   cases hl:l.mapM f with
   |none=>simp[hx,hl]at h
   |some ys=>
    simp[hx,hl]at h
    subst h
    obtain⟨h1,h2⟩:=ih hl
    refine⟨by simp[h1],fun i hi hi'=>?_⟩
    cases i with
    |zero=>exact hx
    |succ i=>exact h2 i (by simpa using hi) (by simpa using hi')
theorem choose_list{α β:Type}{R:α→β→Prop}:∀(l:List β),(∀b∈l,∃a,R a b)→∃as:List α,as.length=l.length∧∀i (hi:i<as.length) (hi':i<l.length),R as[i] l[i]
 |[],_=>⟨[],rfl,fun i hi=>absurd hi (by simp)⟩
 |b::l,h=>by
  obtain⟨a,ha⟩:=h b (by simp)
  obtain⟨as,h1,h2⟩:=choose_list l fun b hb=>h b (by simp[hb])
  refine⟨a::as,by simp[h1],fun i hi hi'=>?_⟩
  cases i with
  |zero=>exact ha
  |succ i=>exact h2 i (by simpa using hi) (by simpa using hi')
def j20{α:Type}(f:α→Nat)(l:List α):Nat:=(l.map f).sum
theorem bulkAll_map{H α:Type}{ds:List (DataW H)}{xs:List α}{f:α→Nat}(hl:xs.length=ds.length)(h:∀i (hi:i<xs.length) (hi':i<ds.length),f xs[i]≤cN0 ds[i]):j20 f xs≤cd ds:=by
 induction xs generalizing ds with
 |nil=>simp[j20]
 |cons x xs ih=>
  cases ds with
  |nil=>simp at hl
  |cons d ds=>
   have h0:=h 0 (by simp) (by simp)
   have:=ih (ds:=ds) (by simpa using hl) (fun i hi hi'=>h (i+1) (by simpa using hi) (by simpa using hi'))
   simp only[j20,List.map_cons,List.sum_cons,cd]at *
   simp at h0
   omega
section slices
variable {P:Program} {t e:TypeId} {α:Type}
def rowV(enc:α→List AV)(xs:List α):AV:=.imm 0 (xs.flatMap enc) xs.length
def Ty.slice(E:Ty P e α)(ht:P.underlying t=some (.slice e))(hc:P.cellsOf t=1)(hs:0<P.cellsOf e):Ty P t (List α) where
 enc xs:=[rowV E.enc xs]
 ok xs:=(∀x∈xs,E.ok x)∧xs.length≤maxLen
 size xs:=j20 E.size xs+1
 len _:=hc.symm
 rd {H ec w fuel cs d ps} h:=by
  rcases trod_slice ht h with⟨rfl,rfl⟩|⟨a,len,cap,fuel',elems',rest,rfl,hle,hcap,rfl,elems,rfl,hel⟩
  ·exact⟨[],⟨by simp,by simp⟩,by simp[j20,cN0],Fit.one .nil rfl⟩
  ·obtain⟨hlen,hget⟩:=mapM_pick hel
   have hlen':elems.length=len:=by simpa using hlen
   have key:∀p∈elems.zipIdx,∃x:α,E.ok x∧E.size x≤cN0 p.1.1∧∃cs,w.cells? 0 (a.add (p.2*P.cellsOf e)) (P.cellsOf e)=some cs∧Fit w (E.enc x) cs:=by
    rintro⟨q,i⟩ hp
    obtain⟨hi,hq⟩:=List.mk_mem_zipIdx_iff_getElem?.1 hp |> fun h=>(⟨(List.getElem?_eq_some_iff.1 h).1,(List.getElem?_eq_some_iff.1 h).2⟩:∃hi:i<elems.length,elems[i]=q)
    have:=hget i (by simpa [hlen'] using hi) hi
    simp only[List.getElem_range,Option.bind_eq_some_iff]at this
    obtain⟨cs,h1,h2⟩:=this
    obtain⟨x,o1,o2,o3⟩:=E.rd (by rw[hq]at h2;exact h2:DataW.trod ec P w 0 (fun _=>true) true fuel' e cs=some (q.1,q.2))
    exact⟨x,o1,o2,cs,h1,o3⟩
   obtain⟨xs,hx1,hx2⟩:=choose_list elems.zipIdx key
   simp only[List.length_zipIdx]at hx1
   have hxl:xs.length=len:=hx1.trans hlen'
   have hx3:∀i (hi:i<xs.length),E.ok xs[i]∧E.size xs[i]≤cN0 (elems[i]'(by omega)).1∧∃cs,w.cells? 0 (a.add (i*P.cellsOf e)) (P.cellsOf e)=some cs∧Fit w (E.enc xs[i]) cs:=by
    intro i hi
    have:=hx2 i hi (by simpa using (by omega:i<elems.length))
    simpa using this
   refine⟨xs,⟨fun x hx=>?_,by omega⟩,?_,Fit.one ?_ rfl⟩
   ·obtain⟨i,hi,rfl⟩:=List.getElem_of_mem hx
    exact(hx3 i hi).1
   ·simp only[cN0]
    have:=bulkAll_map (ds:=elems.map (·.1)) (xs:=xs) (f:=E.size) (by simp[hx1]) (fun i hi hi'=>by simpa using (hx3 i hi).2.1)
    omega
   ·have hfl:=flat_length E.len xs
    have hcell:∀j,j<(xs.flatMap E.enc).length→∃u,w.cell? (a.add j)=some u∧u.oneCell'=true∧∀h:j<(xs.flatMap E.enc).length,VR (W0 w) (xs.flatMap E.enc)[j] u:=by
     intro j hj
     rw[hfl]at hj
     have hi:j/P.cellsOf e<xs.length:=by rw[Nat.div_lt_iff_lt_mul hs];exact hj
     have hr:j % P.cellsOf e<P.cellsOf e:=Nat.mod_lt _ hs
     obtain⟨-,-,cs,h1,h2,h3⟩:=hx3 _ hi
     obtain⟨-,g2,g3⟩:=World.cells?_some h1
     have hjj:j/P.cellsOf e*P.cellsOf e+j % P.cellsOf e=j:=by rw[Nat.mul_comm];exact Nat.div_add_mod j _
     have hrl:j % P.cellsOf e<(E.enc xs[j/P.cellsOf e]).length:=by rw[E.len];exact hr
     obtain⟨v1,v2⟩:=h3 _ hrl
     have hcs:j % P.cellsOf e<cs.length:=by omega
     refine⟨cs.getD (j % P.cellsOf e) undef,?_,v2,fun hjf=>?_⟩
     ·have:=g3 _ hr
      have hadd:∀x y,(a.add x).add y=a.add (x+y):=fun x y=>by unfold Addr.add;by_cases hx:x=0<;>by_cases hy:y=0<;>simp[hx,hy,Nat.add_assoc]
      rw[hadd,hjj]at this
      rw[this,List.getElem?_eq_getElem hcs];simp[List.getD,List.getElem?_eq_getElem hcs]
     ·have hg:=flat_gets E.len xs (j/P.cellsOf e) _ hr
      rw[hjj]at hg
      have e2:(xs.flatMap E.enc)[j]=(E.enc xs[j/P.cellsOf e])[j % P.cellsOf e]:=by
       have:(xs.flatMap E.enc)[j]? = some ((E.enc xs[j/P.cellsOf e])[j % P.cellsOf e]):=by
        rw[hg];simp[hi,hrl]
       rw[List.getElem?_eq_getElem hjf]at this
       exact Option.some.inj this
      rw[e2];exact v1
    obtain⟨b,o,sp⟩:=a
    have hsp:(xs.flatMap E.enc)≠[]→sp=none:=fun hne=>by
     obtain⟨u,h1,-⟩:=hcell 0 (by cases hh:xs.flatMap E.enc with|nil=>exact absurd hh hne|cons _ _=>simp)
     exact World.cell?_spot (a:=⟨b,o,sp⟩) (by simpa [Addr.add] using h1)
    subst hxl
    refine VR.imm 0 (xs.flatMap E.enc) xs.length (some ⟨b,o,sp⟩) cap hle hcap (fun h=>absurd rfl h) b o (fun hne=>by have:=hsp hne;subst this;rfl) (fun j=>(w.cell? ⟨b,o+j,none⟩).getD undef) (fun j hj=>?_) fun j hj=>?_
    ·obtain⟨u,h1,h2,-⟩:=hcell j hj
     have hne:xs.flatMap E.enc≠[]:=by rintro he;rw[he]at hj;simp at hj
     have hs0:=hsp hne
     subst hs0
     have h1':w.cell? ⟨b,o+j,none⟩=some u:=by rw[←bT];exact h1
     refine⟨?_,not_wr0,?_⟩
     ·show w.cell? _=some _
      rw[h1'];rfl
     ·rw[h1'];exact h2
    ·obtain⟨u,h1,h2,h3⟩:=hcell j hj
     have hne:xs.flatMap E.enc≠[]:=by rintro he;rw[he]at hj;simp at hj
     have hs0:=hsp hne
     subst hs0
     have h1':w.cell? ⟨b,o+j,none⟩=some u:=by rw[←bT];exact h1
     rw[h1']
     exact h3 hj
end slices
structure Flds(P:Program)(fs:List Field)(o:Nat)(α:Type) where
 enc:α→List AV
 ok:α→Prop
 size:α→Nat
 tot:Nat
 len:∀x,(enc x).length=tot
 rd:∀ {H:Type} {ec:TypeId × Value→H} {w:World} {fuel:Nat} {cs:List Value} {xs:List (DataW H × List MemPlace)},
  fs.mapM (fun f=>DataW.trod ec P w 0 (fun _=>true) true fuel f.type ((cs.drop f.offset).take (P.cellsOf f.type)))=some xs→cs.length=o+tot→
  ∃x,ok x∧size x≤cd (xs.map (·.1))∧Fit w (enc x) (cs.drop o)
section structs
variable {P:Program} {o:Nat} {α β:Type}
def Flds.nil:Flds P [] o Unit where
 enc _:=[]
 ok _:=True
 size _:=0
 tot:=0
 len _:=rfl
 rd {H ec w fuel cs xs} h hl:=by
  simp at h
  subst h
  exact⟨(),trivial,by simp,by rw[List.drop_eq_nil_of_le (by omega)];exact⟨rfl,fun j h=>absurd h (by simp)⟩⟩
theorem Fit.append{w:World}{a b:List AV}{u v:List Value}(h:Fit w a u)(g:Fit w b v):Fit w (a++b) (u++v):=by
 refine⟨by simp[h.1,g.1],fun j hj=>?_⟩
 by_cases hja:j<a.length
 ·have hju:j<u.length:=by rw[h.1];exact hja
  rw[List.getElem_append_left hja]
  have e:(u++v).getD j undef=u.getD j undef:=by simp[List.getD,List.getElem?_append_left hju]
  rw[e]
  exact h.2 j hja
 ·have hju:u.length≤j:=by rw[h.1];omega
  have hjb:j-a.length<b.length:=by simp at hj;omega
  rw[List.getElem_append_right (by omega)]
  have e:(u++v).getD j undef=v.getD (j-a.length) undef:=by simp[List.getD,List.getElem?_append_right hju,h.1]
  rw[e]
  exact g.2 _ hjb
def Flds.cons{f:Field}{fs:List Field}(T:Ty P f.type α)(F:Flds P fs (o+P.cellsOf f.type) β)(ho:f.offset=o):Flds P (f::fs) o (α × β) where
 enc x:=T.enc x.1++F.enc x.2
 ok x:=T.ok x.1∧F.ok x.2
 size x:=T.size x.1+F.size x.2
 tot:=P.cellsOf f.type+F.tot
 len x:=by simp[T.len,F.len]
 rd {H ec w fuel cs xs} h hl:=by
  simp only[List.mapM_cons]at h
  cases hx:DataW.trod ec P w 0 (fun _=>true) true fuel f.type ((cs.drop f.offset).take (P.cellsOf f.type)) with
  |none=>simp[hx]at h
  |some y=>
   cases hr:fs.mapM (fun f=>DataW.trod ec P w 0 (fun _=>true) true fuel f.type ((cs.drop f.offset).take (P.cellsOf f.type))) with
   |none=>simp[hx,hr]at h
   |some ys=>
    simp[hx,hr]at h
    subst h
    obtain⟨d,ps⟩:=y
    obtain⟨x,a1,a2,a3⟩:=T.rd hx
    obtain⟨z,b1,b2,b3⟩:=F.rd hr (by omega)
    refine⟨(x,z),⟨a1,b1⟩,by simp[cd];omega,?_⟩
    have:=a3.append b3
    rw[ho]at this
    rw[←List.drop_drop,List.take_append_drop]at this
    exact this
def Ty.struct{t:TypeId}{fs:Array Field}(ht:P.underlying t=some (.struct fs))(F:Flds P fs.toList 0 α)(hc:P.cellsOf t=F.tot):Ty P t α where
 enc:=F.enc
 ok:=F.ok
 size x:=F.size x+1
 len x:=by rw[F.len,hc]
 rd h:=by
  obtain⟨hl,fuel',xs,rfl,hm⟩:=trod_struct ht h
  obtain⟨x,a1,a2,a3⟩:=F.rd hm (by omega)
  exact⟨x,a1,by simp[cN0];omega,by simpa using a3⟩
end structs
theorem arg_one{w:World}{a:AV}{v:Value}(hv:v.cells = #[v])(h:Fit w [a] v.cells.toList):VR (W0 w) a v:=by
 rw[hv]at h
 exact(h.2 0 (by simp)).1
theorem vrs_nil{C:Ctx}:VRs C [] []:=⟨rfl,fun j h=>absurd h (by simp)⟩
theorem vrs_cons{C:Ctx}{a:AV}{v:Value}{l:List AV}{vs:List Value}(h:VR C a v)(g:VRs C l vs):VRs C (a::l) (v::vs):=by
 refine⟨by simp[g.1],fun j hj=>?_⟩
 cases j with
 |zero=>exact h
 |succ j=>exact g.2 j (by simpa using hj)
theorem calls_true{P:Program}{f:FuncId}(hc:ak P f=true){W:World}(hg:GlobW W){args:List AV}{vs:List Value}(h:APure P f args (.sc (.bool true)))(hx:VRs (W0 W) args vs):
    Calls P f vs.toArray W fun e w'=>e=.returned (.bool true)∧Below W.heap.size W w':=by
 have h':=h (fun _=>none) 1 (fun _=>0) (fun _=>0) W vs (wr0 W hg) hx
 rw[cZ hc]at h'
 simp only[Upon]at h'
 refine h'.mono ?_
 rintro e w' ⟨u,rfl,v,H',n',i',c',⟨rfl,rfl⟩,-,e1,e2⟩
 refine⟨by cases e2;rfl,e1.os,e1.tape,e1.output,e1.size,fun k hk=>(e1.blk k hk ?_).1⟩
 rintro⟨x,o,ho,-⟩
 cases ho
theorem flat_one{α:Type}(f:α→AV)(xs:List α):(xs.flatMap fun b=>[f b])=xs.map f:=by
 induction xs with
 |nil=>rfl
 |cons x xs ih=>simp[List.flatMap_cons,ih]
theorem sum_one{α:Type}(xs:List α):j20 (fun _=>1) xs=xs.length:=by
 induction xs with
 |nil=>rfl
 |cons x xs ih=>simp[j20]at ih ⊢;omega
end Go.Abs
end
section
namespace Go.Abs
open Go Go.RowKit
def FrzL(H H0:AH):List AV→List AV→Prop
 |[],[]=>True
 |a::l,b::r=>Frz H H0 a b∧FrzL H H0 l r
 |_,_=>False
theorem FrzL.get{H H0:AH}:∀ {l r:List AV},FrzL H H0 l r→r.length=l.length∧∀j (h:j<l.length) (h':j<r.length),Frz H H0 l[j] r[j]
 |[],[],_=>⟨rfl,fun j h=>absurd h (by simp)⟩
 |a::l,b::r,h=>by
  obtain⟨h1,h2⟩:=FrzL.get h.2
  refine⟨by simp[h1],fun j hj hj'=>?_⟩
  cases j with
  |zero=>exact h.1
  |succ j=>exact h2 j (by simpa using hj) (by simpa using hj')
 |[],_::_,h=>h.elim
 |_::_,[],h=>h.elim
theorem ACalls.give{P:Program}{f:FuncId}{args args':List AV}{H H0:AH}{R:AV→AH→Prop}(hs:Abs.Sub H0 H)(hL:FrzL H H0 args args')(h:ACalls P f args' H0 R):ACalls P f args H R:=by
 obtain⟨hl,ha⟩:=hL.get
 intro n i c w vs g hx
 have g0:=g.weaken H0 hs
 have ew:=Ext.weaken (C:=⟨H,n,i,c,w⟩) H0 hs
 have hx':VRs ⟨H0,n,i,c,w⟩ args' vs:=by
  refine⟨by rw[hl];exact hx.1,fun j hj=>?_⟩
  have hj':j<args.length:=by omega
  exact ha j hj' hj ⟨H,n,i,c,w⟩ _ rfl g hs (hx.2 j hj')
 refine(h n i c w vs g0 hx').mono ?_
 rintro u w' ⟨v,H',n',i',c',h1,h2,h3,h4⟩
 exact⟨v,H',n',i',c',h1,h2,ew.trans h3,h4⟩
theorem Sub.killed{H:AH}{k:Nat}:Abs.Sub (H.kill k) H:=fun x o hx=>by
 simp only[AH.kill]at hx
 split at hx
 ·cases hx
 ·exact hx
theorem kill_same{H:AH}{k:Nat}:(H.kill k) k=none:=by simp[AH.kill]
theorem ACalls.give1{P:Program}{f:FuncId}{H:AH}{R:AV→AH→Prop}{k n:Nat}{cs:List AV}{e s:Nat}(hk:H k=some (.cells cs e s))(hn:n*s≤cs.length)
    (h:ACalls P f [.imm 0 (cs.take (n*s)) n] (H.kill k) R):ACalls P f [.own k 0 n] H R:=
 ACalls.give (args:=[.own k 0 n]) (args':=[.imm 0 (cs.take (n*s)) n]) (H0:=H.kill k) Sub.killed ⟨Frz.own hk kill_same hn,trivial⟩ h
theorem Frz.nil{H H0:AH}:Frz H H0 (.sc (.slice none 0 0)) (.imm 0 [] 0):=fun C u _ _ _ hv=>by
 rw[bQ hv]
 exact VR.nil
theorem FrzL.same{H:AH}:∀ {l:List AV},FrzL H H l l
 |[]=>trivial
 |_::_=>⟨Frz.same,FrzL.same⟩
end Go.Abs
end
