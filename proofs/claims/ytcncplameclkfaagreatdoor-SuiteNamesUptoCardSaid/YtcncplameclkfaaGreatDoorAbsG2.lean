/-
  Several texts in one: each says what it proves.
  Conditions: none. Lemmas only.
-/
import Derived.Test.YtcncplameclkfaaGreatDoorAbsG1
import Derived.Laws.IdiomStrings
import Derived.Laws.Cover4
set_option linter.all false
section
namespace Go.Abs
open Go Go.RowKit
def isU8:AV→Bool
 |.sc (.int .u8 _)=>true
 |_=>false
def byteA:AV→UInt8
 |.sc (.int _ n)=>UInt8.ofNat n.toNat
 |_=>0
def dX(cells:List AV):ByteArray:=⟨(cells.map byteA).toArray⟩
def bw(l:List UInt8):List AV:=l.map fun b=>.sc (.int .u8 b.toNat)
def notI(k:IntKind)(n:Int):Int:=bits .xor k (if k.signed then -1 else k.max) n
def unK(op:UnOp)(x:AV)(K:AV→Prop):Prop:=match op,x with
 |.not,.sc (.bool b)=>K (.sc (.bool (!b)))
 |.neg,.sc (.int k n)=>K (.sc (.int k (k.wrap (0-n))))
 |.xor,.sc (.int k n)=>K (.sc (.int k (notI k n)))
 |_,_=>False
def isI32:AV→Bool
 |.sc (.int .i32 _)=>true
 |_=>false
def runeA:AV→Int
 |.sc (.int _ n)=>n
 |_=>0
def dQ(r:Int):List UInt8:=(Utf8.encode r).data.toList
def convB(u:Option TypeDesc)(cells:List AV)(n:Nat)(K:AV→Prop):Prop:=match u with
 |some (.int .u8)=>Req (cells.all isU8=true∧cells.length=n) (K (.sc (.string (dX cells))))
 |some (.int .i32)=>Req (cells.all isI32=true∧cells.length=n) (K (.sc (.string ⟨((cells.map runeA).flatMap dQ).toArray⟩)))
 |_=>False
def convK(P:Program)(s d:TypeId)(x:AV)(K:AV→Prop):Prop:=match P.underlying s,P.underlying d,x with
 |some _,some (.int k),.sc (.int _ n)=>K (.sc (.int k (k.wrap n)))
 |some .string,some .string,.sc (.string b)=>K (.sc (.string b))
 |some (.int _),some .string,.sc (.int _ n)=>K (.sc (.string ⟨(dQ n).toArray⟩))
 |some (.slice e),some .string,.imm _ cells n=>convB (P.underlying e) cells n K
 |some .string,some (.slice e),.sc (.string b)=>Req (P.underlying e=some (.int .u8)∧b.size≤maxLen) (K (.imm 0 (bw b.data.toList) b.size))
 |_,_,_=>False
def extrK(x:AV)(i:Nat)(K:AV→Prop):Prop:=match x with
 |.tup vs=>(match vs[i]? with|some v=>K v|none=>False)
 |_=>False
def em(P:Program)(t:TypeId)(x:AV)(f:Nat)(K:AV→Prop):Prop:=match P.underlying t,x with
 |some (.struct fields),.agg cells=>(match fields[f]? with
  |some fd=>(match aJ P fd.type cells fd.offset with|some v=>K v|none=>False)
  |none=>False)
 |_,_=>False
def indexK(P:Program)(t:TypeId)(x i:AV)(K:AV→Prop):Prop:=match P.underlying t,x,i with
 |some .string,.sc (.string s),.sc (.int _ i)=>Req (0≤i∧i<s.size) (K (.sc (.int .u8 (s.data.toList.getD i.toNat 0).toNat)))
 |some (.array n e),.agg cells,.sc (.int _ i)=>if aggS P e=true then Req (0≤i∧i<n∧ax P e=true∧i.toNat*ai0 P e+ai0 P e≤cells.length) (K (.agg ((cells.drop (i.toNat*ai0 P e)).take (ai0 P e))))
  else Req (0≤i∧i<n∧ax P e=true∧aggOf P e=false∧i.toNat*ai0 P e<cells.length) (K (cells.getD (i.toNat*ai0 P e) .any))
 |_,_,_=>False
where
 aggOf (P:Program) (t:TypeId):Bool:=match P.underlying t with|some d=>aY d|none=>true
 aggS (P:Program) (t:TypeId):Bool:=match P.underlying t with|some d=>aY d|none=>false
def cI(P:Program)(t:TypeId)(x i:AV)(K:AV→Prop):Prop:=match P.underlying t,x,i with
 |some (.slice e),.imm _ cells n,.sc (.int _ i)=>Req (0≤i∧i<n∧i.toNat*ai0 P e<cells.length) (Req (ax P e=true) (K (.ip cells (i.toNat*ai0 P e))))
 |some (.slice e),.own h off n,.sc (.int _ i)=>Req (0≤i∧i<n) (Req (ax P e=true) (K (.ptr h (off+i.toNat*ai0 P e))))
 |some (.array n e),.ip cells off,.sc (.int _ i)=>Req (0≤i∧i<n) (Req (ax P e=true) (K (.ip cells (off+i.toNat*ai0 P e))))
 |some (.array n e),.ptr h off,.sc (.int _ i)=>Req (0≤i∧i<n) (Req (ax P e=true) (K (.ptr h (off+i.toNat*ai0 P e))))
 |_,_,_=>False
def arrK(P:Program)(t:TypeId)(x:AV)(K:AV→Prop):Prop:=match P.underlying t,x with
 |some (.array m _),.imm _ cells n=>Req (m≤n∧cells.isEmpty=false) (K (.ip cells 0))
 |_,_=>False
def cK(P:Program)(t:TypeId)(x:AV)(f:Nat)(K:AV→Prop):Prop:=match P.underlying t with
 |some (.struct fields)=>(match fields[f]? with
  |some fd=>Req (ax P fd.type=true∧ai0 P fd.type≠0) (match x with
   |.ip cells off=>K (.ip cells (off+fd.offset))
   |.ptr h off=>K (.ptr h (off+fd.offset))
   |_=>False)
  |none=>False)
 |_=>False
def loadK(P:Program)(t:TypeId)(x:AV)(K:AV→Prop):Prop:=match x with
 |.ip cells off=>(match aJ P t cells off with|some v=>K v|none=>False)
 |_=>False
def bnd(x:Option AV)(d:Nat):Option Int:=match x with
 |none=>some d
 |some (.sc (.int _ i))=>some i
 |_=>none
def sliceK0(P:Program)(t:TypeId)(x:AV)(lo hi mx:Option AV)(K:AV→Prop):Prop:=match P.underlying t,x,mx with
 |some (.slice e),.imm k cells n,none=>(match bnd lo 0,bnd hi n with
  |some l,some h=>Req (0≤l∧l≤h∧h≤n) (Req (ax P e=true∧cells.length=n*ai0 P e) (K (.imm 0 ((cells.drop (l.toNat*ai0 P e)).take ((h.toNat-l.toNat)*ai0 P e)) (h.toNat-l.toNat))))
  |_,_=>False)
 |some .string,.sc (.string s),none=>(match bnd lo 0,bnd hi s.size with
  |some l,some h=>Req (0≤l∧l≤h∧h≤s.size) (K (.sc (.string (s.extract l.toNat h.toNat))))
  |_,_=>False)
 |some (.slice e),.own k off n,none=>(match bnd lo 0,bnd hi n with
  |some l,some h=>Req (0≤l∧l≤h∧h≤n) (Req (ax P e=true∧0<ai0 P e) (K (bif decide (l=0) then .own k off h.toNat else bif decide (l<h) then .own k (off+l.toNat*ai0 P e) (h.toNat-l.toNat) else .any)))
  |_,_=>False)
 |some (.slice e),.imm k cells n,some m=>(match bnd lo 0,bnd hi n,bnd (some m) n with
  |some l,some h,some m=>Req (0≤l∧l≤h∧h≤m∧m≤n) (Req (ax P e=true∧cells.length=n*ai0 P e∧hi.isSome=true) (K (.imm 0 ((cells.drop (l.toNat*ai0 P e)).take ((h.toNat-l.toNat)*ai0 P e)) (h.toNat-l.toNat))))
  |_,_,_=>False)
 |some (.array n e),.ip cells off,none=>(match bnd lo 0,bnd hi n with
  |some l,some h=>Req (0≤l∧l≤h∧h≤n∧n≤maxLen) (Req (ax P e=true∧off+n*ai0 P e≤cells.length) (K (.imm 0 ((cells.drop (off+l.toNat*ai0 P e)).take ((h.toNat-l.toNat)*ai0 P e)) (h.toNat-l.toNat))))
  |_,_=>False)
 |_,_,_=>False
def nilR:AV→AV
 |.sc (.slice none 0 0)=>.imm 0 [] 0
 |v=>v
def kU(P:Program)(t:TypeId)(x:AV)(lo hi mx:Option AV)(K:AV→Prop):Prop:=sliceK0 P t (nilR x) lo hi mx K
def lenK(P:Program)(t:TypeId)(x:AV)(K:AV→Prop):Prop:=match P.underlying t,x with
 |some (.slice _),.imm _ _ n=>K (.sc (.int .i64 n))
 |some (.slice _),.own _ _ n=>K (.sc (.int .i64 n))
 |some (.slice _),.sc (.slice none 0 0)=>K (.sc (.int .i64 0))
 |some .string,.sc (.string s)=>K (.sc (.int .i64 s.size))
 |some (.array n _),_=>K (.sc (.int .i64 n))
 |_,_=>False
def AV.cellsOf:AV→List AV
 |.agg cs=>cs
 |v=>[v]
def AV.one:AV→Bool
 |.agg _ | .tup _ | .any=>false
 |.sc v=>v.oneCell'
 |_=>true
def AV.fine:AV→Bool
 |.agg _=>true
 |v=>v.one
def bG(cells:List AV)(off:Nat)(vs:List AV):List AV:=cells.take off++vs++cells.drop (off+vs.length)
def cu(place:Nat→Option (Nat × Nat))(cells:List AV):List (Nat × AV)→Option (List AV)
 |[]=>some cells
 |(i,v)::rest=>match place i with
  |none=>none
  |some (off,size)=>if v.cellsOf.length≠size∨off+size > cells.length∨v.fine=false then none else cu place (bG cells off v.cellsOf) rest
def aq(P:Program)(t:TypeId):List AV:=(bk P t).cells.toList.map fun c=>match c with | .slice none 0 0=>.imm 0 [] 0|c=>.sc c
def ap(P:Program)(t:TypeId):List AV:=(bk P t).cells.toList.map .sc
def eo0(P:Program)(t:TypeId)(parts:List (Nat × AV))(K:AV→Prop):Prop:=match P.underlying t with
 |some (.struct fields)=>Req (ax P t=true∧fields.all (fun f=>ax P f.type)=true) (match cu (fun i=>(fields[i]?).map fun f=>(f.offset,ai0 P f.type)) (ap P t) parts with|some cs=>K (.agg cs)|none=>False)
 |some (.array _ e)=>Req (ax P t=true∧ax P e=true) (match cu (fun i=>some (i*ai0 P e,ai0 P e)) (ap P t) parts with|some cs=>K (.agg cs)|none=>False)
 |_=>False
def aQ(z:List AV):Nat→List AV
 |0=>[]
 |n+1=>z++aQ z n
def bq0(P:Program)(t:TypeId)(n:Nat)(parts:List (Nat × AV))(K:AV→Prop):Prop:=match P.underlying t with
 |some (.slice e)=>Req (ax P e=true∧n*ai0 P e≤16777216∧0<ai0 P e) (match cu (fun i=>some (i*ai0 P e,ai0 P e)) (aQ (aq P e) n) parts with|some cs=>K (.imm 0 cs n)|none=>False)
 |_=>False
end Go.Abs
end
section
namespace Go.Abs
open Go Go.RowKit
variable {P:Program}
theorem bg0{o:Oper}{ρ:Operand→AV}{K:AV→Prop}{v:AV}(hK:K v)
    (h:∀(C:Ctx) (ρ':Operand→Value),WR C→(∀x∈o.op.operands,VR C (ρ x) (ρ' x))→∃u,(execOp ρ' o).run P C.w=.ok (.value u) C.w∧VR C v u):OutP P o ρ K:=
 ⟨v,fun _=>cp fun C ρ' _ g hx=>h C ρ' g hx,hK⟩
theorem eqB_sound{op:BinOp}{t:TypeId}{x y:AV}{K:AV→Prop}
    (h:match op,eqG P 6 t x y with | .eql,some r=>Req (bB0 P t=true) (K (.sc (.bool r))) | .neq,some r=>Req (bB0 P t=true) (K (.sc (.bool (!r))))|_,_=>False)
    (sh:∀(C:Ctx) (u v:Value),VR C x u→VR C y v→(∀(a b:Operand),∀w,(eqGuard op t a b u v).run P w=.ok () w)∧binOp .eql t u v=(do pure (.bool (←Op.equal t u v)))∧binOp .neq t u v=(do pure (.bool (!(←Op.equal t u v))))):
    ∃r,K (.sc (.bool r))∧∀(C:Ctx) (u v:Value) (a b:Operand),VR C x u→VR C y v→∀w,((do eqGuard op t a b u v;binOp op t u v):Sem Value).run P w=.ok (.bool r) w:=by
 split at h
 ·rename_i r hr
  refine⟨r,h.2,fun C u v a b hx hy w=>?_⟩
  obtain⟨s1,s2,_⟩:=sh C u v hx hy
  have:=dW 6 Op.maxDepth t x y u v r (by decide) hr hx hy w
  simp[s1,s2,Op.equal,this]
 ·rename_i r hr
  refine⟨!r,h.2,fun C u v a b hx hy w=>?_⟩
  obtain⟨s1,_,s2⟩:=sh C u v hx hy
  have:=dW 6 Op.maxDepth t x y u v r (by decide) hr hx hy w
  simp[s1,s2,Op.equal,this]
 ·exact h.elim
theorem eqGuard_agg{op:BinOp}{t:TypeId}(h:bB0 P t=true)(x y:Operand)(a b:Array Value)(w:World):(eqGuard op t x y (.agg a) (.agg b)).run P w=.ok () w:=by
 have h':P.eqGuardType P.depth t=false:=by simpa [bB0] using h
 have hprog:∀w,(program:Sem Program).run P w=.ok P w:=fun w=>rfl
 cases op<;>simp[eqGuard,hprog,h']
theorem binK_sound{op:BinOp}{t:TypeId}{x y:AV}{K:AV→Prop}(h:bY P op t x y K):
    ∃v,K v∧∀(C:Ctx) (u1 u2:Value) (a b:Operand),VR C x u1→VR C y u2→∃u,(∀w,((do eqGuard op t a b u1 u2;binOp op t u1 u2):Sem Value).run P w=.ok u w)∧VR C v u:=by
 unfold bY at h
 split at h
 ·rename_i k a k' b
  split at h
  ·obtain⟨r,_,h1,h2⟩:=shiftI_sound (P:=P) (t:=t) (x:=.tmp 0) (y:=.tmp 0) (yk:=k') h
   refine⟨_,h2,fun C u1 u2 a b e1 e2=>⟨r,fun w=>?_,.sc r⟩⟩
   rw[bQ e1,bQ e2]
   have:=h1 w
   simpa [eqGuard_at_int] using this
  ·obtain⟨hk,h⟩:=h
   subst hk
   obtain⟨r,_,h1,h2⟩:=binI_sound (P:=P) (t:=t) (x:=.tmp 0) (y:=.tmp 0) h
   refine⟨_,h2,fun C u1 u2 a b e1 e2=>⟨r,fun w=>?_,.sc r⟩⟩
   rw[bQ e1,bQ e2]
   have:=h1 w
   simpa [eqGuard_at_int] using this
 ·obtain⟨r,_,h1,h2⟩:=binS_sound (P:=P) (t:=t) (x:=.tmp 0) (y:=.tmp 0) h
  refine⟨_,h2,fun C u1 u2 a b e1 e2=>⟨r,fun w=>?_,.sc r⟩⟩
  rw[bQ e1,bQ e2]
  have:=h1 w
  simpa [eqGuard_at_string] using this
 ·rename_i n1 n2
  have fin : (∀ (C : Ctx) (u v : Value), VR C x u → VR C y v → (∀ (a b : Operand), ∀ w, (eqGuard op t a b u v).run P w = .ok () w) ∧ binOp .eql t u v = (do pure (.bool (← Op.equal t u v))) ∧ binOp .neq t u v = (do pure (.bool (!(← Op.equal t u v))))) →
      ∃v,K v∧∀(C:Ctx) (u1 u2:Value) (a b:Operand),VR C x u1→VR C y u2→∃u,(∀w,((do eqGuard op t a b u1 u2;binOp op t u1 u2):Sem Value).run P w=.ok u w)∧VR C v u:=fun sh=>by
   obtain⟨r,h1,h2⟩:=eqB_sound h sh
   exact⟨_,h1,fun C u1 u2 a b e1 e2=>⟨_,h2 C u1 u2 a b e1 e2,.sc _⟩⟩
  have hsome:bB0 P t=true∧(eqG P 6 t x y).isSome=true:=by
   revert h
   cases eqG P 6 t x y<;>cases op<;>simp[Req]<;>exact fun h _=>h
  obtain⟨hok,hsome⟩:=hsome
  unfold eqG at hsome
  split at hsome
  ·rename_i xs ys _
   refine fin fun C u v hx hy=>?_
   obtain⟨us,rfl,_⟩:=hx.agg_inv
   obtain⟨vs,rfl,_⟩:=hy.agg_inv
   exact⟨fun a b w=>eqGuard_agg hok a b us vs w,rfl,rfl⟩
  ·rename_i xs ys _
   refine fin fun C u v hx hy=>?_
   obtain⟨us,rfl,_⟩:=hx.agg_inv
   obtain⟨vs,rfl,_⟩:=hy.agg_inv
   exact⟨fun a b w=>eqGuard_agg hok a b us vs w,rfl,rfl⟩
  ·unfold eqA at hsome
   split at hsome<;>first
    |(cases hsome;done)
    |exact absurd rfl (n1 _ _ _ _ rfl)
    |skip
   all_goals first
    |(exact absurd rfl (n2 _ _ rfl))
    |(refine fin fun C u v hx hy=>?_;cases hx;cases hy;refine⟨fun a b w=>?_,rfl,rfl⟩;cases op<;>rfl)
    |(refine fin fun C u v hx hy=>?_;cases hy;obtain⟨A,cap,rfl,hn,hm,hk,b,o,ha,us,hc,hv⟩:=hx.imm_inv;refine⟨fun a b w=>?_,rfl,rfl⟩;cases op<;>rfl)
    |(split at hsome<;>cases hsome)
theorem unK_sound{op:UnOp}{x:AV}{K:AV→Prop}(h:unK op x K):∃v,K v∧∀(C:Ctx) (u:Value),VR C x u→∃r,(∀w,(Op.unary op u).run P w=.ok r w)∧VR C v r:=by
 unfold unK at h
 split at h
 ·exact⟨_,h,fun C u e=>⟨_,fun w=>by rw[bQ e];simp[Op.unary],.sc _⟩⟩
 ·exact⟨_,h,fun C u e=>⟨_,fun w=>by rw[bQ e];simp[Op.unary,Op.intArith],.sc _⟩⟩
 ·exact⟨_,h,fun C u e=>⟨_,fun w=>by rw[bQ e];rfl,.sc _⟩⟩
 ·exact h.elim
theorem bT(b o n:Nat):(⟨b,o,none⟩:Addr).add n=⟨b,o+n,none⟩:=by
 unfold Addr.add
 split<;>simp_all
theorem row_cells{C:Ctx}{cells:List AV}{b o:Nat}{u:Nat→Value}(hc:∀j, j<cells.length→C.At ⟨b, o+j, none⟩ (u j))(off n:Nat)(h:off+n≤cells.length)(w:World)(hw:w=C.w):
    (loadCells ⟨b,o+off,none⟩ n).run P w=.ok ((List.range n).map fun j=>u (off+j)).toArray w:=by
 subst hw
 refine run_loadCells C.w _ n (fun j=>u (off+j)) fun j hj=>?_
 rw[bT]
 have:=(hc (off+j) (by omega)).1
 rw[Nat.add_assoc]
 exact this
theorem run_loadVar{C:Ctx}{t:TypeId}{cells:List AV}{b o off:Nat}{u:Nat→Value}{a:AV}(hc:∀j, j<cells.length→C.At ⟨b, o+j, none⟩ (u j))(hv:∀j (h:j<cells.length), VR C cells[j] (u j))
    (h:aJ P t cells off=some a):∃r,(loadVar t ⟨b,o+off,none⟩).run P C.w=.ok r C.w∧VR C a r:=by
 unfold aJ at h
 split at h
 ·cases h
 ·rename_i d hd
  split at h
  ·rename_i hagg
   split at h
   ·rename_i hcc
    obtain⟨ht,hle⟩:=hcc
    simp only[Option.some.injEq]at h
    subst h
    have hl:=row_cells (P:=P) hc off (ai0 P t) hle C.w rfl
    refine⟨_,by simp[loadVar,dU hd,hagg,bD0 ht,hl];rfl,?_⟩
    refine .agg _ _ (by simp;omega) (fun j hj=>?_) (fun j hj=>?_)
    ·have hj':j<ai0 P t:=by simpa using hj
     simp[hj']
     exact(hc (off+j) (by omega)).2.2
    ·have hj':j<ai0 P t:=by rw[List.length_take,List.length_drop]at hj;omega
     rw[List.getElem_take,List.getElem_drop]
     simp[hj']
     exact hv _ _
   ·cases h
  ·rename_i hagg
   have hlt:off<cells.length:=by
    rcases Nat.lt_or_ge off cells.length with h'|h'
    ·exact h'
    ·rw[List.getElem?_eq_none h']at h;cases h
   rw[List.getElem?_eq_getElem hlt]at h
   simp only[Option.some.injEq]at h
   subst h
   exact⟨u off,by simp[loadVar,dU hd,hagg,(hc off hlt).1],hv off hlt⟩
theorem byteA_cells{C:Ctx}{cells:List AV}{u:Nat→Value}(hv:∀j (h:j<cells.length), VR C cells[j] (u j))(hall:cells.all isU8=true):
    ∃ns:List Int,(List.range cells.length).map u=ns.map (Value.int .u8)∧ns.map (fun n=>UInt8.ofNat n.toNat)=cells.map byteA:=by
 induction cells generalizing u with
 |nil=>exact⟨[],rfl,rfl⟩
 |cons c cells ih=>
  simp only[List.all_cons,Bool.and_eq_true]at hall
  obtain⟨ns,h1,h2⟩:=ih (u:=fun j=>u (j+1)) (fun j h=>by have:=hv (j+1) (by simpa using h);rwa [List.getElem_cons_succ]at this) hall.2
  have h0:=hv 0 (by simp)
  simp only[List.getElem_cons_zero]at h0
  have hc:=hall.1
  unfold isU8 at hc
  split at hc
  ·rename_i n
   refine⟨n::ns,?_,?_⟩
   ·rw[List.length_cons,List.range_succ_eq_map,List.map_cons,List.map_map,List.map_cons,bQ h0,←h1]
    rfl
   ·simp[byteA,h2]
  ·cases hc
theorem foldl_push(ns:List Int)(r:ByteArray):ns.foldl (fun r n=>r.push (UInt8.ofNat n.toNat)) r=⟨r.data++(ns.map fun n=>UInt8.ofNat n.toNat).toArray⟩:=by
 induction ns generalizing r with
 |nil=>simp
 |cons n ns ih=>
  simp only[List.foldl_cons,ih,List.map_cons]
  simp[ByteArray.push]
theorem extrK_sound{x:AV}{i:Nat}{K:AV→Prop}(h:extrK x i K):∃v,K v∧∀(C:Ctx) (u:Value),VR C x u→∃r,(∀w,(Instr.extract u i).run P w=.ok r w)∧VR C v r:=by
 unfold extrK at h
 split at h
 ·rename_i vs
  split at h
  ·rename_i v hv
   refine⟨v,h,fun C u e=>?_⟩
   obtain⟨us,rfl,hs,hr⟩:=e.tup_inv
   have hlt:i<vs.length:=by
    rcases Nat.lt_or_ge i vs.length with h'|h'
    ·exact h'
    ·rw[List.getElem?_eq_none h']at hv;cases hv
   have:=hr i hlt
   rw[List.getElem?_eq_getElem hlt]at hv
   simp only[Option.some.injEq]at hv
   rw[hv,bi (by omega)]at this
   exact⟨us[i],fun w=>by simp[Instr.extract,(by omega:i<us.size)],this⟩
  ·exact h.elim
 ·exact h.elim
theorem fieldK_sound{t:TypeId}{x:AV}{f:Nat}{K:AV→Prop}(h:em P t x f K):∃v,K v∧∀(C:Ctx) (u:Value) (w:World),VR C x u→∃r,(Instr.field t u f).run P w=.ok r w∧VR C v r:=by
 unfold em at h
 split at h
 ·rename_i fields cells hu
  split at h
  ·rename_i fd hf
   split at h
   ·rename_i v hp
    refine⟨v,h,fun C u w e=>?_⟩
    obtain⟨us,r,rfl,h1,h2⟩:=run_part_ok e hp w
    exact⟨r,by simp[Instr.field,run_underlying hu,hf,asAgg,h1],h2⟩
   ·exact h.elim
  ·exact h.elim
 ·exact h.elim
theorem indexK_sound{t:TypeId}{x i:AV}{K:AV→Prop}(h:indexK P t x i K):∃v,K v∧∀(C:Ctx) (u j:Value) (w:World),VR C x u→VR C i j→∃r,(Instr.index t u j).run P w=.ok r w∧VR C v r:=by
 unfold indexK at h
 split at h
 ·rename_i s k i hu
  obtain⟨⟨h0,h1⟩,hK⟩:=h
  refine⟨_,hK,fun C u j w e1 e2=>⟨_,?_,.sc _⟩⟩
  rw[bQ e1,bQ e2]
  have hlt:i.toNat<s.size:=by omega
  have hs:s[i.toNat]? = some s[i.toNat]:=by simp[hlt]
  have hd:s.data.toList.getD i.toNat 0=s[i.toNat]:=by
   have:i.toNat<s.data.size:=hlt
   have h2:s.data[i.toNat]? = some s.data[i.toNat]:=Array.getElem?_eq_getElem this
   simp only[List.getD,Array.getElem?_toList,h2,Option.getD_some]
   rfl
  rw[hd]
  simp[Instr.index,asIntOf,run_underlying hu,h0,hs]
 ·rename_i n e cells k i hu
  split at h
  ·rename_i hg
   obtain⟨⟨h0,h1,ht,hl⟩,hK⟩:=h
   refine⟨_,hK,fun C u j w e1 e2=>?_⟩
   rw[bQ e2]
   have hp:aJ P e cells (i.toNat*ai0 P e)=some (.agg ((cells.drop (i.toNat*ai0 P e)).take (ai0 P e))):=by
    unfold aJ
    unfold indexK.aggS at hg
    split at hg
    ·rename_i d hd
     simp[hd,hg,hl,ht]
    ·cases hg
   obtain⟨us,r,rfl,h3,h4⟩:=run_part_ok e1 hp w
   exact⟨r,by simp[Instr.index,asIntOf,run_underlying hu,h0,h1,bD0 ht,h3],h4⟩
  ·obtain⟨⟨h0,h1,ht,hg,hl⟩,hK⟩:=h
   refine⟨_,hK,fun C u j w e1 e2=>?_⟩
   rw[bQ e2]
   have hp:aJ P e cells (i.toNat*ai0 P e)=some (cells.getD (i.toNat*ai0 P e) .any):=by
    unfold aJ
    unfold indexK.aggOf at hg
    split at hg
    ·rename_i d hd
     simp[hd,hg,hl,List.getD]
    ·cases hg
   obtain⟨us,r,rfl,h3,h4⟩:=run_part_ok e1 hp w
   exact⟨r,by simp[Instr.index,asIntOf,run_underlying hu,h0,h1,bD0 ht,h3],h4⟩
 ·exact h.elim
theorem indexAddrK_sound{t:TypeId}{x i:AV}{K:AV→Prop}(h:cI P t x i K):∃v,K v∧∀(C:Ctx) (u j:Value),VR C x u→VR C i j→∃r,(∀w,(Instr.indexAt t u j).run P w=.ok r w)∧VR C v r:=by
 unfold cI at h
 split at h
 ·rename_i e k cells n kk i hu
  obtain⟨⟨h0,h1,hl⟩,ht,hK⟩:=h
  refine⟨_,hK,fun C u j e1 e2=>?_⟩
  rw[bQ e2]
  obtain⟨A,cap,rfl,hn,hm,hk,b,o,ha,v,hc,hv⟩:=e1.imm_inv
  have hne:cells≠[]:=fun e=>by rw[e]at hl;simp at hl
  rw[ha hne]
  refine⟨_,fun w=>?_,.ip cells (i.toNat*ai0 P e) b o v hc hv⟩
  simp[Instr.indexAt,asIntOf,run_underlying hu,h0,h1,bD0 ht,bT]
 ·rename_i e hh off n kk i hu
  obtain⟨⟨h0,h1⟩,ht,hK⟩:=h
  refine⟨_,hK,fun C u j e1 e2=>?_⟩
  rw[bQ e2]
  cases e1 with
  |own _ _ _ cap g1 g2 g3 g4=>
   refine⟨_,fun w=>?_,.ptr hh (off+i.toNat*ai0 P e) g1⟩
   simp[Instr.indexAt,asIntOf,run_underlying hu,h0,h1,bD0 ht,bT]
 ·rename_i n e cells off kk i hu
  obtain⟨⟨h0,h1⟩,ht,hK⟩:=h
  refine⟨_,hK,fun C u j e1 e2=>?_⟩
  rw[bQ e2]
  obtain⟨b,o,rfl,v,hc,hv⟩:=e1.ip_inv
  refine⟨_,fun w=>?_,.ip cells (off+i.toNat*ai0 P e) b o v hc hv⟩
  simp[Instr.indexAt,asIntOf,run_underlying hu,h0,h1,bD0 ht,bT,Instr.sureAddr,Nat.add_assoc]
 ·rename_i n e hh off kk i hu
  obtain⟨⟨h0,h1⟩,ht,hK⟩:=h
  refine⟨_,hK,fun C u j e1 e2=>?_⟩
  rw[bQ e2]
  cases e1 with
  |ptr _ _ g1=>
   refine⟨_,fun w=>?_,.ptr hh (off+i.toNat*ai0 P e) g1⟩
   simp[Instr.indexAt,asIntOf,run_underlying hu,h0,h1,bD0 ht,bT,Instr.sureAddr]
 ·exact h.elim
theorem arrK_sound{t:TypeId}{x:AV}{K:AV→Prop}(h:arrK P t x K):∃v,K v∧∀(C:Ctx) (u:Value),VR C x u→∃r,(∀w,(Instr.arrayAt t u).run P w=.ok r w)∧VR C v r:=by
 unfold arrK at h
 split at h
 ·rename_i m e k cells n hu
  obtain⟨⟨h0,h1⟩,hK⟩:=h
  refine⟨_,hK,fun C u e1=>?_⟩
  obtain⟨A,cap,rfl,hn,hm,hk,b,o,ha,v,hc,hv⟩:=e1.imm_inv
  have hne:cells≠[]:=fun e=>by rw[e]at h1;cases h1
  rw[ha hne]
  refine⟨_,fun w=>?_,.ip cells 0 b o v hc hv⟩
  simp[Instr.arrayAt,run_underlying hu,Nat.not_lt.mpr h0]
 ·exact h.elim
theorem fieldAddrK_sound{t:TypeId}{x:AV}{f:Nat}{K:AV→Prop}(h:cK P t x f K):∃v,K v∧∀(C:Ctx) (u:Value),VR C x u→∃r,(∀w,(Instr.fieldAt t u f).run P w=.ok r w)∧VR C v r:=by
 unfold cK at h
 split at h
 ·rename_i fields hu
  split at h
  ·rename_i fd hf
   obtain⟨⟨ht,hz⟩,hK⟩:=h
   split at hK
   ·rename_i cells off
    refine⟨_,hK,fun C u e1=>?_⟩
    obtain⟨b,o,rfl,v,hc,hv⟩:=e1.ip_inv
    refine⟨_,fun w=>?_,.ip cells (off+fd.offset) b o v hc hv⟩
    simp[Instr.fieldAt,run_underlying hu,hf,Instr.sureAddr,fieldPlace,bD0 ht,hz,bT,Nat.add_assoc]
   ·rename_i hh off
    refine⟨_,hK,fun C u e1=>?_⟩
    cases e1 with
    |ptr _ _ g1=>
     refine⟨_,fun w=>?_,.ptr hh (off+fd.offset) g1⟩
     simp[Instr.fieldAt,run_underlying hu,hf,Instr.sureAddr,fieldPlace,bD0 ht,hz,bT]
   ·exact hK.elim
  ·exact h.elim
 ·exact h.elim
theorem loadK_sound{t:TypeId}{x:AV}{K:AV→Prop}(h:loadK P t x K):∃v,K v∧∀(C:Ctx) (u:Value),VR C x u→∃r,(Instr.loadAt t u).run P C.w=.ok r C.w∧VR C v r:=by
 unfold loadK at h
 split at h
 ·rename_i cells off
  split at h
  ·rename_i v hp
   refine⟨v,h,fun C u e1=>?_⟩
   obtain⟨b,o,rfl,us,hc,hv⟩:=e1.ip_inv
   obtain⟨r,h1,h2⟩:=run_loadVar (P:=P) hc hv hp
   exact⟨r,by simp[Instr.loadAt,Instr.sureAddr,h1],h2⟩
  ·exact h.elim
 ·exact h.elim
theorem lenK_sound{t ty:TypeId}{x:AV}{K:AV→Prop}(h:lenK P t x K):∃v,K v∧∀(C:Ctx) (u:Value),VR C x u→∃r,(∀w,(Builtin.len_ #[t] ty #[u]).run P w=.ok r w)∧VR C v r:=by
 unfold lenK at h
 split at h
 ·rename_i e k cells n hu
  refine⟨_,h,fun C u e1=>?_⟩
  obtain⟨A,cap,rfl,_⟩:=e1.imm_inv
  exact⟨_,fun w=>by simp[Builtin.len_,run_underlying hu];rfl,.sc _⟩
 ·rename_i e hh off n hu
  refine⟨_,h,fun C u e1=>?_⟩
  cases e1
  exact⟨_,fun w=>by simp[Builtin.len_,run_underlying hu];rfl,.sc _⟩
 ·rename_i e hu
  refine⟨_,h,fun C u e1=>?_⟩
  rw[bQ e1]
  exact⟨_,fun w=>by simp[Builtin.len_,run_underlying hu];rfl,.sc _⟩
 ·rename_i s hu
  refine⟨_,h,fun C u e1=>?_⟩
  rw[bQ e1]
  exact⟨_,fun w=>by simp[Builtin.len_,run_underlying hu];rfl,.sc _⟩
 ·rename_i n e hu
  refine⟨_,h,fun C u e1=>?_⟩
  exact⟨_,fun w=>by simp[Builtin.len_,run_underlying hu];rfl,.sc _⟩
 ·exact h.elim
end Go.Abs
end
section
namespace Go.Abs
open Go Go.RowKit
variable {P:Program}
def Cells(C:Ctx)(cells:List AV)(vs:Array Value):Prop:=
 vs.size=cells.length∧(∀j,j<vs.size→(vs.getD j undef).oneCell'=true)∧∀j (h:j<cells.length),VR C cells[j] (vs.getD j undef)
theorem VR.one{C:Ctx}{a:AV}{v:Value}(h:VR C a v)(ho:a.one=true):v.oneCell'=true:=by
 cases h<;>simp[AV.one]at ho<;>first|rfl|exact ho
theorem VR.cells{C:Ctx}{a:AV}{v:Value}(h:VR C a v)(hf:a.fine=true):Cells C a.cellsOf v.cells:=by
 by_cases ha:∃cs,a=.agg cs
 ·obtain⟨cs,rfl⟩:=ha
  obtain⟨vs,rfl,h1,h2,h3⟩:=h.agg_inv
  exact⟨h1,h2,h3⟩
 ·have ho:a.one=true:=by
   unfold AV.fine at hf
   split at hf
   ·exact absurd ⟨_,rfl⟩ ha
   ·exact hf
  have h1:=h.one ho
  have e1:a.cellsOf=[a]:=by
   unfold AV.cellsOf
   split
   ·exact absurd ⟨_,rfl⟩ ha
   ·rfl
  have e2:v.cells = #[v]:=by
   cases v<;>first|rfl|cases h1
  rw[e1,e2]
  refine⟨rfl,fun j hj=>?_,fun j hj=>?_⟩
  ·have:j=0:=by simp at hj;omega
   subst this
   exact h1
  ·have:j=0:=by simp at hj;omega
   subst this
   exact h
theorem getD_set(vs:Array Value)(i j:Nat)(v:Value)(hi:i<vs.size):(vs.setIfInBounds i v).getD j undef=if j=i then v else vs.getD j undef:=by
 by_cases h:j=i
 ·subst h;simp[hi]
 ·simp[Array.getElem?_setIfInBounds_ne (Ne.symm h),h]
theorem fold_set(off:Nat):∀(l:List Value) (k:Nat) (vs:Array Value), off+k+l.length≤vs.size→
    ((l.zipIdx k).foldl (fun cs (p:Value × Nat)=>cs.setIfInBounds (off+p.2) p.1) vs).size=vs.size∧
    ∀j,((l.zipIdx k).foldl (fun cs (p:Value × Nat)=>cs.setIfInBounds (off+p.2) p.1) vs).getD j undef=if off+k≤j∧j<off+k+l.length then l.getD (j-(off+k)) undef else vs.getD j undef
 |[],k,vs,_=>by
  refine⟨rfl,fun j=>?_⟩
  simp only[List.zipIdx_nil,List.foldl_nil,List.length_nil]
  rw[if_neg (by omega)]
 |v::l,k,vs,h=>by
  simp only[List.length_cons]at h
  have ih:=fold_set off l (k+1) (vs.setIfInBounds (off+k) v) (by simp;omega)
  simp only[List.zipIdx_cons,List.foldl_cons]
  refine⟨ih.1.trans (by simp),fun j=>?_⟩
  rw[ih.2 j,getD_set _ _ _ _ (by omega)]
  simp only[List.length_cons]
  by_cases h1:j=off+k
  ·subst h1
   rw[if_neg (by omega),if_pos rfl,if_pos (by omega)]
   simp
  ·by_cases h2:off+(k+1)≤j∧j<off+(k+1)+l.length
   ·rw[if_pos h2,if_pos (by omega)]
    have:j-(off+k)=(j-(off+(k+1)))+1:=by omega
    rw[this,List.getD_cons_succ]
   ·rw[if_neg h2,if_neg h1,if_neg (by omega)]
theorem de(off:Nat)(cv vs:Array Value)(h:off+cv.size≤vs.size):
    (cv.zipIdx.foldl (fun cs (p:Value × Nat)=>cs.setIfInBounds (off+p.2) p.1) vs).size=vs.size∧
    ∀j,(cv.zipIdx.foldl (fun cs (p:Value × Nat)=>cs.setIfInBounds (off+p.2) p.1) vs).getD j undef=if off≤j∧j<off+cv.size then cv.getD (j-off) undef else vs.getD j undef:=by
 have:=fold_set off cv.toList 0 vs (by simpa using h)
 rw[←Array.foldl_toList]
 have e:cv.zipIdx.toList=cv.toList.zipIdx:=by simp
 rw[e]
 refine⟨this.1,fun j=>?_⟩
 rw[this.2 j]
 simp[List.getD]
theorem cm0(cells:List AV)(off:Nat)(l:List AV)(h:off+l.length≤cells.length):(bG cells off l).length=cells.length:=by
 simp[bG];omega
theorem putCells_get(cells:List AV)(off:Nat)(l:List AV)(h:off+l.length≤cells.length)(j:Nat):(bG cells off l)[j]? = if off≤j∧j<off+l.length then l[j-off]? else cells[j]?:=by
 unfold bG
 have ht:(cells.take off).length=off:=by simp;omega
 by_cases h1:j<off
 ·rw[if_neg (by omega),List.append_assoc,List.getElem?_append_left (by omega),List.getElem?_take,if_pos h1]
 ·by_cases h2:j<off+l.length
  ·rw[if_pos (by omega),List.getElem?_append_left (by simp;omega),List.getElem?_append_right (by omega),ht]
  ·rw[if_neg (by omega),List.getElem?_append_right (by simp;omega),List.getElem?_drop]
   congr 1
   simp
   omega
theorem Cells.get{C:Ctx}{cells:List AV}{vs:Array Value}(h:Cells C cells vs){j:Nat}{a:AV}(ha:cells[j]? = some a):VR C a (vs.getD j undef):=by
 obtain⟨h1,h2⟩:=List.getElem?_eq_some_iff.1 ha
 rw[←h2]
 exact h.2.2 j h1
theorem Cells.put{C:Ctx}{cells l:List AV}{vs lv:Array Value}{off:Nat}(h:Cells C cells vs)(g:Cells C l lv)(hle:off+l.length≤cells.length):
    Cells C (bG cells off l) (lv.zipIdx.foldl (fun cs (p:Value × Nat)=>cs.setIfInBounds (off+p.2) p.1) vs):=by
 obtain⟨f1,f2⟩:=de off lv vs (by rw[g.1,h.1];exact hle)
 refine⟨by rw[f1,cm0 _ _ _ hle];exact h.1,fun j hj=>?_,fun j hj=>?_⟩
 ·rw[f2 j]
  split
  ·rename_i hc;exact g.2.1 _ (by omega)
  ·exact h.2.1 _ (by omega)
 ·have hg:=putCells_get cells off l hle j
  rw[List.getElem?_eq_getElem hj]at hg
  rw[f2 j,g.1]
  split at hg
  ·rename_i hc;rw[if_pos hc];exact g.get hg.symm
  ·rename_i hc;rw[if_neg hc];exact h.get hg.symm
theorem dE0{C:Ctx}{place:Nat→Option (Nat × Nat)}:∀(parts:List (Nat × AV)) (pv:List (Nat × Value)) (cells cs:List AV) (vs:Array Value), Cells C cells vs→
    pv.length=parts.length→(∀j (h:j<parts.length) (h':j<pv.length),parts[j].1=pv[j].1∧VR C parts[j].2 pv[j].2)→cu place cells parts=some cs→∃vs',Instr.fill place vs pv=some vs'∧Cells C cs vs'
 |[],pv,cells,cs,vs,h,hl,_,hf=>by
  have:pv=[]:=List.eq_nil_of_length_eq_zero (by simpa using hl)
  subst this
  simp only[cu,Option.some.injEq]at hf
  subst hf
  exact⟨vs,rfl,h⟩
 |(i,a)::parts,pv,cells,cs,vs,h,hl,hr,hf=>by
  cases pv with
  |nil=>simp at hl
  |cons p pv=>
   obtain⟨i',v⟩:=p
   have h0:=hr 0 (by simp) (by simp)
   simp only[List.getElem_cons_zero]at h0
   obtain⟨rfl,hv⟩:=h0
   simp only[cu]at hf
   split at hf
   ·cases hf
   ·rename_i off size hp
    split at hf
    ·cases hf
    ·rename_i hc
     simp only[not_or,Classical.not_not,Bool.not_eq_false]at hc
     obtain⟨c1,c2,c3⟩:=hc
     have hcv:=hv.cells c3
     have hsz:v.cells.size=size:=hcv.1.trans c1
     have hput:=h.put hcv (off:=off) (by rw[c1];omega)
     obtain⟨vs',e1,e2⟩:=dE0 parts pv _ cs _ hput (by simpa using hl) (fun j h1 h2=>hr (j+1) (by simpa using h1) (by simpa using h2)) hf
     refine⟨vs',?_,e2⟩
     simp only[Instr.fill,hp]
     rw[if_neg (by simp only[hsz,ne_eq,not_true_eq_false,decide_false,Bool.false_or,decide_eq_true_eq];have:=h.1;omega)]
     exact e1
theorem cz0{C:Ctx}{t:TypeId}(h:ax P t=true):Cells C (aq P t) (bk P t).cells:=by
 obtain⟨i,hi,h1,h2,h3,h4,h5⟩:=c90 h
 refine⟨by simp[aq],fun j hj=>by rw[bi hj];exact h5 j hj,fun j hj=>?_⟩
 have hj':j<(bk P t).cells.size:=by simpa [aq] using hj
 rw[bi hj']
 simp only[aq,List.getElem_map,Array.getElem_toList]
 generalize (bk P t).cells[j]=x
 split
 ·exact .nil
 ·exact .sc _
theorem dw{C:Ctx}{t:TypeId}(h:ax P t=true):Cells C (ap P t) (bk P t).cells:=by
 obtain⟨i,hi,h1,h2,h3,h4,h5⟩:=c90 h
 refine⟨by simp[ap],fun j hj=>by rw[bi hj];exact h5 j hj,fun j hj=>?_⟩
 have hj':j<(bk P t).cells.size:=by simpa [ap] using hj
 rw[bi hj']
 simp only[ap,List.getElem_map,Array.getElem_toList]
 exact .sc _
theorem Cells.agg{C:Ctx}{cells:List AV}{vs:Array Value}(h:Cells C cells vs):VR C (.agg cells) (.agg vs):=.agg _ _ h.1 h.2.1 h.2.2
theorem cX0{t:TypeId}(h:ax P t=true)(w:World):(zeroValue t).run P w=.ok (bk P t) w:=by
 obtain⟨i,hi,h1,h2,h3,_⟩:=c90 h
 simp[zeroValue,typeInfo,hi,h3]
theorem run_places{fields:Array Field}(h:fields.all (fun f=>ax P f.type)=true)(w:World):(fields.mapM (m:=Sem) fun f=>do pure (f.offset,←sizeOf f.type)).run P w=.ok (fields.map fun f=>(f.offset,ai0 P f.type)) w:=by
 have key:∀(l:List Field),(∀f∈l,ax P f.type=true)→((l.mapM (m:=Sem) fun f=>do pure (f.offset,←sizeOf f.type)):Sem _).run P w=.ok (l.map fun f=>(f.offset,ai0 P f.type)) w:=by
  intro l
  induction l with
  |nil=>intro _;simp
  |cons f l ih=>
   intro hl
   have i1:=ih fun f hf=>hl f (by simp[hf])
   simp only[List.mapM_cons,Sem.run_bind,bD0 (hl f (by simp)),Result.andThen_ok,Sem.run_pure,i1,List.map_cons]
 rw[Array.mapM_eq_mapM_toList]
 have:=key fields.toList (fun f hf=>by
  have:=Array.all_eq_true_iff_forall_mem.1 h f (by simpa using hf)
  exact this)
 simp only[Sem.run_map,this,Result.andThen_ok]
 congr 1
 apply Array.ext'
 simp
theorem buildK_sound{t:TypeId}{parts:List (Nat × AV)}{K:AV→Prop}(h:eo0 P t parts K):∃v, K v∧∀(C:Ctx) (pv:List (Nat × Value)) (w:World), pv.length=parts.length→
    (∀j (h:j<parts.length) (h':j<pv.length),parts[j].1=pv[j].1∧VR C parts[j].2 pv[j].2)→∃r,(Instr.build t pv.toArray).run P w=.ok r w∧VR C v r:=by
 unfold eo0 at h
 split at h
 ·rename_i fields hu
  obtain⟨⟨ht,hfs⟩,h⟩:=h
  split at h
  ·rename_i cs hcs
   refine⟨_,h,fun C pv w hl hr=>?_⟩
   obtain⟨vs',e1,e2⟩:=dE0 parts pv _ cs _ (dw ht) hl hr hcs
   refine⟨_,?_,e2.agg⟩
   have hp:=run_places (P:=P) hfs w
   have e3:Instr.fill (fun x=>((fields.map fun f=>(f.offset,ai0 P f.type))[x]?:Option (Nat × Nat))) (bk P t).cells pv=some vs':=by
    rw[←e1]
    congr 1
    funext i
    simp
   simp only[Instr.build,Sem.run_bind,cX0 ht,run_underlying hu,Result.andThen_ok,hp,e3,Sem.run_pure]
  ·exact h.elim
 ·rename_i n e hu
  obtain⟨⟨ht,he⟩,h⟩:=h
  split at h
  ·rename_i cs hcs
   refine⟨_,h,fun C pv w hl hr=>?_⟩
   obtain⟨vs',e1,e2⟩:=dE0 parts pv _ cs _ (dw ht) hl hr hcs
   exact⟨_,by simp[Instr.build,cX0 ht,run_underlying hu,bD0 he,e1],e2.agg⟩
  ·exact h.elim
 ·exact h.elim
theorem outP_new{o:Oper}{ρ:Operand→AV}{K:AV→Prop}{v:AV}(hK:K v)
    (h:∀(C:Ctx) (ρ':Operand→Value),WR C→(∀x∈o.op.operands,VR C (ρ x) (ρ' x))→∃u w',(execOp ρ' o).run P C.w=.ok (.value u) w'∧WR { C with w:=w' }∧Ext C { C with w:=w' }∧VR { C with w:=w' } v u):OutP P o ρ K:=by
 refine⟨v,fun H n i c w ρ' g hx=>?_,hK⟩
 obtain⟨u,w',h1,h2,h3,h4⟩:=h ⟨H,n,i,c,w⟩ ρ' g hx
 simp only[]at h1
 rw[h1]
 exact⟨v,H,n,i,c,⟨rfl,rfl⟩,h2,h3,h4⟩
theorem at_new{C:Ctx}(g:WR C)(vs:Array Value)(e:TypeId)(fz:Nat × Nat)(j:Nat)(hj:j<vs.size)(h1:(vs.getD j undef).oneCell'=true):({ C with w:=C.w.alloc (.cells vs e fz) }:Ctx).At ⟨C.w.heap.size,j,none⟩ (vs.getD j undef):=by
 refine⟨?_,fun h=>?_,h1⟩
 ·show(C.w.alloc (.cells vs e fz)).cell? ⟨C.w.heap.size,j,none⟩=_
  rw[World.cell?_alloc_mark]
  simp[hj]
 ·have:=Owned.lt g (Wr.owned h)
  simp at this
theorem imm_new{C:Ctx}(g:WR C){cells:List AV}{vs:Array Value}(hl:cells.length≤vs.size)(h1:∀j, j<cells.length→(vs.getD j undef).oneCell'=true)(hv:∀j (h:j<cells.length), VR C cells[j] (vs.getD j undef))
    (e:TypeId) (fz:Nat × Nat) {n cap:Nat} (hn:n≤cap) (hm:cap≤maxLen):
    WR { C with w:=C.w.alloc (.cells vs e fz) }∧Ext C { C with w:=C.w.alloc (.cells vs e fz) }∧VR { C with w:=C.w.alloc (.cells vs e fz) } (.imm 0 cells n) (.slice (some ⟨C.w.heap.size,0,none⟩) n cap):=by
 have ex:=Ext.alloc (C:=C) (.cells vs e fz)
 refine⟨g.alloc _,ex,?_⟩
 refine .imm 0 cells n _ cap hn hm (fun h=>absurd rfl h) C.w.heap.size 0 (fun _=>rfl) (fun j=>vs.getD j undef) (fun j hj=>?_) fun j hj=>(hv j hj).ext ex
 rw[Nat.zero_add]
 exact at_new g vs e fz j (by omega) (h1 j hj)
theorem kD0{C:Ctx}{z:List AV}{zv:Array Value}(h:Cells C z zv)(hz:0<zv.size)(n:Nat):Cells C (aQ z n) ((Array.range (n*zv.size)).map (zv[· % zv.size]!)):=by
 have hl:∀n,(aQ z n).length=n*zv.size:=by
  intro n
  induction n with
  |zero=>simp[aQ]
  |succ n ih=>simp[aQ,ih,h.1,Nat.succ_mul,Nat.add_comm]
 have hg:∀j,j<n*zv.size→((Array.range (n*zv.size)).map (zv[· % zv.size]!)).getD j undef=zv.getD (j % zv.size) undef:=fun j hj=>by
  have:j % zv.size<zv.size:=Nat.mod_lt _ hz
  rw[bi (by simpa using hj),bi this]
  simp[this]
 have hr:∀n j,j<n*zv.size→(aQ z n)[j]? = z[j % zv.size]?:=by
  intro n
  induction n with
  |zero=>intro j hj;omega
  |succ n ih=>
   intro j hj
   rw[Nat.succ_mul]at hj
   simp only[aQ]
   by_cases hlt:j<z.length
   ·rw[List.getElem?_append_left hlt,Nat.mod_eq_of_lt (by rw[h.1];exact hlt)]
   ·have hzl:=h.1
    rw[List.getElem?_append_right (by omega),ih _ (by omega),←hzl]
    congr 1
    rw[Nat.mod_eq_sub_mod (by omega:j≥zv.size)]
 refine⟨by simp[hl],fun j hj=>?_,fun j hj=>?_⟩
 ·have hj':j<n*zv.size:=by simpa using hj
  rw[hg j hj']
  exact h.2.1 _ (Nat.mod_lt _ hz)
 ·rw[hl]at hj
  rw[hg j hj]
  have h1:=hr n j hj
  rw[List.getElem?_eq_getElem (by rw[hl];exact hj)]at h1
  exact h.get h1.symm
theorem buildSliceK_sound{t:TypeId}{n:Nat}{parts:List (Nat × AV)}{K:AV→Prop}(h:bq0 P t n parts K):∃v, K v∧∀(C:Ctx) (pv:List (Nat × Value)), WR C→pv.length=parts.length→
    (∀j (h:j<parts.length) (h':j<pv.length),parts[j].1=pv[j].1∧VR C parts[j].2 pv[j].2)→∃r w',(Instr.buildSlice t n pv.toArray).run P C.w=.ok r w'∧WR { C with w:=w' }∧Ext C { C with w:=w' }∧VR { C with w:=w' } v r:=by
 unfold bq0 at h
 split at h
 ·rename_i e hu
  obtain⟨⟨ht,hlt,hpos⟩,h⟩:=h
  split at h
  ·rename_i cs hcs
   refine⟨_,h,fun C pv g hl hr=>?_⟩
   have hzc:=cz0 (C:=C) ht
   have hzs:(bk P e).cells.size=ai0 P e:=by obtain⟨i,_,_,_,_,h4,_⟩:=c90 ht;exact h4
   have hrep:=kD0 hzc (by omega) n
   obtain⟨vs',e1,e2⟩:=dE0 parts pv _ cs _ hrep hl hr hcs
   obtain⟨r1,r2,r3⟩:=imm_new g (by rw[e2.1];exact Nat.le_refl _) (fun j hj=>e2.2.1 j (by rw[e2.1];exact hj)) e2.2.2 e (0,0) (Nat.le_refl n) (by
    have:n*1≤n*ai0 P e:=Nat.mul_le_mul_left _ hpos
    unfold maxLen;omega)
   refine⟨_,_,?_,r1,r2,r3⟩
   have hlt':¬(16777216<n*ai0 P e):=by omega
   rw[hzs]at e1
   by_cases hn0:n*ai0 P e=0
   ·have hn:n=0:=by
     rcases Nat.mul_eq_zero.1 hn0 with h|h<;>omega
    subst hn
    simp only[Nat.zero_mul]at e1
    simp[Instr.buildSlice,run_underlying hu,bD0 ht,newRow]
    have e3:Instr.fill (fun i=>some (i*ai0 P e,ai0 P e)) #[] pv=some vs':=by simpa [Array.range_zero'] using e1
    simp[Array.range_zero',e3]
   ·simp[Instr.buildSlice,run_underlying hu,bD0 ht,hlt',hn0,cX0 ht,newRow]
    have e3:Instr.fill (fun i=>some (i*ai0 P e,ai0 P e)) ((Array.range (n*ai0 P e)).map fun x=>(bk P e).cells[x % ai0 P e]!) pv=some vs':=e1
    simp[hzs]at e3 ⊢
    simp[e3]
  ·exact h.elim
 ·exact h.elim
theorem runeA_cells{C:Ctx}{cells:List AV}{u:Nat→Value}(hv:∀j (h:j<cells.length), VR C cells[j] (u j))(hall:cells.all isI32=true):
    ∃ns:List Int,(List.range cells.length).map u=ns.map (Value.int .i32)∧ns=cells.map runeA:=by
 refine⟨cells.map runeA,?_,rfl⟩
 apply List.ext_getElem
 ·simp
 ·intro j h1 h2
  have hj:j<cells.length:=by simpa using h1
  have:=hv j hj
  have hj2:=List.all_eq_true.1 hall cells[j] (List.getElem_mem hj)
  simp only[List.getElem_map,List.getElem_range]
  generalize cells[j]=a at *
  generalize u j=v at *
  unfold isI32 at hj2
  split at hj2
  ·cases this;rfl
  ·cases hj2
theorem foldl_runes:∀(ns:List Int) (s:ByteArray),ns.foldl (fun r n=>r++Utf8.encode n) s=⟨s.data++(ns.flatMap dQ).toArray⟩
 |[],s=>by simp
 |n::ns,s=>by
  simp only[List.foldl_cons]
  rw[foldl_runes ns]
  have:(Utf8.encode n).data=(dQ n).toArray:=by simp[dQ]
  simp[this]
theorem conv_str{s d e:TypeId}{k n:Nat}{cells:List AV}(hs:P.underlying s=some (.slice e))(hd:P.underlying d=some .string)(he:P.underlying e=some (.int .u8))(hall:cells.all isU8=true)(hlen:cells.length=n)
    {C:Ctx} {u:Value} (e1:VR C (.imm k cells n) u):(convert s d u).run P C.w=.ok (.string (dX cells)) C.w:=by
 obtain⟨A,cap,rfl,hn,hm,hk,b,o,ha,us,hc,hv⟩:=e1.imm_inv
 rw[run_convert_bytes_string C.w s d e A n cap hs he hd]
 by_cases hne:cells=[]
 ·subst hne
  simp only[List.length_nil]at hlen
  subst hlen
  have:(ByteArray.empty:ByteArray)=dX []:=rfl
  cases A with
  |none=>simp[Conv.bytesToString,this]
  |some a=>simp[Conv.bytesToString,loadCells,loadCellsFrom,this]
 ·rw[ha hne]
  obtain⟨ns,n1,n2⟩:=byteA_cells hv hall
  have hl:=row_cells (P:=P) hc 0 cells.length (by omega) C.w rfl
  simp only[Nat.zero_add,Nat.add_zero]at hl
  rw[n1,hlen]at hl
  rw[run_bytesToString C.w ⟨b,o,none⟩ n cap ns (by simpa using hl),foldl_push,n2]
  simp[dX]
theorem convK_sound{s d:TypeId}{x:AV}{K:AV→Prop}(h:convK P s d x K):∃v,K v∧∀(C:Ctx) (u:Value),WR C→VR C x u→∃r w',(convert s d u).run P C.w=.ok r w'∧WR { C with w:=w' }∧Ext C { C with w:=w' }∧VR { C with w:=w' } v r:=by
 unfold convK at h
 split at h
 ·rename_i a k k' n hs hd
  refine⟨_,h,fun C u g e=>⟨_,C.w,?_,g,Ext.refl _,.sc _⟩⟩
  rw[bQ e]
  simp[convert,run_underlying hs,run_underlying hd,Conv.intToInt]
 ·rename_i b hs hd
  refine⟨_,h,fun C u g e=>⟨_,C.w,?_,g,Ext.refl _,.sc _⟩⟩
  rw[bQ e]
  simp[convert,run_underlying hs,run_underlying hd]
 ·rename_i k k' n hs hd
  refine⟨_,h,fun C u g e=>⟨_,C.w,?_,g,Ext.refl _,.sc _⟩⟩
  rw[bQ e]
  simp[convert,run_underlying hs,run_underlying hd,Conv.intToString,dQ]
 ·rename_i e k cells n hs hd
  unfold convB at h
  split at h
  ·rename_i he
   obtain⟨⟨hall,hlen⟩,hK⟩:=h
   refine⟨_,hK,fun C u g e1=>⟨.string (dX cells),C.w,?_,g,Ext.refl _,.sc _⟩⟩
   obtain⟨A,cap,rfl,hn,hm,hk,b,o,ha,us,hc,hv⟩:=e1.imm_inv
   rw[run_convert_bytes_string C.w s d e A n cap hs he hd]
   by_cases hne:cells=[]
   ·subst hne
    simp only[List.length_nil]at hlen
    subst hlen
    have:(ByteArray.empty:ByteArray)=dX []:=rfl
    cases A with
    |none=>simp[Conv.bytesToString,this]
    |some a=>simp[Conv.bytesToString,loadCells,loadCellsFrom,this]
   ·rw[ha hne]
    obtain⟨ns,n1,n2⟩:=byteA_cells hv hall
    have hl:=row_cells (P:=P) hc 0 cells.length (by omega) C.w rfl
    simp only[Nat.zero_add,Nat.add_zero]at hl
    rw[n1,hlen]at hl
    rw[run_bytesToString C.w ⟨b,o,none⟩ n cap ns (by simpa using hl),foldl_push,n2]
    simp[dX]
  ·rename_i he
   obtain⟨⟨hall,hlen⟩,hK⟩:=h
   refine⟨_,hK,fun C u g e1=>⟨.string ⟨((cells.map runeA).flatMap dQ).toArray⟩,C.w,?_,g,Ext.refl _,.sc _⟩⟩
   obtain⟨A,cap,rfl,hn,hm,hk,b,o,ha,us,hc,hv⟩:=e1.imm_inv
   have hconv:(convert s d (.slice A n cap)).run P C.w=(Conv.runesToString (.slice A n cap)).run P C.w:=by
    simp[convert,run_underlying hs,run_underlying hd,run_underlying he]
   rw[hconv]
   by_cases hne:cells=[]
   ·subst hne
    simp only[List.length_nil]at hlen
    subst hlen
    cases A with
    |none=>simp[Conv.runesToString];rfl
    |some a=>simp[Conv.runesToString,loadCells,loadCellsFrom];rfl
   ·rw[ha hne]
    obtain⟨ns,n1,n2⟩:=runeA_cells hv hall
    have hl:=row_cells (P:=P) hc 0 cells.length (by omega) C.w rfl
    simp only[Nat.zero_add,Nat.add_zero]at hl
    rw[n1,hlen]at hl
    rw[run_runesToString C.w ⟨b,o,none⟩ n cap ns (by simpa using hl),←n2]
    unfold runesBytes
    rw[foldl_runes]
    simp
  ·exact h.elim
 ·rename_i e b hs hd
  obtain⟨⟨he,hlen⟩,hK⟩:=h
  refine⟨_,hK,fun C u g e1=>?_⟩
  rw[bQ e1]
  have hge:=grownCap_ge C.w b.size 0 e
  have hle:=grownCap_le_maxLen C.w b.size 0 e hlen
  have eh:=Ext.heap (C:=C) C.w.drew rfl rfl rfl rfl
  have gh:=g.heap C.w.drew rfl rfl rfl rfl
  obtain⟨r1,r2,r3⟩:=imm_new gh (cells:=bw b.data.toList) (vs:=bytesRow b (grownCap C.w b.size 0 e)) (by simp[bw,bytesRow])
   (fun j hj=>by
    have hj':j<b.data.size:=by simpa [bw] using hj
    have:=bytesRow_at b (grownCap C.w b.size 0 e) j hj'
    simp only[Array.getD_eq_getD_getElem?,this,Option.getD_some]
    rfl)
   (fun j hj=>by
    have hj':j<b.data.size:=by simpa [bw] using hj
    have:=bytesRow_at b (grownCap C.w b.size 0 e) j hj'
    simp only[Array.getD_eq_getD_getElem?,this,Option.getD_some]
    have e4:(bw b.data.toList)[j]=.sc (.int .u8 (b.data[j]).toNat):=by simp[bw]
    rw[e4]
    exact .sc _) e ((bytesRow b (grownCap C.w b.size 0 e)).size,(bytesRow b (grownCap C.w b.size 0 e)).size+1) hge hle
  exact⟨_,_,run_bytes_of_string C.w s d e b hs hd he,r1,eh.trans r2,r3⟩
 ·exact h.elim
end Go.Abs
end
section
namespace Go.Abs
open Go Go.RowKit
variable {P:Program}
def VRo(C:Ctx):Option AV→Option Value→Prop
 |none,none=>True
 |some a,some v=>VR C a v
 |_,_=>False
def dm(v:Option Value)(y:Nat)(code:BoundsCode)(dflt:Nat):Sem Nat:=match v with
 |some v=>Instr.sliceBound v y code
 |none=>pure dflt
theorem c80{C:Ctx}{x:Option AV}{v:Option Value}(h:VRo C x v){dflt:Nat}{i:Int}(hb:bnd x dflt=some i){y:Nat}(h0:0≤i)(h1:i≤y)(code:BoundsCode)(w:World):
    (dm v y code dflt).run P w=.ok i.toNat w:=by
 unfold dm
 cases x with
 |none=>
  cases v with
  |none=>
   simp only[bnd,Option.some.injEq]at hb
   subst hb
   simp
  |some v=>exact h.elim
 |some a=>
  cases v with
  |none=>exact h.elim
  |some v=>
   unfold bnd at hb
   split at hb
   ·rename_i hh;cases hh
   ·rename_i k j hh
    cases hh
    simp only[Option.some.injEq]at hb
    subst hb
    rw[bQ h]
    exact run_sliceBound w k j y code h0 h1
   ·cases hb
theorem sliceK0_sound{t:TypeId}{x:AV}{lo hi mx:Option AV}{K:AV→Prop}(h:sliceK0 P t x lo hi mx K):∃v, K v∧∀(C:Ctx) (u:Value) (lo' hi' mx':Option Value), VR C x u→VRo C lo lo'→VRo C hi hi'→VRo C mx mx'→
    ∃r,(∀w,(Instr.sliceAt t u lo' hi' mx').run P w=.ok r w)∧VR C v r:=by
 unfold sliceK0 at h
 split at h
 ·rename_i e k cells n hu
  split at h
  ·rename_i l h' hl hh
   obtain⟨⟨h0,h1,h2⟩,⟨ht,hlen⟩,hK⟩:=h
   refine⟨_,hK,fun C u lo' hi' mx' e1 e2 e3 e4=>?_⟩
   obtain⟨A,cap,rfl,hn,hm,hk,b,o,ha,us,hc,hv⟩:=e1.imm_inv
   have:mx'=none:=by cases mx' with|none=>rfl|some _=>exact e4.elim
   subst this
   have hcut:(cells.drop (l.toNat*ai0 P e)).take ((h'.toNat-l.toNat)*ai0 P e)≠[]→cells≠[]∧¬(cap=l.toNat):=by
    intro hne
    refine⟨fun e=>hne (by simp[e]),fun e=>hne ?_⟩
    have:h'.toNat-l.toNat=0:=by omega
    simp[this]
   refine⟨.slice (if cap=l.toNat then A else A.map (·.add (l.toNat*ai0 P e))) (h'.toNat-l.toNat) (cap-l.toNat),fun w=>?_,?_⟩
   ·have hb1:∀w,_:=fun w=>c80 (P:=P) e3 hh (y:=cap) (by omega) (by omega) .sliceAcap w
    have hb2:∀w,_:=fun w=>c80 (P:=P) e2 hl (y:=h'.toNat) h0 (by omega) .sliceB w
    have hsb:(Instr.sliceBounds true n cap lo' hi' none).run P w=.ok (l.toNat,h'.toNat,cap) w:=by
     unfold Instr.sliceBounds
     cases hi' with
     |none=>
      cases lo' with
      |none=>have g1:=hb1 w;have g2:=hb2 w;simp[dm]at g1 g2;simp[g1,g2]
      |some v=>have g1:=hb1 w;have g2:=hb2 w;simp[dm]at g1 g2;simp[g1,g2]
     |some hv'=>
      cases lo' with
      |none=>have g1:=hb1 w;have g2:=hb2 w;simp[dm]at g1 g2;simp[g1,g2]
      |some v=>have g1:=hb1 w;have g2:=hb2 w;simp[dm]at g1 g2;simp[g1,g2]
    simp only[Instr.sliceAt,Instr.slice,Sem.run_bind,run_underlying hu,Result.andThen_ok,hsb,bD0 ht,Sem.run_pure]
   ·refine .imm 0 _ _ _ _ (by omega) (by omega) (fun h=>absurd rfl h) b (o+l.toNat*ai0 P e) (fun hne=>?_) (fun j=>us (l.toNat*ai0 P e+j)) (fun j hj=>?_) (fun j hj=>?_)
    ·obtain⟨g1,g2⟩:=hcut hne
     rw[if_neg g2,ha g1]
     simp[bT]
    ·have hj':l.toNat*ai0 P e+j<cells.length:=by
      rw[List.length_take,List.length_drop]at hj
      omega
     have:=hc _ hj'
     rwa [←Nat.add_assoc]at this
    ·have hj':l.toNat*ai0 P e+j<cells.length:=by
      rw[List.length_take,List.length_drop]at hj
      omega
     rw[List.getElem_take,List.getElem_drop]
     exact hv _ _
  ·exact h.elim
 ·rename_i s hu
  split at h
  ·rename_i l h' hl hh
   obtain⟨⟨h0,h1,h2⟩,hK⟩:=h
   refine⟨_,hK,fun C u lo' hi' mx' e1 e2 e3 e4=>⟨_,fun w=>?_,.sc _⟩⟩
   have:mx'=none:=by cases mx' with|none=>rfl|some _=>exact e4.elim
   subst this
   rw[bQ e1]
   have hb1:∀w,_:=fun w=>c80 (P:=P) e3 hh (y:=s.size) (by omega) (by omega) .sliceAlen w
   have hb2:∀w,_:=fun w=>c80 (P:=P) e2 hl (y:=h'.toNat) h0 (by omega) .sliceB w
   have hsb:(Instr.sliceBounds false s.size s.size lo' hi' none).run P w=.ok (l.toNat,h'.toNat,s.size) w:=by
    unfold Instr.sliceBounds
    cases hi'<;>cases lo'<;>(have g1:=hb1 w;have g2:=hb2 w;simp[dm]at g1 g2;simp[g1,g2])
   simp[Instr.sliceAt,Instr.slice,run_underlying hu,hsb]
  ·exact h.elim
 ·rename_i e k off n hu
  split at h
  ·rename_i l h' hl hh
   obtain⟨⟨h0,h1,h2⟩,⟨ht,hs⟩,hK⟩:=h
   refine⟨_,hK,fun C u lo' hi' mx' e1 e2 e3 e4=>?_⟩
   have:mx'=none:=by cases mx' with|none=>rfl|some _=>exact e4.elim
   subst this
   cases e1 with
   |own _ _ _ cap g1 g2 g3 g4=>
    refine⟨.slice (if cap=l.toNat then some ⟨C.i k,off,none⟩ else some ⟨C.i k,off+l.toNat*ai0 P e,none⟩) (h'.toNat-l.toNat) (cap-l.toNat),fun w=>?_,?_⟩
    ·have hb1:∀w,_:=fun w=>c80 (P:=P) e3 hh (y:=cap) (by omega) (by omega) .sliceAcap w
     have hb2:∀w,_:=fun w=>c80 (P:=P) e2 hl (y:=h'.toNat) (by omega) (by omega) .sliceB w
     have hsb:(Instr.sliceBounds true n cap lo' hi' none).run P w=.ok (l.toNat,h'.toNat,cap) w:=by
      unfold Instr.sliceBounds
      cases hi'<;>cases lo'<;>(have g1:=hb1 w;have g2:=hb2 w;simp[dm]at g1 g2;simp[g1,g2])
     simp[Instr.sliceAt,Instr.slice,run_underlying hu,hsb,bD0 ht,bT]
    ·by_cases hl0:l=0
     ·subst hl0
      have e5:(if cap=(0:Int).toNat then some (⟨C.i k,off,none⟩:Addr) else some ⟨C.i k,off+(0:Int).toNat*ai0 P e,none⟩)=some ⟨C.i k,off,none⟩:=by
       split
       ·rfl
       ·simp
      rw[e5]
      simp only[decide_true,cond_true]
      exact .own k off h'.toNat cap g1 (by omega) g3 g4
     ·have d1:decide (l=0)=false:=by simpa using hl0
      rw[d1,cond_false]
      by_cases hlu:l<h'
      ·have d2:decide (l<h')=true:=by simpa using hlu
       rw[d2,cond_true,if_neg (by omega)]
       refine .own k _ _ _ g1 (by omega) (by omega) fun he=>?_
       have:0<l.toNat*ai0 P e:=Nat.mul_pos (by omega) hs
       omega
      ·have d2:decide (l<h')=false:=by simpa using hlu
       rw[d2,cond_false]
       exact .any _
  ·exact h.elim
 ·rename_i e k cells n m0 hu
  split at h
  ·rename_i l h' m hl hh hm0
   obtain⟨⟨h0,h1,h2,h3⟩,⟨ht,hlen,his⟩,hK⟩:=h
   refine⟨_,hK,fun C u lo' hi' mx' e1 e2 e3 e4=>?_⟩
   obtain⟨A,cap,rfl,hn,hm,hk,b,o,ha,us,hc,hv⟩:=e1.imm_inv
   obtain⟨mv,rfl⟩:∃mv,mx'=some mv:=by cases mx' with|none=>exact e4.elim|some v=>exact⟨v,rfl⟩
   obtain⟨hv',rfl⟩:∃hv',hi'=some hv':=by
    cases hi' with
    |none=>cases hi with
     |none=>simp at his
     |some _=>exact e3.elim
    |some v=>exact⟨v,rfl⟩
   have hcut:(cells.drop (l.toNat*ai0 P e)).take ((h'.toNat-l.toNat)*ai0 P e)≠[]→cells≠[]∧¬(m.toNat=l.toNat):=by
    intro hne
    refine⟨fun e=>hne (by simp[e]),fun e=>hne ?_⟩
    have:h'.toNat-l.toNat=0:=by omega
    simp[this]
   refine⟨.slice (if m.toNat=l.toNat then A else A.map (·.add (l.toNat*ai0 P e))) (h'.toNat-l.toNat) (m.toNat-l.toNat),fun w=>?_,?_⟩
   ·have hb0:∀w,_:=fun w=>c80 (P:=P) e4 hm0 (y:=cap) (by omega) (by omega) .slice3Acap w
    have hb1:∀w,_:=fun w=>c80 (P:=P) e3 hh (y:=m.toNat) (by omega) (by omega) .slice3B w
    have hb2:∀w,_:=fun w=>c80 (P:=P) e2 hl (y:=h'.toNat) h0 (by omega) .slice3C w
    have hsb:(Instr.sliceBounds true n cap lo' (some hv') (some mv)).run P w=.ok (l.toNat,h'.toNat,m.toNat) w:=by
     unfold Instr.sliceBounds
     cases lo'<;>(have g0:=hb0 w;have g1:=hb1 w;have g2:=hb2 w;simp[dm]at g0 g1 g2;simp[g0,g1,g2])
    simp only[Instr.sliceAt,Instr.slice,Sem.run_bind,run_underlying hu,Result.andThen_ok,hsb,bD0 ht,Sem.run_pure]
   ·refine .imm 0 _ _ _ _ (by omega) (by omega) (fun h=>absurd rfl h) b (o+l.toNat*ai0 P e) (fun hne=>?_) (fun j=>us (l.toNat*ai0 P e+j)) (fun j hj=>?_) (fun j hj=>?_)
    ·obtain⟨g1,g2⟩:=hcut hne
     rw[if_neg g2,ha g1]
     simp[bT]
    ·have hj':l.toNat*ai0 P e+j<cells.length:=by
      rw[List.length_take,List.length_drop]at hj
      omega
     have:=hc _ hj'
     rwa [←Nat.add_assoc]at this
    ·have hj':l.toNat*ai0 P e+j<cells.length:=by
      rw[List.length_take,List.length_drop]at hj
      omega
     rw[List.getElem_take,List.getElem_drop]
     exact hv _ _
  ·exact h.elim
 ·rename_i n e cells off hu
  split at h
  ·rename_i l h' hl hh
   obtain⟨⟨h0,h1,h2,h3⟩,⟨ht,hlen⟩,hK⟩:=h
   refine⟨_,hK,fun C u lo' hi' mx' e1 e2 e3 e4=>?_⟩
   have:mx'=none:=by cases mx' with|none=>rfl|some _=>exact e4.elim
   subst this
   obtain⟨b,o,rfl,us,hc,hv⟩:=e1.ip_inv
   refine⟨.slice (some (if n=l.toNat then ⟨b,o+off,none⟩ else (⟨b,o+off,none⟩:Addr).add (l.toNat*ai0 P e))) (h'.toNat-l.toNat) (n-l.toNat),fun w=>?_,?_⟩
   ·have hb1:∀w,_:=fun w=>c80 (P:=P) e3 hh (y:=n) (by omega) (by omega) .sliceAlen w
    have hb2:∀w,_:=fun w=>c80 (P:=P) e2 hl (y:=h'.toNat) h0 (by omega) .sliceB w
    have hsb:(Instr.sliceBounds false n n lo' hi' none).run P w=.ok (l.toNat,h'.toNat,n) w:=by
     unfold Instr.sliceBounds
     cases hi'<;>cases lo'<;>(have g1:=hb1 w;have g2:=hb2 w;simp[dm]at g1 g2;simp[g1,g2])
    simp[Instr.sliceAt,Instr.sureAddr,run_underlying hu,hsb,bD0 ht]
   ·refine .imm 0 _ _ _ _ (by omega) (by omega) (fun h=>absurd rfl h) b (o+(off+l.toNat*ai0 P e)) (fun hne=>?_) (fun j=>us (off+l.toNat*ai0 P e+j)) (fun j hj=>?_) (fun j hj=>?_)
    ·have hne':¬n=l.toNat:=fun e=>hne (by
      have:h'.toNat-l.toNat=0:=by omega
      simp[this])
     rw[if_neg hne',bT,Nat.add_assoc]
    ·have hj':off+l.toNat*ai0 P e+j<cells.length:=by
      rw[List.length_take,List.length_drop]at hj
      omega
     have:=hc _ hj'
     rwa [←Nat.add_assoc]at this
    ·have hj':off+l.toNat*ai0 P e+j<cells.length:=by
      rw[List.length_take,List.length_drop]at hj
      omega
     rw[List.getElem_take,List.getElem_drop]
     exact hv _ _
  ·exact h.elim
 ·exact h.elim
theorem nilR_rel{C:Ctx}{x:AV}{u:Value}(h:VR C x u):VR C (nilR x) u:=by
 unfold nilR
 split
 ·rw[bQ h];exact VR.nil
 ·exact h
theorem sliceK_sound{t:TypeId}{x:AV}{lo hi mx:Option AV}{K:AV→Prop}(h:kU P t x lo hi mx K):∃v, K v∧∀(C:Ctx) (u:Value) (lo' hi' mx':Option Value), VR C x u→VRo C lo lo'→VRo C hi hi'→VRo C mx mx'→
    ∃r,(∀w,(Instr.sliceAt t u lo' hi' mx').run P w=.ok r w)∧VR C v r:=by
 obtain⟨v,h1,h2⟩:=sliceK0_sound (show sliceK0 P t (nilR x) lo hi mx K from h)
 exact⟨v,h1,fun C u lo' hi' mx' e1=>h2 C u lo' hi' mx' (nilR_rel e1)⟩
def ACalls(P:Program)(f:FuncId)(args:List AV)(H:AH)(R:AV→AH→Prop):Prop:=
 ∀(n:Nat) (i c:Nat→Nat) (w:World) (vs:List Value),WR ⟨H,n,i,c,w⟩→VRs ⟨H,n,i,c,w⟩ args vs→
  Upon P ((callFunc f vs.toArray).run P w) fun u w'=>∃v H' n' i' c',R v H'∧WR ⟨H',n',i',c',w'⟩∧Ext ⟨H,n,i,c,w⟩ ⟨H',n',i',c',w'⟩∧VR ⟨H',n',i',c',w'⟩ v u
theorem ACalls.mono{f:FuncId}{args:List AV}{H:AH}{R R':AV→AH→Prop}(h:ACalls P f args H R)(hr:∀v H',R v H'→R' v H'):ACalls P f args H R':=
 fun n i c w vs g hx=>(h n i c w vs g hx).mono fun u w' ⟨v,H',n',i',c',h2,h3⟩=>⟨v,H',n',i',c',hr _ _ h2,h3⟩
def APure(P:Program)(f:FuncId)(args:List AV)(v:AV):Prop:=∀H,ACalls P f args H fun v' H'=>v'=v∧H'=H
theorem cZ{f:FuncId}(h:ak P f=true)(args:Array Value)(w:World):(callFunc f args).run P w=.ok (.enter f args) w:=by
 unfold ak at h
 split at h
 ·rename_i fn hf
  simp only[Bool.and_eq_true,Bool.not_eq_true']at h
  have hprog:∀w,(program:Sem Program).run P w=.ok P w:=fun w=>rfl
  have h1:(fn.name == "runtime.NumGoroutine")=false:=h.2
  have h1':¬fn.name = "runtime.NumGoroutine" :=by simpa using h1
  cases hb:fn.body with
  |none=>simp[hb]at h
  |some c=>simp[callFunc,hprog,hf,h1',hb]
 ·cases h
def aK:AV→Option (FuncId × List AV × List AV)
 |.fn (.func f) first captured=>some (f,first,captured)
 |_=>none
theorem VRs.append{C:Ctx}{a b:List AV}{u v:List Value}(h:VRs C a u)(g:VRs C b v):VRs C (a++b) (u++v):=by
 refine⟨by simp[h.1,g.1],fun j hj=>?_⟩
 by_cases h1:j<a.length
 ·rw[List.getElem_append_left h1]
  have:=h.2 j h1
  rw[show(u++v).getD j undef=u.getD j undef by simp only[List.getD];rw[List.getElem?_append_left (by rw[h.1];exact h1)]]
  exact this
 ·have hlen:=h.1
  rw[List.getElem_append_right (by omega)]
  have:=g.2 (j-a.length) (by simp at hj;omega)
  rw[show(u++v).getD j undef=v.getD (j-a.length) undef by simp only[List.getD];rw[List.getElem?_append_right (by omega),hlen]]
  exact this
theorem VRs.of_array{C:Ctx}{a:List AV}{vs:Array Value}(h1:vs.size=a.length)(h2:∀j (h:j<a.length),VR C a[j] (vs.getD j undef)):VRs C a vs.toList:=
 ⟨by simpa using h1,fun j hj=>by
  have:=h2 j hj
  have e:vs.toList.getD j undef=vs.getD j undef:=by simp[List.getD]
  rw[e];exact this⟩
theorem VRs.strip{C:Ctx}{a:List AV}{v:List Value}(h:VRs C a v):VRs C (a.map AV.strip) v:=by
 refine⟨by simp[h.1],fun j hj=>?_⟩
 rw[List.getElem_map]
 exact(h.2 j _).strip
theorem VRs.ops{C:Ctx}{ρ:Operand→AV}{ρ':Operand→Value}(xs:Array Operand)(h:∀x∈xs,VR C (ρ x) (ρ' x)):VRs C (xs.toList.map ρ) (xs.map ρ').toList:=by
 refine⟨by simp,fun j hj=>?_⟩
 have hj':j<xs.size:=by simpa using hj
 simp only[List.getElem_map,Array.getElem_toList]
 have:(xs.map ρ').toList.getD j undef=ρ' xs[j]:=by simp[List.getD,hj']
 rw[this]
 exact h _ (Array.getElem_mem hj')
theorem eff_call{d:Option Tmp}{ty:TypeId}{ps:String}{af:Array Edge}{gd:Option (Nat × Bool)}{H:AH}{ρ:Operand→AV}{x:Operand}{xs:Array Operand}{ts:Array TypeId}{f:FuncId}{first captured:List AV}{R:AV→AH→Prop}
    (hf:aK (ρ x)=some (f,first,captured)) (h:ACalls P f (first++(xs.toList.map fun y=>(ρ y).strip)++captured) H R):
    Eff P H ⟨d,.call ⟨.value x,xs,ts⟩,ty,ps,af,gd⟩ ρ R:=by
 intro n i c w ρ' g hx
 have hxv:=hx x (by simp[Op.operands,Call.operands])
 have hxs:∀y∈xs,VR ⟨H,n,i,c,w⟩ (ρ y) (ρ' y):=fun y hy=>hx y (by simp[Op.operands,Call.operands,hy])
 unfold aK at hf
 split at hf
 ·rename_i f' fi ca he
  simp only[Option.some.injEq,Prod.mk.injEq]at hf
  obtain⟨rfl,rfl,rfl⟩:=hf
  rw[he]at hxv
  generalize hv:ρ' x=v at hxv
  cases hxv with
  |fn _ _ _ vf vc h1 h2 g1 g2=>
   have hargs:=((VRs.of_array h1 g1).append ((VRs.ops xs hxs).strip)).append (VRs.of_array h2 g2)
   rw[List.map_map]at hargs
   have:=h n i c w _ g hargs
   have hrun:(execOp ρ' ⟨d,.call ⟨.value x,xs,ts⟩,ty,ps,af,gd⟩).run P w=(callFunc f' (vf.toList++(xs.map ρ').toList++vc.toList).toArray).run P w:=by
    simp only[execOp,resolve,hv,Deferred.ofValue,Sem.run_bind,Sem.run_pure,Result.andThen_ok,invoke]
    congr 2
    apply Array.ext'
    simp
   rw[hrun]
   exact this
 ·cases hf
def ACallV(P:Program)(fx:AV)(args:List AV)(H:AH)(R:AV→AH→Prop):Prop:=
 ∀(n:Nat) (i c:Nat→Nat) (w:World) (u:Value) (vs:List Value),WR ⟨H,n,i,c,w⟩→VR ⟨H,n,i,c,w⟩ fx u→VRs ⟨H,n,i,c,w⟩ args vs→
  Upon P ((do let d ←Deferred.ofValue u vs.toArray;invoke d.target d.args:Sem Next).run P w) fun u w'=>∃v H' n' i' c',R v H'∧WR ⟨H',n',i',c',w'⟩∧Ext ⟨H,n,i,c,w⟩ ⟨H',n',i',c',w'⟩∧VR ⟨H',n',i',c',w'⟩ v u
theorem ACallV.mono{fx:AV}{args:List AV}{H:AH}{R R':AV→AH→Prop}(h:ACallV P fx args H R)(hr:∀v H',R v H'→R' v H'):ACallV P fx args H R':=
 fun n i c w u vs g hu hx=>(h n i c w u vs g hu hx).mono fun u w' ⟨v,H',n',i',c',h2,h3⟩=>⟨v,H',n',i',c',hr _ _ h2,h3⟩
theorem eff_callV{d:Option Tmp}{ty:TypeId}{ps:String}{af:Array Edge}{gd:Option (Nat × Bool)}{H:AH}{ρ:Operand→AV}{x:Operand}{xs:Array Operand}{ts:Array TypeId}{R:AV→AH→Prop}
    (h:ACallV P (ρ x) (xs.toList.map fun y=>(ρ y).strip) H R):Eff P H ⟨d,.call ⟨.value x,xs,ts⟩,ty,ps,af,gd⟩ ρ R:=by
 intro n i c w ρ' g hx
 have hxv:=hx x (by simp[Op.operands,Call.operands])
 have hxs:∀y∈xs,VR ⟨H,n,i,c,w⟩ (ρ y) (ρ' y):=fun y hy=>hx y (by simp[Op.operands,Call.operands,hy])
 have hargs:=(VRs.ops xs hxs).strip
 rw[List.map_map]at hargs
 have:=h n i c w _ _ g hxv hargs
 have hrun:(execOp ρ' ⟨d,.call ⟨.value x,xs,ts⟩,ty,ps,af,gd⟩).run P w=(do let d ←Deferred.ofValue (ρ' x) (xs.map ρ').toList.toArray;invoke d.target d.args:Sem Next).run P w:=by
  simp only[execOp,resolve,Array.toArray_toList]
 rw[hrun]
 exact this
theorem ACalls.value{f:FuncId}{first args captured:List AV}{H:AH}{R:AV→AH→Prop}(h:ACalls P f (first++args++captured) H R):ACallV P (.fn (.func f) first captured) args H R:=by
 intro n i c w u vs g hu hx
 cases hu with
 |fn _ _ _ vf vc h1 h2 g1 g2=>
  have:=h n i c w _ g (((VRs.of_array h1 g1).append hx).append (VRs.of_array h2 g2))
  have hrun:(do let d ←Deferred.ofValue (.func (.func f) vf vc) vs.toArray;invoke d.target d.args:Sem Next).run P w=(callFunc f (vf.toList++vs++vc.toList).toArray).run P w:=by
   simp only[Deferred.ofValue,Sem.run_bind,Sem.run_pure,Result.andThen_ok,invoke]
   congr 2
   apply Array.ext'
   simp
  rw[hrun]
  exact this
theorem VRs.split{C:Ctx}{a b:List AV}{vs:List Value}(h:VRs C (a++b) vs):VRs C a (vs.take a.length)∧VRs C b (vs.drop a.length):=by
 obtain⟨h1,h2⟩:=h
 have hl:vs.length=a.length+b.length:=by rw[h1,List.length_append]
 refine⟨⟨by rw[List.length_take];omega,fun j hj=>?_⟩,⟨by rw[List.length_drop];omega,fun j hj=>?_⟩⟩
 ·have:=h2 j (by rw[List.length_append];omega)
  rw[List.getElem_append_left hj]at this
  rw[show(vs.take a.length).getD j undef=vs.getD j undef by simp only[List.getD];rw[List.getElem?_take,if_pos hj]]
  exact this
 ·have:=h2 (a.length+j) (by rw[List.length_append];omega)
  rw[List.getElem_append_right (by omega)]at this
  have e:(a++b).length=_:=rfl
  rw[show(vs.drop a.length).getD j undef=vs.getD (a.length+j) undef by simp only[List.getD];rw[List.getElem?_drop]]
  have e2:b[a.length+j-a.length]'(by omega)=b[j]:=by congr 1;omega
  rw[e2]at this
  exact this
theorem VRs.arr{C:Ctx}{a:List AV}{vs:List Value}(h:VRs C a vs):vs.toArray.size=a.length∧∀j (h:j<a.length),VR C a[j] (vs.toArray.getD j undef):=
 ⟨by simpa using h.1,fun j hj=>by
  have:=h.2 j hj
  rw[show vs.toArray.getD j undef=vs.getD j undef by simp[List.getD]]
  exact this⟩
theorem ACallV.calls{f:FuncId}{first args captured:List AV}{H:AH}{R:AV→AH→Prop}(h:ACallV P (.fn (.func f) first captured) args H R):ACalls P f (first++args++captured) H R:=by
 intro n i c w vs g hx
 obtain⟨h1,h2⟩:=hx.split
 obtain⟨h3,h4⟩:=h1.split
 have e1:=h3.arr
 have e2:=h2.arr
 have:=h n i c w (.func (.func f) ((vs.take (first++args).length).take first.length).toArray (vs.drop (first++args).length).toArray) _ g (.fn _ _ _ _ _ e1.1 e2.1 e1.2 e2.2) h4
 have hrun:(do let d ←Deferred.ofValue (.func (.func f) ((vs.take (first++args).length).take first.length).toArray (vs.drop (first++args).length).toArray) ((vs.take (first++args).length).drop first.length).toArray;invoke d.target d.args:Sem Next).run P w=(callFunc f vs.toArray).run P w:=by
  simp only[Deferred.ofValue,Sem.run_bind,Sem.run_pure,Result.andThen_ok,invoke]
  congr 2
  apply Array.ext'
  simp only[Array.toList_append]
  rw[List.take_append_drop,List.take_append_drop]
 rw[hrun]at this
 exact this
def callPK(P:Program)(fx:AV)(args:List AV)(K:AV→Prop):Prop:=match aK fx with
 |some (f,first,captured)=>∃v,APure P f (first++args++captured) v∧K v
 |none=>False
def len1K(P:Program)(xs:List AV)(ts:List TypeId)(K:AV→Prop):Prop:=match xs,ts with
 |[x],[t]=>lenK P t x K
 |_,_=>False
def pickK(c:AV)(X Y:Prop):Prop:=match c with
 |.sc (.bool true)=>X
 |.sc (.bool false)=>Y
 |_=>False
def minA(b:Builtin)(xs:List AV):Option AV:=match b,xs with
 |.min,[.sc (.int k x),.sc (.int _ y)]=>some (.sc (.int k (if y<x then y else x)))
 |.max,[.sc (.int k x),.sc (.int _ y)]=>some (.sc (.int k (if x<y then y else x)))
 |_,_=>none
def minK(b:Builtin)(xs:List AV)(K:AV→Prop):Prop:=match minA b xs with
 |some v=>K v
 |none=>False
def jT(P:Program)(t:TypeId)(name:String):Option FuncId:=match P.info? t with
 |some info=>(match info.methods.find? (·.name == name) with
  |some m=>if m.path.isEmpty then (match m.func,P.underlying t with|some (f,true),some (.pointer _)=>some f|_,_=>none) else none
  |none=>none)
 |none=>none
def aU(P:Program)(x:AV):Option AV:=match x with
 |.ptr h o=>some (.ptr h o)
 |.ip cs o=>some (.ip cs o)
 |.fn (.func f) a b=>some (.fn (.func f) a b)
 |.fn (.method n) [.ifc t v] b=>(match jT P t n with|some _=>some (.fn (.method n) [.ifc t v] b)|none=>none)
 |_=>none
def nilK(P:Program)(x:AV)(K:AV→Prop):Prop:=match aU P x with
 |some v=>K v
 |none=>False
theorem run_nilAhead{P:Program}{t:TypeId}{v:Value}{name:String}{f:FuncId}{n:Nat}{w:World}(h:jT P t name=some f):(nilAhead (n+1) t v name).run P w=.ok (some false) w:=by
 unfold jT at h
 split at h
 ·rename_i info hi
  split at h
  ·rename_i m hm
   split at h
   ·rename_i hp
    split at h
    ·rename_i g e hf hu
     cases h
     have hp':m.path = #[]:=by simpa using hp
     unfold nilAhead
     simp[typeInfo,hi,hm,hp',followBlind,hf]
    ·cases h
   ·cases h
  ·cases h
 ·cases h
theorem nilK_sound{P:Program}{x:AV}{K:AV→Prop}(h:nilK P x K):K x∧∀(C:Ctx) (u:Value), VR C x u→∀(d:Option Tmp) (y:Operand) (ty:TypeId) (ps:String) (af:Array Edge) (gd:Option (Nat × Bool)) (ρ':Operand→Value), ρ' y=u→∀(w:World),
    (execOp ρ' ⟨d,.nilCheck y,ty,ps,af,gd⟩).run P w=.ok (.value u) w:=by
 unfold nilK aU at h
 split at h
 ·rename_i v hv
  split at hv
  ·cases hv
   refine⟨h,fun C u hu d y ty ps af gd ρ' hy w=>?_⟩
   cases hu
   simp[execOp,hy]
  ·cases hv
   refine⟨h,fun C u hu d y ty ps af gd ρ' hy w=>?_⟩
   cases hu
   simp[execOp,hy]
  ·cases hv
   refine⟨h,fun C u hu d y ty ps af gd ρ' hy w=>?_⟩
   cases hu
   simp[execOp,hy]
  ·rename_i nm t a b
   split at hv
   ·rename_i f hf
    cases hv
    refine⟨h,fun C u hu d y ty ps af gd ρ' hy w=>?_⟩
    cases hu with
    |fn _ _ _ vf vc h1 h2 g1 g2=>
     have h0:=g1 0 (by simp)
     generalize hz:vf.getD 0 undef=z at h0
     cases h0 with
     |ifc _ _ vv hvv=>
      have hsz:0<vf.size:=by rw[h1];simp
      have e0:vf[0]? = some (.iface t vv):=by
       rw[←hz,Array.getD_eq_getD_getElem?,Array.getElem?_eq_getElem hsz];rfl
      have hn:(nilAhead (P.types.size+Made.depth) t vv nm).run P w=.ok (some false) w:=run_nilAhead (n:=P.types.size+99) hf
      have hpr:(program:Sem Program).run P w=.ok P w:=rfl
      simp only[execOp,hy,e0]
      rw[Sem.run_bind,hpr]
      simp only[Result.andThen_ok]
      rw[Sem.run_bind,hn]
      simp[Result.andThen_ok]
   ·cases hv
  ·cases hv
 ·exact h.elim
def makeP(P:Program)(t:TypeId)(l c:AV)(K:AV→Prop):Prop:=match P.underlying t,l,c with
 |some (.slice e),.sc (.int _ l),.sc (.int _ c)=>Req (ax P e=true) (Req (0≤c∧ay P e*c≤281474976710656∧c≤maxLen) (Req (l=c) (K (.imm 0 (aQ (aq P e) c.toNat) c.toNat))))
 |_,_,_=>False
theorem madeCells_eq{e:TypeId}{n:Nat}(hz:(bk P e).cells.size=ai0 P e):madeCells (bk P e).cells (n*ai0 P e)=(Array.range (n*(bk P e).cells.size)).map ((bk P e).cells[· % (bk P e).cells.size]!):=by
 rw[hz]
 simp[madeCells,hz]
theorem madeA_cells{C:Ctx}{e:TypeId}(hT:ax P e=true)(hs:(bk P e).cells.size=ai0 P e)(n:Nat):Cells C (aQ (aq P e) n) (madeCells (bk P e).cells (n*ai0 P e)):=by
 have hz:=cz0 (C:=C) hT
 rcases Nat.eq_zero_or_pos (ai0 P e) with hp|hp
 ·have e1:aq P e=[]:=List.eq_nil_of_length_eq_zero (by rw[←hz.1,hs,hp])
  have e2:∀n,aQ ([]:List AV) n=[]:=by intro n;induction n with|zero=>rfl|succ n ih=>simp[aQ,ih]
  rw[e1,e2,hp]
  exact⟨by simp[madeCells],fun j hj=>absurd hj (by simp[madeCells]),fun j hj=>absurd hj (by simp)⟩
 ·rw[madeCells_eq hs]
  exact kD0 hz (by omega) _
theorem makeP_sound{t:TypeId}{l c:AV}{K:AV→Prop}(h:makeP P t l c K):∃v, K v∧∀(C:Ctx) (ρ':Operand→Value) (lo co:Operand) (d:Option Tmp) (ty:TypeId) (ps:String) (af:Array Edge) (gd:Option (Nat × Bool)), WR C→VR C l (ρ' lo)→VR C c (ρ' co)→
    ∃r w',(execOp ρ' ⟨d,.makeSlice t lo co,ty,ps,af,gd⟩).run P C.w=.ok (.value r) w'∧WR { C with w:=w' }∧Ext C { C with w:=w' }∧VR { C with w:=w' } v r:=by
 unfold makeP at h
 split at h
 ·rename_i e kl lv kc cv hu
  obtain⟨hT,⟨h0,hb,hm⟩,hlc,h⟩:=h
  subst hlc
  refine⟨_,h,fun C ρ' lo co d ty ps af gd g hl hc=>?_⟩
  obtain⟨ti,hti,s1,s2,s3,s4,s5⟩:=c90 hT
  have hcn:(lv.toNat:Int)=lv:=Int.toNat_of_nonneg h0
  have hm':lv≤9223372036854775807:=by unfold maxLen at hm;omega
  have hb':(ti.bytes:Int)*lv≤281474976710656:=by rw[s2];exact hb
  have hr:=run_make (P:=P) C.w t e ti (bk P e) hu hti s3 kl kc lv lv h0 (Int.le_refl _) hb' hm'
  rw[s1]at hr
  have hcs:=madeA_cells (C:=C) hT s4 lv.toNat
  obtain⟨r1,r2,r3⟩:=imm_new g (by rw[hcs.1];exact Nat.le_refl _) (fun j hj=>hcs.2.1 j (by rw[hcs.1];exact hj)) hcs.2.2 e (0,0) (Nat.le_refl lv.toNat) (by omega)
  refine⟨_,_,?_,r1,r2,r3⟩
  simp only[execOp,bQ hl,bQ hc,Sem.run_bind,hr,Result.andThen_ok,Sem.run_pure]
 ·exact h.elim
def bm0(P:Program)(o:Oper)(ρ:Operand→AV)(K:AV→Prop):Prop:=match o.op with
 |.move x | .assign x=>K (ρ x)
 |.nilCheck x=>nilK P (ρ x) K
 |.pick c a b=>pickK (ρ c) (K (ρ a)) (K (ρ b))
 |.binOp op t x y _=>bY P op t (ρ x) (ρ y) K
 |.unOp op _ x=>unK op (ρ x) K
 |.convert s d x=>convK P s d (ρ x) K
 |.extract t i=>extrK (ρ t) i K
 |.field t x f=>em P t (ρ x) f K
 |.index t x i=>indexK P t (ρ x) (ρ i) K
 |.indexAddr t x i=>cI P t (ρ x) (ρ i) K
 |.sliceToArrayPointer t x=>arrK P t (ρ x) K
 |.fieldAddr t x f=>cK P t (ρ x) f K
 |.load t a=>loadK P t (ρ a) K
 |.slice t x lo hi mx=>kU P t (ρ x) (lo.map ρ) (hi.map ρ) (mx.map ρ) K
 |.build t parts=>eo0 P t (parts.toList.map fun p=>(p.1,ρ p.2)) K
 |.buildSlice t n parts=>bq0 P t n (parts.toList.map fun p=>(p.1,(ρ p.2).strip)) K
 |.makeSlice t l c=>makeP P t (ρ l) (ρ c) K
 |.makeFunc f first captured=>K (.fn f (first.toList.map fun y=>(ρ y).strip) (captured.toList.map fun y=>(ρ y).strip))
 |.makeInterface t x=>Req (P.concrete t=true) (K (.ifc t (ρ x).strip))
 |.call ⟨.builtin .len,args,ts⟩=>len1K P (args.toList.map ρ) ts.toList K
 |.call ⟨.builtin .min,args,_⟩=>minK .min (args.toList.map ρ) K
 |.call ⟨.builtin .max,args,_⟩=>minK .max (args.toList.map ρ) K
 |.call ⟨.value f,args,_⟩=>callPK P (ρ f) (args.toList.map fun y=>(ρ y).strip) K
 |_=>False
theorem VRo.map{C:Ctx}{ρ:Operand→AV}{ρ':Operand→Value}{x:Option Operand}(h:∀y,x=some y→VR C (ρ y) (ρ' y)):VRo C (x.map ρ) (x.map ρ'):=by
 cases x with
 |none=>trivial
 |some y=>exact h y rfl
theorem parts_rel{C:Ctx}{ρ:Operand→AV}{ρ':Operand→Value}{parts:Array (Nat × Operand)}(h:∀x∈(parts.toList.map (·.2)).toArray, VR C (ρ x) (ρ' x)):
    (parts.toList.map fun p=>(p.1,ρ' p.2)).length=(parts.toList.map fun p=>(p.1,ρ p.2)).length∧
    ∀j (h1:j<(parts.toList.map fun p=>(p.1,ρ p.2)).length) (h2:j<(parts.toList.map fun p=>(p.1,ρ' p.2)).length),
     (parts.toList.map fun p=>(p.1,ρ p.2))[j].1=(parts.toList.map fun p=>(p.1,ρ' p.2))[j].1∧VR C (parts.toList.map fun p=>(p.1,ρ p.2))[j].2 (parts.toList.map fun p=>(p.1,ρ' p.2))[j].2:=by
 refine⟨by simp,fun j h1 h2=>?_⟩
 simp only[List.getElem_map]
 refine⟨trivial,h _ ?_⟩
 simp only[List.mem_toArray,List.mem_map]
 exact⟨_,List.getElem_mem _,rfl⟩
theorem cV0{o:Oper}{ρ:Operand→AV}{K:AV→Prop}(h:bm0 P o ρ K):OutP P o ρ K:=by
 obtain⟨d,op,ty,ps,af,gd⟩:=o
 unfold bm0 at h
 simp only[]at h
 split at h
 ·rename_i x
  exact bg0 h fun C ρ' g hx=>⟨ρ' x,by simp[execOp],hx x (by simp[Op.operands])⟩
 ·rename_i x
  exact bg0 h fun C ρ' g hx=>⟨ρ' x,by simp[execOp],hx x (by simp[Op.operands])⟩
 ·rename_i x
  obtain⟨h1,h2⟩:=nilK_sound h
  exact bg0 h1 fun C ρ' g hx=>⟨ρ' x,h2 C _ (hx x (by simp[Op.operands])) _ _ _ _ _ _ _ rfl _,hx x (by simp[Op.operands])⟩
 ·rename_i c a b
  unfold pickK at h
  split at h
  ·rename_i hc
   refine bg0 h fun C ρ' g hx=>?_
   have h1:=hx c (by simp[Op.operands])
   rw[hc]at h1
   exact⟨ρ' a,by simp[execOp,bQ h1,asBool],hx a (by simp[Op.operands])⟩
  ·rename_i hc
   refine bg0 h fun C ρ' g hx=>?_
   have h1:=hx c (by simp[Op.operands])
   rw[hc]at h1
   exact⟨ρ' b,by simp[execOp,bQ h1,asBool],hx b (by simp[Op.operands])⟩
  ·exact h.elim
 ·rename_i op t x y yt
  obtain⟨v,hK,hr⟩:=binK_sound h
  refine bg0 hK fun C ρ' g hx=>?_
  obtain⟨u,h1,h2⟩:=hr C (ρ' x) (ρ' y) x y (hx x (by simp[Op.operands])) (hx y (by simp[Op.operands]))
  refine⟨u,?_,h2⟩
  have:=h1 C.w
  simp only[execOp,Sem.run_bind]at this ⊢
  rw[this]
  rfl
 ·rename_i op t x
  obtain⟨v,hK,hr⟩:=unK_sound (P:=P) h
  refine bg0 hK fun C ρ' g hx=>?_
  obtain⟨u,h1,h2⟩:=hr C (ρ' x) (hx x (by simp[Op.operands]))
  exact⟨u,by simp[execOp,h1],h2⟩
 ·rename_i s d x
  obtain⟨v,hK,hr⟩:=convK_sound h
  refine outP_new hK fun C ρ' g hx=>?_
  obtain⟨u,w',h1,h2,h3,h4⟩:=hr C (ρ' x) g (hx x (by simp[Op.operands]))
  exact⟨u,w',by simp[execOp,h1],h2,h3,h4⟩
 ·rename_i t i
  obtain⟨v,hK,hr⟩:=extrK_sound (P:=P) h
  refine bg0 hK fun C ρ' g hx=>?_
  obtain⟨u,h1,h2⟩:=hr C (ρ' t) (hx t (by simp[Op.operands]))
  exact⟨u,by simp[execOp,h1],h2⟩
 ·rename_i t x f
  obtain⟨v,hK,hr⟩:=fieldK_sound h
  refine bg0 hK fun C ρ' g hx=>?_
  obtain⟨u,h1,h2⟩:=hr C (ρ' x) C.w (hx x (by simp[Op.operands]))
  exact⟨u,by simp[execOp,h1],h2⟩
 ·rename_i t x i
  obtain⟨v,hK,hr⟩:=indexK_sound h
  refine bg0 hK fun C ρ' g hx=>?_
  obtain⟨u,h1,h2⟩:=hr C (ρ' x) (ρ' i) C.w (hx x (by simp[Op.operands])) (hx i (by simp[Op.operands]))
  exact⟨u,by simp[execOp,h1],h2⟩
 ·rename_i t x i
  obtain⟨v,hK,hr⟩:=indexAddrK_sound h
  refine bg0 hK fun C ρ' g hx=>?_
  obtain⟨u,h1,h2⟩:=hr C (ρ' x) (ρ' i) (hx x (by simp[Op.operands])) (hx i (by simp[Op.operands]))
  exact⟨u,by simp[execOp,h1],h2⟩
 ·rename_i t x
  obtain⟨v,hK,hr⟩:=arrK_sound h
  refine bg0 hK fun C ρ' g hx=>?_
  obtain⟨u,h1,h2⟩:=hr C (ρ' x) (hx x (by simp[Op.operands]))
  exact⟨u,by simp[execOp,h1],h2⟩
 ·rename_i t x f
  obtain⟨v,hK,hr⟩:=fieldAddrK_sound h
  refine bg0 hK fun C ρ' g hx=>?_
  obtain⟨u,h1,h2⟩:=hr C (ρ' x) (hx x (by simp[Op.operands]))
  exact⟨u,by simp[execOp,h1],h2⟩
 ·rename_i t x
  obtain⟨v,hK,hr⟩:=loadK_sound h
  refine bg0 hK fun C ρ' g hx=>?_
  obtain⟨u,h1,h2⟩:=hr C (ρ' x) (hx x (by simp[Op.operands]))
  exact⟨u,by simp[execOp,h1],h2⟩
 ·rename_i t x lo hi mx
  obtain⟨v,hK,hr⟩:=sliceK_sound h
  refine bg0 hK fun C ρ' g hx=>?_
  obtain⟨u,h1,h2⟩:=hr C (ρ' x) (lo.map ρ') (hi.map ρ') (mx.map ρ') (hx x (by simp[Op.operands])) (VRo.map fun y e=>hx y (by simp[Op.operands,e])) (VRo.map fun y e=>hx y (by simp[Op.operands,e])) (VRo.map fun y e=>hx y (by simp[Op.operands,e]))
  exact⟨u,by simp[execOp,h1],h2⟩
 ·rename_i t parts
  obtain⟨v,hK,hr⟩:=buildK_sound h
  refine bg0 hK fun C ρ' g hx=>?_
  obtain⟨p1,p2⟩:=parts_rel (C:=C) (ρ:=ρ) (ρ':=ρ') (parts:=parts) hx
  obtain⟨u,h1,h2⟩:=hr C _ C.w p1 p2
  refine⟨u,?_,h2⟩
  have e:(parts.map fun(i,x)=>(i,ρ' x))=(parts.toList.map fun p=>(p.1,ρ' p.2)).toArray:=by apply Array.ext';simp
  simp only[execOp,e,Sem.run_bind,h1,Result.andThen_ok,Sem.run_pure]
 ·rename_i t n parts
  obtain⟨v,hK,hr⟩:=buildSliceK_sound h
  refine outP_new hK fun C ρ' g hx=>?_
  obtain⟨p1,p2⟩:=parts_rel (C:=C) (ρ:=fun x=>(ρ x).strip) (ρ':=ρ') (parts:=parts) fun x hx'=>(hx x hx').strip
  obtain⟨u,w',h1,h2,h3,h4⟩:=hr C _ g p1 p2
  refine⟨u,w',?_,h2,h3,h4⟩
  have e:(parts.map fun(i,x)=>(i,ρ' x))=(parts.toList.map fun p=>(p.1,ρ' p.2)).toArray:=by apply Array.ext';simp
  simp only[execOp,e,Sem.run_bind,h1,Result.andThen_ok,Sem.run_pure]
 ·rename_i t l c
  obtain⟨v,hK,hr⟩:=makeP_sound h
  refine outP_new hK fun C ρ' g hx=>?_
  obtain⟨u,w',h1,h2,h3,h4⟩:=hr C ρ' l c d ty ps af gd g (hx l (by simp[Op.operands])) (hx c (by simp[Op.operands]))
  exact⟨u,w',h1,h2,h3,h4⟩
 ·rename_i f first captured
  refine bg0 h fun C ρ' g hx=>⟨.func f (first.map ρ') (captured.map ρ'),by simp[execOp,Instr.makeFunc],?_⟩
  have v1:=(VRs.ops (C:=C) (ρ:=ρ) (ρ':=ρ') first fun y hy=>hx y (by simp[Op.operands,hy])).strip
  have v2:=(VRs.ops (C:=C) (ρ:=ρ) (ρ':=ρ') captured fun y hy=>hx y (by simp[Op.operands,hy])).strip
  rw[List.map_map]at v1 v2
  refine .fn f _ _ _ _ (by simp) (by simp) (fun j hj=>?_) (fun j hj=>?_)
  ·have:=v1.2 j hj
   simpa [List.getD] using this
  ·have:=v2.2 j hj
   simpa [List.getD] using this
 ·rename_i t x
  refine bg0 h.2 fun C ρ' g hx=>⟨.iface t (ρ' x),by simp[execOp,run_makeInterface C.w t _ h.1],.ifc t _ _ (hx x (by simp[Op.operands])).strip⟩
 ·rename_i args ts
  unfold len1K at h
  split at h
  ·rename_i xa t ha ht
   obtain⟨x,rfl,hxa⟩:∃x,args = #[x]∧xa=ρ x:=by
    have hl:args.toList.length=1:=by have:=congrArg List.length ha;simpa using this
    match h1:args.toList,hl with
    |[x],_=>
     rw[h1]at ha
     simp only[List.map_cons,List.map_nil,List.cons.injEq,and_true]at ha
     exact⟨x,by rw[←Array.toArray_toList (xs:=args),h1],ha.symm⟩
   subst hxa
   obtain⟨v,hK,hr⟩:=lenK_sound (ty:=ty) h
   have ht':ts = #[t]:=by rw[←Array.toArray_toList (xs:=ts),ht]
   subst ht'
   refine bg0 hK fun C ρ' g hx=>?_
   obtain⟨u,h1,h2⟩:=hr C (ρ' x) (hx x (by simp[Op.operands,Call.operands]))
   exact⟨u,by simp[execOp,resolve,invoke,builtin,h1],h2⟩
  ·exact h.elim
 ·rename_i args ts
  unfold minK at h
  split at h
  ·rename_i v hv
   unfold minA at hv
   split at hv<;>simp at hv<;>rename_i k x k' y hbb ha<;>first|(cases hbb;done)|skip
   subst hv
   obtain⟨p,q,rfl,hp,hq⟩:∃p q,args = #[p,q]∧ρ p=.sc (.int k x)∧ρ q=.sc (.int k' y):=by
    have hl:args.toList.length=2:=by have:=congrArg List.length ha;simpa using this
    match h1:args.toList,hl with
    |[p,q],_=>
     rw[h1]at ha
     simp only[List.map_cons,List.map_nil,List.cons.injEq,and_true]at ha
     exact⟨p,q,by rw[←Array.toArray_toList (xs:=args),h1],ha.1,ha.2⟩
   refine bg0 h fun C ρ' g hx=>⟨_,?_,.sc _⟩
   have h1:=hx p (by simp[Op.operands,Call.operands])
   have h2:=hx q (by simp[Op.operands,Call.operands])
   rw[hp]at h1
   rw[hq]at h2
   simp[execOp,resolve,invoke,builtin,Builtin.min_,Builtin.min2,bQ h1,bQ h2]
  ·exact h.elim
 ·rename_i args ts
  unfold minK at h
  split at h
  ·rename_i v hv
   unfold minA at hv
   split at hv<;>simp at hv<;>rename_i k x k' y hbb ha<;>first|(cases hbb;done)|skip
   subst hv
   obtain⟨p,q,rfl,hp,hq⟩:∃p q,args = #[p,q]∧ρ p=.sc (.int k x)∧ρ q=.sc (.int k' y):=by
    have hl:args.toList.length=2:=by have:=congrArg List.length ha;simpa using this
    match h1:args.toList,hl with
    |[p,q],_=>
     rw[h1]at ha
     simp only[List.map_cons,List.map_nil,List.cons.injEq,and_true]at ha
     exact⟨p,q,by rw[←Array.toArray_toList (xs:=args),h1],ha.1,ha.2⟩
   refine bg0 h fun C ρ' g hx=>⟨_,?_,.sc _⟩
   have h1:=hx p (by simp[Op.operands,Call.operands])
   have h2:=hx q (by simp[Op.operands,Call.operands])
   rw[hp]at h1
   rw[hq]at h2
   simp[execOp,resolve,invoke,builtin,Builtin.max_,Builtin.max2,bQ h1,bQ h2]
  ·exact h.elim
 ·rename_i f args ts
  unfold callPK at h
  split at h
  ·rename_i f' first captured hf
   obtain⟨v,hp,hK⟩:=h
   exact⟨v,fun H=>eff_call hf (hp H),hK⟩
  ·exact h.elim
 ·exact h.elim
end Go.Abs
end
section
namespace Go.Abs
open Go Go.RowKit
variable {P:Program}
def AObj.tokC:AObj→Nat
 |.full c=>c
 |_=>0
def AObj.tokB:AObj→Bool
 |.nilt=>true
 |.full _=>true
 |_=>false
def cy0(e:TypeId)(s:Nat)(o:AObj)(m:Nat):Prop:=o=.tail m e s∨(m=o.tokC*s∧o.tokB=true)
theorem cy0.cases3{e:TypeId}{s:Nat}{o:AObj}{m:Nat}(h:cy0 e s o m):o=.tail m e s∨(m=0∧o=.nilt)∨∃c,m=c*s∧o=.full c:=by
 rcases h with h|⟨h1,h2⟩
 ·exact .inl h
 ·cases o<;>first|(cases h2;done)|skip
  ·exact .inr (.inl ⟨h1.trans (Nat.zero_mul s),rfl⟩)
  ·exact .inr (.inr ⟨_,h1,rfl⟩)
theorem cL{o:Oper}{H:AH}{ρ:Operand→AV}{R:AV→AH→Prop}
    (h:∀(C:Ctx) (ρ':Operand→Value),C.H=H→WR C→(∀x∈o.op.operands,VR C (ρ x) (ρ' x))→
     ∃nx u w',(execOp ρ' o).run P C.w=.ok nx w'∧(nx=.value u∨(nx=.skip∧u=undef))∧∃v D,R v D.H∧D.w=w'∧WR D∧Ext C D∧VR D v u):Eff P H o ρ R:=by
 intro n i c w ρ' g hx
 obtain⟨nx,u,w',h1,h2,v,D,hR,hw,hWR,hE,hV⟩:=h ⟨H,n,i,c,w⟩ ρ' rfl g hx
 obtain⟨DH,Dn,Di,Dc,Dw⟩:=D
 simp only[]at hw h1
 subst hw
 rw[h1]
 rcases h2 with rfl|⟨rfl,rfl⟩
 ·exact⟨v,DH,Dn,Di,Dc,hR,hWR,hE,hV⟩
 ·exact⟨v,DH,Dn,Di,Dc,hR,hWR,hE,hV⟩
theorem eK00{C:Ctx}{h:Nat}{cs:List AV}{e:TypeId}{s:Nat}{off:Nat}{t:TypeId}{a:AV}(g:WR C)(ho:C.H h=some (.cells cs e s))(hp:aJ P t cs off=some a):
    ∃r,(loadVar t ⟨C.i h,off,none⟩).run P C.w=.ok r C.w∧VR C a r:=by
 obtain⟨vs,fz,h1,h2,h3,h4,h5⟩:=g.obj h _ ho
 have hcell:∀j,j<vs.size→C.w.cell? ⟨C.i h,j,none⟩=some (vs.getD j undef):=fun j hj=>by
  rw[cell_of_row C.w (C.i h) j vs e fz h1,bi hj]
  exact Array.getElem?_eq_getElem hj
 unfold aJ at hp
 split at hp
 ·cases hp
 ·rename_i d hd
  split at hp
  ·rename_i hagg
   split at hp
   ·rename_i hcc
    obtain⟨ht,hle⟩:=hcc
    simp only[Option.some.injEq]at hp
    subst hp
    have hl:(loadCells ⟨C.i h,off,none⟩ (ai0 P t)).run P C.w=.ok ((List.range (ai0 P t)).map fun j=>vs.getD (off+j) undef).toArray C.w:=
     run_loadCells C.w _ _ (fun j=>vs.getD (off+j) undef) fun j hj=>by rw[bT];exact hcell _ (by omega)
    refine⟨_,by simp only[loadVar,Sem.run_bind,dU hd,hagg,Result.andThen_ok,if_true,bD0 ht,hl,Sem.run_pure];rfl,?_⟩
    refine .agg _ _ (by simp;omega) (fun j hj=>?_) (fun j hj=>?_)
    ·have hj':j<ai0 P t:=by simpa using hj
     have:=(h5 (off+j) (by omega)).2
     simpa [hj'] using this
    ·have hj':j<ai0 P t:=by rw[List.length_take,List.length_drop]at hj;omega
     rw[List.getElem_take,List.getElem_drop]
     have:=(h5 (off+j) (by omega)).1
     simpa [hj'] using this
   ·cases hp
  ·rename_i hagg
   have hlt:off<cs.length:=by
    rcases Nat.lt_or_ge off cs.length with h'|h'
    ·exact h'
    ·rw[List.getElem?_eq_none h']at hp;cases hp
   rw[List.getElem?_eq_getElem hlt]at hp
   simp only[Option.some.injEq]at hp
   subst hp
   exact⟨vs.getD off undef,by simp only[loadVar,Sem.run_bind,dU hd,hagg,Result.andThen_ok,Bool.false_eq_true,if_false,run_load,hcell off (by omega)],(h5 off hlt).1⟩
theorem bu(g o:Nat)(t:TypeId)(fz:Nat × Nat):∀(vs:List Value) (i:Nat) (cur:Array Value) (w:World), w.heap[g]? = some (.cells cur t fz)→(∀off, off<cur.size→(decide (fz.1≤off)&&decide (off<fz.2))=false)→o+i+vs.length≤cur.size→(∀v∈vs, v.oneCell'=true)→
    (storeCells ⟨g,o,none⟩ vs i).run P w=.ok () (w.setRow g (cur.toList.take (o+i)++vs++cur.toList.drop (o+i+vs.length)).toArray)
 |[],i,cur,w,hg,_,_,_=>by
  simp only[storeCells,List.append_nil,List.length_nil,Nat.add_zero,List.take_append_drop,Array.toArray_toList]
  rw[setRow_self w g cur t fz hg]
  rfl
 |v::rest,i,cur,w,hg,hf,hl,h1=>by
  have hi:o+i<cur.size:=by simp at hl;omega
  have hadd:(⟨g,o,none⟩:Addr).add i=⟨g,o+i,none⟩:=by unfold Addr.add;split<;>simp_all
  have hcell:w.cell? ⟨g,o+i,none⟩=some cur[o+i]:=by simp[World.cell?,hg,hi]
  have hfro:w.frozen? ⟨g,o+i,none⟩=false:=by
   obtain⟨lo,hi'⟩:=fz
   have:=hf (o+i) hi
   simpa [World.frozen?,hg] using this
  have hst:(store ((⟨g,o,none⟩:Addr).add i) v).run P w=.ok () (w.setRow g (cur.setIfInBounds (o+i) v)):=by
   rw[hadd,run_store P w _ v _ (h1 v (by simp)),hcell]
   simp[hfro,setCell_eq_setRow w g (o+i) cur t fz v hg]
  have ih:=bu g o t fz rest (i+1) (cur.setIfInBounds (o+i) v) (w.setRow g (cur.setIfInBounds (o+i) v)) (setRow_heap w g cur _ t _ hg) (by simpa using hf) (by simp at hl ⊢;omega) (fun x hx=>h1 x (by simp[hx]))
  simp only[storeCells,Sem.run_bind,hst,Result.andThen_ok,ih,setRow_setRow]
  congr 3
  have e:=list_seg_step cur.toList (o+i) v rest (by simp at hl ⊢;omega)
  simpa [Array.toList_setIfInBounds,Nat.add_assoc] using e
theorem seg_get(cur:List Value)(off:Nat)(l:List Value)(h:off+l.length≤cur.length)(j:Nat):(cur.take off++l++cur.drop (off+l.length))[j]? = if off≤j∧j<off+l.length then l[j-off]? else cur[j]?:=by
 have ht:(cur.take off).length=off:=by simp;omega
 by_cases h1:j<off
 ·rw[if_neg (by omega),List.append_assoc,List.getElem?_append_left (by omega),List.getElem?_take,if_pos h1]
 ·by_cases h2:j<off+l.length
  ·rw[if_pos (by omega),List.getElem?_append_left (by simp;omega),List.getElem?_append_right (by omega),ht]
  ·rw[if_neg (by omega),List.getElem?_append_right (by simp;omega),List.getElem?_drop]
   congr 1
   simp
   omega
theorem cJ(vs:Array Value)(j:Nat):vs.getD j undef=(vs.toList[j]?).getD undef:=by simp
theorem store_live{C:Ctx}{h:Nat}{cs l:List AV}{lv:Array Value}{e:TypeId}{s off:Nat}(g:WR C)(ho:C.H h=some (.cells cs e s))(hl:Cells C l lv)(hle:off+l.length≤cs.length):
    ∃w',(storeCells ⟨C.i h,off,none⟩ lv.toList).run P C.w=.ok () w'∧WR ⟨C.H.set h (.cells (bG cs off l) e s),C.n,C.i,C.c,w'⟩∧Ext C ⟨C.H.set h (.cells (bG cs off l) e s),C.n,C.i,C.c,w'⟩:=by
 obtain⟨vs,fz,h1,h2,h3,h4,h5⟩:=g.obj h _ ho
 have hsz:=hl.1
 have hrun:=bu (P:=P) (C.i h) off e fz lv.toList 0 vs C.w h1 h2.off (by simp;omega) (fun v hv=>by
  obtain⟨j,hj,rfl⟩:=List.getElem_of_mem hv
  have hj':j<lv.size:=by simpa using hj
  have:=hl.2.1 j hj'
  rw[bi hj']at this
  simpa using this)
 simp only[Nat.add_zero]at hrun
 have hb:∀b,b≠C.i h→(C.w.setRow (C.i h) (vs.toList.take off++lv.toList++vs.toList.drop (off+lv.toList.length)).toArray).heap[b]? = C.w.heap[b]?:=fun b hb=>setRow_other _ _ _ _ hb
 have hnt:∀m e' s',AObj.cells cs e s ≠ .tail m e' s':=by intro _ _ _ h;cases h
 have ex:=Ext.put g ho (o':=.cells (bG cs off l) e s) rfl (C.w.setRow (C.i h) (vs.toList.take off++lv.toList++vs.toList.drop (off+lv.toList.length)).toArray) (by simp) hb rfl rfl rfl hnt
 refine⟨_,hrun,?_,ex⟩
 refine WR.put g ho (o':=.cells (bG cs off l) e s) rfl _ (by simp) hb rfl rfl rfl hnt ?_
 have hsize:(vs.toList.take off++lv.toList++vs.toList.drop (off+lv.toList.length)).toArray.size=vs.size:=by simp;omega
 refine⟨_,fz,setRow_heap _ _ _ _ _ _ h1,by rw[hsize];exact h2,by rw[hsize];exact h3,by rw[hsize,cm0 _ _ _ hle];exact h4,fun j hj=>?_⟩
 rw[cm0 _ _ _ hle]at hj
 have hg:=putCells_get cs off l hle j
 rw[List.getElem?_eq_getElem (by rw[cm0 _ _ _ hle];exact hj)]at hg
 have hv:=seg_get vs.toList off lv.toList (by simp;omega) j
 rw[cJ]
 simp only[]at hv ⊢
 rw[hv]
 have hlt:lv.toList.length=l.length:=by simp[hsz]
 split at hg
 ·rename_i hc
  rw[if_pos (by rw[hlt];exact hc)]
  have hjl:j-off<lv.size:=by omega
  have e1:=hl.2.1 (j-off) hjl
  have e2:=hl.get hg.symm
  rw[cJ]at e1 e2
  exact⟨e2.ext ex,e1⟩
 ·rename_i hc
  rw[if_neg (by rw[hlt];exact hc)]
  have e3:=h5 j hj
  rw[List.getElem?_eq_getElem hj]at hg
  simp only[Option.some.injEq]at hg
  rw[hg,←cJ]
  exact⟨e3.1.ext ex,e3.2⟩
theorem cells_new{C:Ctx}{cs:List AV}{vs:Array Value}{e:TypeId}{s c:Nat}(g:WR C)(h:Cells C cs vs)(hc:vs.size=c*s):
    WR ⟨C.H.set C.n (.cells cs e s),C.n+1,upd C.i C.n C.w.heap.size,upd C.c C.n c,C.w.alloc (.cells vs e)⟩∧Ext C ⟨C.H.set C.n (.cells cs e s),C.n+1,upd C.i C.n C.w.heap.size,upd C.c C.n c,C.w.alloc (.cells vs e)⟩:=by
 have ex:=Ext.add g (.cells cs e s) (.cells vs e) c
 refine⟨WR.add g (.cells cs e s) (.cells vs e) c ?_,ex⟩
 refine⟨vs,(0,0),?_,fun off _=>by simp,?_,by rw[h.1];exact Nat.le_refl _,fun j hj=>⟨(h.2.2 j hj).ext ex,h.2.1 j (by rw[h.1];exact hj)⟩⟩
 ·show(C.w.alloc (.cells vs e)).heap[upd C.i C.n C.w.heap.size C.n]? = _
  rw[bC0]
  exact heap_alloc_new _ _
 ·show vs.size=upd C.c C.n c C.n*s
  rw[bC0]
  exact hc
theorem grow_tok{C:Ctx}{k m:Nat}{e:TypeId}{s:Nat}(g:WR C)(ho:C.H k=some (.tail m e s)){news:List AV}{nv:List Value}(hlen:nv.length=news.length)(h1:∀v∈nv, v.oneCell'=true)
    (hv:∀j (h:j<news.length),VR C news[j] (nv.getD j undef)) (hfit:m+news.length≤rm (C.c k)*s):
    ∃w',(storeCells ⟨C.i k,pl (C.c k)+m,none⟩ nv).run P C.w=.ok () w'∧WR ⟨(C.H.kill k).set C.n (.tail (m+news.length) e s),C.n+1,upd C.i C.n (C.i k),upd C.c C.n (C.c k),w'⟩∧
     Ext C ⟨(C.H.kill k).set C.n (.tail (m+news.length) e s),C.n+1,upd C.i C.n (C.i k),upd C.c C.n (C.c k),w'⟩∧
     ∀j (h:j<news.length),w'.cell? ⟨C.i k,pl (C.c k)+m+j,none⟩=some (nv.getD j undef):=by
 obtain⟨vs,fz,e1,e2,e3,e4⟩:=g.obj k _ ho
 have hrun:=bu (P:=P) (C.i k) (pl (C.c k)+m) e fz nv 0 vs C.w e1 e2.off (by omega) h1
 simp only[Nat.add_zero]at hrun
 have hsize:(vs.toList.take (pl (C.c k)+m)++nv++vs.toList.drop (pl (C.c k)+m+nv.length)).toArray.size=vs.size:=by simp;omega
 have hheap:=setRow_heap C.w (C.i k) vs (vs.toList.take (pl (C.c k)+m)++nv++vs.toList.drop (pl (C.c k)+m+nv.length)).toArray e fz e1
 have hseg:=seg_get vs.toList (pl (C.c k)+m) nv (by simp;omega)
 have hb:∀b,b≠C.i k→(C.w.setRow (C.i k) (vs.toList.take (pl (C.c k)+m)++nv++vs.toList.drop (pl (C.c k)+m+nv.length)).toArray).heap[b]? = C.w.heap[b]?:=fun b hb=>setRow_other _ _ _ _ hb
 have hc:∀off,off<pl (C.c k)+m→(C.w.setRow (C.i k) (vs.toList.take (pl (C.c k)+m)++nv++vs.toList.drop (pl (C.c k)+m+nv.length)).toArray).cell? ⟨C.i k,off,none⟩=C.w.cell? ⟨C.i k,off,none⟩:=fun off ho=>by
  rw[cell_of_row _ _ _ _ _ _ hheap,cell_of_row _ _ _ _ _ _ e1,List.getElem?_toArray,hseg,if_neg (by omega)]
  simp
 have hn:∀a:Addr,a.block=C.i k→a.spot≠none→(C.w.setRow (C.i k) (vs.toList.take (pl (C.c k)+m)++nv++vs.toList.drop (pl (C.c k)+m+nv.length)).toArray).cell? a=C.w.cell? a:=fun a ha hs=>by
  have:a.spot.isSome=true:=by cases h:a.spot<;>simp_all
  unfold World.cell?
  rw[ha,hheap,e1]
  simp[this]
 have ex:=Ext.grow (m':=m+news.length) (c':=C.c k) g ho _ (by simp) hb rfl rfl rfl (by omega) hc hn
 refine⟨_,hrun,WR.grow (c':=C.c k) g ho _ (by simp) hb rfl rfl rfl (by omega) hc hn ⟨_,fz,hheap,by rw[hsize];exact e2,by rw[hsize];exact e3,by rw[hsize];omega⟩,ex,fun j hj=>?_⟩
 rw[cell_of_row _ _ _ _ _ _ hheap,List.getElem?_toArray,hseg,if_pos (by omega)]
 have:pl (C.c k)+m+j-(pl (C.c k)+m)=j:=by omega
 rw[this,List.getD,List.getElem?_eq_getElem (by omega)]
 rfl
end Go.Abs
end
