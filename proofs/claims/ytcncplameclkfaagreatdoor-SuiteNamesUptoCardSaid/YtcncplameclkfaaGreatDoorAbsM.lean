/-
  An abstract logic over the model's walks, part M: the step of any operation, whole bodies, calls.
  Conditions: none. Lemmas only.
-/
import Derived.Test.YtcncplameclkfaaGreatDoorAbsG3
import Derived.KernelRfl
set_option linter.all false
namespace Go.Abs
open Go Go.RowKit
variable {P:Program}
def sameC:Value→Value→Bool
 |.int _ a,.int _ b=>a == b&&a != 0
 |_,_=>false
def aH:Operand→Operand→Bool
 |.tmp a,.tmp b=>a == b
 |.const a,.const b=>sameC a b
 |_,_=>false
def aS(P:Program)(H:AH)(t:TypeId)(x:AV):Option (List AV × Nat):=match P.underlying t,x with
 |some (.slice _),.imm _ cells n=>some (cells,n)
 |some (.slice _),.sc (.slice none 0 0)=>some ([],0)
 |some (.slice e),.own h off n=>(match H h with
  |some (.cells cs e' s)=>if e'=e∧s=ai0 P e∧off+n*s≤cs.length then some ((cs.drop off).take (n*s),n) else none
  |_=>none)
 |some .string,.sc (.string b)=>some (bw b.data.toList,b.size)
 |_,_=>none
def cx(P:Program)(t t':TypeId)(s x:AV)(H:AH)(K:AV→AH→Prop):Prop:=match P.underlying t,aS P H t' x with
 |some (.slice e),some (news,m)=>(match s with
  |.imm k cells n=>(match H k with
   | some o => Req (cy0 e (ai0 P e) o cells.length) (Req (k ≠ 0 ∧ cells.length = n * ai0 P e ∧ news.length = m * ai0 P e ∧ 0 < ai0 P e ∧ ax P e = true) (Req (n + m ≤ maxLen ∧ (n + m) * ay P e ≤ 140737488355328)
       (∀k' o',k'≠0→H k'=none→cy0 e (ai0 P e) o' (cells++news).length→K (.imm k' (cells++news) (n+m)) ((H.kill k).set k' o'))))
   |none=>False)
  | .sc (.slice none 0 0) => Req (news.length = m * ai0 P e ∧ 0 < ai0 P e ∧ ax P e = true) (Req (m ≤ maxLen ∧ m * ay P e ≤ 140737488355328)
        (∀k' o',k'≠0→H k'=none→cy0 e (ai0 P e) o' news.length→K (.imm k' news m) (H.set k' o')))
  |_=>False)
 |_,_=>False
def ownK(P:Program)(t t':TypeId)(s x:AV)(H:AH)(K:AV→AH→Prop):Prop:=match P.underlying t,aS P H t' x with
 |some (.slice e),some (news,m)=>Req (news.length=m*ai0 P e∧0<ai0 P e∧ax P e=true) (match s with
  |.own k 0 n=>(match H k with
   | some (.cells cs e' s') => Req (e' = e ∧ s' = ai0 P e ∧ n * s' ≤ cs.length) (Req (n + m ≤ maxLen ∧ (n + m) * ay P e ≤ 140737488355328)
       (∀k',(k'=k∨k'≠0∧H k'=none)→K (.own k' 0 (n+m)) ((H.kill k).set k' (.cells (cs.take (n*s')++news) e s'))))
   |_=>False)
  | .sc (.slice none 0 0) => Req (m ≤ maxLen ∧ m * ay P e ≤ 140737488355328)
      ((m=0→K (.sc (.slice none 0 0)) H)∧(0<m→∀k',k'≠0→H k'=none→K (.own k' 0 m) (H.set k' (.cells news e (ai0 P e)))))
  |_=>False)
 |_,_=>False
def makeK(P:Program)(t:TypeId)(same:Bool)(l c:AV)(H:AH)(K:AV→AH→Prop):Prop:=match P.underlying t,l,c with
 | some (.slice e), .sc (.int _ l), .sc (.int _ c) => Req (ax P e = true) (Req (0 ≤ c ∧ ay P e * c ≤ 281474976710656 ∧ c ≤ maxLen)
     (if same then Req (l=c) (∀k,k≠0→H k=none→K (.own k 0 c.toNat) (H.set k (.cells (aQ (aq P e) c.toNat) e (ai0 P e))))
      else Req (l=0) (∀k,k≠0→H k=none→K (.imm k [] 0) (H.set k (.tail 0 e (ai0 P e))))))
 |_,_,_=>False
def dk0(P:Program)(fx:AV)(args:List AV)(H:AH)(K:AV→AH→Prop):Prop:=match aK fx with
 |some (f,first,captured)=>ACalls P f (first++args++captured) H K
 |none=>ACallV P fx args H K
def baseK(P:Program)(t:TypeId)(n:Nat)(parts:List (Nat × AV))(H:AH)(K:AV→AH→Prop):Prop:=match P.underlying t with
 |some (.slice e)=>Req (ax P e=true∧n*ai0 P e≤16777216∧0<ai0 P e) (match cu (fun i=>some (i*ai0 P e,ai0 P e)) (aQ (aq P e) n) parts with
  |some cs=>∀k,k≠0→H k=none→K (.imm k cs n) (H.set k (.tail cs.length e (ai0 P e)))
  |none=>False)
 |_=>False
def ir(P:Program)(t:TypeId)(x:AV)(H:AH)(K:AV→Prop):Prop:=match x with
 |.ptr h off=>(match H h with
  |some (.cells cs _ _)=>(match aJ P t cs off with|some v=>K v|none=>False)
  |_=>False)
 |x=>loadK P t x K
def storeK(P:Program)(t:TypeId)(a x:AV)(H:AH)(K:AV→AH→Prop):Prop:=match a with
 |.ptr h off=>(match H h with
  |some (.cells cs e s)=>Req (ax P t=true∧x.cellsOf.length=ai0 P t∧off+ai0 P t≤cs.length∧x.fine=true) (K (.tup []) (H.set h (.cells (bG cs off x.cellsOf) e s)))
  |_=>False)
 |_=>False
def len2E(P:Program)(xs:List AV)(ts:List TypeId)(H:AH)(K:AV→Prop):Prop:=match xs,ts with
 |[x],[t]=>lenE P t x H K
 |_,_=>False
theorem len2E_sound{d:Option Tmp}{args:Array Operand}{ts:Array TypeId}{ty:TypeId}{ps:String}{af:Array Edge}{gd:Option (Nat × Bool)}{ρ:Operand→AV}{H:AH}{K:AV→Prop}(h:len2E P (args.toList.map ρ) ts.toList H K):
    ∃v,eG P H ⟨d,.call ⟨.builtin .len,args,ts⟩,ty,ps,af,gd⟩ ρ v∧K v:=by
 unfold len2E at h
 split at h
 ·rename_i xa t ha ht
  obtain⟨x,rfl,rfl⟩:∃x,args = #[x]∧xa=ρ x:=by
   have hl:args.toList.length=1:=by have:=congrArg List.length ha;simpa using this
   match h1:args.toList,hl with
   |[x],_=>
    rw[h1]at ha
    simp only[List.map_cons,List.map_nil,List.cons.injEq,and_true]at ha
    exact⟨x,by rw[←Array.toArray_toList (xs:=args),h1],ha.symm⟩
  have ht':ts = #[t]:=by rw[←Array.toArray_toList (xs:=ts),ht]
  subst ht'
  exact lenE_sound h
 ·exact h.elim
def callQK(P:Program)(fx:AV)(args:List AV)(H:AH)(K:AV→Prop):Prop:=∃v,dk0 P fx args H (fun v' H'=>v'=v∧H'=H)∧K v
def stepQ(P:Program)(o:Oper)(ρ:Operand→AV)(H:AH)(K:AV→Prop):Prop:=match o.op with
 |.call ⟨.value f,args,_⟩=>callQK P (ρ f) (args.toList.map fun y=>(ρ y).strip) H K
 |.load t a=>ir P t (ρ a) H K
 |.lookup t x y ok=>lookE P t (ρ x) (ρ y) ok H K
 |.call ⟨.builtin .len,args,ts⟩=>len2E P (args.toList.map ρ) ts.toList H K
 |_=>bm0 P o ρ K
def strTy(P:Program):Option TypeId:=(List.range P.types.size).find? fun t=>match P.underlying t with|some .string=>true|_=>false
def co0(m:Nat):ByteArray:=⟨(List.replicate m 0).toArray⟩
def lenS:AV→Option Nat
 |.own _ _ n=>some n
 |.imm _ _ n=>some n
 |.sc (.slice none 0 0)=>some 0
 |_=>none
def zerS(P:Program)(u u':Option TypeDesc)(s x:AV):Option (Prop × Nat):=match u,u',lenS s,x with
 |some (.slice e),some (.int _),some n,.sc (.int _ m)=>some (0≤m∧m<9223372036854775808∧(ax P e=true∧bk P e=.int .u8 0)∧n+m.toNat≤maxLen∧(n+m.toNat)*ay P e≤140737488355328,m.toNat)
 |_,_,_,_=>none
def kP(P:Program)(u:Option TypeDesc)(s x:AV)(t t':TypeId)(H:AH)(K:AV→AH→Prop):Prop:=match u with
 |some (.int k)=>(match strTy P,zerS P (P.underlying t) (some (.int k)) s x with
  |some st,some (p,m)=>Req p (cx P t st s (.sc (.string (co0 m))) H K)
  |_,_=>False)
 |_=>cx P t t' s x H K
def own3K(P:Program)(u:Option TypeDesc)(s x:AV)(t t':TypeId)(H:AH)(K:AV→AH→Prop):Prop:=match u with
 |some (.int k)=>(match strTy P,zerS P (P.underlying t) (some (.int k)) s x with
  |some st,some (p,m)=>Req p (ownK P t st s (.sc (.string (co0 m))) H K)
  |_,_=>False)
 |_=>ownK P t t' s x H K
def eT(P:Program)(xs:List AV)(ts:List TypeId)(H:AH)(K:AV→AH→Prop):Prop:=match xs,ts with
 |[s,x],[t,t']=>kP P (P.underlying t') s x t t' H K
 |_,_=>False
def own2K(P:Program)(xs:List AV)(ts:List TypeId)(H:AH)(K:AV→AH→Prop):Prop:=match xs,ts with
 |[s,x],[t,t']=>own3K P (P.underlying t') s x t t' H K
 |_,_=>False
def rowK(P:Program)(t:TypeId)(n:Nat)(parts:List (Nat × AV))(H:AH)(K:AV→AH→Prop):Prop:=match P.underlying t with
 |some (.slice e)=>Req (ax P e=true∧n*ai0 P e≤16777216∧0<ai0 P e) (match cu (fun i=>some (i*ai0 P e,ai0 P e)) (aQ (aq P e) n) parts with
  |some cs=>∀k,k≠0→H k=none→K (.own k 0 n) (H.set k (.cells cs e (ai0 P e)))
  |none=>False)
 |_=>False
theorem frz_imm{C:Ctx}{H0:AH}(g:WR C){k n cap:Nat}{cs:List AV}{e:TypeId}{s:Nat}(hk:C.H k=some (.cells cs e s))(hs:∀y o, H0 y=some o→C.H y=some o)(hn:n≤cap)(hm:cap≤maxLen)(hle:n*s≤cs.length)(h0:H0 k=none:=by simp[AH.kill]):
    VR { C with H:=H0 } (.imm 0 (cs.take (n*s)) n) (.slice (some ⟨C.i k,0,none⟩) n cap):=by
 have ew:=Ext.weaken (C:=C) H0 hs
 obtain⟨vs,fz,b1,b2,b3,b4,b5⟩:=g.obj k _ hk
 refine .imm 0 _ _ _ _ hn hm (fun h=>absurd rfl h) (C.i k) 0 (fun _=>rfl) (fun j=>vs.getD j undef) (fun j hj=>?_) (fun j hj=>?_)
 ·have hj':j<cs.length:=by rw[List.length_take]at hj;omega
  refine⟨?_,fun hw=>?_,(b5 _ hj').2⟩
  ·show C.w.cell? _=_
   rw[Nat.zero_add,cell_of_row C.w (C.i k) j vs e fz b1,bi (by omega)]
   exact Array.getElem?_eq_getElem (by omega)
  ·obtain⟨x,o,hx,hr,he⟩:=Wr.owned hw
   have:=g.inj x k o _ (hs x o hx) hk hr rfl he
   subst this
   have hx':H0 x=some o:=hx
   rw[h0]at hx'
   cases hx'
 ·have hj':j<cs.length:=by rw[List.length_take]at hj;omega
  rw[List.getElem_take]
  exact(b5 _ hj').1.ext ew
def convE(P:Program)(s d:TypeId)(x:AV)(H:AH)(K:AV→AH→Prop):Prop:=match x with
 |.own k 0 n=>(match P.underlying s,P.underlying d,H k with
  |some (.slice e),some .string,some (.cells cs e' z)=>Req (P.underlying e=some (.int .u8)∧e'=e∧z=1∧cs.length=n∧cs.all isU8=true) (K (.sc (.string (dX cs))) H)
  |some (.slice e),some (.slice _),some (.cells cs e' z)=>Req (s=d∧P.underlying e=some (.int .u8)∧e'=e∧z=1∧cs.length=n) (K (.imm 0 cs n) (H.kill k))
  |_,_,_=>False)
 |x=>convK P s d x fun v=>K v H
theorem convE_sound{d:Option Tmp}{s t:TypeId}{x:Operand}{ty:TypeId}{ps:String}{af:Array Edge}{gd:Option (Nat × Bool)}{ρ:Operand→AV}{H:AH}{K:AV→AH→Prop}(h:convE P s t (ρ x) H K):
    Eff P H ⟨d,.convert s t x,ty,ps,af,gd⟩ ρ K:=by
 unfold convE at h
 split at h
 ·rename_i k n hx
  split at h
  ·rename_i e cs e' z hs hd hk
   obtain⟨⟨he,rfl,rfl,hn,hall⟩,hK⟩:=h
   refine cL fun C ρ' hC g hv=>?_
   subst hC
   have h1:=hv x (by simp[Op.operands])
   rw[hx]at h1
   generalize hu:ρ' x=u at h1
   cases h1 with
   |own _ _ _ cap g1 g2 g3 g4=>
    have hsk:∀y o,(C.H.kill k) y=some o→C.H y=some o:=fun y o hy=>by simp only[AH.kill]at hy;split at hy;cases hy;exact hy
    have hvr:=frz_imm g (k:=k) (n:=n) (cap:=cap) hk hsk g2 g3 (by rw[hn];omega)
    have hcs:cs.take (n*1)=cs:=List.take_of_length_le (by omega)
    rw[hcs]at hvr
    have hrun:(convert s t (.slice (some ⟨C.i k,0,none⟩) n cap)).run P C.w=.ok (.string (dX cs)) C.w:=conv_str (C:=⟨C.H.kill k,C.n,C.i,C.c,C.w⟩) (P:=P) hs hd he hall hn hvr
    refine⟨.value (.string (dX cs)),_,C.w,?_,.inl rfl,.sc (.string (dX cs)),C,hK,rfl,g,Ext.refl _,.sc _⟩
    simp only[execOp,hu,Sem.run_bind,hrun,Sem.run_pure,Result.andThen_ok]
  ·rename_i e _ cs e' z hs hd hk
   obtain⟨⟨rfl,he,rfl,rfl,hn⟩,hK⟩:=h
   refine cL fun C ρ' hC g hv=>?_
   subst hC
   have h1:=hv x (by simp[Op.operands])
   rw[hx]at h1
   generalize hu:ρ' x=u at h1
   cases h1 with
   |own _ _ _ cap g1 g2 g3 g4=>
    obtain⟨vs,fz,b1,b2,b3,b4,b5⟩:=g.obj k _ hk
    obtain⟨w',hw'⟩:∃w',w'=C.w.freeze ⟨C.i k,vs.size,none⟩ 1:=⟨_,rfl⟩
    have T:Turned C.w w' (C.i k):=by
     rw[hw']
     unfold World.freeze
     rw[if_neg (by decide)]
     have hoth:∀(f:Obj→Obj) b,b≠C.i k→(C.w.heap.modify (C.i k) f)[b]? = C.w.heap[b]?:=fun f b hb=>by
      rw[Array.getElem?_modify,if_neg (Ne.symm hb)]
     refine⟨fun a u h=>?_,fun b hb=>hoth _ b hb,by simp,rfl,rfl,rfl⟩
     by_cases ha:a.block=C.i k
     ·unfold World.cell? at h ⊢
      rw[ha,b1]at h
      rw[ha]
      show(match (C.w.heap.modify (C.i k) _)[C.i k]? with|some (.cells c _ _)=>_|_=>_)=_
      rw[Array.getElem?_modify,if_pos rfl,b1]
      exact h
     ·unfold World.cell? at h ⊢
      show(match (C.w.heap.modify (C.i k) _)[a.block]? with|some (.cells c _ _)=>_|_=>_)=_
      rw[hoth _ _ ha]
      exact h
    have hsk:∀y o,(C.H.kill k) y=some o→C.H y=some o:=fun y o hy=>by simp only[AH.kill]at hy;split at hy;cases hy;exact hy
    have e1:=Ext.weaken (C:=C) (C.H.kill k) hsk
    have k1:=g.weaken (C.H.kill k) hsk
    have hno:¬Owned ⟨C.H.kill k,C.n,C.i,C.c,C.w⟩ (C.i k):=by
     rintro⟨y,o,hy,hyr,hye⟩
     have:=g.inj y k o _ (hsk y o hy) hk hyr rfl hye
     subst this
     simp[AH.kill]at hy
    have hvr:=frz_imm g (k:=k) (n:=n) (cap:=cap) hk hsk g2 g3 (by rw[hn];omega)
    refine⟨.value (.slice (some ⟨C.i k,0,none⟩) n cap),_,w',?_,.inl rfl,.imm 0 cs n,⟨C.H.kill k,C.n,C.i,C.c,w'⟩,hK,rfl,k1.turned T hno,e1.turned T (.inr ⟨k,_,hk,rfl,rfl⟩),?_⟩
    ·have hshape:(shape (C.i k)).run P C.w=.ok (some (e', vs.size)) C.w:=by
      simp[shape,Sem.run,World.shape?,b1]
     simp only[execOp,hu]
     simp[convert,run_underlying hs,run_underlying he,markStringish,hshape,←hw']
    ·have:cs.take (n*1)=cs:=List.take_of_length_le (by omega)
     rw[this]at hvr
     exact hvr.turned (C:=⟨C.H.kill k,C.n,C.i,C.c,C.w⟩) T
  ·exact h.elim
 ·obtain⟨v,h1,h2⟩:=cV0 (o:=⟨d,.convert s t x,ty,ps,af,gd⟩) (ρ:=ρ) (K:=fun v=>K v H) h
  exact(h1 H).mono fun v' H' ⟨e1,e2⟩=>by subst e1 e2;exact h2
def convTK(P:Program)(s d:TypeId)(x:AV)(H:AH)(K:AV→AH→Prop):Prop:=match x with
 | .imm k cells n => ∃ e z, P.underlying s = some (.slice e) ∧ s = d ∧ P.underlying e = some (.int .u8) ∧ k ≠ 0 ∧ 0 < n ∧ H k = some (.tail cells.length e z) ∧
     ∀k',k'≠0→H k'=none→K (.imm k' cells n) ((H.kill k).set k' (.tail cells.length e z))
 |_=>False
theorem cell_freeze(w:World)(b:Addr)(a:Addr):(w.freeze b 1).cell? a=w.cell? a:=by
 unfold World.freeze
 rw[if_neg (by decide)]
 unfold World.cell?
 show(match (w.heap.modify b.block _)[a.block]? with|some (.cells c _ _)=>_|_=>_)=_
 rw[Array.getElem?_modify]
 by_cases e:b.block=a.block
 ·rw[if_pos e]
  cases h:w.heap[a.block]? with
  |none=>rfl
  |some o=>cases o<;>rfl
 ·rw[if_neg e]
  rfl
theorem convTK_sound{d:Option Tmp}{s t:TypeId}{x:Operand}{ty:TypeId}{ps:String}{af:Array Edge}{gd:Option (Nat × Bool)}{ρ:Operand→AV}{H:AH}{K:AV→AH→Prop}(h:convTK P s t (ρ x) H K):
    Eff P H ⟨d,.convert s t x,ty,ps,af,gd⟩ ρ K:=by
 refine cL fun C ρ' hC g hv=>?_
 unfold convTK at h
 split at h
 case h_2=>exact h.elim
 rename_i k cells n hx
 obtain⟨e,z,hs,rfl,he,hk0,hn0,hk,hK⟩:=h
 have h1:=hv x (by simp[Op.operands])
 rw[hx]at h1
 generalize hu:ρ' x=u at h1
 obtain⟨A,cap,rfl,hn,hm,hkk,b,o,ha,us,hc,hcv⟩:=h1.imm_inv
 obtain⟨k1,k2,k3⟩:=hkk hk0
 rw[←hC]at hk hK
 obtain⟨vs,fz,b1,b2,b3,b4⟩:=g.obj k _ hk
 have fin : ∀ w' : World, (∀ a, w'.cell? a = C.w.cell? a) → w'.heap.size = C.w.heap.size → (∀ b, b ≠ C.i k → w'.heap[b]? = C.w.heap[b]?) → w'.os = C.w.os → w'.tape = C.w.tape → w'.output = C.w.output →
     (∃fz',w'.heap[C.i k]? = some (.cells vs e fz')∧FreeL fz' vs.size)→(convert s s (.slice A n cap)).run P C.w=.ok (.slice A n cap) w'→
     ∃nx u w'',(execOp ρ' ⟨d,.convert s s x,ty,ps,af,gd⟩).run P C.w=.ok nx w''∧(nx=.value u∨(nx=.skip∧u=undef))∧∃v D,K v D.H∧D.w=w''∧WR D∧Ext C D∧VR D v u:=by
  intro w' hcell hsz hoth hos htp hout ⟨fz',f1,f2⟩ hrun
  have ex:=Ext.grow (m':=cells.length) (c':=C.c k) g hk w' hsz hoth hos htp hout (Nat.le_refl _) (fun _ _=>hcell _) (fun _ _ _=>hcell _)
  have gr:=WR.grow (m':=cells.length) (c':=C.c k) g hk w' hsz hoth hos htp hout (Nat.le_refl _) (fun _ _=>hcell _) (fun _ _ _=>hcell _) ⟨vs,fz',f1,f2,b3,b4⟩
  refine⟨.value (.slice A n cap),_,w',?_,.inl rfl,.imm C.n cells n,_,hK C.n (Nat.ne_of_gt g.pos) (bh g),rfl,gr,ex,?_⟩
  ·simp only[execOp,hu,Sem.run_bind,hrun,Sem.run_pure,Result.andThen_ok]
  ·refine .imm C.n cells n A cap hn hm (fun _=>⟨Nat.lt_succ_self _,?_,?_⟩) b o ha us (fun j hj=>ex.at_ _ _ (hc j hj)) (fun j hj=>(hcv j hj).ext ex)
   ·show cap=rm (upd C.c C.n (C.c k) C.n)
    rw[bC0];exact k2
   ·show A=some ⟨upd C.i C.n (C.i k) C.n,pl (upd C.c C.n (C.c k) C.n),none⟩∨_
    rw[bC0,bC0];exact k3
 rcases k3 with hA|⟨hA,hc0⟩
 ·subst hA
  have hoth:∀(f:Obj→Obj) b,b≠C.i k→(C.w.heap.modify (C.i k) f)[b]? = C.w.heap[b]?:=fun f b hb=>by
   rw[Array.getElem?_modify,if_neg (Ne.symm hb)]
  refine fin (C.w.freeze ⟨C.i k,vs.size,none⟩ 1) (fun a=>cell_freeze _ _ _) (by unfold World.freeze;simp) (fun b hb=>?_) rfl rfl rfl ?_ ?_
  ·unfold World.freeze
   rw[if_neg (by decide)]
   exact hoth _ b hb
  ·obtain⟨lo,hi⟩:=fz
   refine⟨if lo == hi then (vs.size,vs.size+1) else (min lo vs.size,max hi (vs.size+1)),?_,?_⟩
   ·unfold World.freeze
    rw[if_neg (by decide)]
    show(C.w.heap.modify (C.i k) _)[C.i k]? = _
    rw[Array.getElem?_modify,if_pos rfl,b1]
    rfl
   ·by_cases e1:lo=hi
    ·subst e1
     rw[if_pos (by simp)]
     exact .inr (Nat.le_refl _)
    ·rw[if_neg (by simpa using e1)]
     rcases b2 with h|h
     ·exact absurd h e1
     ·refine .inr ?_
      show vs.size≤min lo vs.size
      have:vs.size≤lo:=h
      omega
  ·have hshape:(shape (C.i k)).run P C.w=.ok (some (e, vs.size)) C.w:=by
    simp[shape,Sem.run,World.shape?,b1]
   simp[convert,run_underlying hs,run_underlying he,markStringish,hshape]
 ·omega
theorem eff_call_raw{d:Option Tmp}{ty:TypeId}{ps:String}{af:Array Edge}{gd:Option (Nat × Bool)}{H:AH}{ρ:Operand→AV}{x:Operand}{xs:Array Operand}{ts:Array TypeId}{f:FuncId}{first captured:List AV}{R:AV→AH→Prop}
    (hf:aK (ρ x)=some (f,first,captured)) (h:ACalls P f (first++(xs.toList.map ρ)++captured) H R):
    Eff P H ⟨d,.call ⟨.value x,xs,ts⟩,ty,ps,af,gd⟩ ρ R:=by
 intro n i c w ρ' g hx
 have hxv:=hx x (by simp[Op.operands,Call.operands])
 have hxs:∀y∈xs,VR ⟨H,n,i,c,w⟩ (ρ y) (ρ' y):=fun y hy=>hx y (by simp[Op.operands,Call.operands,hy])
 unfold aK at hf
 split at hf
 ·rename_i f' fi ca he
  simp only[Option.some.injEq,Prod.mk.injEq]at hf
  obtain⟨rfl,rfl,rfl⟩:=hf
  rw[he]at hxv
  generalize hv:ρ' x=v at hxv
  cases hxv with
  |fn _ _ _ vf vc h1 h2 g1 g2=>
   have hargs:=((VRs.of_array h1 g1).append (VRs.ops xs hxs)).append (VRs.of_array h2 g2)
   have:=h n i c w _ g hargs
   have hrun:(execOp ρ' ⟨d,.call ⟨.value x,xs,ts⟩,ty,ps,af,gd⟩).run P w=(callFunc f' (vf.toList++(xs.map ρ').toList++vc.toList).toArray).run P w:=by
    simp only[execOp,resolve,hv,Deferred.ofValue,Sem.run_bind,Sem.run_pure,Result.andThen_ok,invoke]
    congr 2
    apply Array.ext'
    simp
   rw[hrun]
   exact this
 ·cases hf
theorem eff_callV_raw{d:Option Tmp}{ty:TypeId}{ps:String}{af:Array Edge}{gd:Option (Nat × Bool)}{H:AH}{ρ:Operand→AV}{x:Operand}{xs:Array Operand}{ts:Array TypeId}{R:AV→AH→Prop}
    (h:ACallV P (ρ x) (xs.toList.map ρ) H R):Eff P H ⟨d,.call ⟨.value x,xs,ts⟩,ty,ps,af,gd⟩ ρ R:=by
 intro n i c w ρ' g hx
 have hxv:=hx x (by simp[Op.operands,Call.operands])
 have hxs:∀y∈xs,VR ⟨H,n,i,c,w⟩ (ρ y) (ρ' y):=fun y hy=>hx y (by simp[Op.operands,Call.operands,hy])
 have hargs:=VRs.ops xs hxs
 have:=h n i c w _ _ g hxv hargs
 have hrun:(execOp ρ' ⟨d,.call ⟨.value x,xs,ts⟩,ty,ps,af,gd⟩).run P w=(do let d ←Deferred.ofValue (ρ' x) (xs.map ρ').toList.toArray;invoke d.target d.args:Sem Next).run P w:=by
  simp only[execOp,resolve,Array.toArray_toList]
 rw[hrun]
 exact this
def invA(P:Program)(x:AV)(name:String):Option AV:=match x with
 |.ifc t v=>(match jT P t name with|some f=>some (.fn (.func f) [v] [])|none=>none)
 |_=>none
def invK(P:Program)(x:AV)(name:String)(args:List AV)(H:AH)(K:AV→AH→Prop):Prop:=match invA P x name with
 |some fx=>dk0 P fx args H K
 |none=>False
theorem run_method{t:TypeId}{v:Value}{name:String}{f:FuncId}{n:Nat}{w:World}(h:jT P t name=some f):(method (n+1) t v name).run P w=.ok (f,v) w:=by
 unfold jT at h
 split at h
 ·rename_i info hi
  split at h
  ·rename_i m hm
   split at h
   ·rename_i hp
    split at h
    ·rename_i g e hf hu
     cases h
     have hp':m.path = #[]:=by simpa using hp
     unfold method
     simp[typeInfo,hi,hm,hp',follow,hf,receiverAt,underlying,hu,Place.get]
    ·cases h
   ·cases h
  ·cases h
 ·cases h
theorem eff_invoke{d:Option Tmp}{ty:TypeId}{ps:String}{af:Array Edge}{gd:Option (Nat × Bool)}{H:AH}{ρ:Operand→AV}{r:Operand}{name:String}{xs:Array Operand}{ts:Array TypeId}{R:AV→AH→Prop}
    (h:invK P (ρ r) name (xs.toList.map fun y=>(ρ y).strip) H R):Eff P H ⟨d,.call ⟨.invoke r name,xs,ts⟩,ty,ps,af,gd⟩ ρ R:=by
 unfold invK invA at h
 split at h
 ·rename_i fx hfx
  split at hfx
  ·rename_i t v hr
   split at hfx
   ·rename_i f hf
    cases hfx
    have h:ACalls P f ([v]++(xs.toList.map fun y=>(ρ y).strip)++[]) H R:=h
    intro n i c w ρ' g hx
    have hxr:=hx r (by simp[Op.operands,Call.operands])
    have hxs:∀y∈xs,VR ⟨H,n,i,c,w⟩ (ρ y) (ρ' y):=fun y hy=>hx y (by simp[Op.operands,Call.operands,hy])
    rw[hr]at hxr
    generalize hv:ρ' r=u at hxr
    cases hxr with
    |ifc _ _ vv h1=>
     have hargs:=(VRs.of_array (vs := #[vv]) (C:=⟨H,n,i,c,w⟩) (a:=[v]) rfl (by
      intro j hj
      have:j=0:=by simpa using hj
      subst this
      exact h1)).append ((VRs.ops xs hxs).strip)
     rw[List.map_map]at hargs
     have:=h n i c w _ g (by rw[List.append_nil];exact hargs)
     have hrun:(execOp ρ' ⟨d,.call ⟨.invoke r name,xs,ts⟩,ty,ps,af,gd⟩).run P w=(callFunc f (#[vv].toList++(xs.map ρ').toList).toArray).run P w:=by
      simp only[execOp,resolve,hv,Sem.run_bind,Sem.run_pure,Result.andThen_ok,invoke]
      have e0:(#[Value.iface t vv]++xs.map ρ')[0]? = some (Value.iface t vv):=by
       rw[Array.getElem?_append_left (by exact Nat.zero_lt_one)];rfl
      have e1:(#[Value.iface t vv]++xs.map ρ').extract 1 (#[Value.iface t vv]++xs.map ρ').size=xs.map ρ':=by simp
      have e2:(#[vv].toList++(xs.map ρ').toList).toArray = #[vv]++xs.map ρ':=by
       apply Array.ext'
       rw[Array.toList_append]
      simp only[e0,e1,e2,callMethod]
      have hm:∀m,(method (m+1) t vv name).run P w=.ok (f,vv) w:=fun m=>run_method hf
      have hm2:(method (P.types.size+Made.depth) t vv name).run P w=.ok (f,vv) w:=hm (P.types.size+99)
      have hpr:(program:Sem Program).run P w=.ok P w:=rfl
      rw[Sem.run_bind,hpr]
      simp only[Result.andThen_ok]
      rw[Sem.run_bind,hm2]
      simp only[Result.andThen_ok]
     rw[hrun]
     exact this
   ·cases hfx
  ·cases hfx
 ·exact h.elim
def j3(A:List Nat)(d:Option Tmp):Bool:=match d with|some x=>A.contains (x+1000000)|none=>false
def kO(A:List Nat)(d:Option Tmp):Bool:=match d with|some x=>A.contains (x+2000000)|none=>false
def convAt(A:List Nat)(d:Option Tmp):Bool:=match d with|some x=>A.contains (x+6000000)|none=>false
def slideAt(A:List Nat)(d:Option Tmp):Bool:=match d with|some x=>A.contains (x+5000000)|none=>false
def jz(A:List Nat)(d:Option Tmp):Bool:=match d with|some x=>A.contains (x+3000000)|none=>false
def kH(A:List Nat)(d:Option Tmp):Bool:=match d with|some x=>A.contains (x+4000000)|none=>false
def bsK(b:Bool)(X Y:Prop):Prop:=bif b then X else Y
def bW(P:Program)(A:List Nat)(o:Oper)(ρ:Operand→AV)(H:AH)(K:AV→AH→Prop):Prop:=match o.op with
 |.load t a=>ir P t (ρ a) H fun v=>K v H
 |.store t a x=>storeK P t (ρ a) (ρ x) H K
 |.box t x=>Req ((ρ x).fine=true) (∀k,k≠0→H k=none→K (.ptr k 0) (H.set k (.cells (ρ x).cellsOf t (ρ x).cellsOf.length)))
 |.alloc t=>Req (ax P t=true) (∀k,k≠0→H k=none→K (.ptr k 0) (H.set k (.cells (ap P t) t (ap P t).length)))
 |.makeSlice t l c=>bsK (kH A o.dst) (makeP P t (ρ l) (ρ c) fun v=>K v H) (makeK P t (aH l c) (ρ l) (ρ c) H K)
 |.lookup t x y ok=>lookE P t (ρ x) (ρ y) ok H fun v=>K v H
 |.convert s d x=>bsK (convAt A o.dst) (convTK P s d (ρ x) H K) (convE P s d (ρ x) H K)
 |.call ⟨.builtin .len,args,ts⟩=>len2E P (args.toList.map ρ) ts.toList H fun v=>K v H
 |.mapUpdate t m k x=>updK P t (ρ m) (ρ k) (ρ x) H K
 |.insert t m k x=>updK P t (ρ m) (ρ k) (ρ x) H K
 |.makeMap _ r=>mapK P r.isSome H K
 |.range t x=>rangeK P t (ρ x) H K
 |.next it s=>nextK s (ρ it) H K
 |.entry it=>entryK (ρ it) H K
 |.call ⟨.builtin .cap,args,ts⟩=>capK P (args.toList.map ρ) ts.toList H K
 |.call ⟨.builtin .copy,args,ts⟩=>copyK P (args.toList.map ρ) ts.toList H K
 |.slice t x lo hi none=>bsK (slideAt A o.dst) (slideK P t (ρ x) (lo.map ρ) (hi.map ρ) H K) (bsK (kO A o.dst) (dz P t (ρ x) (lo.map ρ) (hi.map ρ) H K) (bm0 P o ρ fun v=>K v H))
 |.slice t x lo hi (some mx)=>bsK (kO A o.dst) (jK P t (ρ x) (lo.map ρ) (hi.map ρ) (some (ρ mx)) (isC0 mx) H K) (bm0 P o ρ fun v=>K v H)
 |.call ⟨.builtin .append,args,ts⟩=>bsK (jz A o.dst) (growZK P (args.toList.map ρ) ts.toList H K) (bsK (j3 A o.dst) (own2K P (args.toList.map ρ) ts.toList H K) (eT P (args.toList.map ρ) ts.toList H K))
 |.call ⟨.value f,args,_⟩=>bsK (kH A o.dst) (dk0 P (ρ f) (args.toList.map ρ) H K) (dk0 P (ρ f) (args.toList.map fun y=>(ρ y).strip) H K)
 |.call ⟨.invoke r name,args,_⟩=>invK P (ρ r) name (args.toList.map fun y=>(ρ y).strip) H K
 | .buildSlice t n parts => bsK (j3 A o.dst) (rowK P t n (parts.toList.map fun p => (p.1, (ρ p.2).strip)) H K) (bsK (match o.dst with | some d => A.contains d | none => false) (baseK P t n (parts.toList.map fun p => (p.1, (ρ p.2).strip)) H K)
     (bq0 P t n (parts.toList.map fun p=>(p.1,(ρ p.2).strip)) fun v=>K v H))
 |_=>bm0 P o ρ fun v=>K v H
theorem OutP.eff{o:Oper}{ρ:Operand→AV}{H:AH}{K:AV→AH→Prop}(h:OutP P o ρ fun v=>K v H):Eff P H o ρ K:=by
 obtain⟨v,h1,h2⟩:=h
 exact(h1 H).mono fun v' H' ⟨e1,e2⟩=>by subst e1 e2;exact h2
theorem loadE_sound{d:Option Tmp}{t:TypeId}{a:Operand}{ty:TypeId}{ps:String}{af:Array Edge}{gd:Option (Nat × Bool)}{ρ:Operand→AV}{H:AH}{K:AV→Prop}(h:ir P t (ρ a) H K):
    ∃v,eG P H ⟨d,.load t a,ty,ps,af,gd⟩ ρ v∧K v:=by
 unfold ir at h
 split at h
 ·rename_i hh off ha
  split at h
  ·rename_i cs e s hH
   split at h
   ·rename_i v hp
    refine⟨v,cp fun C ρ' hCH g hx=>?_,h⟩
    have h1:=hx a (by simp[Op.operands])
    rw[ha]at h1
    generalize hv:ρ' a=u at h1
    cases h1 with
    |ptr _ _ g1=>
     obtain⟨r,r1,r2⟩:=eK00 (P:=P) g (by rw[hCH];exact hH) hp
     exact⟨r,by simp[execOp,hv,Instr.loadAt,Instr.sureAddr,r1],r2⟩
   ·exact h.elim
  ·exact h.elim
 ·obtain⟨v,hK,hr⟩:=loadK_sound (P:=P) h
  exact⟨v,cp fun C ρ' _ g hx=>by
   obtain⟨u,h1,h2⟩:=hr C (ρ' a) (hx a (by simp[Op.operands]))
   exact⟨u,by simp[execOp,h1],h2⟩,hK⟩
theorem stepQ_sound{o:Oper}{ρ:Operand→AV}{H:AH}{K:AV→Prop}(h:stepQ P o ρ H K):∃v,eG P H o ρ v∧K v:=by
 obtain⟨d,op,ty,ps,af,gd⟩:=o
 unfold stepQ at h
 simp only[]at h
 split at h
 ·obtain⟨v,h1,h2⟩:=h
  refine⟨v,?_,h2⟩
  unfold dk0 at h1
  split at h1
  ·rename_i f' first captured hf
   exact eff_call hf h1
  ·exact eff_callV h1
 ·exact loadE_sound h
 ·exact lookE_sound h
 ·exact len2E_sound h
 ·obtain⟨v,h1,h2⟩:=cV0 h
  exact⟨v,h1 H,h2⟩
theorem ef{H:AH}{k:Nat}{o:AObj}(h:H k=none):(H.set k o).kill k=H:=by
 funext x
 simp only[AH.set,AH.kill]
 split
 ·rename_i e;rw[e,h]
 ·rfl
theorem u8_ne:∀kk,TypeDesc.string ≠ .int kk:=fun _ h=>by cases h
theorem slice_ne{e:TypeId}:∀kk,TypeDesc.slice e ≠ .int kk:=fun _ h=>by cases h
theorem srcA_sound{C:Ctx}(g:WR C){t:TypeId}{x:AV}{xv:Value}{news:List AV}{m:Nat}{s:Nat}(h:aS P C.H t x=some (news, m))(hx:VR C x xv)(hlen:news.length=m*s)(hs:0<s):
    ∃dt,P.underlying t=some dt∧(∀kk,dt ≠ .int kk)∧(∀w,(Builtin.lenOf xv).run P w=.ok m w)∧∃nv:List Value,nv.length=news.length∧(∀u∈nv,u.oneCell'=true)∧(∀j (h:j<news.length),VR C news[j] (nv.getD j undef))∧
     ∀w,w.heap=C.w.heap→(Builtin.firstCells s m xv).run P w=.ok nv.toArray w:=by
 unfold aS at h
 split at h
 ·rename_i e k cells n hu
  simp only[Option.some.injEq,Prod.mk.injEq]at h
  obtain⟨rfl,rfl⟩:=h
  have hx':=hx
  obtain⟨A,cap,rfl,hn,hm,hk,b,o,ha,u,hc,hv⟩:=hx.imm_inv
  refine⟨_,hu,slice_ne,fun w=>by simp[Builtin.lenOf],?_⟩
  obtain⟨ov,o1,o2,o3,_⟩:=first_old (P:=P) hx' hlen C.w rfl
  refine⟨(List.range cells.length).map u,by simp,fun y hy=>?_,fun j hj=>?_,fun w hw=>?_⟩
  ·simp only[List.mem_map,List.mem_range]at hy
   obtain⟨j,hj,rfl⟩:=hy
   exact(hc j hj).2.2
  ·simp[List.getD,hj]
   exact hv j hj
  ·cases A with
   |none=>
    have:cells=[]:=Classical.byContradiction fun h=>by cases ha h
    subst this
    simp[Builtin.firstCells]
   |some a=>
    simp only[Builtin.firstCells]
    rw[←hlen]
    exact run_loadCells (P:=P) w a cells.length u (fun j hj=>by
     have hne:cells≠[]:=fun e=>by simp[e]at hj
     have h1:=ha hne
     simp only[Option.some.injEq]at h1
     rw[h1,bT]
     have h2:=(hc j hj).1
     rw[←h2]
     exact World.cell?_of_block (by rw[hw]))
 ·rename_i e hu
  simp only[Option.some.injEq,Prod.mk.injEq]at h
  obtain⟨rfl,rfl⟩:=h
  rw[bQ hx]
  exact⟨_,hu,slice_ne,fun w=>by simp[Builtin.lenOf],[],rfl,fun u hu=>absurd hu (by simp),fun j h=>absurd h (by simp),fun w _=>by simp[Builtin.firstCells]⟩
 ·rename_i e hh off n hu
  split at h
  ·rename_i cs e' s' hH
   split at h
   ·rename_i hcc
    obtain⟨rfl,rfl,hle⟩:=hcc
    simp only[Option.some.injEq,Prod.mk.injEq]at h
    obtain⟨rfl,rfl⟩:=h
    have hs':n*ai0 P e'=n*s:=by
     rw[List.length_take,List.length_drop]at hlen
     omega
    cases hx with
    |own _ _ _ cap g1 g2 g3 g4=>
     obtain⟨vs,fz,h1,h2,h3,h4,h5⟩:=g.obj hh _ hH
     refine⟨_,hu,slice_ne,fun w=>by simp[Builtin.lenOf],(List.range (n*s)).map fun j=>vs.getD (off+j) undef,?_,fun y hy=>?_,fun j hj=>?_,fun w hw=>?_⟩
     ·rw[hlen];simp
     ·simp only[List.mem_map,List.mem_range]at hy
      obtain⟨j,hj,rfl⟩:=hy
      exact(h5 (off+j) (by omega)).2
     ·have hj':j<n*s:=by rw[hlen]at hj;exact hj
      rw[List.getElem_take,List.getElem_drop]
      have:=(h5 (off+j) (by omega)).1
      simpa [List.getD,hj'] using this
     ·simp only[Builtin.firstCells]
      exact run_loadCells (P:=P) w _ (n*s) (fun j=>vs.getD (off+j) undef) fun j hj=>by
       rw[bT,cell_of_row w (C.i hh) (off+j) vs _ fz (by rw[hw];exact h1),bi (by omega)]
       exact Array.getElem?_eq_getElem (by omega)
   ·cases h
  ·cases h
 ·rename_i b hu
  simp only[Option.some.injEq,Prod.mk.injEq]at h
  obtain⟨rfl,rfl⟩:=h
  rw[bQ hx]
  refine⟨_,hu,u8_ne,fun w=>by simp[Builtin.lenOf],b.data.toList.map (fun x=>Value.int .u8 x.toNat),by simp[bw],fun u hu=>?_,fun j hj=>?_,fun w _=>?_⟩
  ·simp only[List.mem_map]at hu
   obtain⟨y,_,rfl⟩:=hu
   rfl
  ·have hj':j<b.data.size:=by simpa [bw] using hj
   have h2:b.data[j]? = some b.data[j]:=Array.getElem?_eq_getElem hj'
   simp[bw,List.getD,h2]
   exact .sc _
  ·have:b.extract 0 b.size=b:=by
    apply ByteArray.ext
    simp
   simp only[Builtin.firstCells,Sem.run_pure,this]
   congr 1
   apply Array.ext'
   simp
 ·cases h
theorem appendK_sound{d:Option Tmp}{s x:Operand}{t t':TypeId}{ty:TypeId}{ps:String}{af:Array Edge}{gd:Option (Nat × Bool)}{ρ:Operand→AV}{H:AH}{K:AV→AH→Prop}(h:cx P t t' (ρ s) (ρ x) H K):
    Eff P H ⟨d,.call ⟨.builtin .append,#[s,x],#[t,t']⟩,ty,ps,af,gd⟩ ρ K:=by
 refine cL fun C ρ' hCH g hx=>?_
 have hs:=hx s (by simp[Op.operands,Call.operands])
 have hxx:=hx x (by simp[Op.operands,Call.operands])
 unfold cx at h
 split at h
 ·rename_i e news m hu hsrc
  split at h
  ·rename_i k cells n hsk
   rw[hsk]at hs
   split at h
   ·rename_i o hH
    obtain⟨htok,⟨hk0,hcl,hnl,hpos,hT⟩,⟨h63,hby⟩,h⟩:=h
    obtain⟨dt,q1,q2,q3,nv,q4,q5,q6,q7⟩:=srcA_sound (P:=P) g (by rw[hCH];exact hsrc) hxx hnl hpos
    obtain⟨r,D,o',r1,r2,r3,r4,r5,r6⟩:=append_tok (P:=P) (ty:=ty) (t:=t) g hu hT hpos hs hk0 (by rw[hCH];exact hH) htok hcl q1 q2 q3 hnl q7 q4 q5 q6 h63 hby
    refine⟨.value r,r,D.w,by simp[execOp,resolve,invoke,builtin,r1],.inl rfl,_,D,?_,rfl,r4,r5,r6⟩
    rw[r2,hCH]
    exact h C.n o' (Nat.ne_of_gt g.pos) (by rw[←hCH];exact bh g) r3
   ·exact h.elim
  ·rename_i hsk
   rw[hsk]at hs
   have hsv:=bQ hs
   obtain⟨⟨hnl,hpos,hT⟩,⟨h63,hby⟩,h⟩:=h
   have gN:=g.nilt 0
   have eN:=Ext.nilt g 0
   have hnn:=bh g
   have hsN:VR ⟨C.H.set C.n .nilt,C.n+1,upd C.i C.n 0,upd C.c C.n 0,C.w⟩ (.imm C.n [] 0) (.slice none 0 0):=
    .imm C.n [] 0 none 0 (Nat.le_refl _) (Nat.zero_le _) (fun _=>⟨Nat.lt_succ_self _,by show 0=rm (upd C.c C.n 0 C.n);rw[bC0,rm_zero],.inr ⟨rfl,rfl⟩⟩) 0 0 (fun h=>absurd rfl h) (fun _=>undef) (fun j h=>absurd h (by simp)) (fun j h=>absurd h (by simp))
   obtain⟨dt,q1,q2,q3,nv,q4,q5,q6,q7⟩:=srcA_sound (P:=P) g (by rw[hCH];exact hsrc) hxx hnl hpos
   obtain⟨r,D,o',r1,r2,r3,r4,r5,r6⟩:=append_tok (P:=P) (ty:=ty) (t:=t) (o:=.nilt) gN hu hT hpos hsN (Nat.ne_of_gt g.pos) (by simp[AH.set]) (.inr ⟨(Nat.zero_mul _).symm,rfl⟩) (by simp) q1 q2 q3 hnl q7 q4 q5 (fun j hj=>(q6 j hj).ext eN) (by simpa using h63) (by simpa using hby)
   simp only[List.nil_append,Nat.zero_add]at r3 r6
   rw[ef hnn]at r2
   refine⟨.value r,r,D.w,by simp only[]at r1;simp[execOp,resolve,invoke,builtin,hsv,r1],.inl rfl,.imm (C.n+1) news m,D,?_,rfl,r4,eN.trans r5,r6⟩
   rw[r2,hCH]
   have:H (C.n+1)=none:=by
    cases hh:H (C.n+1) with
    |none=>rfl
    |some o=>rw[←hCH]at hh;have:=g.lt _ _ hh;omega
   exact h (C.n+1) o' (Nat.succ_ne_zero _) this r3
  ·exact h.elim
 ·exact h.elim
theorem storeK_sound{d:Option Tmp}{t:TypeId}{a x:Operand}{ty:TypeId}{ps:String}{af:Array Edge}{gd:Option (Nat × Bool)}{ρ:Operand→AV}{H:AH}{K:AV→AH→Prop}(h:storeK P t (ρ a) (ρ x) H K):
    Eff P H ⟨d,.store t a x,ty,ps,af,gd⟩ ρ K:=by
 refine cL fun C ρ' hCH g hx=>?_
 have ha:=hx a (by simp[Op.operands])
 have hxx:=hx x (by simp[Op.operands])
 unfold storeK at h
 split at h
 ·rename_i hh off hsa
  rw[hsa]at ha
  split at h
  ·rename_i cs e s hH
   obtain⟨⟨hT,hlen,hle,hf⟩,h⟩:=h
   have hcv:=hxx.cells hf
   obtain⟨w',r1,r2,r3⟩:=store_live (P:=P) g (by rw[hCH];exact hH) hcv (by rw[hlen];exact hle)
   generalize hv:ρ' a=u at ha
   cases ha with
   |ptr _ _ g1=>
    refine⟨.skip,undef,w',?_,.inr ⟨rfl,rfl⟩,.tup [],_,?_,rfl,r2,r3,VR.skipped⟩
    ·have hsz:(ρ' x).cells.size=ai0 P t:=hcv.1.trans hlen
     simp[execOp,hv,Instr.storeAt,Instr.sureAddr,storeVar,bD0 hT,hsz,r1]
    ·rw[←hCH]at h;exact h
  ·exact h.elim
 ·exact h.elim
theorem box_sound{d:Option Tmp}{t:TypeId}{x:Operand}{ty:TypeId}{ps:String}{af:Array Edge}{gd:Option (Nat × Bool)}{ρ:Operand→AV}{H:AH}{K:AV→AH→Prop}(hf:(ρ x).fine=true)
    (h:∀k,k≠0→H k=none→K (.ptr k 0) (H.set k (.cells (ρ x).cellsOf t (ρ x).cellsOf.length))):Eff P H ⟨d,.box t x,ty,ps,af,gd⟩ ρ K:=by
 refine cL fun C ρ' hCH g hx=>?_
 have hcv:=(hx x (by simp[Op.operands])).cells hf
 obtain⟨r1,r2⟩:=cells_new (e:=t) (s:=(ρ x).cellsOf.length) (c:=1) g hcv (by rw[hcv.1];omega)
 refine⟨.value (.pointer (some ⟨C.w.heap.size,0,none⟩)),_,_,?_,.inl rfl,.ptr C.n 0,_,?_,rfl,r1,r2,?_⟩
 ·simp[execOp,Instr.box,newVar,newRow]
 ·have:=h C.n (Nat.ne_of_gt g.pos) (by rw[←hCH];exact bh g)
  rw[←hCH]at this
  exact this
 ·have:=VR.ptr (C:=⟨C.H.set C.n (.cells (ρ x).cellsOf t (ρ x).cellsOf.length),C.n+1,upd C.i C.n C.w.heap.size,upd C.c C.n 1,C.w.alloc (.cells (ρ' x).cells t)⟩) C.n 0 (Nat.lt_succ_self _)
  simp only[bC0]at this
  exact this
theorem alloc_sound{d:Option Tmp}{t:TypeId}{ty:TypeId}{ps:String}{af:Array Edge}{gd:Option (Nat × Bool)}{ρ:Operand→AV}{H:AH}{K:AV→AH→Prop}(hT:ax P t=true)
    (h:∀k,k≠0→H k=none→K (.ptr k 0) (H.set k (.cells (ap P t) t (ap P t).length))):Eff P H ⟨d,.alloc t,ty,ps,af,gd⟩ ρ K:=by
 refine cL fun C ρ' hCH g hx=>?_
 have hcv:=dw (C:=C) hT
 obtain⟨r1,r2⟩:=cells_new (e:=t) (s:=(ap P t).length) (c:=1) g hcv (by rw[hcv.1];omega)
 refine⟨.value (.pointer (some ⟨C.w.heap.size,0,none⟩)),_,_,?_,.inl rfl,.ptr C.n 0,_,?_,rfl,r1,r2,?_⟩
 ·simp[execOp,Instr.alloc,cX0 hT,newVar,newRow]
 ·have:=h C.n (Nat.ne_of_gt g.pos) (by rw[←hCH];exact bh g)
  rw[←hCH]at this
  exact this
 ·have:=VR.ptr (C:=⟨C.H.set C.n (.cells (ap P t) t (ap P t).length),C.n+1,upd C.i C.n C.w.heap.size,upd C.c C.n 1,C.w.alloc (.cells (bk P t).cells t)⟩) C.n 0 (Nat.lt_succ_self _)
  simp only[bC0]at this
  exact this
theorem tail_new{C:Ctx}{cs:List AV}{vs:Array Value}{e:TypeId}{s n cap:Nat}(g:WR C)(hl:cs.length≤vs.size)(h1:∀j, j<cs.length→(vs.getD j undef).oneCell'=true)(hv:∀j (h:j<cs.length), VR C cs[j] (vs.getD j undef))
    (hs:vs.size=cap*s) (hn:n≤cap) (hm:cap≤maxLen):
    ∃D:Ctx,D.H=C.H.set C.n (.tail cs.length e s)∧D.w=C.w.alloc (.cells vs e)∧WR D∧Ext C D∧VR D (.imm C.n cs n) (.slice (some ⟨C.w.heap.size,0,none⟩) n cap):=by
 have ea:=Ext.add g (.tail cs.length e s) (.cells vs e) cap
 have ga:=WR.add g (.tail cs.length e s) (.cells vs e) cap (by
  refine⟨vs,(0,0),?_,.inl rfl,?_,by show pl (upd C.c C.n cap C.n)+_≤_;rw[bC0,qV hm,Nat.zero_add];exact hl⟩
  ·show(C.w.alloc (.cells vs e)).heap[upd C.i C.n C.w.heap.size C.n]? = _
   rw[bC0]
   exact heap_alloc_new _ _
  ·show vs.size=pl (upd C.c C.n cap C.n)+rm (upd C.c C.n cap C.n)*_
   rw[bC0,qV hm,rP hm,Nat.zero_add]
   exact hs)
 refine⟨_,rfl,rfl,ga,ea,?_⟩
 refine .imm C.n cs n _ _ hn hm (fun _=>⟨Nat.lt_succ_self _,?_,.inl ?_⟩) C.w.heap.size 0 (fun _=>rfl) (fun j=>vs.getD j undef) (fun j hj=>?_) (fun j hj=>(hv j hj).ext ea)
 ·show cap=rm (upd C.c C.n cap C.n)
  rw[bC0,rP hm]
 ·show(some ⟨C.w.heap.size,0,none⟩:Option Addr)=some ⟨upd C.i C.n C.w.heap.size C.n,pl (upd C.c C.n cap C.n),none⟩
  rw[bC0,bC0,qV hm]
 ·rw[Nat.zero_add]
  refine⟨?_,fun hw=>?_,h1 j hj⟩
  ·show(C.w.alloc (.cells vs e)).cell? ⟨C.w.heap.size,j,none⟩=_
   have hj2:j<vs.size:=by omega
   rw[World.cell?_alloc_new,bi hj2]
   exact Array.getElem?_eq_getElem hj2
  ·rcases Wr.of_add hw with h|⟨_,_,h⟩
   ·have:=Owned.lt g (Wr.owned h)
    simp at this
   ·have:=h _ _ _ rfl
    simp only[]at this
    omega
theorem makeK_sound{d:Option Tmp}{t:TypeId}{l c:Operand}{ty:TypeId}{ps:String}{af:Array Edge}{gd:Option (Nat × Bool)}{ρ:Operand→AV}{H:AH}{K:AV→AH→Prop}(h:makeK P t (aH l c) (ρ l) (ρ c) H K):
    Eff P H ⟨d,.makeSlice t l c,ty,ps,af,gd⟩ ρ K:=by
 refine cL fun C ρ' hCH g hx=>?_
 have hl:=hx l (by simp[Op.operands])
 have hc:=hx c (by simp[Op.operands])
 unfold makeK at h
 split at h
 ·rename_i e kl lv kc cv hu hlv hcv
  rw[hlv]at hl
  rw[hcv]at hc
  obtain⟨hT,⟨h0,hb,hm⟩,h⟩:=h
  obtain⟨ti,hti,s1,s2,s3,s4,s5⟩:=c90 hT
  have hz:=cz0 (C:=C) hT
  have hcn:(cv.toNat:Int)=cv:=Int.toNat_of_nonneg h0
  have hm':cv≤9223372036854775807:=by unfold maxLen at hm;omega
  have hb':(ti.bytes:Int)*cv≤281474976710656:=by rw[s2];exact hb
  have hmk:=madeCells_eq (P:=P) (e:=e) (n:=cv.toNat) s4
  have hrep:0<ai0 P e→Cells C (aQ (aq P e) cv.toNat) (madeCells (bk P e).cells (cv.toNat*ai0 P e)):=fun hp=>by
   rw[hmk];exact kD0 hz (by omega) _
  have hrep0:ai0 P e=0→Cells C (aQ (aq P e) cv.toNat) (madeCells (bk P e).cells (cv.toNat*ai0 P e)):=fun hp=>by
   have e1:aq P e=[]:=List.eq_nil_of_length_eq_zero (by rw[←hz.1,s4,hp])
   have e2:∀n,aQ ([]:List AV) n=[]:=by intro n;induction n with|zero=>rfl|succ n ih=>simp[aQ,ih]
   rw[e1,e2,hp]
   exact⟨by simp[madeCells],fun j hj=>absurd hj (by simp[madeCells]),fun j hj=>absurd hj (by simp)⟩
  have hrepA:Cells C (aQ (aq P e) cv.toNat) (madeCells (bk P e).cells (cv.toNat*ai0 P e)):=by
   rcases Nat.eq_zero_or_pos (ai0 P e) with hp|hp
   ·exact hrep0 hp
   ·exact hrep hp
  split at h
  ·obtain⟨hlc,h⟩:=h
   subst hlc
   have hr:=run_make (P:=P) C.w t e ti (bk P e) hu hti s3 kl kc lv lv h0 (Int.le_refl _) hb' hm'
   rw[s1]at hr
   obtain⟨r1,r2⟩:=cells_new (e:=e) (s:=ai0 P e) (c:=lv.toNat) g hrepA (by simp[madeCells])
   refine⟨.value (.slice (some ⟨C.w.heap.size,0,none⟩) lv.toNat lv.toNat),_,_,?_,.inl rfl,.own C.n 0 lv.toNat,_,?_,rfl,r1,r2,?_⟩
   ·simp only[execOp,bQ hl,bQ hc,Sem.run_bind,hr,Result.andThen_ok,Sem.run_pure]
   ·have:=h C.n (Nat.ne_of_gt g.pos) (by rw[←hCH];exact bh g)
    rw[←hCH]at this
    exact this
   ·have:=VR.own (C:=⟨C.H.set C.n (.cells (aQ (aq P e) lv.toNat) e (ai0 P e)),C.n+1,upd C.i C.n C.w.heap.size,upd C.c C.n lv.toNat,C.w.alloc (.cells (madeCells (bk P e).cells (lv.toNat*ai0 P e)) e)⟩) C.n 0 lv.toNat lv.toNat (Nat.lt_succ_self _) (Nat.le_refl _) (by omega) (fun _=>by show lv.toNat=upd C.c C.n lv.toNat C.n;rw[bC0])
    simp only[bC0]at this
    exact this
  ·obtain⟨hl0,h⟩:=h
   subst hl0
   have hr:=run_make (P:=P) C.w t e ti (bk P e) hu hti s3 kl kc 0 cv (Int.le_refl _) h0 hb' hm'
   rw[s1]at hr
   obtain⟨D,d1,d2,d3,d4,d5⟩:=tail_new (cs:=[]) (vs:=madeCells (bk P e).cells (cv.toNat*ai0 P e)) (e:=e) (s:=ai0 P e) (n:=0) (cap:=cv.toNat) g (Nat.zero_le _) (fun j h=>absurd h (by simp)) (fun j h=>absurd h (by simp)) (by simp[madeCells]) (Nat.zero_le _) (by omega)
   refine⟨.value (.slice (some ⟨C.w.heap.size,0,none⟩) 0 cv.toNat),_,_,?_,.inl rfl,.imm C.n [] 0,D,?_,d2,d3,d4,d5⟩
   ·simp only[execOp,bQ hl,bQ hc,Sem.run_bind,hr,Result.andThen_ok,Sem.run_pure,Int.toNat_zero]
   ·have:=h C.n (Nat.ne_of_gt g.pos) (by rw[←hCH];exact bh g)
    rw[d1,hCH]
    exact this
 ·exact h.elim
theorem baseK_sound{d:Option Tmp}{t:TypeId}{n:Nat}{parts:Array (Nat × Operand)}{ty:TypeId}{ps:String}{af:Array Edge}{gd:Option (Nat × Bool)}{ρ:Operand→AV}{H:AH}{K:AV→AH→Prop}
    (h:baseK P t n (parts.toList.map fun p=>(p.1,(ρ p.2).strip)) H K):Eff P H ⟨d,.buildSlice t n parts,ty,ps,af,gd⟩ ρ K:=by
 refine cL fun C ρ' hCH g hx=>?_
 unfold baseK at h
 split at h
 ·rename_i e hu
  obtain⟨⟨ht,hlt,hpos⟩,h⟩:=h
  split at h
  ·rename_i cs hcs
   obtain⟨p1,p2⟩:=parts_rel (C:=C) (ρ:=fun x=>(ρ x).strip) (ρ':=ρ') (parts:=parts) fun x hx'=>(hx x hx').strip
   have hzc:=cz0 (C:=C) ht
   have hzs:(bk P e).cells.size=ai0 P e:=by obtain⟨i,_,_,_,_,h4,_⟩:=c90 ht;exact h4
   have hrep:=kD0 hzc (by omega) n
   obtain⟨vs',e1,e2⟩:=dE0 _ _ _ cs _ hrep p1 p2 hcs
   have hvs:vs'.size=n*ai0 P e:=by
    have hk:∀(pv:List (Nat × Value)) (a b:Array Value),Instr.fill (fun i=>some (i*ai0 P e,ai0 P e)) a pv=some b→b.size=a.size:=by
     intro pv
     induction pv with
     |nil=>intro a b hb;simp only[Instr.fill,Option.some.injEq]at hb;rw[hb]
     |cons p pv ih=>
      intro a b hb
      obtain⟨i,v⟩:=p
      simp only[Instr.fill]at hb
      split at hb
      ·cases hb
      ·rename_i hc
       rw[ih _ _ hb]
       simp only[Bool.or_eq_true,decide_eq_true_eq,not_or]at hc
       exact(de _ _ _ (by omega)).1
    rw[hk _ _ _ e1]
    simp[hzs]
   obtain⟨D,d1,d2,d3,d4,d5⟩:=tail_new (cs:=cs) (vs:=vs') (e:=e) (s:=ai0 P e) (n:=n) (cap:=n) g (by rw[e2.1];exact Nat.le_refl _) (fun j hj=>e2.2.1 j (by rw[e2.1];exact hj)) e2.2.2 hvs (Nat.le_refl n) (by
    have:n*1≤n*ai0 P e:=Nat.mul_le_mul_left _ hpos
    unfold maxLen;omega)
   refine⟨.value (.slice (some ⟨C.w.heap.size,0,none⟩) n n),_,_,?_,.inl rfl,.imm C.n cs n,D,?_,d2,d3,d4,d5⟩
   ·have hlt':¬(16777216<n*ai0 P e):=by omega
    have e0:(parts.map fun(i,x)=>(i,ρ' x))=(parts.toList.map fun p=>(p.1,ρ' p.2)).toArray:=by apply Array.ext';simp
    rw[hzs]at e1
    simp only[execOp,e0,Sem.run_bind]
    by_cases hn0:n*ai0 P e=0
    ·have hn:n=0:=by
      rcases Nat.mul_eq_zero.1 hn0 with h|h<;>omega
     subst hn
     simp only[Nat.zero_mul]at e1
     simp[Instr.buildSlice,run_underlying hu,bD0 ht,newRow]
     have e3:Instr.fill (fun i=>some (i*ai0 P e,ai0 P e)) #[] (parts.toList.map fun p=>(p.1,ρ' p.2))=some vs':=by simpa [Array.range_zero'] using e1
     simp[Array.range_zero',e3]
    ·simp[Instr.buildSlice,run_underlying hu,bD0 ht,hlt',hn0,cX0 ht,newRow]
     have e3:Instr.fill (fun i=>some (i*ai0 P e,ai0 P e)) ((Array.range (n*ai0 P e)).map fun x=>(bk P e).cells[x % ai0 P e]!) (parts.toList.map fun p=>(p.1,ρ' p.2))=some vs':=e1
     simp[hzs]at e3 ⊢
     simp[e3]
   ·have:=h C.n (Nat.ne_of_gt g.pos) (by rw[←hCH];exact bh g)
    rw[d1,hCH]
    exact this
  ·exact h.elim
 ·exact h.elim
theorem own_fresh{C:Ctx}(g:WR C){A:Option Addr}{n cap:Nat}{cells:List AV}{t t' ty e:TypeId}(ht:P.underlying t=some (.slice e))(hT:ax P e=true)
    (hcl:cells.length=n*ai0 P e) {ov:List Value} (o1:ov.length=cells.length) (o2:∀u∈ov,u.oneCell'=true) (o3:∀j (h:j<cells.length),VR C cells[j] (ov.getD j undef))
    (o4:(Builtin.firstCells (ai0 P e) n (.slice A n cap)).run P C.w.drew=.ok ov.toArray C.w.drew)
    {xv:Value} {m:Nat} {news:List AV} {nv:List Value} {dt:TypeDesc} (ht':P.underlying t'=some dt) (hdt:∀kk,dt ≠ .int kk) (hlen:∀w,(Builtin.lenOf xv).run P w=.ok m w) (hnl:news.length=m*ai0 P e)
    (hfirst:∀w,w.heap=C.w.heap→(Builtin.firstCells (ai0 P e) m xv).run P w=.ok nv.toArray w)
    (hnv:nv.length=news.length) (h1:∀u∈nv,u.oneCell'=true) (hv:∀j (h:j<news.length),VR C news[j] (nv.getD j undef))
    (h63:n+m≤maxLen) (hby:(n+m)*ay P e≤140737488355328) (hneed:cap<n+m):
    ∃r D,(Builtin.append_ #[t,t'] ty #[.slice A n cap,xv]).run P C.w=.ok r D.w∧D.H=C.H.set C.n (.cells (cells++news) e (ai0 P e))∧WR D∧Ext C D∧VR D (.own C.n 0 (n+m)) r:=by
 obtain⟨ti,hti,s1,s2,s3,s4,s5⟩:=c90 hT
 have hf:=hfirst C.w.drew rfl
 have hge:=grownCap_ge C.w (n+m) cap e
 have hle:=grownCap_le_maxLen C.w (n+m) cap e h63
 have eh:=Ext.heap (C:=C) C.w.drew rfl rfl rfl rfl
 have gh:=g.heap C.w.drew rfl rfl rfl rfl
 have hz:=cz0 (C:=C) hT
 have hzs:(bk P e).cells.size=ai0 P e:=s4
 have hllen:(cells++news).length=(n+m)*ai0 P e:=by rw[List.length_append,hcl,hnl,Nat.add_mul]
 have hrow:((ov.toArray++nv.toArray++Builtin.zeroCells (bk P e).cells (grownCap C.w (n+m) cap e-(n+m))):Array Value).size=grownCap C.w (n+m) cap e*ai0 P e:=by
  simp only[Array.size_append,List.size_toArray,size_zeroCells,hzs,o1,hnv,hcl,hnl,←Nat.add_mul]
  congr 1
  omega
 have hnot:¬(n+m≤cap):=by omega
 have h63':¬((9223372036854775807:Int)<(n:Int)+(m:Int)):=by unfold maxLen at h63;omega
 have hgrow:=growslice_fits hneed hby
 have h48:¬(281474976710656<Builtin.nextslicecap (n+m) cap*ay P e):=by omega
 have hget:∀j,j<(cells++news).length→((ov.toArray++nv.toArray++Builtin.zeroCells (bk P e).cells (grownCap C.w (n+m) cap e-(n+m))):Array Value).getD j undef=(ov++nv).getD j undef:=by
  intro j hj
  have hj':j<ov.length+nv.length:=by rw[o1,hnv];rw[List.length_append]at hj;exact hj
  rw[cJ]
  simp only[Array.toList_append,List.getD]
  rw[List.getElem?_append_left (by simpa using hj')]
 have hlenR:(cells++news).length≤((ov.toArray++nv.toArray++Builtin.zeroCells (bk P e).cells (grownCap C.w (n+m) cap e-(n+m))):Array Value).size:=by
  rw[hrow,hllen]
  exact Nat.mul_le_mul_right _ hge
 have hone:∀j,j<(cells++news).length→((ov++nv).getD j undef).oneCell'=true:=by
  intro j hj
  have hj':j<(ov++nv).length:=by rw[List.length_append,o1,hnv,←List.length_append];exact hj
  rw[List.getD,List.getElem?_eq_getElem hj']
  have hmem:=List.getElem_mem hj'
  rcases List.mem_append.1 hmem with h|h
  ·exact o2 _ h
  ·exact h1 _ h
 have hrel:∀j (h:j<(cells++news).length),VR C (cells++news)[j] ((ov++nv).getD j undef):=by
  intro j hj
  by_cases hlt:j<cells.length
  ·rw[List.getElem_append_left hlt,eS0 (by omega)]
   exact o3 j hlt
  ·rw[List.getElem_append_right (by omega),eF0 (by omega),o1]
   exact hv _ _
 generalize hvs:(ov.toArray++nv.toArray++Builtin.zeroCells (bk P e).cells (grownCap C.w (n+m) cap e-(n+m)):Array Value)=vs at *
 have ea:=Ext.add gh (.cells (cells++news) e (ai0 P e)) (.cells vs e) (grownCap C.w (n+m) cap e)
 have eD:=eh.trans ea
 have hobj:ObjR ⟨C.H.set C.n (.cells (cells++news) e (ai0 P e)),C.n+1,upd C.i C.n C.w.drew.heap.size,upd C.c C.n (grownCap C.w (n+m) cap e),C.w.drew.alloc (.cells vs e)⟩ C.n (.cells (cells++news) e (ai0 P e)):=by
  refine⟨vs,(0,0),?_,fun off _=>by simp,?_,hlenR,fun j hj=>?_⟩
  ·show(C.w.drew.alloc (.cells vs e)).heap[upd C.i C.n C.w.drew.heap.size C.n]? = _
   rw[bC0]
   exact heap_alloc_new _ _
  ·show vs.size=upd C.c C.n (grownCap C.w (n+m) cap e) C.n*_
   rw[bC0]
   exact hrow
  ·rw[hget j hj]
   exact⟨(hrel j hj).ext eD,hone j hj⟩
 have ga:=WR.add gh (.cells (cells++news) e (ai0 P e)) (.cells vs e) (grownCap C.w (n+m) cap e) hobj
 refine⟨.slice (some ⟨C.w.heap.size,0,none⟩) (n+m) (grownCap C.w (n+m) cap e),_,?_,rfl,ga,eD,?_⟩
 ·simp[Builtin.append_,run_underlying ht,run_underlying ht',bD0 hT,hlen,hnot,h63',typeInfo,hti,s2,h48,Question.forced]
  simp only[grownCap]at *
  simp[o4,hf,cX0 hT,newRow]
  rw[←hvs,Array.append_assoc]
 ·have:=VR.own (C:=⟨C.H.set C.n (.cells (cells++news) e (ai0 P e)),C.n+1,upd C.i C.n C.w.drew.heap.size,upd C.c C.n (grownCap C.w (n+m) cap e),C.w.drew.alloc (.cells vs e)⟩) C.n 0 (n+m) (grownCap C.w (n+m) cap e) (Nat.lt_succ_self _) hge hle (fun _=>by show _=upd C.c C.n _ C.n;rw[bC0])
  have e2:(⟨C.H.set C.n (.cells (cells++news) e (ai0 P e)),C.n+1,upd C.i C.n C.w.drew.heap.size,upd C.c C.n (grownCap C.w (n+m) cap e),C.w.drew.alloc (.cells vs e)⟩:Ctx).i C.n=C.w.heap.size:=bC0
  rw[e2]at this
  exact this
theorem own_room{C:Ctx}(g:WR C){k n:Nat}{cs:List AV}{e:TypeId}{s:Nat}(ho:C.H k=some (.cells cs e s))(hn:n*s≤cs.length)
    {news:List AV} {nv:List Value} {m:Nat} (hnl:news.length=m*s) (hnv:nv.length=news.length) (h1:∀v∈nv,v.oneCell'=true) (hv:∀j (h:j<news.length),VR C news[j] (nv.getD j undef)) (hfit:n+m≤C.c k):
    ∃w',(storeCells ⟨C.i k,n*s,none⟩ nv).run P C.w=.ok () w'∧WR ⟨C.H.set k (.cells (cs.take (n*s)++news) e s),C.n,C.i,C.c,w'⟩∧Ext C ⟨C.H.set k (.cells (cs.take (n*s)++news) e s),C.n,C.i,C.c,w'⟩:=by
 obtain⟨vs,fz,b1,b2,b3,b4,b5⟩:=g.obj k _ ho
 have hmul:n*s+m*s≤vs.size:=by rw[b3,←Nat.add_mul];exact Nat.mul_le_mul_right _ hfit
 have hrun:=bu (P:=P) (C.i k) (n*s) e fz nv 0 vs C.w b1 b2.off (by omega) h1
 simp only[Nat.add_zero]at hrun
 have hb:∀b,b≠C.i k→(C.w.setRow (C.i k) (vs.toList.take (n*s)++nv++vs.toList.drop (n*s+nv.length)).toArray).heap[b]? = C.w.heap[b]?:=fun b hb=>setRow_other _ _ _ _ hb
 have hnt:∀m e' s',AObj.cells cs e s ≠ .tail m e' s':=by intro _ _ _ h;cases h
 have ex:=Ext.put g ho (o':=.cells (cs.take (n*s)++news) e s) rfl (C.w.setRow (C.i k) (vs.toList.take (n*s)++nv++vs.toList.drop (n*s+nv.length)).toArray) (by simp) hb rfl rfl rfl hnt
 refine⟨_,hrun,?_,ex⟩
 refine WR.put g ho (o':=.cells (cs.take (n*s)++news) e s) rfl _ (by simp) hb rfl rfl rfl hnt ?_
 have hsize:(vs.toList.take (n*s)++nv++vs.toList.drop (n*s+nv.length)).toArray.size=vs.size:=by simp;omega
 have hlt:(cs.take (n*s)).length=n*s:=by rw[List.length_take];omega
 refine⟨_,fz,setRow_heap _ _ _ _ _ _ b1,by rw[hsize];exact b2,by rw[hsize];exact b3,by rw[hsize,List.length_append,hlt,hnl];exact hmul,fun j hj=>?_⟩
 rw[List.length_append,hlt]at hj
 have hseg:=seg_get vs.toList (n*s) nv (by simp;omega) j
 rw[cJ]
 simp only[]at hseg ⊢
 rw[hseg]
 by_cases hj1:j<n*s
 ·rw[if_neg (by omega),List.getElem_append_left (by omega),List.getElem_take,←cJ]
  have:=b5 j (by omega)
  exact⟨this.1.ext ex,this.2⟩
 ·have hjn:j-n*s<nv.length:=by omega
  rw[if_pos (by omega),List.getElem_append_right (by omega)]
  have e1:nv[j-n*s]?.getD undef=nv.getD (j-n*s) undef:=by simp[List.getD]
  rw[e1]
  have e2:=hv (j-n*s) (by omega)
  have e3:news[j-(cs.take (n*s)).length]'(by omega)=news[j-n*s]'(by omega):=by congr 1;omega
  rw[e3]
  refine⟨e2.ext ex,h1 _ ?_⟩
  rw[List.getD,List.getElem?_eq_getElem hjn]
  exact List.getElem_mem _
theorem set_kill_same{H:AH}{k:Nat}{o:AObj}:(H.kill k).set k o=H.set k o:=by
 funext j
 simp only[AH.set,AH.kill]
 split<;>rfl
theorem ownK_sound{d:Option Tmp}{s x:Operand}{t t':TypeId}{ty:TypeId}{ps:String}{af:Array Edge}{gd:Option (Nat × Bool)}{ρ:Operand→AV}{H:AH}{K:AV→AH→Prop}(h:ownK P t t' (ρ s) (ρ x) H K):
    Eff P H ⟨d,.call ⟨.builtin .append,#[s,x],#[t,t']⟩,ty,ps,af,gd⟩ ρ K:=by
 refine cL fun C ρ' hCH g hx=>?_
 have hs:=hx s (by simp[Op.operands,Call.operands])
 have hxx:=hx x (by simp[Op.operands,Call.operands])
 unfold ownK at h
 split at h
 case h_2=>exact h.elim
 rename_i e news m hu hsrc
 obtain⟨⟨hnl,hpos,hT⟩,h⟩:=h
 obtain⟨dt,q1,q2,q3,nv,q4,q5,q6,q7⟩:=srcA_sound (P:=P) g (by rw[hCH];exact hsrc) hxx hnl hpos
 split at h
 ·rename_i k n hsk
  rw[hsk]at hs
  split at h
  case h_2=>exact h.elim
  rename_i cs e' s' hH
  obtain⟨⟨rfl,rfl,hle⟩,⟨h63,hby⟩,h⟩:=h
  generalize hsv:ρ' s=v at hs
  cases hs with
  |own _ _ _ cap g1 g2 g3 g4=>
  have hcap:=g4 rfl
  have hH':C.H k=some (.cells cs e' (ai0 P e')):=by rw[hCH];exact hH
  by_cases hroom:n+m≤cap
  ·obtain⟨w',r1,r2,r3⟩:=own_room (P:=P) g hH' hle hnl q4 q5 q6 (by omega)
   have hf:=q7 C.w rfl
   refine⟨.value (.slice (some ⟨C.i k,0,none⟩) (n+m) cap),.slice (some ⟨C.i k,0,none⟩) (n+m) cap,w',?_,.inl rfl,.own k 0 (n+m),_,?_,rfl,r2,r3,?_⟩
   ·simp[execOp,resolve,invoke,builtin,hsv,Builtin.append_,run_underlying hu,run_underlying q1,bD0 hT,q3,hroom,hf,bT,r1]
   ·have:=h k (.inl rfl)
    rw[set_kill_same,←hCH]at this
    exact this
   ·exact VR.own (C:=⟨C.H.set k (.cells (cs.take (n*ai0 P e')++news) e' (ai0 P e')),C.n,C.i,C.c,w'⟩) k 0 (n+m) cap g1 hroom g3 (fun _=>hcap)
  ·obtain⟨vs,fz,b1,b2,b3,b4,b5⟩:=g.obj k _ hH'
   have hlt:(cs.take (n*ai0 P e')).length=n*ai0 P e':=by rw[List.length_take];omega
   obtain⟨r,D,r1,r2,r3,r4,r5⟩:=own_fresh (P:=P) (ty:=ty) (t:=t) (t':=t') g (A:=some ⟨C.i k,0,none⟩) (n:=n) (cap:=cap) (cells:=cs.take (n*ai0 P e')) hu hT hlt
    (ov:=(List.range (n*ai0 P e')).map fun j=>vs.getD j undef) (by rw[hlt];simp) (fun y hy=>by
     simp only[List.mem_map,List.mem_range]at hy
     obtain⟨j,hj,rfl⟩:=hy
     exact(b5 j (by omega)).2) (fun j hj=>by
     have hj':j<n*ai0 P e':=by omega
     rw[List.getElem_take]
     have:=(b5 j (by omega)).1
     simpa [List.getD,hj'] using this) (by
     simp only[Builtin.firstCells]
     exact run_loadCells (P:=P) C.w.drew _ (n*ai0 P e') (fun j=>vs.getD j undef) fun j hj=>by
      rw[bT,Nat.zero_add,cell_of_row C.w.drew (C.i k) j vs _ fz b1,bi (by omega)]
      exact Array.getElem?_eq_getElem (by omega)) q1 q2 q3 hnl q7 q4 q5 q6 h63 hby (by omega)
   have hkn:k≠C.n:=by have:=g.lt k _ hH';omega
   have hsub:∀x o,((C.H.kill k).set C.n (.cells (cs.take (n*ai0 P e')++news) e' (ai0 P e'))) x=some o→D.H x=some o:=by
    intro x o hx
    rw[r2]
    simp only[AH.set,AH.kill]at hx ⊢
    split at hx
    ·rename_i hxe;rw[if_pos hxe];exact hx
    ·rename_i hxe
     rw[if_neg hxe]
     split at hx
     ·cases hx
     ·exact hx
   have ew:=Ext.weaken (C:=D) _ hsub
   refine⟨.value r,r,D.w,by simp[execOp,resolve,invoke,builtin,hsv,r1],.inl rfl,.own C.n 0 (n+m),{ D with H:=(C.H.kill k).set C.n (.cells (cs.take (n*ai0 P e')++news) e' (ai0 P e')) },?_,rfl,r3.weaken _ hsub,r4.trans ew,r5.ext ew⟩
   rw[hCH]
   exact h C.n (.inr ⟨Nat.ne_of_gt g.pos,by rw[←hCH];exact bh g⟩)
 ·rename_i hsk
  rw[hsk]at hs
  have hsv:=bQ hs
  obtain⟨⟨h63,hby⟩,h0,h1⟩:=h
  by_cases hm:m=0
  ·have hnn:nv=[]:=List.eq_nil_of_length_eq_zero (by rw[q4,hnl,hm,Nat.zero_mul])
   have hf:=q7 C.w rfl
   subst hnn
   refine⟨.value (.slice none 0 0),.slice none 0 0,C.w,?_,.inl rfl,.sc (.slice none 0 0),C,by rw[hCH];exact h0 hm,rfl,g,Ext.refl _,.sc _⟩
   subst hm
   simp[execOp,resolve,invoke,builtin,hsv,Builtin.append_,run_underlying hu,run_underlying q1,bD0 hT,q3,hf]
  ·obtain⟨r, D, r1, r2, r3, r4, r5⟩:=own_fresh (P:=P) (ty:=ty) (t:=t) (t':=t') g (A:=none) (n:=0) (cap:=0) (cells:=[]) hu hT (by simp) (ov:=[]) rfl (fun u hu=>absurd hu (by simp)) (fun j h=>absurd h (by simp))
    (by simp[Builtin.firstCells]) q1 q2 q3 hnl q7 q4 q5 q6 (by omega) (by rw[Nat.zero_add];exact hby) (by omega)
   refine⟨.value r,r,D.w,by simp[execOp,resolve,invoke,builtin,hsv,r1],.inl rfl,.own C.n 0 (0+m),D,?_,rfl,r3,r4,r5⟩
   rw[r2,hCH,Nat.zero_add]
   exact h1 (by omega) C.n (Nat.ne_of_gt g.pos) (by rw[←hCH];exact bh g)
 ·exact h.elim
theorem strTy_spec{P:Program}{st:TypeId}(h:strTy P=some st):P.underlying st=some .string:=by
 have h2:=List.find?_some h
 split at h2
 ·assumption
 ·cases h2
set_option linter.unusedSimpArgs false in
theorem append_noughts{t t' st ty e:TypeId}{k kk:IntKind}(ht:P.underlying t=some (.slice e))(ht':P.underlying t'=some (.int k))(hst:P.underlying st=some .string)(hT:ax P e=true)(hz:bk P e=.int .u8 0)
    {n cap:Nat} {m:Int} (A:Option Addr) (h0:0≤m) (hm:m<9223372036854775808) (h63:n+m.toNat≤maxLen) (hby:(n+m.toNat)*ay P e≤140737488355328) (w:World):
    (Builtin.append_ #[t,t'] ty #[.slice A n cap,.int kk m]).run P w=(Builtin.append_ #[t,st] ty #[.slice A n cap,.string (co0 m.toNat)]).run P w:=by
 obtain⟨l,rfl⟩:∃l:Nat,m=l:=⟨m.toNat,by omega⟩
 simp only[Int.toNat_natCast]at *
 have hsz:ai0 P e=1:=by
  obtain⟨i,h1,h2,h3,h4,h5,_⟩:=c90 hT
  rw[←h5,hz];rfl
 have hw:IntKind.i64.wrap (l:Int)=l:=by rw[IntKind.wrap_i64];omega
 obtain⟨ti,hti,s1,s2,s3,s4,s5⟩:=c90 hT
 have hby2:l*ay P e≤140737488355328:=Nat.le_trans (Nat.mul_le_mul_right _ (Nat.le_add_left _ _)) hby
 have hb1:¬((281474976710656:Int)<(l:Int)*(ay P e:Int)):=by
  have h1:((l*ay P e:Nat):Int)≤((140737488355328:Nat):Int):=Int.ofNat_le.2 hby2
  rw[Int.natCast_mul]at h1
  have h2:((140737488355328:Nat):Int)=140737488355328:=rfl
  rw[h2]at h1
  exact fun h=>absurd (Int.lt_of_lt_of_le h h1) (by decide)
 have hl0:¬((l:Int)<0):=by omega
 have hsize:(co0 l).size=l:=by simp[co0,ByteArray.size]
 have hcl:(Value.int .u8 0).cells = #[.int .u8 0]:=rfl
 have hez:(Builtin.zeroCells #[.int .u8 0] l).toList=List.replicate l (.int .u8 0):=by
  apply List.ext_getElem
  ·simp[Builtin.zeroCells]
  ·intro i h1 h2
   simp[Builtin.zeroCells,Nat.mod_one]
 have hex:List.map (fun b:UInt8=>Value.int .u8 b.toNat) (co0 l).data.toList=(Builtin.zeroCells #[.int .u8 0] l).toList:=by
  rw[hez]
  simp[co0]
 have hxa:Array.map (fun b:UInt8=>Value.int .u8 b.toNat) (co0 l).data=Builtin.zeroCells #[.int .u8 0] l:=by
  apply Array.ext'
  rw[←hex];simp
 have hxt:List.take l (Builtin.zeroCells #[.int .u8 0] l).toList=(Builtin.zeroCells #[.int .u8 0] l).toList:=List.take_of_length_le (by rw[hez];simp)
 have hxe:(Builtin.zeroCells #[.int .u8 0] l).extract 0 l=Builtin.zeroCells #[.int .u8 0] l:=by
  apply Array.ext'
  simp[hxt]
 have hz0:Builtin.zeroCells #[.int .u8 0] 0 = #[]:=by simp[Builtin.zeroCells]
 have h63':¬((9223372036854775807:Int)<(n:Int)+(l:Int)):=by unfold maxLen at h63;omega
 by_cases hroom:n+l≤cap
 ·simp[Builtin.append_,run_underlying ht,run_underlying ht',run_underlying hst,bD0 hT,asInt,asIntOf,hw,hl0,typeInfo,hti,s2,hb1,Builtin.lenOf,hsize,hroom,hsz,Builtin.firstCells,hex,hxa,hxt,hxe,hcl,cX0 hT,hz]
  rcases Nat.eq_zero_or_pos l with rfl|hl
  ·simp[hz0]
  ·have hl':¬l=0:=by omega
   simp[hl']
 ·have hgrow:=growslice_fits (by omega:cap<n+l) hby
  have h48:¬(281474976710656<Builtin.nextslicecap (n+l) cap*ay P e):=by omega
  simp[Builtin.append_,run_underlying ht,run_underlying ht',run_underlying hst,bD0 hT,asInt,asIntOf,hw,hl0,typeInfo,hti,s2,hb1,Builtin.lenOf,hsize,hroom,hsz,Builtin.firstCells,hex,hxa,hxt,hxe,hcl,cX0 hT,hz,h63',h48]
  rcases Nat.eq_zero_or_pos l with rfl|hl
  ·simp[hz0]
  ·have hl':¬l=0:=by omega
   simp[hl']
def otherThan:Operand→Operand
 |.tmp t=>.tmp (t+1)
 |_=>.tmp 0
theorem otherThan_ne(s:Operand):s≠otherThan s:=by
 cases s<;>simp[otherThan]
theorem noughts_sound{d:Option Tmp}{s x:Operand}{t t' st e:TypeId}{ty:TypeId}{ps:String}{af:Array Edge}{gd:Option (Nat × Bool)}{ρ:Operand→AV}{H:AH}{K:AV→AH→Prop}{k kk:IntKind}{n:Nat}{m:Int}
    (ht:P.underlying t=some (.slice e)) (ht':P.underlying t'=some (.int k)) (hst:P.underlying st=some .string) (hT:ax P e=true) (hz:bk P e=.int .u8 0) (hs:lenS (ρ s)=some n) (hx:ρ x=.sc (.int kk m))
    (h0:0≤m) (hm:m<9223372036854775808) (h63:n+m.toNat≤maxLen) (hby:(n+m.toNat)*ay P e≤140737488355328)
    (h:∀(y:Operand) (ρ2:Operand→AV),ρ2 s=ρ s→ρ2 y=.sc (.string (co0 m.toNat))→Eff P H ⟨d,.call ⟨.builtin .append,#[s,y],#[t,st]⟩,ty,ps,af,gd⟩ ρ2 K):
    Eff P H ⟨d,.call ⟨.builtin .append,#[s,x],#[t,t']⟩,ty,ps,af,gd⟩ ρ K:=by
 classical
 intro n' i c w ρ' g hv
 have hsv:=hv s (by simp[Op.operands,Call.operands])
 have hxv:=hv x (by simp[Op.operands,Call.operands])
 have hne:=otherThan_ne s
 generalize otherThan s=y at hne
 have h2:=h y (fun o=>if o=y then .sc (.string (co0 m.toNat)) else ρ o) (by simp[hne]) (by simp) n' i c w (fun o=>if o=y then .string (co0 m.toNat) else ρ' o) g (by
  intro o ho
  by_cases he:o=y
  ·simp only[he,if_true];exact .sc _
  ·simp only[he,if_false]
   have:o=s:=by
    simp[Op.operands,Call.operands]at ho
    rcases ho with h|h
    ·exact h
    ·exact(he h).elim
   rw[this];exact hsv)
 rw[hx]at hxv
 have hxe:=bQ hxv
 obtain⟨A,cap,hse⟩:∃A cap,ρ' s=.slice A n cap:=by
  generalize ρ s=a at hs hsv
  unfold lenS at hs
  split at hs
  ·cases hs;generalize ρ' s=v at hsv;cases hsv;exact⟨_,_,rfl⟩
  ·cases hs;generalize ρ' s=v at hsv;cases hsv;exact⟨_,_,rfl⟩
  ·cases hs;exact⟨_,_,bQ hsv⟩
  ·cases hs
 have e:=append_noughts (ty:=ty) (n:=n) (cap:=cap) (kk:=kk) ht ht' hst hT hz A h0 hm h63 hby w
 have e2:(execOp ρ' ⟨d,.call ⟨.builtin .append,#[s,x],#[t,t']⟩,ty,ps,af,gd⟩).run P w=(execOp (fun o=>if o=y then .string (co0 m.toNat) else ρ' o) ⟨d,.call ⟨.builtin .append,#[s,y],#[t,st]⟩,ty,ps,af,gd⟩).run P w:=by
  simp[execOp,resolve,invoke,builtin,hse,hxe,hne,e]
 rw[e2]
 exact h2
theorem own3K_sound{d:Option Tmp}{s x:Operand}{t t':TypeId}{ty:TypeId}{ps:String}{af:Array Edge}{gd:Option (Nat × Bool)}{ρ:Operand→AV}{H:AH}{K:AV→AH→Prop}(h:own3K P (P.underlying t') (ρ s) (ρ x) t t' H K):
    Eff P H ⟨d,.call ⟨.builtin .append,#[s,x],#[t,t']⟩,ty,ps,af,gd⟩ ρ K:=by
 unfold own3K at h
 split at h
 ·rename_i k hu'
  split at h
  ·rename_i st p m hst hz
   obtain⟨hp,h⟩:=h
   unfold zerS at hz
   split at hz
   ·rename_i e k' n kk m' hu hk hs hx
    simp only[Option.some.injEq,Prod.mk.injEq]at hz
    obtain⟨rfl,rfl⟩:=hz
    obtain⟨h0,hm,⟨hT,hzz⟩,h63,hby⟩:=hp
    exact noughts_sound hu hu' (strTy_spec hst) hT hzz hs hx h0 hm h63 hby fun y ρ2 e1 e2=>ownK_sound (by rw[e1,e2];exact h)
   ·cases hz
  ·exact h.elim
 ·exact ownK_sound h
theorem app3K_sound{d:Option Tmp}{s x:Operand}{t t':TypeId}{ty:TypeId}{ps:String}{af:Array Edge}{gd:Option (Nat × Bool)}{ρ:Operand→AV}{H:AH}{K:AV→AH→Prop}(h:kP P (P.underlying t') (ρ s) (ρ x) t t' H K):
    Eff P H ⟨d,.call ⟨.builtin .append,#[s,x],#[t,t']⟩,ty,ps,af,gd⟩ ρ K:=by
 unfold kP at h
 split at h
 ·rename_i k hu'
  split at h
  ·rename_i st p m hst hz
   obtain⟨hp,h⟩:=h
   unfold zerS at hz
   split at hz
   ·rename_i e k' n kk m' hu hk hs hx
    simp only[Option.some.injEq,Prod.mk.injEq]at hz
    obtain⟨rfl,rfl⟩:=hz
    obtain⟨h0,hm,⟨hT,hzz⟩,h63,hby⟩:=hp
    exact noughts_sound hu hu' (strTy_spec hst) hT hzz hs hx h0 hm h63 hby fun y ρ2 e1 e2=>appendK_sound (by rw[e1,e2];exact h)
   ·cases hz
  ·exact h.elim
 ·exact appendK_sound h
theorem rowK_sound{d:Option Tmp}{t:TypeId}{n:Nat}{parts:Array (Nat × Operand)}{ty:TypeId}{ps:String}{af:Array Edge}{gd:Option (Nat × Bool)}{ρ:Operand→AV}{H:AH}{K:AV→AH→Prop}
    (h:rowK P t n (parts.toList.map fun p=>(p.1,(ρ p.2).strip)) H K):Eff P H ⟨d,.buildSlice t n parts,ty,ps,af,gd⟩ ρ K:=by
 refine cL fun C ρ' hCH g hx=>?_
 unfold rowK at h
 split at h
 ·rename_i e hu
  obtain⟨⟨ht,hlt,hpos⟩,h⟩:=h
  split at h
  ·rename_i cs hcs
   obtain⟨p1,p2⟩:=parts_rel (C:=C) (ρ:=fun x=>(ρ x).strip) (ρ':=ρ') (parts:=parts) fun x hx'=>(hx x hx').strip
   have hzc:=cz0 (C:=C) ht
   have hzs:(bk P e).cells.size=ai0 P e:=by obtain⟨i,_,_,_,_,h4,_⟩:=c90 ht;exact h4
   have hrep:=kD0 hzc (by omega) n
   obtain⟨vs',e1,e2⟩:=dE0 _ _ _ cs _ hrep p1 p2 hcs
   have hvs:vs'.size=n*ai0 P e:=by
    have hk:∀(pv:List (Nat × Value)) (a b:Array Value),Instr.fill (fun i=>some (i*ai0 P e,ai0 P e)) a pv=some b→b.size=a.size:=by
     intro pv
     induction pv with
     |nil=>intro a b hb;simp only[Instr.fill,Option.some.injEq]at hb;rw[hb]
     |cons p pv ih=>
      intro a b hb
      obtain⟨i,v⟩:=p
      simp only[Instr.fill]at hb
      split at hb
      ·cases hb
      ·rename_i hc
       rw[ih _ _ hb]
       simp only[Bool.or_eq_true,decide_eq_true_eq,not_or]at hc
       exact(de _ _ _ (by omega)).1
    rw[hk _ _ _ e1]
    simp[hzs]
   have hmx:n≤maxLen:=by
    have:n*1≤n*ai0 P e:=Nat.mul_le_mul_left _ hpos
    unfold maxLen;omega
   obtain⟨d3,d4⟩:=cells_new (cs:=cs) (vs:=vs') (e:=e) (s:=ai0 P e) (c:=n) g e2 hvs
   refine⟨.value (.slice (some ⟨C.w.heap.size,0,none⟩) n n),_,_,?_,.inl rfl,.own C.n 0 n,_,?_,rfl,d3,d4,?_⟩
   ·have hlt':¬(16777216<n*ai0 P e):=by omega
    have e0:(parts.map fun(i,x)=>(i,ρ' x))=(parts.toList.map fun p=>(p.1,ρ' p.2)).toArray:=by apply Array.ext';simp
    rw[hzs]at e1
    simp only[execOp,e0,Sem.run_bind]
    by_cases hn0:n*ai0 P e=0
    ·have hn:n=0:=by
      rcases Nat.mul_eq_zero.1 hn0 with h|h<;>omega
     subst hn
     simp only[Nat.zero_mul]at e1
     simp[Instr.buildSlice,run_underlying hu,bD0 ht,newRow]
     have e3:Instr.fill (fun i=>some (i*ai0 P e,ai0 P e)) #[] (parts.toList.map fun p=>(p.1,ρ' p.2))=some vs':=by simpa [Array.range_zero'] using e1
     simp[Array.range_zero',e3]
    ·simp[Instr.buildSlice,run_underlying hu,bD0 ht,hlt',hn0,cX0 ht,newRow]
     have e3:Instr.fill (fun i=>some (i*ai0 P e,ai0 P e)) ((Array.range (n*ai0 P e)).map fun x=>(bk P e).cells[x % ai0 P e]!) (parts.toList.map fun p=>(p.1,ρ' p.2))=some vs':=e1
     simp[hzs]at e3 ⊢
     simp[e3]
   ·have:=h C.n (Nat.ne_of_gt g.pos) (by rw[←hCH];exact bh g)
    rw[←hCH]at this
    exact this
   ·have:=VR.own (C:=⟨C.H.set C.n (.cells cs e (ai0 P e)),C.n+1,upd C.i C.n C.w.heap.size,upd C.c C.n n,C.w.alloc (.cells vs' e)⟩) C.n 0 n n (Nat.lt_succ_self _) (Nat.le_refl _) hmx (fun _=>by show _=upd C.c C.n _ C.n;rw[bC0])
    have e3:(⟨C.H.set C.n (.cells cs e (ai0 P e)),C.n+1,upd C.i C.n C.w.heap.size,upd C.c C.n n,C.w.alloc (.cells vs' e)⟩:Ctx).i C.n=C.w.heap.size:=bC0
    rw[e3]at this
    exact this
  ·exact h.elim
 ·exact h.elim
theorem jM{A:List Nat}{o:Oper}{ρ:Operand→AV}{H:AH}{K:AV→AH→Prop}(h:bW P A o ρ H K):Eff P H o ρ K:=by
 obtain⟨d,op,ty,ps,af,gd⟩:=o
 unfold bW at h
 simp only[]at h
 split at h
 ·obtain⟨v,h1,h2⟩:=loadE_sound h
  exact h1.mono fun v' H' ⟨e1,e2⟩=>by subst e1 e2;exact h2
 ·exact storeK_sound h
 ·exact box_sound h.1 h.2
 ·exact alloc_sound h.1 h.2
 ·unfold bsK at h
  generalize kH A _=b at h
  cases b with
  |true=>exact(cV0 (show bm0 P ⟨_,.makeSlice _ _ _,_,_,_,_⟩ ρ _ from h)).eff
  |false=>exact makeK_sound h
 ·obtain⟨v,h1,h2⟩:=lookE_sound h
  exact h1.mono fun v' H' ⟨e1,e2⟩=>by subst e1 e2;exact h2
 ·unfold bsK at h
  generalize convAt A _=b0 at h
  cases b0 with
  |true=>exact convTK_sound h
  |false=>exact convE_sound h
 ·obtain⟨v,h1,h2⟩:=len2E_sound h
  exact h1.mono fun v' H' ⟨e1,e2⟩=>by subst e1 e2;exact h2
 ·exact updK_sound h
 ·exact updK_sound (d:=d) (ty:=ty) (ps:=ps) (af:=af) (gd:=gd) h
 ·exact mapK_sound h
 ·exact rangeK_sound h
 ·exact nextK_sound h
 ·exact entryK_sound h
 ·exact capK_sound h
 ·exact copyK_sound h
 ·rename_i t x lo hi
  unfold bsK at h
  generalize slideAt A _=b0 at h
  cases b0 with
  |true=>exact slideK_sound h
  |false=>
  simp only[cond_false]at h
  generalize kO A _=b at h
  cases b with
  |true=>exact sliceNK_sound h
  |false=>
   simp only[cond_false]at h
   exact(cV0 h).eff
 ·rename_i t x lo hi mx
  unfold bsK at h
  generalize kO A _=b at h
  cases b with
  |true=>exact sliceFK_sound h
  |false=>
   simp only[cond_false]at h
   exact(cV0 h).eff
 ·rename_i args ts
  have two:∀(sa xa:AV) (t t':TypeId),args.toList.map ρ=[sa,xa]→ts.toList=[t,t']→∃s x,args = #[s,x]∧sa=ρ s∧xa=ρ x∧ts = #[t,t']:=by
   intro sa xa t t' ha ht
   have hl:args.toList.length=2:=by have:=congrArg List.length ha;simpa using this
   match h1:args.toList,hl with
   |[s,x],_=>
    rw[h1]at ha
    simp only[List.map_cons,List.map_nil,List.cons.injEq,and_true]at ha
    exact⟨s,x,by rw[←Array.toArray_toList (xs:=args),h1],ha.1.symm,ha.2.symm,by rw[←Array.toArray_toList (xs:=ts),ht]⟩
  unfold bsK at h
  generalize jz A _=b0 at h
  cases b0 with
  |true=>exact growZK_sound h
  |false=>
  simp only[cond_false]at h
  generalize j3 A _=b at h
  cases b with
  |true=>
   simp only[cond_true]at h
   unfold own2K at h
   split at h
   ·rename_i sa xa t t' ha ht
    obtain⟨s,x,rfl,rfl,rfl,rfl⟩:=two _ _ _ _ ha ht
    exact own3K_sound h
   ·exact h.elim
  |false=>
  simp only[cond_false]at h
  unfold eT at h
  split at h
  ·rename_i sa xa t t' ha ht
   obtain⟨s,x,rfl,h1,h2⟩:∃s x,args = #[s,x]∧sa=ρ s∧xa=ρ x:=by
    have hl:args.toList.length=2:=by have:=congrArg List.length ha;simpa using this
    match h1:args.toList,hl with
    |[s,x],_=>
     rw[h1]at ha
     simp only[List.map_cons,List.map_nil,List.cons.injEq,and_true]at ha
     exact⟨s,x,by rw[←Array.toArray_toList (xs:=args),h1],ha.1.symm,ha.2.symm⟩
   have ht':ts = #[t,t']:=by rw[←Array.toArray_toList (xs:=ts),ht]
   subst h1 h2 ht'
   exact app3K_sound h
  ·exact h.elim
 ·rename_i f args ts
  unfold bsK at h
  generalize kH A _=b at h
  cases b with
  |true=>
   simp only[cond_true]at h
   unfold dk0 at h
   split at h
   ·rename_i f' first captured hf
    exact eff_call_raw hf h
   ·exact eff_callV_raw h
  |false=>
  simp only[cond_false]at h
  unfold dk0 at h
  split at h
  ·rename_i f' first captured hf
   exact eff_call hf h
  ·exact eff_callV h
 ·exact eff_invoke h
 ·rename_i t n parts
  have fin:(bq0 P t n (List.map (fun p=>(p.fst,(ρ p.snd).strip)) parts.toList) fun v=>K v H)→Eff P H ⟨d,.buildSlice t n parts,ty,ps,af,gd⟩ ρ K:=fun h=>
   (cV0 (show bm0 P ⟨d,.buildSlice t n parts,ty,ps,af,gd⟩ ρ fun v=>K v H from h)).eff
  unfold bsK at h
  generalize j3 A d=b0 at h
  cases b0 with
  |true=>exact rowK_sound h
  |false=>
  simp only[cond_false]at h
  generalize (match d with|some d=>A.contains d|none=>false)=b at h
  cases b with
  |true=>exact baseK_sound h
  |false=>exact fin h
 ·exact(cV0 h).eff
end Go.Abs
