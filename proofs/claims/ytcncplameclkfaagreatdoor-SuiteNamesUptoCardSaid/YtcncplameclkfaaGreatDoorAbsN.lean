/-
  An abstract logic over the model's walks, part N: whole bodies, and calls.
  Conditions: none. Lemmas only.
-/
import Derived.Test.YtcncplameclkfaaGreatDoorAbsM
set_option linter.all false
namespace Go.Abs
open Go Go.RowKit
structure Cfg where
 P:Program
 N:Nat
 T:List (Nat × List Nat)
 A:List Nat
 S:List (Nat × STree):=[]
def eX:List (Nat × STree)→Nat→STree
 |[],_=>.nil
 |(i,t)::r,k=>bif i == k then t else eX r k
def bI0:List (Nat × List Nat)→Nat→List Nat
 |[],_=>[]
 |(i,l)::r,k=>bif i == k then l else bI0 r k
def dN(N:Nat):Option Tmp→Prop
 |some x=>x<N
 |none=>True
def cS0(ops:Array Oper)(σ:Sg)(o:Oper)(X Y:Prop):Prop:=match eJ ops σ o with
 |some b=>(b=true→X)∧(b=false→Y)
 |none=>False
def Run(c:Cfg)(ops:Array Oper):List Oper→(Sg→AH→Prop)→Sg→AH→Prop
 |[],K,σ,H=>K σ H
 |o::rest,K,σ,H=>dN c.N o.dst∧cS0 ops σ o (bW c.P c.A o σ.ev H fun v H'=>Run c ops rest K (σ.put o.dst v) H') (Run c ops rest K (σ.put o.dst (.tup [])) H)
theorem Run.sound{c:Cfg}{ops:Array Oper}{K:Sg→AH→Prop}:∀(l:List Oper) (σ:Sg) (H:AH),Run c ops l K σ H→ARun c.P c.N ops l K σ H
 |[],_,_,h=>h
 |o::rest,σ,H,⟨hd,h⟩=>by
  unfold cS0 at h
  split at h
  ·rename_i b hb
   refine⟨fun x hx=>by unfold dN at hd;rw[hx]at hd;exact hd,b,hb,fun hbt=>?_,fun hbf=>Run.sound rest _ _ (h.2 hbf)⟩
   exact⟨_,jM (h.1 hbt),fun v H' hr=>Run.sound rest _ _ hr⟩
  ·exact h.elim
def kindK(k:Nat)(X Y Z:Prop):Prop:=match k with
 |0=>X
 |1=>Y
 |_=>Z
def RunD(c:Cfg)(ops:Array Oper):List Oper→List Nat→(Sg→AH→Prop)→Sg→AH→Prop
 |[],_,K,σ,H=>K σ H
 | o :: rest, ks, K, σ, H => dN c.N o.dst ∧ cS0 ops σ o (kindK (ks.headD 0)
     (bm0 c.P o σ.ev fun v=>RunD c ops rest ks.tail K (σ.put o.dst v) H)
     (stepQ c.P o σ.ev H fun v=>RunD c ops rest ks.tail K (σ.put o.dst v) H)
     (bW c.P c.A o σ.ev H fun v H'=>RunD c ops rest ks.tail K (σ.put o.dst v) H')) (RunD c ops rest ks.tail K (σ.put o.dst (.tup [])) H)
def schOf:Nat→List Nat→Nat→List (Nat × Nat)
 |_,_,0=>[]
 |i,ks,n+1=>(i,ks.headD 0)::schOf (i+1) ks.tail n
theorem schOf_length(i:Nat)(ks:List Nat)(n:Nat):(schOf i ks n).length=n:=by
 induction n generalizing i ks with
 |zero=>rfl
 |succ n ih=>simp[schOf,ih]
def selL(l:List Oper):List Nat→List Oper
 |[]=>[]
 |i::is=>match l[i]? with
  |some o=>o::selL l is
  |none=>selL l is
def ordL(l:List Oper):List Nat→List Oper
 |[]=>l
 |i::is=>selL l (i::is)
def schZ:List Nat→List Nat→List (Nat × Nat)
 |[],_=>[]
 |i::is,ks=>(i,ks.headD 0)::schZ is ks.tail
def schO(n:Nat)(ks:List Nat):List Nat→List (Nat × Nat)
 |[]=>schOf 0 ks n
 |i::is=>schZ (i::is) ks
def ordOk(n:Nat)(is:List Nat):Bool:=is.isEmpty || (is.length == n&&is.all (decide <| · < n))
def FitS(ops:Array Oper):List Oper→List Nat→List (Nat × Nat)→Prop
 |[],_,[]=>True
 |o::l,ks,(i,k)::sch=>ops[i]? = some o∧k=ks.headD 0∧FitS ops l ks.tail sch
 |_,_,_=>False
theorem FitS.text{ops:Array Oper}:∀(l:List Oper) (i:Nat) (ks:List Nat),(∀j,l[j]? = ops[i+j]?)→FitS ops l ks (schOf i ks l.length)
 |[],_,_,_=>trivial
 |o::l,i,ks,h=>⟨by simpa using (h 0).symm,rfl,FitS.text l (i+1) ks.tail fun j=>by have:=h (j+1);simpa [Nat.add_assoc,Nat.add_comm 1 j] using this⟩
theorem FitS.sel{ops:Array Oper}:∀(is:List Nat) (ks:List Nat),(∀i∈is,i<ops.size)→FitS ops (selL ops.toList is) ks (schZ is ks)
 |[],_,_=>trivial
 |i::is,ks,h=>by
  have hi:=h i (by simp)
  have e:ops.toList[i]? = some ops[i]:=by simp[hi]
  simp only[selL,e,schZ]
  exact⟨by simp[hi],rfl,FitS.sel is ks.tail fun j hj=>h j (by simp[hj])⟩
theorem FitS.ord{ops:Array Oper}{is ks:List Nat}(h:ordOk ops.size is=true):FitS ops (ordL ops.toList is) ks (schO ops.size ks is):=by
 cases is with
 |nil=>
  have:=FitS.text ops.toList 0 ks (ops:=ops) (fun j=>by simp)
  simpa [ordL,schO] using this
 |cons i is=>
  simp only[ordOk,List.isEmpty_cons,Bool.false_or,Bool.and_eq_true,List.all_eq_true,decide_eq_true_eq]at h
  exact FitS.sel (i::is) ks h.2
theorem schZ_length(is ks:List Nat):(schZ is ks).length=is.length:=by
 induction is generalizing ks with
 |nil=>rfl
 |cons i is ih=>simp[schZ,ih]
theorem schO_length{n:Nat}{ks is:List Nat}(h:ordOk n is=true):(schO n ks is).length=n:=by
 cases is with
 |nil=>exact schOf_length _ _ _
 |cons i is=>
  simp only[ordOk,List.isEmpty_cons,Bool.false_or,Bool.and_eq_true,beq_iff_eq]at h
  exact(schZ_length _ _).trans h.1
theorem RunD.sound{c:Cfg}{ops:Array Oper}{K:Sg→AH→Prop}:∀(l:List Oper) (sch:List (Nat × Nat)) (ks:List Nat) (σ:Sg) (H:AH),FitS ops l ks sch→RunD c ops l ks K σ H→ep c.P c.N ops K sch σ H
 |[],[],_,_,_,_,h=>h
 |[],_::_,_,_,_,f,_=>f.elim
 |_::_,[],_,_,_,f,_=>f.elim
 |o::rest,(i,k)::sch,ks,σ,H,⟨h0,hk0,hl'⟩,⟨hd,h⟩=>by
  simp only[ep,h0]
  unfold cS0 at h
  split at h
  ·rename_i b hb
   refine⟨fun x hx=>by unfold dN at hd;rw[hx]at hd;exact hd,b,hb,fun hbt=>?_,fun hbf=>RunD.sound rest _ _ _ _ hl' (h.2 hbf)⟩
   have h1:=h.1 hbt
   rw[←hk0]at h1
   unfold kindK at h1
   split at h1
   ·obtain⟨v,e1,e2⟩:=cV0 h1
    exact⟨v,e1,RunD.sound rest _ _ _ _ hl' e2⟩
   ·obtain⟨v,e1,e2⟩:=stepQ_sound h1
    exact⟨v,e1,RunD.sound rest _ _ _ _ hl' e2⟩
   ·rename_i k0 k1
    have h2:=jM h1
    match k,k0,k1 with
    |0,k0,_=>exact absurd rfl k0
    |1,_,k1=>exact absurd rfl k1
    |k+2,_,_=>exact⟨_,h2,fun v H' hr=>RunD.sound rest _ _ _ _ hl' hr⟩
  ·exact h.elim
theorem appendK_grow{P:Program}{t t':TypeId}{s x:AV}{H:AH}{K:AV→AH→Prop}(h:cx P t t' s x H K):cx P t t' s x H fun v H'=>SubC H H'∧K v H':=by
 unfold cx at h ⊢
 split at h
 ·rename_i e news m hu hsrc
  simp only[hu,hsrc]
  split at h
  ·rename_i k cells n
   split at h
   ·rename_i o ho
    obtain⟨h1,h2,h3,h⟩:=h
    refine⟨h1,h2,h3,fun k' o' a b c=>⟨(SubC.kill ho fun cs e' s' he=>?_).trans (SubC.set (by simp only[AH.kill];split<;>first|rfl|exact b)),h k' o' a b c⟩⟩
    subst he
    rcases h1 with h1|⟨_,h1⟩<;>cases h1
   ·exact h.elim
  ·exact⟨h.1,h.2.1,fun k' o' a b c=>⟨SubC.set b,h.2.2 k' o' a b c⟩⟩
  ·exact h.elim
 ·exact h.elim
theorem app3K_grow{P:Program}{u:Option TypeDesc}{s x:AV}{t t':TypeId}{H:AH}{K:AV→AH→Prop}(h:kP P u s x t t' H K):kP P u s x t t' H fun v H'=>SubC H H'∧K v H':=by
 unfold kP at h ⊢
 split at h
 ·split at h
  ·rename_i h1 h2
   exact⟨h.1,appendK_grow h.2⟩
  ·exact h.elim
 ·exact appendK_grow h
def growOp(A:List Nat)(o:Oper):Bool:=match o.op with
 |.load _ _=>true
 |.box _ _=>true
 |.alloc _=>true
 |.makeSlice _ _ _ => !kH A o.dst
 |.buildSlice _ _ _=>j3 A o.dst || (match o.dst with|some d=>A.contains d|none=>false)
 |.slice _ _ _ _ (some _)=>kO A o.dst
 |.call ⟨.builtin .append,_,_⟩ => !jz A o.dst && !j3 A o.dst
 |_=>false
def je(P:Program)(A:List Nat)(o:Oper)(ρ:Operand→AV)(H:AH)(K:AV→AH→Prop):Prop:=bif growOp A o then bW P A o ρ H K else False
theorem stepG_sound{P:Program}{A:List Nat}{o:Oper}{ρ:Operand→AV}{H:AH}{K:AV→AH→Prop}(h:je P A o ρ H K):Eff P H o ρ fun v H'=>SubC H H'∧K v H':=by
 unfold je at h
 cases hg:growOp A o with
 |false=>rw[hg]at h;exact h.elim
 |true=>
  rw[hg,cond_true]at h
  refine jM (A:=A) ?_
  obtain⟨d,op,ty,ps,af,gd⟩:=o
  unfold growOp at hg
  simp only[]at hg
  split at hg
  ·rename_i t x
   have h:ir P t (ρ x) H fun v=>K v H:=h
   show ir P t (ρ x) H fun v=>SubC H H∧K v H
   revert h
   generalize ρ x=y
   intro h
   unfold ir at h ⊢
   split at h
   ·split at h
    ·split at h
     ·exact⟨SubC.refl,h⟩
     ·exact h.elim
    ·exact h.elim
   ·unfold loadK at h ⊢
    split at h
    ·split at h
     ·exact⟨SubC.refl,h⟩
     ·exact h.elim
    ·exact h.elim
  ·exact⟨h.1,fun k a b=>⟨SubC.set b,h.2 k a b⟩⟩
  ·exact⟨h.1,fun k a b=>⟨SubC.set b,h.2 k a b⟩⟩
  ·rename_i t l c
   have e:∀K,bW P A ⟨d,.makeSlice t l c,ty,ps,af,gd⟩ ρ H K=bsK (kH A d) (makeP P t (ρ l) (ρ c) fun v=>K v H) (makeK P t (aH l c) (ρ l) (ρ c) H K):=fun K=>rfl
   rw[e]at h ⊢
   simp only[Bool.not_eq_true']at hg
   rw[hg]at h ⊢
   unfold bsK at h ⊢
   simp only[cond_false]at h ⊢
   unfold makeK at h ⊢
   split at h
   ·rename_i e k1 lv k2 cv hu hl hc
    simp only[hu,hl,hc]
    obtain⟨h1,h2,h⟩:=h
    refine⟨h1,h2,?_⟩
    split
    ·rename_i hs
     rw[if_pos hs]at h
     exact⟨h.1,fun k a b=>⟨SubC.set b,h.2 k a b⟩⟩
    ·rename_i hs
     rw[if_neg hs]at h
     exact⟨h.1,fun k a b=>⟨SubC.set b,h.2 k a b⟩⟩
   ·exact h.elim
  ·rename_i t nn parts
   cases d with
   |none=>cases hg
   |some x=>
   have e:∀K,bW P A ⟨some x,.buildSlice t nn parts,ty,ps,af,gd⟩ ρ H K=bsK (j3 A (some x)) (rowK P t nn (parts.toList.map fun p=>(p.1,(ρ p.2).strip)) H K) (bsK (A.contains x) (baseK P t nn (parts.toList.map fun p=>(p.1,(ρ p.2).strip)) H K)
    (bq0 P t nn (parts.toList.map fun p=>(p.1,(ρ p.2).strip)) fun v=>K v H)):=fun K=>rfl
   rw[e]at h ⊢
   simp only[]at hg
   unfold bsK at h ⊢
   cases ho:j3 A (some x) with
   |true=>
    rw[ho]at h
    simp only[cond_true]at h ⊢
    unfold rowK at h ⊢
    split at h
    ·rename_i e hu
     simp only[hu]
     refine⟨h.1,?_⟩
     have h:=h.2
     split at h
     ·rename_i cs hc
      exact fun k a b=>⟨SubC.set b,h k a b⟩
     ·exact h.elim
    ·exact h.elim
   |false=>
    rw[ho,Bool.false_or]at hg
    rw[ho,hg]at h
    rw[hg]
    simp only[cond_true,cond_false]at h ⊢
    unfold baseK at h ⊢
    split at h
    ·rename_i e hu
     simp only[hu]
     refine⟨h.1,?_⟩
     have h:=h.2
     split at h
     ·rename_i cs hc
      exact fun k a b=>⟨SubC.set b,h k a b⟩
     ·exact h.elim
    ·exact h.elim
  ·rename_i t x lo hi mx
   have e:∀K,bW P A ⟨d,.slice t x lo hi (some mx),ty,ps,af,gd⟩ ρ H K=bsK (kO A d) (jK P t (ρ x) (lo.map ρ) (hi.map ρ) (some (ρ mx)) (isC0 mx) H K) (bm0 P ⟨d,.slice t x lo hi (some mx),ty,ps,af,gd⟩ ρ fun v=>K v H):=fun K=>rfl
   rw[e]at h ⊢
   rw[hg]at h ⊢
   unfold bsK at h ⊢
   simp only[cond_true]at h ⊢
   unfold jK fullO at h ⊢
   split at h
   ·rename_i hq
    simp only[hq]
    exact⟨h.1,h.2.1,fun g a b=>⟨SubC.set b,h.2.2 g a b⟩⟩
   ·exact h.elim
  ·rename_i args ts
   have e:∀K,bW P A ⟨d,.call ⟨.builtin .append,args,ts⟩,ty,ps,af,gd⟩ ρ H K=bsK (jz A d) (growZK P (args.toList.map ρ) ts.toList H K) (bsK (j3 A d) (own2K P (args.toList.map ρ) ts.toList H K) (eT P (args.toList.map ρ) ts.toList H K)):=fun K=>rfl
   rw[e]at h ⊢
   simp only[Bool.and_eq_true,Bool.not_eq_true']at hg
   rw[hg.1,hg.2]at h ⊢
   unfold bsK at h ⊢
   simp only[cond_false]at h ⊢
   unfold eT at h ⊢
   split at h
   ·rename_i s x t t' ha ht
    exact app3K_grow h
   ·exact h.elim
  ·cases hg
def stepL(P:Program)(o:Oper)(ρ:Operand→AV)(H:AH)(K:AV→Prop):Prop:=match o.op with
 |.load t a=>ir P t (ρ a) H K
 |_=>False
theorem stepL_sound{P:Program}{o:Oper}{ρ:Operand→AV}{H:AH}{K:AV→Prop}(h:stepL P o ρ H K):∃v,(∀H',SubC H H'→eG P H' o ρ v)∧K v:=by
 obtain⟨d,op,ty,ps,af,gd⟩:=o
 unfold stepL at h
 simp only[]at h
 split at h
 ·rename_i t a
  have key:∀x,ir P t x H K→∃v,K v∧∀H',SubC H H'→ir P t x H' (· = v):=by
   intro x h
   cases x with
   |ptr hh off=>
    unfold ir at h ⊢
    simp only[]at h ⊢
    split at h
    ·rename_i cs e s hH
     split at h
     ·rename_i v hp
      refine⟨v,h,fun H' hs=>?_⟩
      rw[hs hh cs e s hH]
      simp only[hp]
     ·exact h.elim
    ·exact h.elim
   |ip cells off=>
    unfold ir loadK at h ⊢
    simp only[]at h ⊢
    split at h
    ·rename_i v hp
     exact⟨v,h,fun H' _=>by simp only[hp]⟩
    ·exact h.elim
   |_=>exact h.elim
  replace key:=key _ h
  obtain⟨v,hK,hl⟩:=key
  refine⟨v,fun H' hs=>?_,hK⟩
  obtain⟨v',hq,rfl⟩:=loadE_sound (d:=d) (ty:=ty) (ps:=ps) (af:=af) (gd:=gd) (hl H' hs)
  exact hq
 ·exact h.elim
def kindT(c:Cfg)(k:Nat)(o:Oper)(ρ:Operand→AV)(H:AH)(K:AV→AH→Prop):Prop:=match k with
 |0=>bm0 c.P o ρ fun v=>K v H
 |1=>stepQ c.P o ρ H fun v=>K v H
 |2=>bW c.P c.A o ρ H K
 |3=>je c.P c.A o ρ H K
 |4=>stepL c.P o ρ H fun v=>K v H
 |_=>bW c.P c.A o ρ H fun v H'=>SubC H H'∧K v H'
def RunT(c:Cfg)(l:List Oper):STree→(Sg→AH→Prop)→Sg→AH→Prop
 |.nil,K,σ,H=>K σ H
 |.op i k t,K,σ,H=>match l[i]? with
  |some o=>dN c.N o.dst∧cS0 l.toArray σ o (kindT c k o σ.ev H fun v H'=>RunT c l t K (σ.put o.dst v) H') (RunT c l t K (σ.put o.dst (.tup [])) H)
  |none=>False
 |.or a b,K,σ,H=>RunT c l a K σ H∧RunT c l b K σ H
theorem kindT_sound{c:Cfg}{k:Nat}{o:Oper}{ρ:Operand→AV}{H:AH}{K:AV→AH→Prop}(h:kindT c k o ρ H K):AKind c.P o k ρ H K:=by
 unfold kindT at h
 split at h
 ·exact cV0 h
 ·exact stepQ_sound h
 ·exact⟨_,jM h,fun _ _ hr=>hr⟩
 ·exact⟨_,stepG_sound h,fun _ _ hr=>hr⟩
 ·exact stepL_sound h
 ·rename_i k0 k1 k2 k3 k4
  have h2:=jM h
  match k,k0,k1,k2,k3,k4 with
  |0,k0,_,_,_,_=>exact absurd rfl k0
  |1,_,k1,_,_,_=>exact absurd rfl k1
  |2,_,_,k2,_,_=>exact absurd rfl k2
  |3,_,_,_,k3,_=>exact absurd rfl k3
  |4,_,_,_,_,k4=>exact absurd rfl k4
  |k+5,_,_,_,_,_=>exact⟨_,h2,fun _ _ hr=>hr⟩
theorem AKind.mono{P:Program}{k:Nat}{o:Oper}{ρ:Operand→AV}{H:AH}{K K':AV→AH→Prop}(hk:∀v H,K v H→K' v H)(h:AKind P o k ρ H K):AKind P o k ρ H K':=by
 unfold AKind at *
 split
 ·exact⟨_,h.choose_spec.1,hk _ _ h.choose_spec.2⟩
 ·exact⟨_,h.choose_spec.1,hk _ _ h.choose_spec.2⟩
 ·exact⟨_,h.choose_spec.1,fun v H' hr=>hk _ _ (h.choose_spec.2 v H' hr)⟩
 ·exact⟨_,h.choose_spec.1,hk _ _ h.choose_spec.2⟩
 ·rename_i k0 k1 k2 k4
  simp only[]at h
  exact⟨_,h.choose_spec.1,fun v H' hr=>⟨(h.choose_spec.2 v H' hr).1,hk _ _ (h.choose_spec.2 v H' hr).2⟩⟩
theorem RunT.sound{c:Cfg}{l:List Oper}{K:Sg→AH→Prop}:∀(t:STree) (σ:Sg) (H:AH),RunT c l t K σ H→ATree c.P c.N l.toArray K t σ H
 |.nil,_,_,h=>h
 |.or a b,σ,H,h=>⟨RunT.sound a σ H h.1,RunT.sound b σ H h.2⟩
 |.op i k t,σ,H,h=>by
  simp only[RunT]at h
  split at h
  ·rename_i o ho
   have h0:l.toArray[i]? = some o:=by simpa using ho
   simp only[ATree,h0]
   obtain⟨hd,h⟩:=h
   unfold cS0 at h
   split at h
   ·rename_i b hb
    exact⟨fun x hx=>by unfold dN at hd;rw[hx]at hd;exact hd,b,hb,fun hbt=>(kindT_sound (h.1 hbt)).mono fun v H' hr=>RunT.sound t _ _ hr,fun hbf=>RunT.sound t _ _ (h.2 hbf)⟩
   ·exact h.elim
  ·exact h.elim
def RunJ(c:Cfg)(l:List Oper)(t:STree)(K:Sg→AH→Prop)(σ:Sg)(H:AH):Prop:=∃I:Sg→AH→Prop,RunT c l t I σ H∧∀σ' H',I σ' H'→K σ' H'
def DrawK(c:Cfg)(t:STree)(id:Nat)(l:List Oper)(K:Sg→AH→Prop)(σ:Sg)(H:AH):Prop:=match t with
 |.nil=>RunD c l.toArray (ordL l (bI0 c.T (id+2000000))) (bI0 c.T id) K σ H
 |t=>RunJ c l t K σ H
def LoopG(c:Cfg)(a:Code)(Q:Exit→Sg→AH→Prop)(σ:Sg)(H:AH):Prop:=∀Γ,AWp c.P c.N Γ (.loop a) Q σ H
@[congr] theorem LoopG_congr {c:Cfg} {a:Code} {Q:Exit→Sg→AH→Prop} {σ σ':Sg} {H H':AH} (h:σ=σ') (h':H=H'):LoopG c a Q σ H=LoopG c a Q σ' H':=by rw[h,h']
def ScopeG(c:Cfg)(a:Code)(Q:Exit→Sg→AH→Prop)(σ:Sg)(H:AH):Prop:=∀Γ,AWp c.P c.N Γ (.scope a) Q σ H
def RangeG(c:Cfg)(g:Operand)(ps:Array Tmp)(as a:Code)(Q:Exit→Sg→AH→Prop)(σ:Sg)(H:AH):Prop:=∀Γ,AWp c.P c.N Γ (.rangeFunc g ps as a) Q σ H
def condK(v:AV)(X Y:Prop):Prop:=match v with
 |.sc (.bool t)=>(t=true→X)∧(t=false→Y)
 |_=>False
def FzK:List Nat→(Sg→AH→Prop)→Sg→AH→Prop
 |[],K,σ,H=>K σ H
 |x::xs,K,σ,H=>match σ x with
  |.ptr k 0=>(match H k with
   |some (.cells cs _ _)=>FzK xs K (σ.put (some x) (.ip cs 0)) (H.kill k)
   |_=>False)
  |_=>False
def anyS:Sg:=fun _=>.any
def KeepK:List Nat→Sg→(Sg→AH→Prop)→Sg→AH→Prop
 |[],acc,K,_,H=>K acc H
 |x::xs,acc,K,σ,H=>KeepK xs (acc.put (some x) (σ x)) K σ H
def KeepO(l:List Nat)(K:Sg→AH→Prop)(σ:Sg)(H:AH):Prop:=match l with
 |[]=>K σ H
 |x::xs=>KeepK (x::xs) anyS K σ H
theorem KeepK.sound{K:Sg→AH→Prop}:∀(l:List Nat) (acc σ:Sg) (H:AH),KeepK l acc K σ H→(∀t,acc t=.any∨acc t=σ t)→∃σ':Sg,(∀t,σ' t=.any∨σ' t=σ t)∧K σ' H
 |[],acc,σ,H,h,ha=>⟨acc,ha,h⟩
 |x::xs,acc,σ,H,h,ha=>KeepK.sound xs _ σ H h fun t=>by
  show(if t=x then σ x else acc t)=_∨(if t=x then σ x else acc t)=_
  split
  ·rename_i e;rw[e];exact .inr rfl
  ·exact ha t
theorem KeepO.sound{K:Sg→AH→Prop}{l:List Nat}{σ:Sg}{H:AH}(h:KeepO l K σ H):∃σ':Sg,(∀t,σ' t=.any∨σ' t=σ t)∧K σ' H:=by
 unfold KeepO at h
 split at h
 ·exact⟨σ,fun _=>.inr rfl,h⟩
 ·exact KeepK.sound _ _ _ _ h fun _=>.inl rfl
theorem G.any{N:Nat}{Γ:Ctx}{B:Nat}{σ σ':Sg}{H:AH}{a:Act}{w:World}(g:G N Γ B σ H a w)(h:∀t,σ' t=.any∨σ' t=σ t):G N Γ B σ' H a w:=by
 obtain⟨n,i,c,g1,g2,g3,g4,g5⟩:=g
 refine⟨n,i,c,g1,g2,g3,g4,fun t=>?_⟩
 rcases h t with e|e
 ·rw[e];exact .any _
 ·rw[e];exact g5 t
theorem ip_of_live{C:Ctx}(g:WR C){k:Nat}{cs:List AV}{e:TypeId}{s:Nat}(hk:C.H k=some (.cells cs e s)):VR { C with H:=C.H.kill k } (.ip cs 0) (.pointer (some ⟨C.i k,0,none⟩)):=by
 have hs:∀x o,(C.H.kill k) x=some o→C.H x=some o:=fun x o hx=>by simp only[AH.kill]at hx;split at hx;cases hx;exact hx
 have ew:=Ext.weaken (C:=C) (C.H.kill k) hs
 obtain⟨vs,fz,b1,b2,b3,b4,b5⟩:=g.obj k _ hk
 refine .ip cs 0 (C.i k) 0 (fun j=>vs.getD j undef) (fun j hj=>?_) fun j hj=>((b5 j hj).1.ext ew)
 refine⟨?_,fun hw=>?_,(b5 j hj).2⟩
 ·show C.w.cell? _=_
  rw[Nat.zero_add,cell_of_row C.w (C.i k) j vs e fz b1,bi (by omega)]
  exact Array.getElem?_eq_getElem (by omega)
 ·obtain⟨x,o,hx,hr,he⟩:=Wr.owned hw
  have h1:=g.inj x k o _ (hs x o hx) hk hr rfl he
  subst h1
  have hx':(C.H.kill x) x=some o:=hx
  simp[AH.kill]at hx'
theorem FzK.sound{N:Nat}{Γ:Ctx}{B:Nat}{K:Sg→AH→Prop}:∀(xs:List Nat) (σ:Sg) (H:AH) (a:Act) (w:World),FzK xs K σ H→G N Γ B σ H a w→∃σ' H',G N Γ B σ' H' a w∧K σ' H'
 |[],σ,H,a,w,h,g=>⟨σ,H,g,h⟩
 |x::xs,σ,H,a,w,h,g=>by
  simp only[FzK]at h
  split at h
  ·rename_i k hx
   split at h
   ·rename_i cs e s hk
    refine FzK.sound xs _ _ a w h ?_
    obtain⟨n,i,c,g1,g2,g3,g4,g5⟩:=g
    have hs:∀x o,(H.kill k) x=some o→H x=some o:=fun x o hx=>by simp only[AH.kill]at hx;split at hx;cases hx;exact hx
    have ew:=Ext.weaken (C:=⟨H,n,i,c,w⟩) (H.kill k) hs
    refine⟨n,i,c,g1.weaken (H.kill k) hs,g2.trans ew,g3,g4.ext ew,fun t=>?_⟩
    show VR _ (if t=x then _ else σ t) _
    split
    ·rename_i ht
     subst ht
     have h1:=g5 t
     rw[hx]at h1
     generalize a.tmps.getD t undef=u at h1
     cases h1 with
     |ptr _ _ _=>exact ip_of_live g1 hk
    ·exact(g5 t).ext ew
   ·exact h.elim
  ·exact h.elim
theorem AWp.fz{P:Program}{N:Nat}{Γ:Ctx}{c:Code}{Q:Exit→Sg→AH→Prop}{xs ys:List Nat}{σ:Sg}{H:AH}
    (h:AWp P N Γ c (fun e σ H=>match e with | .normal=>FzK xs (KeepO ys (Q .normal)) σ H|e=>Q e σ H) σ H):AWp P N Γ c Q σ H:=by
 intro ro ok B a w g
 refine wpIn_mono (h ro ok B a w g) ?_
 rintro e a' w' ⟨σ',H',g',q⟩
 cases e with
 |normal=>
  obtain⟨σ2,H2,g2,q2⟩:=FzK.sound xs σ' H' a' w' q g'
  obtain⟨σ3,hσ,q3⟩:=KeepO.sound q2
  exact⟨σ3,H2,g2.any hσ,q3⟩
 |_=>exact⟨σ',H',g',q⟩
def cwp(c:Cfg):Code→(Exit→Sg→AH→Prop)→Sg→AH→Prop
 |.skip,Q,σ,H=>Q .normal σ H
 |.ret,Q,σ,H=>Q .ret σ H
 |.exit id,Q,σ,H=>Q (.exit id) σ H
 |.label _,Q,σ,H=>Q .normal σ H
 |.goto l,Q,σ,H=>Q (.goto l) σ H
 |.seq a b,Q,σ,H=>cwp c a (dp (cwp c b Q) Q) σ H
 |.block id a,Q,σ,H=>cwp c a (ABlock id Q) σ H
 |.cond x a b,Q,σ,H=>condK (σ.ev x) (cwp c a Q σ H) (cwp c b Q σ H)
 |.region id ops false,Q,σ,H=>Run c ops ops.toList (FzK (bI0 c.T (id+1000000)) (KeepO (bI0 c.T (id+4000000)) (Q .normal))) σ H
 |.region id ops true,Q,σ,H=>DrawK c (eX c.S id) id ops.toList (FzK (bI0 c.T (id+1000000)) (KeepO (bI0 c.T (id+4000000)) (Q .normal))) σ H
 |.loop a,Q,σ,H=>LoopG c a Q σ H
 |.scope a,Q,σ,H=>ScopeG c a Q σ H
 |.rangeFunc g ps as a,Q,σ,H=>RangeG c g ps as a Q σ H
 |_,_,_,_=>False
def okDraw(T:List (Nat × List Nat))(t:STree)(id:Nat)(ops:Array Oper):Bool:=match t with
 |.nil=>ordOk ops.size (bI0 T (id+2000000))&&schedB ops (effOf (schO ops.size (bI0 T id) (bI0 T (id+2000000)))) (schO ops.size (bI0 T id) (bI0 T (id+2000000))) (Array.replicate ops.size false)
 |t=>decide (t.depth=ops.size)&&covers ops t (Array.replicate ops.size false)&&chkT ops t.chg t (Array.replicate ops.size false)
def bV(c:Cfg):Code→Bool
 |.seq a b=>bV c a&&bV c b
 |.block _ a=>bV c a
 |.cond _ a b=>bV c a&&bV c b
 |.loop a=>bV c a
 |.region id ops true=>okDraw c.T (eX c.S id) id ops
 |_=>true
theorem cwp.sound{c:Cfg}(hm:c.P.follows .mixedOrders=true):∀(a:Code),bV c a=true→∀(Q:Exit→Sg→AH→Prop) (σ:Sg) (H:AH),cwp c a Q σ H→∀Γ,AWp c.P c.N Γ a Q σ H
 |.skip,_,Q,σ,H,h,Γ=>awp_skip h
 |.ret,_,Q,σ,H,h,Γ=>awp_ret h
 |.exit id,_,Q,σ,H,h,Γ=>awp_exit h
 |.label _,_,Q,σ,H,h,Γ=>awp_label h
 |.goto _,_,Q,σ,H,h,Γ=>awp_goto h
 |.seq a b,ok,Q,σ,H,h,Γ=>by
  simp only[bV,Bool.and_eq_true]at ok
  refine awp_seq ((cwp.sound hm a ok.1 _ σ H h Γ).mono fun e σ' H' q=>?_)
  cases e with
  |normal=>exact cwp.sound hm b ok.2 Q σ' H' q Γ
  |_=>exact q
 |.block id a,ok,Q,σ,H,h,Γ=>by
  simp only[bV]at ok
  exact awp_block (cwp.sound hm a ok _ σ H h Γ)
 |.cond x a b,ok,Q,σ,H,h,Γ=>by
  simp only[bV,Bool.and_eq_true]at ok
  simp only[cwp]at h
  unfold condK at h
  split at h
  ·rename_i t ht
   exact awp_cond ht (fun hb=>cwp.sound hm a ok.1 Q σ H (h.1 hb) Γ) (fun hb=>cwp.sound hm b ok.2 Q σ H (h.2 hb) Γ)
  ·exact h.elim
 |.region id ops false,ok,Q,σ,H,h,Γ=>by
  refine AWp.fz (xs:=bI0 c.T (id+1000000)) (ys:=bI0 c.T (id+4000000)) ?_
  have:=awp_region (P:=c.P) (N:=c.N) (Γ:=Γ) (Q:=fun e σ H=>match e with | .normal=>FzK (bI0 c.T (id+1000000)) (KeepO (bI0 c.T (id+4000000)) (Q .normal)) σ H|e=>Q e σ H) (id:=id) (l:=ops.toList) (Run.sound ops.toList σ H (by simpa [cwp] using h))
  simpa using this
 |.region id ops true,ok,Q,σ,H,h,Γ=>by
  simp only[bV]at ok
  simp only[cwp]at h
  refine AWp.fz (xs:=bI0 c.T (id+1000000)) (ys:=bI0 c.T (id+4000000)) ?_
  generalize eX c.S id=t at *
  have tree : ∀ t : STree, (decide (t.depth = ops.size) && covers ops t (Array.replicate ops.size false) && chkT ops t.chg t (Array.replicate ops.size false)) = true →
      RunJ c ops.toList t (FzK (bI0 c.T (id+1000000)) (KeepO (bI0 c.T (id+4000000)) (Q .normal))) σ H→
      AWp c.P c.N Γ (.region id ops true) (fun e σ H=>match e with | .normal=>FzK (bI0 c.T (id+1000000)) (KeepO (bI0 c.T (id+4000000)) (Q .normal)) σ H|e=>Q e σ H) σ H:=fun t ok h=>by
   obtain⟨I,h,hI⟩:=h
   have hr:=RunT.sound t σ H h
   have:=awp_drawT (P:=c.P) (N:=c.N) (Γ:=Γ) (Q:=fun e σ H=>match e with | .normal=>I σ H|e=>Q e σ H) (σ:=σ) (H:=H) (id:=id) (l:=ops.toList) t hm (by
    simpa using ok) (by simpa using hr)
   refine AWp.mono (by simpa using this) fun e σ' H' q=>?_
   cases e with
   |normal=>exact hI _ _ q
   |_=>exact q
  cases t with
  |nil=>
   simp only[okDraw,Bool.and_eq_true]at ok
   simp only[DrawK]at h
   obtain⟨ok0,ok⟩:=ok
   have hr:=RunD.sound (c:=c) (ops:=ops) (K:=FzK (bI0 c.T (id+1000000)) (KeepO (bI0 c.T (id+4000000)) (Q .normal))) _ _ (bI0 c.T id) σ H (FitS.ord ok0) (by simpa using h)
   have:=awp_draw (P:=c.P) (N:=c.N) (Γ:=Γ) (Q:=fun e σ H=>match e with | .normal=>FzK (bI0 c.T (id+1000000)) (KeepO (bI0 c.T (id+4000000)) (Q .normal)) σ H|e=>Q e σ H) (σ:=σ) (H:=H) (id:=id) (l:=ops.toList) (schO ops.size (bI0 c.T id) (bI0 c.T (id+2000000))) hm (by
    simp only[Bool.and_eq_true,decide_eq_true_eq,schO_length ok0,true_and,Array.length_toList,Array.toArray_toList]
    exact ok) (by simpa using hr)
   simpa using this
  |op i k t=>exact tree _ ok h
  |or a b=>exact tree _ ok h
 |.loop a,ok,Q,σ,H,h,Γ=>h Γ
 |.rangeFunc _ _ _ _,_,_,_,_,h,Γ=>h Γ
 |.scope _,_,_,_,_,h,Γ=>h Γ
 |.refuse _,_,_,_,_,h,_=>h.elim
def aF(P:Program)(σ:Sg)(H:AH):ResultVar→Option AV
 |.tmp t=>some (σ t).strip
 |.cell a t=>(match σ a with
  |.ptr h off=>(match H h with
   |some (.cells cs _ _)=>(aJ P t cs off).map AV.strip
   |_=>none)
  |.ip cs off=>(aJ P t cs off).map AV.strip
  |_=>none)
def aE(P:Program)(σ:Sg)(H:AH):List ResultVar→Option (List AV)
 |[]=>some []
 |r::rs=>match aF P σ H r,aE P σ H rs with
  |some v,some vs=>some (v::vs)
  |_,_=>none
def aW(P:Program)(σ:Sg)(H:AH)(rs:List ResultVar):Option AV:=match aE P σ H rs with
 |some [v]=>some v
 |some vs=>some (.tup vs)
 |none=>none
def Sub(H' H:AH):Prop:=∀x o,H' x=some o→H x=some o
theorem Sub.refl(H:AH):Sub H H:=fun _ _ h=>h
theorem Sub.trans{A B C:AH}(h:Sub A B)(g:Sub B C):Sub A C:=fun x o hx=>g x o (h x o hx)
theorem Sub.set_new{H:AH}{k:Nat}{o:AObj}(h:H k=none):Sub H (H.set k o):=fun x o' hx=>by
 simp only[AH.set]
 split
 ·rename_i e;rw[e,h]at hx;cases hx
 ·exact hx
def aR(P:Program)(rs:List ResultVar)(R:AV→AH→Prop):Exit→Sg→AH→Prop
 |.normal,σ,H | .ret,σ,H=>∃v,aW P σ H rs=some v∧∃H',Sub H' H∧R v H'
 |_,_,_=>False
theorem resOne_sound{P:Program}{C:Ctx}(g:WR C){σ:Sg}{tmps:Array Value}(h:∀t, VR C (σ t) (tmps.getD t undef)){F:ResultVar→Sem Value} (hF:∀r, F r=match r with
      |.tmp t=>pure (tmps.getD t undef)
      |.cell a t=>do loadVar t (←asAddr (tmps.getD a undef))) {r:ResultVar} {v:AV} (hr:aF P σ C.H r=some v):
    ∃u,(F r).run P C.w=.ok u C.w∧VR C v u:=by
 rw[hF]
 unfold aF at hr
 split at hr
 ·rename_i t
  simp only[Option.some.injEq]at hr
  subst hr
  exact⟨_,rfl,(h t).strip⟩
 ·rename_i addr t
  have h1:=h addr
  split at hr
  ·rename_i hh off hsa
   rw[hsa]at h1
   split at hr
   ·rename_i cs e s hH
    generalize hv:tmps.getD addr undef=u at h1
    cases h1 with
    |ptr _ _ g1=>
     obtain⟨v0,hq,rfl⟩:=Option.map_eq_some_iff.1 hr
     obtain⟨r,r1,r2⟩:=eK00 (P:=P) g hH hq
     exact⟨r,by simp only[Sem.run_bind,asAddr,Sem.run_pure,Result.andThen_ok,r1],r2.strip⟩
   ·cases hr
  ·rename_i cs off hsa
   rw[hsa]at h1
   obtain⟨b,o,e,us,hc,hv⟩:=h1.ip_inv
   obtain⟨v0,hq,rfl⟩:=Option.map_eq_some_iff.1 hr
   obtain⟨r,r1,r2⟩:=run_loadVar (P:=P) hc hv hq
   exact⟨r,by simp[asAddr,e,r1],r2.strip⟩
  ·cases hr
theorem resAll_sound{P:Program}{C:Ctx}(g:WR C){σ:Sg}{tmps:Array Value}(h:∀t, VR C (σ t) (tmps.getD t undef)){F:ResultVar→Sem Value} (hF:∀r, F r=match r with
      |.tmp t=>pure (tmps.getD t undef)
      |.cell a t=>do loadVar t (←asAddr (tmps.getD a undef))):∀(rs:List ResultVar) (l:List AV),aE P σ C.H rs=some l→∃us:List Value,(rs.mapM F).run P C.w=.ok us C.w∧VRs C l us
 |[],l,hr=>by
  simp only[aE,Option.some.injEq]at hr
  subst hr
  exact⟨[],by simp,rfl,fun j h=>absurd h (by simp)⟩
 |r::rs,l,hr=>by
  simp only[aE]at hr
  split at hr
  ·rename_i v vs h1 h2
   simp only[Option.some.injEq]at hr
   subst hr
   obtain⟨u,e1,e2⟩:=resOne_sound g h hF h1
   obtain⟨us,e3,e4⟩:=resAll_sound g h hF rs vs h2
   refine⟨u::us,by simp[e1,e3],by simp[e4.1],fun j hj=>?_⟩
   cases j with
   |zero=>simpa using e2
   |succ j=>simpa using e4.2 j (by simpa using hj)
  ·cases hr
def resF(tmps:Array Value):ResultVar→Sem Value
 |.tmp t=>pure (tmps.getD t undef)
 |.cell a t=>do loadVar t (←asAddr (tmps.getD a undef))
theorem results_eq(fn:Func)(tmps:Array Value):results fn tmps=(do
    let vs ←fn.results.mapM (resF tmps)
    pure (if h:vs.size=1 then vs[0] else .tuple vs)):=by
 unfold results
 congr 2
theorem resV_sound{P:Program}{C:Ctx}(g:WR C){σ:Sg}{tmps:Array Value}{fn:Func}(h:∀t,VR C (σ t) (tmps.getD t undef)){v:AV}(hr:aW P σ C.H fn.results.toList=some v):∃u,(results fn tmps).run P C.w=.ok u C.w∧VR C v u:=by
 unfold aW at hr
 have key:∀l,aE P σ C.H fn.results.toList=some l→∃us:List Value,VRs C l us∧(results fn tmps).run P C.w=.ok (if h:us.toArray.size=1 then us.toArray[0] else .tuple us.toArray) C.w:=by
  intro l hl
  obtain⟨us,e1,e2⟩:=resAll_sound g h (F:=resF tmps) (fun r=>by cases r<;>rfl) _ l hl
  refine⟨us,e2,?_⟩
  rw[results_eq,Array.mapM_eq_mapM_toList]
  simp only[Sem.run_bind,Sem.run_map]
  rw[e1]
  simp only[Result.andThen_ok,Sem.run_pure]
 split at hr
 ·rename_i v' hl
  simp only[Option.some.injEq]at hr
  subst hr
  obtain⟨us,e1,e2⟩:=key _ hl
  obtain⟨u,rfl⟩:∃u,us=[u]:=by
   have:=e1.1
   match us,this with
   |[u],_=>exact⟨u,rfl⟩
  exact⟨u,by simpa using e2,by have:=e1.2 0 (by simp);simpa using this⟩
 ·rename_i vs hne hl
  simp only[Option.some.injEq]at hr
  subst hr
  obtain⟨us,e1,e2⟩:=key _ hl
  have hn:¬us.toArray.size=1:=by
   have h1:=e1.1
   intro h2
   have h3:vs.length=1:=by simpa [h1] using h2
   match vs,h3,hne with
   |[x],_,hne=>exact hne x rfl
  rw[dif_neg hn]at e2
  refine⟨_,e2,.tup _ _ (by simpa using e1.1) fun j hj=>?_⟩
  have:=e1.2 j hj
  rw[cJ]
  simpa [List.getD] using this
 ·cases hr
def aL0(args:List AV):Sg:=fun t=>args.getD t (.tup [])
def frz(H H0:AH):AV→AV
 |.own h off n=>(match H0 h,H h with
  |none,some (.cells cs _ s)=>.imm 0 ((cs.drop off).take (n*s)) n
  |_,_=>.own h off n)
 |v=>v.strip
theorem frz_sound{C:Ctx}{H0:AH}(g:WR C)(hs:Sub H0 C.H){a:AV}{u:Value}(h:VR C a u)(hl:∀hh off n cs e s,a=.own hh off n→C.H hh=some (.cells cs e s)→off+n*s≤cs.length):VR { C with H:=H0 } (frz C.H H0 a) u:=by
 have ew:=Ext.weaken (C:=C) H0 hs
 unfold frz
 split
 ·rename_i hh off n
  split
  ·rename_i cs e s h0 h1
   cases h with
   |own _ _ _ cap g1 g2 g3 g4=>
    obtain⟨vs,fz,b1,b2,b3,b4,b5⟩:=g.obj hh _ h1
    have hle:=hl _ _ _ _ _ _ rfl h1
    refine .imm 0 _ _ _ _ g2 g3 (fun h=>absurd rfl h) (C.i hh) off (fun _=>rfl) (fun j=>vs.getD (off+j) undef) (fun j hj=>?_) (fun j hj=>?_)
    ·have hj':off+j<cs.length:=by rw[List.length_take,List.length_drop]at hj;omega
     refine⟨?_,fun hw=>?_,(b5 _ hj').2⟩
     ·show C.w.cell? _=_
      rw[cell_of_row C.w (C.i hh) (off+j) vs e fz b1,bi (by omega)]
      exact Array.getElem?_eq_getElem (by omega)
     ·obtain⟨x,o,hx,hr,he⟩:=Wr.owned hw
      have:=g.inj x hh o _ (hs x o hx) h1 hr rfl he
      subst this
      have hx':H0 x=some o:=hx
      rw[h0]at hx'
      cases hx'
    ·have hj':off+j<cs.length:=by rw[List.length_take,List.length_drop]at hj;omega
     rw[List.getElem_take,List.getElem_drop]
     exact(b5 _ hj').1.ext ew
  ·exact h.ext ew
 ·exact(h.ext ew).strip
def ad(H:AH):AV→Prop
 |.own h off n=>(match H h with|some (.cells cs _ s)=>off+n*s≤cs.length|_=>True)
 |_=>True
def aC(P:Program)(σ:Sg)(H H0:AH):ResultVar→Option AV
 |.tmp t=>some (frz H H0 (σ t))
 |.cell a t=>aF P σ H (.cell a t)
def aN(σ:Sg)(H:AH):ResultVar→Prop
 |.tmp t=>ad H (σ t)
 |_=>True
def aA0(P:Program)(σ:Sg)(H H0:AH):List ResultVar→Option (List AV)
 |[]=>some []
 |r::rs=>match aC P σ H H0 r,aA0 P σ H H0 rs with
  |some v,some vs=>some (v::vs)
  |_,_=>none
def aB0(σ:Sg)(H:AH):List ResultVar→Prop
 |[]=>True
 |r::rs=>aN σ H r∧aB0 σ H rs
def aM(P:Program)(σ:Sg)(H H0:AH)(rs:List ResultVar):Option AV:=match aA0 P σ H H0 rs with
 |some [v]=>some v
 |some vs=>some (.tup vs)
 |none=>none
def aO(P:Program)(rs:List ResultVar)(v:AV)(H0:AH):Exit→Sg→AH→Prop
 |.normal,σ,H | .ret,σ,H=>aM P σ H H0 rs=some v∧aB0 σ H rs∧Sub H0 H
 |_,_,_=>False
theorem resOneF_sound{P:Program}{C:Ctx}{H0:AH}(g:WR C)(hs:Sub H0 C.H){σ:Sg}{tmps:Array Value}(h:∀t, VR C (σ t) (tmps.getD t undef)){r:ResultVar}{v:AV}(hr:aC P σ C.H H0 r=some v)(hf:aN σ C.H r):
    ∃u,(resF tmps r).run P C.w=.ok u C.w∧VR { C with H:=H0 } v u:=by
 cases r with
 |tmp t=>
  simp only[aC,Option.some.injEq]at hr
  subst hr
  refine⟨_,rfl,frz_sound g hs (h t) fun hh off n cs e s ha hH=>?_⟩
  simp only[aN,ha,ad,hH]at hf
  exact hf
 |cell a t=>
  obtain⟨u,h1,h2⟩:=resOne_sound (P:=P) g h (F:=resF tmps) (fun r=>by cases r<;>rfl) (show aF P σ C.H (.cell a t)=some v from hr)
  exact⟨u,h1,h2.ext (Ext.weaken H0 hs)⟩
theorem resAllF_sound{P:Program}{C:Ctx}{H0:AH}(g:WR C)(hs:Sub H0 C.H){σ:Sg}{tmps:Array Value}(h:∀t, VR C (σ t) (tmps.getD t undef)):∀(rs:List ResultVar) (l:List AV), aA0 P σ C.H H0 rs=some l→aB0 σ C.H rs→
    ∃us:List Value,(rs.mapM (resF tmps)).run P C.w=.ok us C.w∧VRs { C with H:=H0 } l us
 |[],l,hr,_=>by
  simp only[aA0,Option.some.injEq]at hr
  subst hr
  exact⟨[],by simp,rfl,fun j h=>absurd h (by simp)⟩
 |r::rs,l,hr,hf=>by
  simp only[aA0]at hr
  split at hr
  ·rename_i v vs h1 h2
   simp only[Option.some.injEq]at hr
   subst hr
   obtain⟨u,e1,e2⟩:=resOneF_sound g hs h h1 hf.1
   obtain⟨us,e3,e4⟩:=resAllF_sound g hs h rs vs h2 hf.2
   refine⟨u::us,by simp[e1,e3],by simp[e4.1],fun j hj=>?_⟩
   cases j with
   |zero=>simpa using e2
   |succ j=>simpa using e4.2 j (by simpa using hj)
  ·cases hr
theorem resVF_sound{P:Program}{C:Ctx}{H0:AH}(g:WR C)(hs:Sub H0 C.H){σ:Sg}{tmps:Array Value}{fn:Func}(h:∀t, VR C (σ t) (tmps.getD t undef)){v:AV}(hr:aM P σ C.H H0 fn.results.toList=some v)(hf:aB0 σ C.H fn.results.toList):
    ∃u,(results fn tmps).run P C.w=.ok u C.w∧VR { C with H:=H0 } v u:=by
 unfold aM at hr
 have key:∀l,aA0 P σ C.H H0 fn.results.toList=some l→∃us:List Value,VRs { C with H:=H0 } l us∧(results fn tmps).run P C.w=.ok (if h:us.toArray.size=1 then us.toArray[0] else .tuple us.toArray) C.w:=by
  intro l hl
  obtain⟨us,e1,e2⟩:=resAllF_sound g hs h _ l hl hf
  refine⟨us,e2,?_⟩
  rw[results_eq,Array.mapM_eq_mapM_toList]
  simp only[Sem.run_bind,Sem.run_map]
  rw[e1]
  simp only[Result.andThen_ok,Sem.run_pure]
 split at hr
 ·rename_i v' hl
  simp only[Option.some.injEq]at hr
  subst hr
  obtain⟨us,e1,e2⟩:=key _ hl
  obtain⟨u,rfl⟩:∃u,us=[u]:=by
   have:=e1.1
   match us,this with
   |[u],_=>exact⟨u,rfl⟩
  exact⟨u,by simpa using e2,by have:=e1.2 0 (by simp);simpa using this⟩
 ·rename_i vs hne hl
  simp only[Option.some.injEq]at hr
  subst hr
  obtain⟨us,e1,e2⟩:=key _ hl
  have hn:¬us.toArray.size=1:=by
   have h1:=e1.1
   intro h2
   have h3:vs.length=1:=by simpa [h1] using h2
   match vs,h3,hne with
   |[x],_,hne=>exact hne x rfl
  rw[dif_neg hn]at e2
  refine⟨_,e2,.tup _ _ (by simpa using e1.1) fun j hj=>?_⟩
  have:=e1.2 j hj
  rw[cJ]
  simpa [List.getD] using this
 ·cases hr
def PostW(P:Program)(fn:Func)(Γ:Ctx)(R:AV→AH→Prop)(Q:Exit→Sg→AH→Prop):Prop:=
 ∀B e σ H a w,Q e σ H→G fn.ntmps Γ B σ H a w→(e=.normal∨e=.ret)∧∃u v H' n i c,(results fn a.tmps).run P w=.ok u w∧R v H'∧WR ⟨H',n,i,c,w⟩∧Ext Γ ⟨H',n,i,c,w⟩∧VR ⟨H',n,i,c,w⟩ v u
theorem G.mark{N:Nat}{Γ:Ctx}{B:Nat}{σ:Sg}{H:AH}{tmps:Array Value}{D:Nat}{ds:List Deferred}{w:World}(hB:B=Γ.w.heap.size)(g:G N Γ B σ H { tmps:=tmps, defers:=ci D::ds } w):
    w.heap[D]? = some (.deferred (some []))∧G N Γ B σ H { tmps:=tmps,defers:=ds } (w.putObj D (.deferred none)):=by
 obtain⟨n,i,c,g1,g2,g3,⟨e0',Ds,e1,e2,e3⟩,g5⟩:=g
 cases Ds with
 |nil=>cases e1
 |cons D' Ds=>
  simp only[List.map_cons,List.cons.injEq]at e1
  obtain⟨e0,e1⟩:=e1
  obtain rfl:D=D':=by simpa [ci] using e0
  obtain⟨k1,k2,k3⟩:=e3 D (by simp)
  refine⟨k2,n,i,c,g1.turn _ k2 rfl k3,g2.turn _ k2 rfl (.inl (hB ▸ k1)),g3,⟨by rw[World.putObj_size];exact e0',Ds,e1,(List.nodup_cons.1 e2).2,fun b hb=>?_⟩,fun t=>(g5 t).turn _ k2 rfl⟩
  obtain⟨m1,m2,m3⟩:=e3 b (by simp[hb])
  refine⟨m1,?_,m3⟩
  have hne:b≠D:=fun e=>(List.nodup_cons.1 e2).1 (e ▸ hb)
  show(w.putObj D _).heap[b]? = _
  rw[World.putObj_heap_other hne]
  exact m2
theorem leaves_of_marks{P:Program}{fn:Func}{Γ:Ctx}{B:Nat}{R:AV→AH→Prop}{σ:Sg}{H:AH}{tmps:Array Value}{e:Exit}{H0:AH}{n0:Nat}{i0 c0:Nat→Nat}{w0:World}
    (hq:∀w,G fn.ntmps Γ B σ H { tmps:=tmps,defers:=[] } w→(e=.normal∨e=.ret)∧∃u v H' n i c,(results fn tmps).run P w=.ok u w∧R v H'∧WR ⟨H',n,i,c,w⟩∧Ext Γ ⟨H',n,i,c,w⟩∧VR ⟨H',n,i,c,w⟩ v u) (hΓ:Γ=⟨H0,n0,i0,c0,w0⟩) (hB:B=Γ.w.heap.size):
    ∀(ds:List Deferred) (w:World),G fn.ntmps Γ B σ H { tmps:=tmps,defers:=ds } w→(e=.normal∨e=.ret)∧
     LeavesInM (FW none) 0 P fn tmps (fun e' w''=>∃u,e'=.returned u∧∃v H' n' i' c',R v H'∧WR ⟨H',n',i',c',w''⟩∧Ext ⟨H0,n0,i0,c0,w0⟩ ⟨H',n',i',c',w''⟩∧VR ⟨H',n',i',c',w''⟩ v u) ds .returning w
 |[],w,g=>by
  obtain⟨he,u,v,H',n,i,c,r1,r2,r3,r4,r5⟩:=hq w g
  subst hΓ
  exact⟨he,u,r1,u,rfl,v,H',n,i,c,r2,r3,r4,r5⟩
 |d::ds,w,g=>by
  obtain⟨D,rfl⟩:∃D,d=ci D:=by
   obtain⟨n,i,c,g1,g2,g3,⟨e0',Ds,e1,e2,e3⟩,g5⟩:=id g
   cases Ds with
   |nil=>cases e1
   |cons D' Ds=>simp only[List.map_cons,List.cons.injEq]at e1;exact⟨D',e1.1⟩
  obtain⟨k,g'⟩:=g.mark hB
  obtain⟨he,hl⟩:=leaves_of_marks hq hΓ hB ds _ g'
  exact⟨he,(by simp),.inl ⟨D,_,rfl,run_takeDeferred k,hl⟩⟩
theorem dn{c:Cfg}{f:FuncId}{fn:Func}{body:Code}{args:List AV}{H:AH}{R:AV→AH→Prop}{Q:Exit→Sg→AH→Prop}(hm:c.P.follows .mixedOrders=true)(hf:c.P.funcs[f]? = some fn)(hb:fn.body=some body)(hN:fn.ntmps=c.N)(ha:args.length≤c.N)
    (hok:(bV c body&&ak c.P f)=true) (h:cwp c body Q (aL0 args) H) (hQ:∀Γ,PostW c.P fn Γ R Q):ACalls c.P f args H R:=by
 simp only[Bool.and_eq_true]at hok
 obtain⟨hok,hcal⟩:=hok
 intro n i cc w vs g hx
 rw[cZ hcal]
 simp only[Upon]
 have hwp:=cwp.sound hm body hok _ _ _ h ⟨H,n,i,cc,w⟩
 refine(callsIn_FW (ro:=none) (n:=0)).1 (callsIn_of_wp_marks hf hb trivial (wpIn_mono (hwp none (.inl rfl) w.heap.size { tmps:=vs.toArray++Array.replicate (fn.ntmps-vs.toArray.size) undef,defers:=[] } w ?_) ?_))
 ·refine⟨n,i,cc,g,Ext.refl _,?_,Marks.nil (Nat.le_refl _),fun t=>?_⟩
  ·have:=hx.1
   simp;omega
  ·have hlen:=hx.1
   by_cases ht:t<args.length
   ·have:=hx.2 t ht
    have e1:(aL0 args) t=args[t]:=by simp[aL0,List.getD,ht]
    have e2:(vs.toArray++Array.replicate (fn.ntmps-vs.toArray.size) undef).getD t undef=vs.getD t undef:=by
     rw[cJ]
     simp only[Array.toList_append]
     rw[List.getElem?_append_left (by simpa [hlen] using ht)]
     simp[List.getD]
    rw[e1]
    show VR _ _ ((vs.toArray++Array.replicate (fn.ntmps-vs.toArray.size) undef).getD t undef)
    rw[e2]
    exact this
   ·have e1:(aL0 args) t=.tup []:=by simp[aL0,List.getD,List.getElem?_eq_none (Nat.le_of_not_lt ht)]
    have e2:(vs.toArray++Array.replicate (fn.ntmps-vs.toArray.size) undef).getD t undef=undef:=by
     rw[cJ]
     simp only[Array.toList_append]
     rw[List.getElem?_append_right (by simpa [hlen] using Nat.le_of_not_lt ht)]
     cases hh:(Array.replicate (fn.ntmps-vs.toArray.size) undef).toList[t-vs.toArray.toList.length]? with
     |none=>rfl
     |some x=>
      have:=List.mem_of_getElem? hh
      simp at this
      simp[this.2]
    rw[e1]
    show VR _ _ ((vs.toArray++Array.replicate (fn.ntmps-vs.toArray.size) undef).getD t undef)
    rw[e2]
    exact VR.skipped
 ·rintro e a' w' ⟨σ',H',hG,q⟩
  rw[←hN]at hG
  have hl:=leaves_of_marks (Γ:=⟨H,n,i,cc,w⟩) (e:=e) (R:=R) (P:=c.P) (fun w'' g'=>hQ _ _ e σ' H' { a' with defers:=[] } w'' q g') rfl rfl a'.defers w' hG
  rcases hl.1 with rfl|rfl
  ·exact hl.2
  ·exact hl.2
theorem Post_W{P:Program}{fn:Func}{rs:List ResultVar}(hrs:fn.results.toList=rs){R:AV→AH→Prop}(Γ:Ctx):PostW P fn Γ R (aR P rs R):=by
 subst hrs
 rintro B e σ H a w q ⟨n,i,c,g1,g2,g3,g4,g5⟩
 have key:(∃v,aW P σ H fn.results.toList=some v∧∃H'',Sub H'' H∧R v H'')→∃u v H' n i c,(results fn a.tmps).run P w=.ok u w∧R v H'∧WR ⟨H',n,i,c,w⟩∧Ext Γ ⟨H',n,i,c,w⟩∧VR ⟨H',n,i,c,w⟩ v u:=by
  rintro⟨v,hv,H'',hs,hR⟩
  obtain⟨u,r1,r2⟩:=resV_sound g1 (tmps:=a.tmps) (fn:=fn) g5 hv
  have ew:=Ext.weaken (C:=⟨H,n,i,c,w⟩) H'' hs
  exact⟨u,v,H'',n,i,c,r1,hR,g1.weaken H'' hs,g2.trans ew,r2.ext ew⟩
 cases e<;>first|exact q.elim|exact⟨.inl rfl,key q⟩|exact⟨.inr rfl,key q⟩
theorem PostP_W{P:Program}{fn:Func}{rs:List ResultVar}(hrs:fn.results.toList=rs){v:AV}{H0:AH}(Γ:Ctx):PostW P fn Γ (fun v' H'=>v'=v∧H'=H0) (aO P rs v H0):=by
 subst hrs
 rintro B e σ H a w q ⟨n,i,c,g1,g2,g3,g4,g5⟩
 have key:(aM P σ H H0 fn.results.toList=some v∧aB0 σ H fn.results.toList∧Sub H0 H)→∃u v' H' n i c,(results fn a.tmps).run P w=.ok u w∧(v'=v∧H'=H0)∧WR ⟨H',n,i,c,w⟩∧Ext Γ ⟨H',n,i,c,w⟩∧VR ⟨H',n,i,c,w⟩ v' u:=by
  rintro⟨hv,hf,hs⟩
  obtain⟨u,r1,r2⟩:=resVF_sound g1 hs (tmps:=a.tmps) (fn:=fn) g5 hv hf
  exact⟨u,v,H0,n,i,c,r1,⟨rfl,rfl⟩,g1.weaken H0 hs,g2.trans (Ext.weaken H0 hs),r2⟩
 cases e<;>first|exact q.elim|exact⟨.inl rfl,key q⟩|exact⟨.inr rfl,key q⟩
theorem ao0{c:Cfg}{f:FuncId}{fn:Func}{body:Code}{rs:List ResultVar}{args:List AV}{H:AH}{R:AV→AH→Prop}(hm:c.P.follows .mixedOrders=true)(hf:c.P.funcs[f]? = some fn)(hb:fn.body=some body)(hrs:fn.results.toList=rs)(hN:fn.ntmps=c.N)(ha:args.length≤c.N)
    (hok:(bV c body&&ak c.P f)=true) (h:cwp c body (aR c.P rs R) (aL0 args) H):ACalls c.P f args H R:=
 dn hm hf hb hN ha hok h (Post_W hrs)
theorem az{c:Cfg}{f:FuncId}{fn:Func}{body:Code}{rs:List ResultVar}{args:List AV}{v:AV}(hm:c.P.follows .mixedOrders=true)(hf:c.P.funcs[f]? = some fn)(hb:fn.body=some body)(hrs:fn.results.toList=rs)(hN:fn.ntmps=c.N)(ha:args.length≤c.N)
    (hok:(bV c body&&ak c.P f)=true) (h:∀H,cwp c body (aO c.P rs v H) (aL0 args) H):APure c.P f args v:=
 fun H=>dn hm hf hb hN ha hok (h H) (PostP_W hrs)
theorem loop_rule{c:Cfg}{a:Code}{Q:Exit→Sg→AH→Prop}{σ:Sg}{H:AH}(hm:c.P.follows .mixedOrders=true)(hok:bV c a=true)(I:Nat→Sg→AH→Prop)(m:Nat)(h0:I m σ H)
    (round:∀m σ H,I m σ H→cwp c a (dp (fun σ' H'=>∃m',m'<m∧I m' σ' H') Q) σ H):LoopG c a Q σ H:=
 fun Γ=>awp_loop I m h0 fun m σ H hI=>cwp.sound hm a hok _ _ _ (round m σ H hI) Γ
theorem tok_rule{c:Cfg}{a:Code}{Q:Exit→Sg→AH→Prop}{σ:Sg}{H:AH}(t:Nat)(hs:σ t=.sc (.slice none 0 0))
    (h:∀k,k≠0→H k=none→LoopG c a Q (σ.put (some t) (.imm k [] 0)) (H.set k .nilt)):LoopG c a Q σ H:=by
 intro Γ ro ok B a' w g
 obtain⟨n,i,cc,g1,g2,g3,g4,g5⟩:=g
 refine h n (Nat.ne_of_gt g1.pos) (bh g1) Γ ro ok B a' w ⟨n+1,upd i n 0,upd cc n 0,g1.nilt 0,g2.trans (Ext.nilt g1 0),g3,g4.ext (Ext.nilt g1 0),fun x=>?_⟩
 show VR _ (if x=t then _ else σ x) _
 split
 ·rename_i hx
  have h1:=g5 x
  rw[hx,hs]at h1
  rw[hx,bQ h1]
  exact .imm n [] 0 none 0 (Nat.le_refl _) (Nat.zero_le _) (fun _=>⟨Nat.lt_succ_self _,by show 0=rm (upd cc n 0 n);rw[bC0,rm_zero],.inr ⟨rfl,rfl⟩⟩) 0 0 (fun h=>absurd rfl h) (fun _=>undef) (fun j h=>absurd h (by simp)) (fun j h=>absurd h (by simp))
 ·exact(g5 x).ext (Ext.nilt g1 0)
theorem set_new_set{H:AH}{k k':Nat}{o o':AObj}(h:H k=none):((H.set k o).kill k).set k' o'=H.set k' o':=by rw[ef h]
theorem set_get{H:AH}{k:Nat}{o:AObj}:(H.set k o) k=some o:=by simp[AH.set]
end Go.Abs
