/-
  Several texts in one: each says what it proves.
  Conditions: none. Lemmas only.
-/
import Derived.Test.YtcncplameclkfaaGreatDoorAbsG2
import Derived.MapKept
import Derived.Maps.RangeRun
import Derived.Lib.AppendZerosOnto
set_option linter.all false
section
namespace Go.Abs
open Go Go.RowKit
variable {P:Program}
theorem eS0{a b:List Value}{j:Nat}(h:j<a.length):(a++b).getD j undef=a.getD j undef:=by
 simp only[List.getD];rw[List.getElem?_append_left h]
theorem eF0{a b:List Value}{j:Nat}(h:a.length≤j):(a++b).getD j undef=b.getD (j-a.length) undef:=by
 simp only[List.getD];rw[List.getElem?_append_right h]
theorem first_old{C:Ctx}{k:Nat}{cells:List AV}{n:Nat}{v:Value}{s:Nat}(hs:VR C (.imm k cells n) v)(hcl:cells.length=n*s)(w:World)(hw:w.heap=C.w.heap):
    ∃ov:List Value,ov.length=cells.length∧(∀u∈ov,u.oneCell'=true)∧(∀j (h:j<cells.length),VR C cells[j] (ov.getD j undef))∧(Builtin.firstCells s n v).run P w=.ok ov.toArray w:=by
 obtain⟨A,cap,rfl,hn,hm,hk,b,o,ha,u,hc,hv⟩:=hs.imm_inv
 refine⟨(List.range cells.length).map u,by simp,fun x hx=>?_,fun j hj=>?_,?_⟩
 ·simp only[List.mem_map,List.mem_range]at hx
  obtain⟨j,hj,rfl⟩:=hx
  exact(hc j hj).2.2
 ·simp[List.getD,hj]
  exact hv j hj
 ·cases A with
  |none=>
   have:cells=[]:=Classical.byContradiction fun h=>by cases ha h
   subst this
   simp[Builtin.firstCells]
  |some a=>
   simp only[Builtin.firstCells]
   rw[←hcl]
   have:=run_loadCells (P:=P) w a cells.length u (fun j hj=>by
    have hne:cells≠[]:=fun e=>by simp[e]at hj
    have h1:=ha hne
    simp only[Option.some.injEq]at h1
    rw[h1,bT]
    have h2:=(hc j hj).1
    rw[←h2]
    exact World.cell?_of_block (by rw[hw]))
   exact this
theorem not_wr_grow{C:Ctx}{k m m' c':Nat}{e:TypeId}{s:Nat}(g:WR C)(ho:C.H k=some (.tail m e s)){w:World}{off:Nat}
    (h:Wr ⟨(C.H.kill k).set C.n (.tail m' e s),C.n+1,upd C.i C.n (C.i k),upd C.c C.n c',w⟩ ⟨C.i k,off,none⟩):pl c'+m'≤off:=by
 obtain⟨x,hx⟩:=h
 simp only[AH.set,AH.kill]at hx
 by_cases hxn:x=C.n
 ·subst hxn
  simp only[if_true]at hx
  have:=hx.2
  rw[bC0]at this
  exact this
 ·simp only[hxn,if_false]at hx
  by_cases hxk:x=k
  ·simp[hxk]at hx
  ·simp only[hxk,if_false]at hx
   exfalso
   have hu:upd C.i C.n (C.i k) x=C.i x:=by simp[upd,hxn]
   rw[hu]at hx
   cases hox:C.H x with
   |none=>simp[hox]at hx
   |some o=>
    cases o<;>simp[hox]at hx
    ·exact hxk (g.inj x k _ _ hox ho rfl rfl hx.symm)
    ·exact hxk (g.inj x k _ _ hox ho rfl rfl hx.1.symm)
    ·exact hxk (g.inj x k _ _ hox ho rfl rfl hx.symm)
    ·exact hxk (g.inj x k _ _ hox ho rfl rfl hx.symm)
    ·exact hxk (g.inj x k _ _ hox ho rfl rfl hx.symm)
theorem append_tok{C:Ctx}(g:WR C){k:Nat}{cells:List AV}{n:Nat}{v:Value}{o:AObj}{t t' ty e:TypeId}(ht:P.underlying t=some (.slice e))(hT:ax P e=true)(hpos:0<ai0 P e)
    (hs:VR C (.imm k cells n) v) (hk0:k≠0) (ho:C.H k=some o) (htok:cy0 e (ai0 P e) o cells.length) (hcl:cells.length=n*ai0 P e)
    {xv:Value} {m:Nat} {news:List AV} {nv:List Value} {dt:TypeDesc} (ht':P.underlying t'=some dt) (hdt:∀kk,dt ≠ .int kk) (hlen:∀w,(Builtin.lenOf xv).run P w=.ok m w) (hnl:news.length=m*ai0 P e)
    (hfirst:∀w,w.heap=C.w.heap→(Builtin.firstCells (ai0 P e) m xv).run P w=.ok nv.toArray w)
    (hnv:nv.length=news.length) (h1:∀u∈nv,u.oneCell'=true) (hv:∀j (h:j<news.length),VR C news[j] (nv.getD j undef))
    (h63:n+m≤maxLen) (hby:(n+m)*ay P e≤140737488355328):
    ∃r D o',(Builtin.append_ #[t,t'] ty #[v,xv]).run P C.w=.ok r D.w∧D.H=(C.H.kill k).set C.n o'∧cy0 e (ai0 P e) o' (cells++news).length∧WR D∧Ext C D∧VR D (.imm C.n (cells++news) (n+m)) r:=by
 obtain⟨A,cap,hvv,hn,hm,hk,b,off,ha,u,hc,hcv⟩:=hs.imm_inv
 obtain⟨k1,k2,k3⟩:=hk hk0
 subst hvv
 obtain⟨ti,hti,s1,s2,s3,s4,s5⟩:=c90 hT
 have hn0:C.n≠0:=Nat.ne_of_gt g.pos
 have hllen:(cells++news).length=(n+m)*ai0 P e:=by rw[List.length_append,hcl,hnl,Nat.add_mul]
 have gk:=g.weaken (C.H.kill k) (fun x o h=>by simp only[AH.kill]at h;split at h;cases h;exact h)
 have ek:=Ext.weaken (C:=C) (C.H.kill k) (fun x o h=>by simp only[AH.kill]at h;split at h;cases h;exact h)
 by_cases hroom:n+m≤cap
 ·-- there is room
  have hmul:n*ai0 P e+m*ai0 P e≤cap*ai0 P e:=by rw[←Nat.add_mul];exact Nat.mul_le_mul_right _ hroom
  rcases htok.cases3 with rfl|⟨hm0,rfl⟩|⟨cc,hm0,rfl⟩
  ·have hfit:cells.length+news.length≤rm (C.c k)*ai0 P e:=by rw[←k2,hcl,hnl];exact hmul
   obtain⟨w',r1,r2,r3,r4⟩:=grow_tok (P:=P) g ho hnv h1 hv hfit
   refine⟨.slice A (n+m) cap,⟨(C.H.kill k).set C.n (.tail (cells.length+news.length) e (ai0 P e)),C.n+1,upd C.i C.n (C.i k),upd C.c C.n (C.c k),w'⟩,.tail (cells.length+news.length) e (ai0 P e),?_,rfl,.inl (by rw[List.length_append]),r2,r3,?_⟩
   ·have hf:=hfirst C.w rfl
    rcases k3 with hA|⟨hA,hcap⟩
    ·subst hA
     rw[hcl]at r1
     simp[Builtin.append_,run_underlying ht,run_underlying ht',bD0 hT,hlen,hroom,hf,bT,r1]
    ·subst hA
     have : nv = [] := List.eq_nil_of_length_eq_zero (by rw [hnv, hnl]; have : m = 0 := by omega
                                                         simp[this])
     subst this
     simp only[storeCells,Sem.run_pure,Result.ok.injEq,true_and]at r1
     subst r1
     simp[Builtin.append_,run_underlying ht,run_underlying ht',bD0 hT,hlen,hroom,hf]
   ·have hcell:∀j, j<(cells++news).length→(⟨(C.H.kill k).set C.n (.tail (cells.length+news.length) e (ai0 P e)), C.n+1, upd C.i C.n (C.i k), upd C.c C.n (C.c k), w'⟩:Ctx).At ⟨C.i k, pl (C.c k)+j, none⟩ (if j<cells.length then u j else nv.getD (j-cells.length) undef):=by
     intro j hj
     by_cases hlt:j<cells.length
     ·rw[if_pos hlt]
      have hne:cells≠[]:=fun h=>by simp[h]at hlt
      have h2:=ha hne
      have h3:=hc j hlt
      rcases k3 with hA|⟨hA,_⟩
      ·rw[hA]at h2
       simp only[Option.some.injEq,Addr.mk.injEq]at h2
       obtain⟨rfl,rfl,_⟩:=h2
       exact r3.at_ _ _ h3
      ·rw[hA]at h2;cases h2
     ·rw[if_neg hlt]
      have hj':j-cells.length<news.length:=by rw[List.length_append]at hj;omega
      have h4:=r4 (j-cells.length) hj'
      rw[show pl (C.c k)+cells.length+(j-cells.length)=pl (C.c k)+j by omega]at h4
      refine⟨h4,fun hw=>?_,h1 _ ?_⟩
      ·have:=not_wr_grow g ho hw
       rw[List.length_append]at hj
       omega
      ·rw[List.getD,List.getElem?_eq_getElem (by omega)]
       exact List.getElem_mem _
    refine .imm C.n (cells++news) (n+m) A cap hroom hm (fun _=>⟨Nat.lt_succ_self _,?_,?_⟩) (C.i k) (pl (C.c k)) (fun hne=>?_) _ hcell (fun j hj=>?_)
    ·show cap=rm (upd C.c C.n (C.c k) C.n)
     rw[bC0];exact k2
    ·show A=some ⟨upd C.i C.n (C.i k) C.n,pl (upd C.c C.n (C.c k) C.n),none⟩∨_
     rw[bC0,bC0];exact k3
    ·rcases k3 with hA|⟨hA,hcap⟩
     ·exact hA
     ·exfalso
      apply hne
      apply List.eq_nil_of_length_eq_zero
      rw[hllen]
      have:n+m=0:=by omega
      simp[this]
    ·by_cases hlt:j<cells.length
     ·rw[List.getElem_append_left hlt,if_pos hlt]
      exact(hcv j hlt).ext r3
     ·rw[List.getElem_append_right (by omega),if_neg hlt]
      exact(hv _ _).ext r3
  ·have hcz:C.c k=0:=g.obj k _ ho
   rw[hcz,rm_zero]at k2
   rw[hcz,pl_zero]at k3
   have hn':n=0:=by omega
   have hm':m=0:=by omega
   subst hn' hm'
   have hc0:cells=[]:=List.eq_nil_of_length_eq_zero hm0
   have hn0':news=[]:=List.eq_nil_of_length_eq_zero (by simpa using hnl)
   subst hc0 hn0'
   have hnv0:nv=[]:=List.eq_nil_of_length_eq_zero (by simpa using hnv)
   subst hnv0
   have g2:=gk.nilt (C.i k)
   have e2:=ek.trans (Ext.nilt gk (C.i k))
   refine⟨.slice A 0 cap,⟨(C.H.kill k).set C.n .nilt,C.n+1,upd C.i C.n (C.i k),upd C.c C.n 0,C.w⟩,.nilt,?_,rfl,.inr ⟨(Nat.zero_mul _).symm,rfl⟩,g2,e2,?_⟩
   ·have hf:=hfirst C.w rfl
    cases A with
    |none=>simp[Builtin.append_,run_underlying ht,run_underlying ht',bD0 hT,hlen,hf]
    |some a=>simp[Builtin.append_,run_underlying ht,run_underlying ht',bD0 hT,hlen,hf,storeCells]
   ·refine .imm C.n [] 0 A cap (Nat.zero_le _) hm (fun _=>⟨Nat.lt_succ_self _,?_,?_⟩) 0 0 (fun h=>absurd rfl h) (fun _=>undef) (fun j h=>absurd h (by simp)) (fun j h=>absurd h (by simp))
    ·show cap=rm (upd C.c C.n 0 C.n)
     rw[bC0,rm_zero];omega
    ·show A=some ⟨upd C.i C.n (C.i k) C.n,pl (upd C.c C.n 0 C.n),none⟩∨_
     rw[bC0,bC0,pl_zero];exact k3
  ·have hcz:rm (C.c k)=cc:=(g.obj k _ ho).1
   have hcn:n=cc:=by rw[hcl]at hm0;exact Nat.eq_of_mul_eq_mul_right hpos hm0
   subst hcn
   have hm':m=0:=by omega
   subst hm'
   have hn0':news=[]:=List.eq_nil_of_length_eq_zero (by simpa using hnl)
   subst hn0'
   have hnv0:nv=[]:=List.eq_nil_of_length_eq_zero (by simpa using hnv)
   subst hnv0
   have g2:=gk.full (C.i k) n (C.c k) hcz (by omega)
   have e2:=ek.trans (Ext.full gk (C.i k) n (C.c k))
   refine⟨.slice A n cap,⟨(C.H.kill k).set C.n (.full n),C.n+1,upd C.i C.n (C.i k),upd C.c C.n (C.c k),C.w⟩,.full n,?_,rfl,.inr ⟨by rw[List.append_nil];exact hcl,rfl⟩,g2,e2,?_⟩
   ·have hf:=hfirst C.w rfl
    cases A with
    |none=>simp[Builtin.append_,run_underlying ht,run_underlying ht',bD0 hT,hlen,hf,hn]
    |some a=>simp[Builtin.append_,run_underlying ht,run_underlying ht',bD0 hT,hlen,hf,storeCells,hn]
   ·rw[List.append_nil,Nat.add_zero]
    refine .imm C.n cells n A cap hn hm (fun _=>⟨Nat.lt_succ_self _,?_,?_⟩) b off ha u (fun j hj=>e2.at_ _ _ (hc j hj)) (fun j hj=>(hcv j hj).ext e2)
    ·show cap=rm (upd C.c C.n (C.c k) C.n)
     rw[bC0];exact k2
    ·show A=some ⟨upd C.i C.n (C.i k) C.n,pl (upd C.c C.n (C.c k) C.n),none⟩∨_
     rw[bC0,bC0];exact k3
 ·-- a new row
  obtain⟨ov,o1,o2,o3,o4⟩:=first_old (P:=P) hs hcl C.w.drew rfl
  have hf:=hfirst C.w.drew rfl
  have hneed:cap<n+m:=by omega
  have hge:=grownCap_ge C.w (n+m) cap e
  have hle:=grownCap_le_maxLen C.w (n+m) cap e h63
  have eh:=Ext.heap (C:={ C with H:=C.H.kill k }) C.w.drew rfl rfl rfl rfl
  have gh:=gk.heap C.w.drew rfl rfl rfl rfl
  have hz:=cz0 (C:=C) hT
  have hzs:(bk P e).cells.size=ai0 P e:=s4
  have hrow:((ov.toArray++nv.toArray++Builtin.zeroCells (bk P e).cells (grownCap C.w (n+m) cap e-(n+m))):Array Value).size=grownCap C.w (n+m) cap e*ai0 P e:=by
   simp only[Array.size_append,List.size_toArray,size_zeroCells,hzs,o1,hnv,hcl,hnl,←Nat.add_mul]
   congr 1
   omega
  have hnot:¬(n+m≤cap):=hroom
  have h63':¬((9223372036854775807:Int)<(n:Int)+(m:Int)):=by unfold maxLen at h63;omega
  have hgrow:=growslice_fits hneed hby
  have h48:¬(281474976710656<Builtin.nextslicecap (n+m) cap*ay P e):=by omega
  have hget:∀j,j<(cells++news).length→((ov.toArray++nv.toArray++Builtin.zeroCells (bk P e).cells (grownCap C.w (n+m) cap e-(n+m))):Array Value).getD j undef=(ov++nv).getD j undef:=by
   intro j hj
   have hj':j<ov.length+nv.length:=by rw[o1,hnv];rw[List.length_append]at hj;exact hj
   rw[cJ]
   simp only[Array.toList_append,List.getD]
   rw[List.getElem?_append_left (by simpa using hj')]
  have hlenR:(cells++news).length≤((ov.toArray++nv.toArray++Builtin.zeroCells (bk P e).cells (grownCap C.w (n+m) cap e-(n+m))):Array Value).size:=by
   rw[hrow,hllen]
   exact Nat.mul_le_mul_right _ hge
  have hone:∀j,j<(cells++news).length→((ov++nv).getD j undef).oneCell'=true:=by
   intro j hj
   have hj':j<(ov++nv).length:=by rw[List.length_append,o1,hnv,←List.length_append];exact hj
   rw[List.getD,List.getElem?_eq_getElem hj']
   have hmem:=List.getElem_mem hj'
   rcases List.mem_append.1 hmem with h|h
   ·exact o2 _ h
   ·exact h1 _ h
  have hrel:∀j (h:j<(cells++news).length),VR C (cells++news)[j] ((ov++nv).getD j undef):=by
   intro j hj
   by_cases hlt:j<cells.length
   ·rw[List.getElem_append_left hlt,eS0 (by omega)]
    exact o3 j hlt
   ·rw[List.getElem_append_right (by omega),eF0 (by omega),o1]
    exact hv _ _
  generalize hvs:(ov.toArray++nv.toArray++Builtin.zeroCells (bk P e).cells (grownCap C.w (n+m) cap e-(n+m)):Array Value)=vs at *
  have ea:=Ext.add gh (.tail (cells++news).length e (ai0 P e)) (.cells vs e) (grownCap C.w (n+m) cap e)
  have hobj:ObjR ⟨(C.H.kill k).set C.n (.tail (cells++news).length e (ai0 P e)),C.n+1,upd C.i C.n C.w.drew.heap.size,upd C.c C.n (grownCap C.w (n+m) cap e),C.w.drew.alloc (.cells vs e)⟩ C.n (.tail (cells++news).length e (ai0 P e)):=by
   refine⟨vs,(0,0),?_,.inl rfl,?_,by show pl (upd C.c C.n (grownCap C.w (n+m) cap e) C.n)+_≤_;rw[bC0,qV hle,Nat.zero_add];exact hlenR⟩
   ·show(C.w.drew.alloc (.cells vs e)).heap[upd C.i C.n C.w.drew.heap.size C.n]? = _
    rw[bC0]
    exact heap_alloc_new _ _
   ·show vs.size=pl (upd C.c C.n (grownCap C.w (n+m) cap e) C.n)+rm (upd C.c C.n (grownCap C.w (n+m) cap e) C.n)*_
    rw[bC0,qV hle,rP hle,Nat.zero_add]
    exact hrow
  have ga:=WR.add gh (.tail (cells++news).length e (ai0 P e)) (.cells vs e) (grownCap C.w (n+m) cap e) hobj
  have eD:=(ek.trans eh).trans ea
  refine⟨.slice (some ⟨C.w.heap.size,0,none⟩) (n+m) (grownCap C.w (n+m) cap e),_,.tail (cells++news).length e (ai0 P e),?_,rfl,.inl rfl,ga,eD,?_⟩
  ·simp[Builtin.append_,run_underlying ht,run_underlying ht',bD0 hT,hlen,hnot,h63',typeInfo,hti,s2,h48,Question.forced]
   have o4':(Builtin.firstCells (ai0 P e) n (.slice A n cap)).run P C.w.drew=.ok ov.toArray C.w.drew:=o4
   simp only[grownCap]at *
   simp[o4',hf,cX0 hT,newRow]
   rw[←hvs,Array.append_assoc]
  ·refine .imm C.n (cells++news) (n+m) _ _ hge hle (fun _=>⟨Nat.lt_succ_self _,?_,.inl ?_⟩) C.w.heap.size 0 (fun _=>rfl) (fun j=>(ov++nv).getD j undef) (fun j hj=>?_) (fun j hj=>(hrel j hj).ext eD)
   ·show _=rm (upd C.c C.n _ C.n)
    rw[bC0,rP hle]
   ·show(some ⟨C.w.heap.size,0,none⟩:Option Addr)=some ⟨upd C.i C.n C.w.drew.heap.size C.n,pl (upd C.c C.n _ C.n),none⟩
    rw[bC0,bC0,qV hle]
    rfl
   ·rw[Nat.zero_add]
    refine⟨?_,fun hw=>?_,hone j hj⟩
    ·show(C.w.drew.alloc (.cells vs e)).cell? ⟨C.w.drew.heap.size,j,none⟩=_
     rw[World.cell?_alloc_new]
     have hj2:j<vs.size:=by omega
     have h3:=hget j hj
     rw[bi hj2]at h3
     rw[Array.getElem?_eq_getElem hj2,h3]
    ·rcases Wr.of_add (C:={ H:=C.H.kill k,n:=C.n,i:=C.i,c:=C.c,w:=C.w.drew }) hw with h|⟨_,_,h⟩
     ·have:=Owned.lt gh (Wr.owned h)
      simp at this
     ·have:=h _ _ _ rfl
      simp only[]at this
      omega
end Go.Abs
end
section
namespace Go.Abs
open Go Go.RowKit
variable {P:Program}
def cl0(P:Program):Nat→TypeId→AV→Bool
 |0,_,_=>false
 |d+1,t,x=>match P.underlying t with
  |none=>false
  |some (.interface _)=>false
  |some (.array n e)=>(match x with
   |.agg cells=>ax P e&&(List.range n).all fun i=>(match aJ P e cells (i*ai0 P e) with|some a=>cl0 P d e a|none=>false)
   |_=>false)
  |some (.struct fs)=>(match x with
   |.agg cells=>fs.toList.all fun f=>f.name == "_" || (match aJ P f.type cells f.offset with|some a=>cl0 P d f.type a|none=>false)
   |_=>false)
  |some _=>true
theorem eZ{α:Type}{g:α→Unit→Sem (ForInStep Unit)}{w:World}:∀(l:List α),(∀a∈l,(g a ()).run P w=.ok (.yield ()) w)→(forIn l () g:Sem Unit).run P w=.ok () w
 |[],_=>by simp
 |a::l,h=>by
  have h1:=h a (by simp)
  have h2:=eZ l fun b hb=>h b (by simp[hb])
  simp only[List.forIn_cons,Sem.run_bind,h1,Result.andThen_ok]
  exact h2
theorem dj{C:Ctx}:∀(d n:Nat) (t:TypeId) (x:AV) (u:Value),d≤n→cl0 P d t x=true→VR C x u→∀(e:Bool) (w:World),(Instr.checkKey e n t u).run P w=.ok () w
 |0,_,_,_,_,_,h,_,_,_=>by simp[cl0]at h
 |d+1,n,t,x,u,hd,h,hx,e,w=>by
  obtain⟨n,rfl⟩:∃n',n=n'+1:=⟨n-1,by omega⟩
  unfold cl0 at h
  split at h
  ·cases h
  ·cases h
  ·rename_i len el hu
   split at h
   ·rename_i cells
    obtain⟨vs,rfl,hs,h1,hv⟩:=hx.agg_inv
    simp only[Bool.and_eq_true,List.all_eq_true]at h
    obtain⟨hT,h⟩:=h
    have key:∀i,i<len→(do Instr.checkKey e n el (←part el vs (i*(←sizeOf el))):Sem Unit).run P w=.ok () w:=by
     intro i hi
     have:=h i (by simpa using hi)
     split at this
     ·rename_i a ha
      obtain⟨r,r1,r2⟩:=dY (P:=P) hs h1 hv ha w
      have r3:=dj d n el a r (by omega) this r2 e w
      simp[bD0 hT,r1,r3]
     ·cases this
    simp only[Instr.checkKey,Sem.run_bind,run_underlying hu,Result.andThen_ok]
    rw[Std.Legacy.Range.forIn_eq_forIn_range',eZ]
    ·rfl
    ·intro i hi
     have hi':i<len:=by simpa [Std.Legacy.Range.size] using hi
     have:=key i hi'
     simp[bD0 hT]at this ⊢
     generalize (part el vs (i*ai0 P el)).run P w=q at this
     cases q with
     |ok r w2=>simp only[Result.andThen_ok]at this ⊢;simp[this]
     |halt x w2=>simp[Result.andThen]at this
   ·cases h
  ·rename_i fs hu
   split at h
   ·rename_i cells
    obtain⟨vs,rfl,hs,h1,hv⟩:=hx.agg_inv
    simp only[List.all_eq_true]at h
    have key:∀f∈fs.toList,(do if f.name ≠ "_" then Instr.checkKey e n f.type (←part f.type vs f.offset):Sem Unit).run P w=.ok () w:=by
     intro f hf
     have:=h f hf
     by_cases hn:f.name = "_"
     ·simp[hn]
     ·simp only[Bool.or_eq_true,beq_iff_eq,hn,false_or]at this
      split at this
      ·rename_i a ha
       obtain⟨r,r1,r2⟩:=dY (P:=P) hs h1 hv ha w
       have r3:=dj d n f.type a r (by omega) this r2 e w
       simp[hn,r1,r3]
      ·cases this
    simp only[Instr.checkKey,Sem.run_bind,run_underlying hu,Result.andThen_ok]
    rw[←Array.forIn_toList,eZ]
    ·rfl
    ·intro f hf
     have:=key f hf
     by_cases hn:f.name = "_"
     ·simp[hn]
     ·simp[hn]at this ⊢
      generalize (part f.type vs f.offset).run P w=q at this
      cases q with
      |ok r w2=>simp only[Result.andThen_ok]at this ⊢;simp[this]
      |halt x w2=>simp[Result.andThen]at this
   ·cases h
  ·rename_i td n1 n2 n3 hu
   simp only[Instr.checkKey,Sem.run_bind,run_underlying hu,Result.andThen_ok]
   split
   ·rename_i hh;exact absurd rfl (n1 _)
   ·exact absurd rfl (n2 _ _)
   ·exact absurd rfl (n3 _)
   ·exact absurd rfl (n1 _)
   ·exact absurd rfl (n1 _)
   ·exact absurd rfl (n2 _ _)
   ·exact absurd rfl (n3 _)
   ·rfl
def cY(P:Program)(kt:TypeId)(key:AV):List (AV × AV)→Nat→Option (Option (Nat × AV))
 |[],_=>some none
 |(k,v)::r,i=>match eqG P 6 kt key k with
  |some true=>some (some (i,v))
  |some false=>cY P kt key r (i+1)
  |none=>none
def FoundR(C:Ctx)(ms:List MapEntry)(i0:Nat):Option (Nat × AV)→Option (Nat × Value)→Prop
 |none,none=>True
 |some (i,v),some (i',u)=>i=i'∧i0≤i∧∃h:i-i0<ms.length,u=ms[i-i0].val∧VR C v u
 |_,_=>False
theorem same_now{kt:TypeId}{td:TypeDesc}{u v:Value}{b:Bool}(hd:P.underlying kt=some td)(h:Instr.sameNow td u v=some b)(w:World):(Op.equal kt u v).run P w=.ok b w:=by
 have key:∀d,(Op.equalIn (d+1) kt u v).run P w=.ok b w:=by
  intro d
  unfold Instr.sameNow at h
  split at h
  ·split at h
   ·rename_i hkk
    simp only[Option.some.injEq]at h
    subst h hkk
    simp[Op.equalIn,run_underlying hd]
   ·cases h
  ·simp only[Option.some.injEq]at h
   subst h
   simp[Op.equalIn,run_underlying hd]
  ·simp only[Option.some.injEq]at h
   subst h
   simp[Op.equalIn,run_underlying hd]
  ·cases h
 exact key 9999
theorem find_sound{C:Ctx}{kt:TypeId}{key:AV}{u:Value}{td:TypeDesc}(hd:P.underlying kt=some td)(hk:VR C key u):∀(es:List (AV × AV)) (ms:List MapEntry) (i:Nat) (r:Option (Nat × AV)), MapR C es ms→cY P kt key es i=some r→
    ∃c,FoundR C ms i r c∧(∀w,(Instr.findAsking kt u ms i).run P w=.ok c w)∧(Instr.findNow td u ms i=none∨Instr.findNow td u ms i=some c)
 |[],ms,i,r,hm,h=>by
  have:ms=[]:=List.eq_nil_of_length_eq_zero (by simpa using hm.1)
  subst this
  simp only[cY,Option.some.injEq]at h
  subst h
  exact⟨none,trivial,fun w=>by simp[Instr.findAsking],.inr rfl⟩
 |(k,v)::es,ms,i,r,hm,h=>by
  match ms,hm with
  |[],hm=>exact absurd hm.1 (by simp)
  |m::ms,hm=>
  have h0:=hm.2 0 (by simp)
  have hkv:VR C k m.key:=by simpa using h0.1
  have hvv:VR C v m.val:=by simpa using h0.2
  have hm':MapR C es ms:=⟨by have:=hm.1;simpa using this,fun j hj=>by have:=hm.2 (j+1) (by simp;omega);simpa using this⟩
  simp only[cY]at h
  split at h
  ·rename_i he
   simp only[Option.some.injEq]at h
   subst h
   have hq:∀w,(Op.equal kt u m.key).run P w=.ok true w:=fun w=>dW 6 10000 kt key k u m.key true (by omega) he hk hkv w
   refine⟨some (i,m.val),⟨rfl,Nat.le_refl _,by simp,by simp,hvv⟩,fun w=>by simp[Instr.findAsking,hq],?_⟩
   simp only[Instr.findNow]
   cases hs:Instr.sameNow td u m.key with
   |none=>exact .inl rfl
   |some b=>
    have hb:b=true:=by
     have:=(same_now hd hs C.w).symm.trans (hq C.w)
     simpa using this
    subst hb
    exact .inr rfl
  ·rename_i he
   have hq:∀w,(Op.equal kt u m.key).run P w=.ok false w:=fun w=>dW 6 10000 kt key k u m.key false (by omega) he hk hkv w
   obtain⟨c,c1,c2,c3⟩:=find_sound hd hk es ms (i+1) r hm' h
   refine⟨c,?_,fun w=>by simp[Instr.findAsking,hq,c2],?_⟩
   ·unfold FoundR at c1 ⊢
    split at c1
    ·trivial
    ·rename_i a b c' d'
     obtain⟨e1,e2,e3,e4,e5⟩:=c1
     refine⟨e1,by omega,by simp;omega,?_,e5⟩
     rw[e4]
     have:a-i=(a-(i+1))+1:=by omega
     simp only[this,List.getElem_cons_succ]
    ·exact c1.elim
   ·simp only[Instr.findNow]
    cases hs:Instr.sameNow td u m.key with
    |none=>exact .inl rfl
    |some b=>
     have hb:b=false:=by
      have:=(same_now hd hs C.w).symm.trans (hq C.w)
      simpa using this
     subst hb
     exact c3
  ·cases h
theorem eH{C:Ctx}{kt:TypeId}{key:AV}{u:Value}{td:TypeDesc}(hd:P.underlying kt=some td)(hk:VR C key u){es:List (AV × AV)}{ms:List MapEntry}{r:Option (Nat × AV)}(hm:MapR C es ms)(h:cY P kt key es 0=some r):
    ∃c,FoundR C ms 0 r c∧∀w,(Instr.findKey kt u ms).run P w=.ok c w:=by
 obtain⟨c,c1,c2,c3⟩:=find_sound hd hk es ms 0 r hm h
 refine⟨c,c1,fun w=>?_⟩
 rcases c3 with c3|c3<;>simp[Instr.findKey,run_underlying hd,c3,c2]
def ar(P:Program)(t:TypeId):AV:=match bk P t with
 |.agg _=>.agg (ap P t)
 |_=>(ap P t).headD .any
theorem zeroV_sound{C:Ctx}{t:TypeId}(h:ax P t=true):∃z,(∀w,(zeroValue t).run P w=.ok z w)∧VR C (ar P t) z:=by
 refine⟨bk P t,fun w=>cX0 h w,?_⟩
 have hz:=dw (C:=C) h
 unfold ar
 split
 ·rename_i cs he
  rw[he]at hz ⊢
  exact hz.agg
 ·rename_i v hn
  have hc:(bk P t).cells = #[bk P t]:=by
   cases hv:bk P t<;>first|rfl|exact absurd hv (hn _)
  rw[hc]at hz
  have hl:(ap P t).length=1:=by have:=hz.1;simpa using this.symm
  obtain⟨a,ha⟩:∃a,ap P t=[a]:=by
   match h1:ap P t,hl with
   |[a],_=>exact⟨a,rfl⟩
  have:=hz.get (j:=0) (a:=a) (by rw[ha];rfl)
  rw[ha]
  simpa using this
def lookV(P:Program)(et:TypeId)(ok:Bool)(r:Option (Nat × AV)):AV:=
 bif ok then .tup [(r.map (·.2)).getD (ar P et),.sc (.bool r.isSome)] else (r.map (·.2)).getD (ar P et)
def lookE(P:Program)(t:TypeId)(x key:AV)(ok:Bool)(H:AH)(K:AV→Prop):Prop:=match P.underlying t,x with
 |some (.map kt et),.mp h=>(match H h with
  |some (.map es)=>Req (cl0 P 6 kt key=true∧ax P et=true) (match cY P kt key es 0 with|some r=>K (lookV P et ok r)|none=>False)
  |_=>False)
 |some (.map kt et),.sc (.map none)=>Req (cl0 P 6 kt key=true∧ax P et=true) (K (lookV P et ok none))
 |_,_=>False
def plainV:Value→Bool
 |.int _ _ | .bool _ | .string _=>true
 |_=>false
def plainA:AV→Bool
 |.sc v=>plainV v
 |.agg cells=>cells.all fun c=>match c with | .sc v=>plainV v|_=>false
 |_=>false
def updK(P:Program)(t:TypeId)(m key v:AV)(H:AH)(K:AV→AH→Prop):Prop:=match P.underlying t,m with
 |some (.map kt _),.mp h=>(match H h with
  |some (.map es)=>Req (cl0 P 6 kt key=true) (match cY P kt key es 0 with
   |some none=>K (.tup []) (H.set h (.map (es++[(key.strip,v.strip)])))
   |some (some (i,_))=>Req ((es[i]?).map (·.1)=some key∧plainA key=true) (K (.tup []) (H.set h (.map (es.set i (key,v.strip)))))
   |none=>False)
  |_=>False)
 |_,_=>False
def mapK(_:Program)(r:Bool)(H:AH)(K:AV→AH→Prop):Prop:=bif r then False else ∀k,k≠0→H k=none→K (.mp k) (H.set k (.map []))
def lenE(P:Program)(t:TypeId)(x:AV)(H:AH)(K:AV→Prop):Prop:=match P.underlying t,x with
 |some (.map _ _),.mp h=>(match H h with
  |some (.map es)=>K (.sc (.int .i64 es.length))
  |_=>False)
 |some (.map _ _),.sc (.map none)=>K (.sc (.int .i64 0))
 |_,_=>lenK P t x K
theorem map_obj{C:Ctx}(g:WR C){h:Nat}{es:List (AV × AV)}(ho:C.H h=some (.map es)):∃ms clock,C.w.heap[C.i h]? = some (.map ms clock)∧MapR C es ms.toList∧(∀j (hj:j<ms.size),ms[j].born<clock)∧(ms.toList.map (·.born)).Nodup:=g.obj h _ ho
theorem lookE_sound{d:Option Tmp}{t:TypeId}{x y:Operand}{ok:Bool}{ty:TypeId}{ps:String}{af:Array Edge}{gd:Option (Nat × Bool)}{ρ:Operand→AV}{H:AH}{K:AV→Prop}(h:lookE P t (ρ x) (ρ y) ok H K):
    ∃v,eG P H ⟨d,.lookup t x y ok,ty,ps,af,gd⟩ ρ v∧K v:=by
 have fin : ∀ (C : Ctx) (et : TypeId) (r : Option (Nat × AV)) (c : Option (Nat × Value)) (z : Value) (ms : List MapEntry), FoundR C ms 0 r c → VR C (ar P et) z →
     VR C (lookV P et ok r) (if ok then .tuple #[(c.map (·.2)).getD z,.bool c.isSome] else (c.map (·.2)).getD z):=by
  intro C et r c z ms hf hz
  have hv:VR C ((r.map (·.2)).getD (ar P et)) ((c.map (·.2)).getD z)∧r.isSome=c.isSome:=by
   rcases r with _|⟨i,v⟩<;>rcases c with _|⟨j,u⟩
   ·exact⟨hz,rfl⟩
   ·exact hf.elim
   ·exact hf.elim
   ·exact⟨hf.2.2.2.2,rfl⟩
  unfold lookV
  cases ok with
  |false=>exact hv.1
  |true=>
   simp only[cond_true,if_true]
   refine .tup _ _ rfl fun j hj=>?_
   match j,hj with
   |0,_=>simpa using hv.1
   |1,_=>rw[←hv.2];exact .sc _
 unfold lookE at h
 split at h
 ·rename_i kt et hh hu hx
  split at h
  ·rename_i es hH
   obtain⟨⟨hc,hT⟩,h⟩:=h
   split at h
   ·rename_i r hr
    refine⟨_,cp fun C ρ' hCH g hxx=>?_,h⟩
    have e1:=hxx x (by simp[Op.operands])
    have e2:=hxx y (by simp[Op.operands])
    rw[hx]at e1
    obtain⟨ms,clock,b1,b2,b3,b4⟩:=map_obj g (by rw[hCH];exact hH)
    generalize hv:ρ' x=u at e1
    cases e1 with
    |mp _ hlt=>
     obtain⟨td,hd⟩:∃td,P.underlying kt=some td:=by
      unfold cl0 at hc
      cases hk:P.underlying kt with
      |none=>simp[hk]at hc
      |some td=>exact⟨td,rfl⟩
     obtain⟨c,c1,c2⟩:=eH hd e2 b2 hr
     obtain⟨z,z1,z2⟩:=zeroV_sound (C:=C) hT
     refine⟨_,?_,fin C et r c z _ c1 z2⟩
     have hck:=dj 6 10000 kt (ρ y) (ρ' y) (by omega) hc e2
     cases c with
     |none=>cases ok<;>simp[execOp,Instr.lookup,hv,run_underlying hu,MapKept.run_getObj_map b1,hck,c2,z1]
     |some q=>obtain⟨i,m⟩:=q;cases ok<;>simp[execOp,Instr.lookup,hv,run_underlying hu,MapKept.run_getObj_map b1,hck,c2]
   ·exact h.elim
  ·exact h.elim
 ·rename_i kt et hu hx
  obtain⟨⟨hc,hT⟩,h⟩:=h
  refine⟨_,cp fun C ρ' hCH g hxx=>?_,h⟩
  have e1:=hxx x (by simp[Op.operands])
  have e2:=hxx y (by simp[Op.operands])
  rw[hx]at e1
  have hv:=bQ e1
  obtain⟨td,hd⟩:∃td,P.underlying kt=some td:=by
   unfold cl0 at hc
   cases hk:P.underlying kt with
   |none=>simp[hk]at hc
   |some td=>exact⟨td,rfl⟩
  obtain⟨z,z1,z2⟩:=zeroV_sound (C:=C) hT
  refine⟨_,?_,fin C et none none z [] trivial z2⟩
  have hck:=dj 6 10000 kt (ρ y) (ρ' y) (by omega) hc e2
  cases ok<;>simp[execOp,Instr.lookup,hv,run_underlying hu,hck,Instr.findKey,run_underlying hd,Instr.findNow,z1]
 ·exact h.elim
theorem lenE_sound{d:Option Tmp}{t:TypeId}{x:Operand}{ty:TypeId}{ps:String}{af:Array Edge}{gd:Option (Nat × Bool)}{ρ:Operand→AV}{H:AH}{K:AV→Prop}(h:lenE P t (ρ x) H K):
    ∃v,eG P H ⟨d,.call ⟨.builtin .len,#[x],#[t]⟩,ty,ps,af,gd⟩ ρ v∧K v:=by
 unfold lenE at h
 split at h
 ·rename_i kt et hh hu hx
  split at h
  ·rename_i es hH
   refine⟨_,cp fun C ρ' hCH g hxx=>?_,h⟩
   have e1:=hxx x (by simp[Op.operands,Call.operands])
   rw[hx]at e1
   obtain⟨ms,clock,b1,b2,b3,b4⟩:=map_obj g (by rw[hCH];exact hH)
   generalize hv:ρ' x=u at e1
   cases e1 with
   |mp _ hlt=>
    have hl:ms.size=es.length:=by have:=b2.1;simpa using this
    refine⟨.int .i64 es.length,?_,.sc _⟩
    simp[execOp,resolve,invoke,builtin,hv,Builtin.len_,run_underlying hu,MapKept.run_getObj_map b1,goInt,hl]
  ·exact h.elim
 ·rename_i kt et hu hx
  refine⟨_,cp fun C ρ' hCH g hxx=>?_,h⟩
  have e1:=hxx x (by simp[Op.operands,Call.operands])
  rw[hx]at e1
  have hv:=bQ e1
  refine⟨_,?_,.sc _⟩
  simp[execOp,resolve,invoke,builtin,hv,Builtin.len_,run_underlying hu,goInt]
 ·obtain⟨v,hK,hv⟩:=lenK_sound (ty:=ty) h
  refine⟨v,cp fun C ρ' hCH g hxx=>?_,hK⟩
  have e1:=hxx x (by simp[Op.operands,Call.operands])
  obtain⟨r,r1,r2⟩:=hv C _ e1
  refine⟨r,?_,r2⟩
  simp[execOp,resolve,invoke,builtin,r1]
theorem bh{C:Ctx}(g:WR C):C.H C.n=none:=by
 cases h:C.H C.n with
 |none=>rfl
 |some o=>exact absurd (g.lt _ _ h) (Nat.lt_irrefl _)
theorem mapK_sound{d:Option Tmp}{t:TypeId}{r:Option Operand}{ty:TypeId}{ps:String}{af:Array Edge}{gd:Option (Nat × Bool)}{ρ:Operand→AV}{H:AH}{K:AV→AH→Prop}(h:mapK P r.isSome H K):
    Eff P H ⟨d,.makeMap t r,ty,ps,af,gd⟩ ρ K:=by
 refine cL fun C ρ' hCH g hx=>?_
 cases r with
 |some r=>exact h.elim
 |none=>
  have ex:=Ext.add g (.map []) (.map #[] 0) 0
  refine⟨.value (.map (some C.w.heap.size)),_,C.w.alloc (.map #[] 0),by simp[execOp,Instr.makeMap],.inl rfl,.mp C.n,⟨C.H.set C.n (.map []),C.n+1,upd C.i C.n C.w.heap.size,upd C.c C.n 0,C.w.alloc (.map #[] 0)⟩,?_,rfl,?_,ex,?_⟩
  ·have:=h C.n (Nat.ne_of_gt g.pos) (by rw[←hCH];exact bh g)
   rw[←hCH]at this
   exact this
  ·refine WR.add g (.map []) (.map #[] 0) 0 ⟨#[],0,?_,⟨rfl,fun j hj=>absurd hj (by simp)⟩,fun j hj=>absurd hj (by simp),by simp⟩
   show(C.w.alloc (.map #[] 0)).heap[upd C.i C.n C.w.heap.size C.n]? = _
   rw[bC0]
   exact heap_alloc_new _ _
  ·have:=VR.mp (C:=⟨C.H.set C.n (.map []),C.n+1,upd C.i C.n C.w.heap.size,upd C.c C.n 0,C.w.alloc (.map #[] 0)⟩) C.n (Nat.lt_succ_self _)
   have e2:(⟨C.H.set C.n (.map []),C.n+1,upd C.i C.n C.w.heap.size,upd C.c C.n 0,C.w.alloc (.map #[] 0)⟩:Ctx).i C.n=C.w.heap.size:=bC0
   rw[e2]at this
   exact this
theorem plain_eq{C:Ctx}{a:AV}{u v:Value}(ha:plainA a=true)(h:VR C a u)(g:VR C a v):u=v:=by
 cases a with
 |sc x=>rw[bQ h,bQ g]
 |agg cells=>
  obtain⟨us,rfl,hu,-,hu2⟩:=h.agg_inv
  obtain⟨vs,rfl,hv,-,hv2⟩:=g.agg_inv
  congr 1
  apply Array.ext (by omega)
  intro j h1 h2
  have hj:j<cells.length:=by omega
  have a1:=hu2 j hj
  have a2:=hv2 j hj
  rw[bi h1]at a1
  rw[bi h2]at a2
  have hp:=List.all_eq_true.1 ha cells[j] (List.getElem_mem hj)
  generalize cells[j]=c at a1 a2 hp
  cases c with
  |sc x=>rw[bQ a1,bQ a2]
  |_=>simp at hp
 |_=>simp[plainA]at ha
theorem sameBits_plain{n:Nat}{u:Value}(h:plainV u=true):Instr.sameBits n u u=true:=by
 cases u<;>simp[plainV]at h<;>cases n<;>simp[Instr.sameBits]<;>first|exact decide_eq_true rfl|(rename_i s _;show(s.data == s.data)=true;simp)|(rename_i s _ _;show(s.data == s.data)=true;simp)|(rename_i s;show(s.data == s.data)=true;simp)
theorem sameBits_key{C:Ctx}{a:AV}{u:Value}(ha:plainA a=true)(h:VR C a u):Instr.sameBits 10000 u u=true:=by
 cases a with
 |sc x=>rw[bQ h];exact sameBits_plain ha
 |agg cells=>
  obtain⟨us,rfl,hu,-,hu2⟩:=h.agg_inv
  have key:∀n,Instr.sameBits (n+1) (.agg us) (.agg us)=true:=by
   intro n
   simp only[Instr.sameBits,beq_self_eq_true,Bool.true_and,List.all_eq_true]
   rintro⟨x,y⟩ hxy
   obtain⟨j,hj,he⟩:=List.getElem_of_mem hxy
   simp only[List.getElem_zip,Prod.mk.injEq]at he
   obtain⟨rfl,rfl⟩:=he
   have hjs:j<us.size:=by simpa using hj
   have a1:=hu2 j (by omega)
   rw[bi hjs]at a1
   have hp:=List.all_eq_true.1 ha cells[j] (List.getElem_mem (by omega))
   generalize cells[j]=c at a1 hp
   cases c with
   |sc x=>
    have e:=bQ a1
    show Instr.sameBits n us.toList[j] us.toList[j]=true
    rw[Array.getElem_toList,e]
    exact sameBits_plain hp
   |_=>simp at hp
  exact key 9999
 |_=>simp[plainA]at ha
theorem map_set_get(ms:List MapEntry)(i j:Nat)(e:MapEntry)(hi:i<ms.length):(ms.set i e).getD j default=if j=i then e else ms.getD j default:=by
 simp only[List.getD]
 by_cases h:j=i
 ·subst h;simp[hi]
 ·rw[List.getElem?_set_ne (Ne.symm h),if_neg h]
theorem map_put{C:Ctx}(g:WR C){h:Nat}{es es':List (AV × AV)}(ho:C.H h=some (.map es)){ms:Array MapEntry}{clock:Nat}(hlt:C.i h<C.w.heap.size)
    (hm:MapR C es' ms.toList) (hb:∀j (hj:j<ms.size),ms[j].born<clock) (hn:(ms.toList.map (·.born)).Nodup):
    WR ⟨C.H.set h (.map es'),C.n,C.i,C.c,{ C.w with heap:=C.w.heap.setIfInBounds (C.i h) (.map ms clock) }⟩∧Ext C ⟨C.H.set h (.map es'),C.n,C.i,C.c,{ C.w with heap:=C.w.heap.setIfInBounds (C.i h) (.map ms clock) }⟩:=by
 have hoth:∀b,b≠C.i h→(C.w.heap.setIfInBounds (C.i h) (.map ms clock))[b]? = C.w.heap[b]?:=fun b hb=>by
  rw[Array.getElem?_setIfInBounds_ne (Ne.symm hb)]
 have hnt:∀m e s,AObj.map es ≠ .tail m e s:=by intro _ _ _ h;cases h
 have ex:=Ext.put g ho (o':=.map es') rfl { C.w with heap:=C.w.heap.setIfInBounds (C.i h) (.map ms clock) } (by simp) hoth rfl rfl rfl hnt
 exact⟨WR.put g ho (o':=.map es') rfl _ (by simp) hoth rfl rfl rfl hnt ⟨ms,clock,by simp[hlt],hm.ext ex,hb,hn⟩,ex⟩
theorem updK_sound{d:Option Tmp}{t:TypeId}{m y x:Operand}{ty:TypeId}{ps:String}{af:Array Edge}{gd:Option (Nat × Bool)}{ρ:Operand→AV}{H:AH}{K:AV→AH→Prop}(h:updK P t (ρ m) (ρ y) (ρ x) H K):
    Eff P H ⟨d,.mapUpdate t m y x,ty,ps,af,gd⟩ ρ K:=by
 refine cL fun C ρ' hCH g hx=>?_
 have e1:=hx m (by simp[Op.operands])
 have e2:=hx y (by simp[Op.operands])
 have e3:=hx x (by simp[Op.operands])
 unfold updK at h
 split at h
 case h_2=>exact h.elim
 rename_i kt et hh hu hm
 rw[hm]at e1
 split at h
 case h_2=>exact h.elim
 rename_i es hH
 obtain⟨hc,h⟩:=h
 have hH':C.H hh=some (.map es):=by rw[hCH];exact hH
 obtain⟨ms,clock,b1,b2,b3,b4⟩:=map_obj g hH'
 have hblk:=g.blk hh _ hH' rfl
 obtain⟨td,hd⟩:∃td,P.underlying kt=some td:=by
  unfold cl0 at hc
  cases hk:P.underlying kt with
  |none=>simp[hk]at hc
  |some td=>exact⟨td,rfl⟩
 have hck:=dj 6 10000 kt (ρ y) (ρ' y) (by omega) hc e2
 have hl:ms.size=es.length:=by have:=b2.1;simpa using this
 generalize hv:ρ' m=u at e1
 cases e1 with
 |mp _ hlt=>
 split at h
 ·rename_i hr
  obtain⟨c,c1,c2⟩:=eH hd e2 b2 hr
  have hcn:c=none:=by cases c with|none=>rfl|some q=>exact c1.elim
  subst hcn
  have hm':MapR C (es++[((ρ y).strip,(ρ x).strip)]) (ms.push ⟨ρ' y,ρ' x,clock⟩).toList:=by
   refine⟨by simp[hl],fun j hj=>?_⟩
   simp only[Array.toList_push]
   by_cases hlt2:j<es.length
   ·have:=b2.2 j hlt2
    rw[List.getElem_append_left hlt2]
    have e:(ms.toList++[(⟨ρ' y,ρ' x,clock⟩:MapEntry)]).getD j default=ms.toList.getD j default:=by
     simp only[List.getD];rw[List.getElem?_append_left (by simp;omega)]
    rw[e];exact this
   ·obtain rfl:j=es.length:=by simp at hj;omega
    have e:(ms.toList++[(⟨ρ' y,ρ' x,clock⟩:MapEntry)]).getD es.length default=⟨ρ' y,ρ' x,clock⟩:=by
     simp only[List.getD];rw[List.getElem?_append_right (by simp;omega)];simp[hl]
    rw[e,List.getElem_append_right (Nat.le_refl _)]
    simp only[Nat.sub_self,List.getElem_singleton]
    exact⟨e2.strip,e3.strip⟩
  obtain⟨w1,w2⟩:=map_put g hH' hblk hm' (clock:=clock+1) (fun j hj=>by
   rw[Array.getElem_push]
   split
   ·have:=b3 j (by assumption);omega
   ·simp) (by
   rw[Array.toList_push,List.map_append,List.map_singleton,List.nodup_append]
   refine⟨b4,by simp,?_⟩
   intro a ha b hb
   simp only[List.mem_singleton]at hb
   obtain⟨q,hq,rfl⟩:=List.mem_map.1 ha
   obtain⟨j,hj,rfl⟩:=List.getElem_of_mem hq
   have:=b3 j (by simpa using hj)
   simp only[Array.getElem_toList]
   omega)
  refine⟨.skip,undef,_,?_,.inr ⟨rfl,rfl⟩,.tup [],_,?_,rfl,w1,w2,VR.skipped⟩
  ·simp[execOp,Instr.mapUpdate,hv,run_underlying hu,MapKept.run_getObj_map b1,hck,c2,MapKept.run_setObj_map _ b1]
  ·rw[←hCH]at h;exact h
 ·rename_i i v hr
  obtain⟨⟨hk,hp⟩,h⟩:=h
  obtain⟨c,c1,c2⟩:=eH hd e2 b2 hr
  obtain⟨i',mv,rfl⟩:∃i' mv,c=some (i',mv):=by rcases c with _|⟨a,b⟩;exact c1.elim;exact⟨_,_,rfl⟩
  obtain⟨rfl,-,hi,hmv,hvv⟩:=c1
  simp only[Nat.sub_zero,Array.length_toList]at hi
  have hie:i<es.length:=by omega
  have hkey:VR C (ρ y) ms[i].key:=by
   have:=(b2.2 i hie).1
   rw[List.getElem?_eq_getElem hie]at hk
   simp only[Option.map_some,Option.some.injEq]at hk
   rw[hk]at this
   simpa [List.getD,hi] using this
  have hsame:ms[i].key=ρ' y:=plain_eq hp hkey e2
  have hbits:=sameBits_key hp e2
  have hm':MapR C (es.set i (ρ y,(ρ x).strip)) (ms.modify i fun e=>{ e with key:=ρ' y,val:=ρ' x }).toList:=by
   have etl:(ms.modify i fun e=>{ e with key:=ρ' y,val:=ρ' x }).toList=ms.toList.set i ⟨ρ' y,ρ' x,ms[i].born⟩:=by
    apply List.ext_getElem (by simp)
    intro j h1 h2
    simp only[Array.getElem_toList,Array.getElem_modify,List.getElem_set]
    by_cases hji:i=j
    ·subst hji;simp
    ·simp[hji]
   rw[etl]
   refine⟨by simp[hl],fun j hj=>?_⟩
   rw[map_set_get _ _ _ _ (by simpa using hi),List.getElem_set]
   by_cases hji:j=i
   ·subst hji
    simp only[if_true]
    exact⟨e2,e3.strip⟩
   ·rw[if_neg (Ne.symm hji),if_neg hji]
    exact b2.2 j (by simpa using hj)
  obtain⟨w1,w2⟩:=map_put g hH' hblk hm' (clock:=clock) (fun j hj=>by
   have hj':j<ms.size:=by simpa using hj
   have:=b3 j hj'
   rw[Array.getElem_modify]
   split<;>exact this) (by
   have:((ms.modify i fun e=>{ e with key:=ρ' y,val:=ρ' x }).toList.map (·.born))=ms.toList.map (·.born):=by
    apply List.ext_getElem (by simp)
    intro j h1 h2
    simp only[List.getElem_map,Array.getElem_toList,Array.getElem_modify]
    split<;>rfl
   rw[this];exact b4)
  refine⟨.skip,undef,_,?_,.inr ⟨rfl,rfl⟩,.tup [],_,?_,rfl,w1,w2,VR.skipped⟩
  ·have hki:(((ms[i]?).map (·.key)).getD (ρ' y))=ρ' y:=by simp[hi,hsame]
   simp[execOp,Instr.mapUpdate,hv,run_underlying hu,MapKept.run_getObj_map b1,hck,c2,Instr.keyThatStays,hki,hbits,MapKept.run_setObj_map _ b1]
  ·rw[←hCH]at h;exact h
 ·exact h.elim
end Go.Abs
end
section
namespace Go.Abs
open Go Go.RowKit
variable {P:Program}
def cw0(ms:Array MapEntry)(j:Nat):Nat:=(ms.toList.getD j default).born
def itO(b clock:Nat)(ms:Array MapEntry)(js:List Nat):Obj:=.mapIter (some b) clock (js.map (cw0 ms)).toArray clock
def rangeK(P:Program)(t:TypeId)(x:AV)(H:AH)(K:AV→AH→Prop):Prop:=match P.underlying t,x with
 |some (.map _ _),.mp hm=>(match H hm with
  |some (.map es)=>∀hr,hr≠0→H hr=none→∀b ms clock,K (.itr hr hm b clock (es.map (·.1)) (es.map (·.2)) ms) ((H.set hm (.raw (.map ms clock))).set hr (.raw (itO b clock ms [])))
  |_=>False)
 |some .string,.sc (.string s)=>∀hr,hr≠0→H hr=none→K (.ptr hr 0) (H.set hr (.raw (.stringIter s 0)))
 |_,_=>False
def nextK(s:Bool)(it:AV)(H:AH)(K:AV→AH→Prop):Prop:=match it with
 | .itr hr hm b clock ks vs ms => s = false ∧ ∃ js, H hr = some (.raw (itO b clock ms js)) ∧ H hm = some (.raw (.map ms clock)) ∧ (∀ j ∈ js, j < ks.length) ∧
     ((∀j,j<ks.length→j∈js)→K (.tup [.sc (.bool false)]) (H.set hm (.map (ks.zip vs))))∧
     (∀j (h:j<ks.length),j∉js→K (.tup [.sc (.bool true),ks[j],vs.getD j .any]) (H.set hr (.raw (itO b clock ms (js++[j])))))
 | .ptr hr 0 => s = true ∧ ∃ str pos, H hr = some (.raw (.stringIter str pos)) ∧
     (pos<str.size→K (.tup [.sc (.bool true),.sc (.int .i64 (pos:Nat)),.sc (.int .i32 ((Utf8.decode str pos).1:Nat))]) (H.set hr (.raw (.stringIter str (pos+(Utf8.decode str pos).2)))))∧
     (¬pos<str.size→K (.tup [.sc (.bool false)]) H)
 |_=>False
def entryK(it:AV)(H:AH)(K:AV→AH→Prop):Prop:=match it with
 |.itr hr hm b clock ks vs ms=>∃js j,∃h:j<ks.length,H hr=some (.raw (itO b clock ms (js++[j])))∧H hm=some (.raw (.map ms clock))∧K (.tup [ks[j],vs.getD j .any]) H
 |_=>False
theorem rangeK_sound{d:Option Tmp}{t:TypeId}{x:Operand}{ty:TypeId}{ps:String}{af:Array Edge}{gd:Option (Nat × Bool)}{ρ:Operand→AV}{H:AH}{K:AV→AH→Prop}(h:rangeK P t (ρ x) H K):
    Eff P H ⟨d,.range t x,ty,ps,af,gd⟩ ρ K:=by
 refine cL fun C ρ' hCH g hx=>?_
 have e1:=hx x (by simp[Op.operands])
 unfold rangeK at h
 split at h
 case h_3=>exact h.elim
 case h_2=>
  rename_i str hu hxs
  rw[hxs]at e1
  generalize hv:ρ' x=u at e1
  cases e1
  have ex1:=Ext.add g (.raw (.stringIter str 0)) (.stringIter str 0) 0
  have g1:=WR.add g (.raw (.stringIter str 0)) (.stringIter str 0) 0 (by
   show(C.w.alloc _).heap[upd C.i C.n C.w.heap.size C.n]? = _
   rw[bC0]
   exact heap_alloc_new _ _)
  refine⟨.value (.pointer (some ⟨C.w.heap.size,0,none⟩)),_,C.w.alloc (.stringIter str 0),?_,.inl rfl,.ptr C.n 0,_,?_,rfl,g1,ex1,?_⟩
  ·simp only[execOp,hv]
   simp[Instr.range,run_underlying hu,newObj,Sem.run]
  ·have:=h C.n (Nat.ne_of_gt g.pos) (by rw[←hCH];exact bh g)
   rw[←hCH]at this
   exact this
  ·have hh:=VR.ptr (C:=⟨C.H.set C.n (.raw (.stringIter str 0)),C.n+1,upd C.i C.n C.w.heap.size,upd C.c C.n 0,C.w.alloc (.stringIter str 0)⟩) C.n 0 (Nat.lt_succ_self _)
   have e2:(⟨C.H.set C.n (.raw (.stringIter str 0)),C.n+1,upd C.i C.n C.w.heap.size,upd C.c C.n 0,C.w.alloc (.stringIter str 0)⟩:Ctx).i C.n=C.w.heap.size:=bC0
   rw[e2]at hh
   exact hh
 rename_i kt et hm hu hxm
 rw[hxm]at e1
 split at h
 case h_2=>exact h.elim
 rename_i es hH
 generalize hv:ρ' x=u at e1
 cases e1 with
 |mp _ hlt=>
 have hH':C.H hm=some (.map es):=by rw[hCH];exact hH
 obtain⟨ms,clock,b1,b2,b3,b4⟩:=map_obj g hH'
 have hnt:∀m e s,AObj.map es ≠ .tail m e s:=by intro _ _ _ h;cases h
 have ex0:=Ext.put g hH' (o':=.raw (.map ms clock)) rfl C.w rfl (fun b _=>rfl) rfl rfl rfl hnt
 have g0:=WR.put g hH' (o':=.raw (.map ms clock)) rfl C.w rfl (fun b _=>rfl) rfl rfl rfl hnt b1
 have ex1:=Ext.add g0 (.raw (itO (C.i hm) clock ms [])) (itO (C.i hm) clock ms []) 0
 have g1:=WR.add g0 (.raw (itO (C.i hm) clock ms [])) (itO (C.i hm) clock ms []) 0 (by
  show(C.w.alloc _).heap[upd C.i C.n C.w.heap.size C.n]? = _
  rw[bC0]
  exact heap_alloc_new _ _)
 have hl:ms.size=es.length:=by have:=b2.1;simpa using this
 refine⟨.value (.pointer (some ⟨C.w.heap.size,0,none⟩)),_,C.w.alloc (itO (C.i hm) clock ms []),?_,.inl rfl,.itr C.n hm (C.i hm) clock (es.map (·.1)) (es.map (·.2)) ms,_,?_,rfl,g1,ex0.trans ex1,?_⟩
 ·have hr:=run_range_map (P:=P) C.w t kt et (C.i hm) ms clock hu b1
  simp only[execOp,hv]
  have e:itO (C.i hm) clock ms []=.mapIter (some (C.i hm)) clock #[] clock:=rfl
  rw[e]
  simp[hr]
 ·have:=h C.n (Nat.ne_of_gt g.pos) (by rw[←hCH];exact bh g) (C.i hm) ms clock
  rw[←hCH]at this
  exact this
 ·have hh:=VR.itr (C:=⟨(C.H.set hm (.raw (.map ms clock))).set C.n (.raw (itO (C.i hm) clock ms [])), C.n+1, upd C.i C.n C.w.heap.size, upd C.c C.n 0, C.w.alloc (itO (C.i hm) clock ms [])⟩) C.n hm (C.i hm) clock (es.map (·.1)) (es.map (·.2)) ms (Nat.lt_succ_self _) (Nat.lt_succ_of_lt hlt)
   (bj0 hlt) (by rw[List.length_map];exact hl) (by rw[List.length_map];exact hl) b3 b4
   (fun j hj=>by rw[List.getElem_map];exact((b2.2 j (by simpa using hj)).1.ext ex0).ext ex1)
   (fun j hj=>by rw[List.getElem_map];exact((b2.2 j (by simpa using hj)).2.ext ex0).ext ex1)
  have e2:(⟨(C.H.set hm (.raw (.map ms clock))).set C.n (.raw (itO (C.i hm) clock ms [])),C.n+1,upd C.i C.n C.w.heap.size,upd C.c C.n 0,C.w.alloc (itO (C.i hm) clock ms [])⟩:Ctx).i C.n=C.w.heap.size:=bC0
  rw[e2]at hh
  exact hh
theorem born_get{ms:Array MapEntry}{j:Nat}(h:j<ms.size):cw0 ms j=ms[j].born:=by
 unfold cw0
 simp[List.getD,h]
theorem born_idx{ms:Array MapEntry}(h4:(ms.toList.map (·.born)).Nodup){i j:Nat}(hi:i<ms.size)(hj:j<ms.size)(e:cw0 ms i=cw0 ms j):i=j:=by
 rw[born_get hi,born_get hj]at e
 have e1:(ms.toList.map (·.born))[i]'(by simpa using hi)=(ms.toList.map (·.born))[j]'(by simpa using hj):=by simpa using e
 exact(List.getElem_inj h4).1 e1
theorem nextK_sound{d:Option Tmp}{s:Bool}{it:Operand}{ty:TypeId}{ps:String}{af:Array Edge}{gd:Option (Nat × Bool)}{ρ:Operand→AV}{H:AH}{K:AV→AH→Prop}(h:nextK s (ρ it) H K):
    Eff P H ⟨d,.next it s,ty,ps,af,gd⟩ ρ K:=by
 refine cL fun C ρ' hCH g hx=>?_
 have e1:=hx it (by simp[Op.operands])
 unfold nextK at h
 split at h
 case h_3=>exact h.elim
 case h_2=>
  rename_i hr hit
  obtain⟨rfl,str,pos,q1,q2,q3⟩:=h
  rw[hit]at e1
  generalize hv:ρ' it=u at e1
  cases e1 with
  |ptr _ _ hlt=>
  have q1':C.H hr=some (.raw (.stringIter str pos)):=by rw[hCH];exact q1
  have o1:C.w.heap[C.i hr]? = some (.stringIter str pos):=g.obj hr _ q1'
  have hsz:C.i hr<C.w.heap.size:=g.blk hr _ q1' rfl
  have hnt:∀o:Obj,∀m e s,AObj.raw o ≠ .tail m e s:=by intro _ _ _ _ h;cases h
  by_cases hp:pos<str.size
  ·obtain⟨w2,hw2⟩:∃w2,w2=ChangeMaps.setBlock C.w (C.i hr) (.stringIter str (pos+(Utf8.decode str pos).2)):=⟨_,rfl⟩
   have hheap:w2.heap=C.w.heap.setIfInBounds (C.i hr) (.stringIter str (pos+(Utf8.decode str pos).2)):=by rw[hw2];rfl
   have hoth:∀b',b'≠C.i hr→w2.heap[b']? = C.w.heap[b']?:=fun b' hb'=>by
    rw[hheap,Array.getElem?_setIfInBounds_ne (Ne.symm hb')]
   have a1:w2.os=C.w.os:=by rw[hw2];rfl
   have a2:w2.tape=C.w.tape:=by rw[hw2];rfl
   have a3:w2.output=C.w.output:=by rw[hw2];rfl
   have ex:=Ext.put g q1' (o':=.raw (.stringIter str (pos+(Utf8.decode str pos).2))) rfl w2 (by rw[hheap];simp) hoth a1 a2 a3 (hnt _)
   refine⟨.value (.tuple #[.bool true,.int .i64 (pos:Nat),.int .i32 ((Utf8.decode str pos).1:Nat)]),_,w2,?_,.inl rfl,.tup [.sc (.bool true),.sc (.int .i64 (pos:Nat)),.sc (.int .i32 ((Utf8.decode str pos).1:Nat))],_,?_,rfl,
    WR.put g q1' (o':=.raw (.stringIter str (pos+(Utf8.decode str pos).2))) rfl w2 (by rw[hheap];simp) hoth a1 a2 a3 (hnt _) ?_,ex,?_⟩
   ·simp only[execOp,hv]
    rw[hw2]
    simp[Instr.next,getObj,Sem.run_bind,Sem.run,o1,Result.andThen,hp,setObj,ChangeMaps.setBlock,goInt]
   ·have:=q2 hp
    rw[←hCH]at this
    exact this
   ·show w2.heap[C.i hr]? = _
    rw[hheap]
    simp[hsz]
   ·exact .tup _ _ rfl fun i hi=>by
     match i,hi with
     |0,_=>exact .sc _
     |1,_=>exact .sc _
     |2,_=>exact .sc _
  ·refine⟨.value (.tuple #[.bool false]),_,C.w,?_,.inl rfl,.tup [.sc (.bool false)],C,?_,rfl,g,Ext.refl _,?_⟩
   ·simp only[execOp,hv]
    simp[Instr.next,getObj,Sem.run_bind,Sem.run,o1,Result.andThen,hp]
   ·have:=q3 hp
    rw[←hCH]at this
    exact this
   ·exact .tup _ _ rfl fun j hj=>by
     match j,hj with
     |0,_=>exact .sc _
 rename_i hr hm b clock ks vs ms hit
 obtain⟨rfl,js,q1,q2,q3,q4,q5⟩:=h
 rw[hit]at e1
 generalize hv:ρ' it=u at e1
 cases e1 with
 |itr _ _ _ _ _ _ _ h1 h2 hb hk hl h3 h4 g1 g2=>
 have q1':C.H hr=some (.raw (itO b clock ms js)):=by rw[hCH];exact q1
 have q2':C.H hm=some (.raw (.map ms clock)):=by rw[hCH];exact q2
 have o1:C.w.heap[C.i hr]? = some (itO b clock ms js):=g.obj hr _ q1'
 have o2:C.w.heap[C.i hm]? = some (.map ms clock):=g.obj hm _ q2'
 rw[hb]at o2
 have hold:∀x∈ms.toList,x.born<clock:=fun x hx=>by
  obtain⟨j,hj,rfl⟩:=List.getElem_of_mem hx
  simpa using h3 j (by simpa using hj)
 have hnt:∀o:Obj,∀m e s,AObj.raw o ≠ .tail m e s:=by intro _ _ _ _ h;cases h
 rcases run_next_at (P:=P) C.w ty (C.i hr) b clock clock (js.map (cw0 ms)).toArray ms clock o1 o2 hold (Nat.le_refl _) with⟨hs,hrun⟩|⟨e,he,w1,hw1,hrun⟩
 ·have hall:∀j, j<ks.length→j∈js:=fun j hj=>by
   have hj':j<ms.size:=by omega
   have hx:ms[j].born∈js.map (cw0 ms):=by
    have:(leftOf ms (js.map (cw0 ms)).toArray) = #[]:=Array.eq_empty_of_size_eq_zero hs
    unfold leftOf at this
    rw[Array.filter_eq_empty_iff]at this
    have:=this ms[j] (Array.getElem_mem hj')
    simpa using this
   obtain⟨i,hi,hie⟩:=List.mem_map.1 hx
   rw[←born_get hj']at hie
   have:=born_idx h4 (by have:=q3 i hi;omega) hj' hie
   rw[←this];exact hi
  have ex:=Ext.put g q2' (o':=.map (ks.zip vs)) rfl C.w rfl (fun b _=>rfl) rfl rfl rfl (hnt _)
  refine⟨.value (.tuple #[.bool false]),_,C.w,by simp[execOp,hv,hrun],.inl rfl,.tup [.sc (.bool false)],⟨C.H.set hm (.map (ks.zip vs)),C.n,C.i,C.c,C.w⟩,?_,rfl,WR.put g q2' (o':=.map (ks.zip vs)) rfl C.w rfl (fun b _=>rfl) rfl rfl rfl (hnt _) ?_,ex,?_⟩
  ·have:=q4 hall
   rw[←hCH]at this
   exact this
  ·refine⟨ms,clock,by rw[←hb]at o2;exact o2,⟨by simp;omega,fun j hj=>?_⟩,h3,h4⟩
   have hj1:j<ks.length:=by simp at hj;omega
   have hj2:j<vs.length:=by simp at hj;omega
   rw[List.getElem_zip]
   exact⟨(g1 j hj1).ext ex,(g2 j hj2).ext ex⟩
  ·exact .tup _ _ rfl fun j hj=>by
    match j,hj with
    |0,_=>exact .sc _
 ·obtain⟨hem, hes⟩:e∈ms.toList∧e.born∉js.map (cw0 ms):=by
   unfold leftOf at he
   simpa using he
  obtain⟨j,hj,rfl⟩:=List.getElem_of_mem hem
  have hj':j<ms.size:=by simpa using hj
  have hjk:j<ks.length:=by omega
  have hjv:j<vs.length:=by omega
  have hbj:cw0 ms j=(ms.toList[j]).born:=by rw[born_get hj'];simp
  have hnj:j∉js:=fun hm=>hes (List.mem_map.2 ⟨j,hm,hbj⟩)
  have hsz:C.i hr<C.w.heap.size:=g.blk hr _ q1' rfl
  have hw:w1.heap=C.w.heap∧w1.os=C.w.os∧w1.tape=C.w.tape∧w1.output=C.w.output:=by rcases hw1 with rfl|rfl<;>exact⟨rfl,rfl,rfl,rfl⟩
  have hob:itO b clock ms (js++[j])=.mapIter (some b) clock ((js.map (cw0 ms)).toArray.push (ms.toList[j]).born) clock:=by
   unfold itO
   rw[List.map_append,List.map_cons,List.map_nil,hbj]
   simp
  rw[←hob]at hrun
  obtain⟨w2,hw2⟩:∃w2,w2=ChangeMaps.setBlock w1 (C.i hr) (itO b clock ms (js++[j])):=⟨_,rfl⟩
  rw[←hw2]at hrun
  have hheap:w2.heap=C.w.heap.setIfInBounds (C.i hr) (itO b clock ms (js++[j])):=by rw[hw2];show w1.heap.setIfInBounds _ _=_;rw[hw.1]
  have hoth:∀b',b'≠C.i hr→w2.heap[b']? = C.w.heap[b']?:=fun b' hb'=>by
   rw[hheap,Array.getElem?_setIfInBounds_ne (Ne.symm hb')]
  have a1:w2.os=C.w.os:=by rw[hw2];exact hw.2.1
  have a2:w2.tape=C.w.tape:=by rw[hw2];exact hw.2.2.1
  have a3:w2.output=C.w.output:=by rw[hw2];exact hw.2.2.2
  have ex:=Ext.put g q1' (o':=.raw (itO b clock ms (js++[j]))) rfl w2 (by rw[hheap];simp) hoth a1 a2 a3 (hnt _)
  refine⟨.value (.tuple #[.bool true,(ms.toList[j]).key,(ms.toList[j]).val]),_,w2,by simp[execOp,hv,hrun],.inl rfl,.tup [.sc (.bool true),ks[j],vs.getD j .any],_,?_,rfl,
   WR.put g q1' (o':=.raw (itO b clock ms (js++[j]))) rfl w2 (by rw[hheap];simp) hoth a1 a2 a3 (hnt _) ?_,ex,?_⟩
  ·have:=q5 j hjk hnj
   rw[←hCH]at this
   exact this
  ·show w2.heap[C.i hr]? = _
   rw[hheap]
   simp[hsz]
  ·have k1:=(g1 j hjk).ext ex
   have k2:=(g2 j hjv).ext ex
   have e3:ms.toList.getD j default=ms.toList[j]:=by simp[List.getD,hj']
   rw[e3]at k1 k2
   have e4:vs.getD j .any=vs[j]:=by simp[List.getD,hjv]
   rw[e4]
   exact .tup _ _ rfl fun i hi=>by
    match i,hi with
    |0,_=>exact .sc _
    |1,_=>exact k1
    |2,_=>exact k2
theorem entryK_sound{d:Option Tmp}{it:Operand}{ty:TypeId}{ps:String}{af:Array Edge}{gd:Option (Nat × Bool)}{ρ:Operand→AV}{H:AH}{K:AV→AH→Prop}(h:entryK (ρ it) H K):
    Eff P H ⟨d,.entry it,ty,ps,af,gd⟩ ρ K:=by
 refine cL fun C ρ' hCH g hx=>?_
 have e1:=hx it (by simp[Op.operands])
 unfold entryK at h
 split at h
 case h_2=>exact h.elim
 rename_i hr hm b clock ks vs ms hit
 obtain⟨js,j,hjk,q1,q2,q3⟩:=h
 rw[hit]at e1
 generalize hv:ρ' it=u at e1
 cases e1 with
 |itr _ _ _ _ _ _ _ h1 h2 hb hk hl h3 h4 g1 g2=>
 have q1':C.H hr=some (.raw (itO b clock ms (js++[j]))):=by rw[hCH];exact q1
 have q2':C.H hm=some (.raw (.map ms clock)):=by rw[hCH];exact q2
 have o1:C.w.heap[C.i hr]? = some (itO b clock ms (js++[j])):=g.obj hr _ q1'
 have o2:C.w.heap[C.i hm]? = some (.map ms clock):=g.obj hm _ q2'
 rw[hb]at o2
 have hj':j<ms.size:=by omega
 have hjv:j<vs.length:=by omega
 have hbj:cw0 ms j=(ms.toList[j]'(by simpa using hj')).born:=by rw[born_get hj'];simp
 have hob:itO b clock ms (js++[j])=.mapIter (some b) clock ((js.map (cw0 ms)).toArray.push (ms.toList[j]'(by simpa using hj')).born) clock:=by
  unfold itO
  rw[List.map_append,List.map_cons,List.map_nil,hbj]
  simp
 rw[hob]at o1
 have hrun:=run_entry_at (P:=P) C.w (C.i hr) b clock (js.map (cw0 ms)).toArray ms clock _ o1 o2 (List.getElem_mem _) h4
 refine⟨.value (.tuple #[(ms.toList[j]'(by simpa using hj')).key,(ms.toList[j]'(by simpa using hj')).val]),_,C.w,by simp[execOp,hv,hrun],.inl rfl,.tup [ks[j],vs.getD j .any],C,?_,rfl,g,Ext.refl _,?_⟩
 ·rw[←hCH]at q3
  exact q3
 ·have k1:=g1 j hjk
  have k2:=g2 j hjv
  have e3:ms.toList.getD j default=ms.toList[j]'(by simpa using hj'):=by simp[List.getD,hj']
  rw[e3]at k1 k2
  have e4:vs.getD j .any=vs[j]:=by simp[List.getD,hjv]
  rw[e4]
  exact .tup _ _ rfl fun i hi=>by
   match i,hi with
   |0,_=>exact k1
   |1,_=>exact k2
end Go.Abs
end
section
namespace Go.Abs
open Go Go.RowKit
variable {P:Program}
def capK(P:Program)(xs:List AV)(ts:List TypeId)(H:AH)(K:AV→AH→Prop):Prop:=match xs,ts with
 |[.own h 0 n],[t]=>(match P.underlying t with
  |some (.slice _)=>∀g c,g≠0→H g=none→n≤c→c≤maxLen→K (.sc (.int .i64 (c:Nat))) (H.set g (.note h c))
  |_=>False)
 |_,_=>False
def roomK(H:AH)(h c:Nat):Prop:=∃g c',H g=some (.note h c')∧c≤c'
def dz(P:Program)(t:TypeId)(x:AV)(lo hi:Option AV)(H:AH)(K:AV→AH→Prop):Prop:=match P.underlying t,x,bnd lo 0 with
 |some (.slice e),.own h off n,some l=>(match bnd hi n with
  |some u=>0≤l∧l≤u∧(u≤n∨(off=0∧roomK H h u.toNat))∧ax P e=true∧0<ai0 P e∧K (if l<u then .own h (off+l.toNat*ai0 P e) (u.toNat-l.toNat) else .any) H
  |_=>False)
 |_,_,_=>False
def fullA(P:Program)(u:Option TypeDesc)(x:AV)(lo hi mx:Option AV)(z:Bool):Option (Prop × Prop × List AV × Nat):=match u,x with
 |some (.slice e),.imm k cells n=>(match bnd lo 0,bnd hi 0,bnd mx 0 with
  |some l,some h,some m=>bif z then some (k≠0∧l=0∧h=0∧m=0,ax P e=true∧hi.isSome=true,[],0) else some (k≠0∧l=0∧h=n∧m=n,ax P e=true∧hi.isSome=true∧cells.length=n*ai0 P e,cells,n)
  |_,_,_=>none)
 |_,_=>none
def fullO(o:Option (Prop × Prop × List AV × Nat))(H:AH)(K:AV→AH→Prop):Prop:=match o with
 |some (p,q,cells,n)=>p∧q∧∀g,g≠0→H g=none→K (.imm g cells n) (H.set g (.full n))
 |none=>False
def isC0:Operand→Bool
 |.const _=>true
 |_=>false
def jK(P:Program)(t:TypeId)(x:AV)(lo hi mx:Option AV)(z:Bool)(H:AH)(K:AV→AH→Prop):Prop:=fullO (fullA P (P.underlying t) x lo hi mx z) H K
def lenN:AV→Option Nat
 |.own _ _ n=>some n
 |.imm _ _ n=>some n
 |_=>none
def srcN(H:AH)(x:AV)(s k:Nat)(news:List AV):Prop:=match x with
 |.imm _ cells n=>k≤n∧cells.length=n*s∧news=cells.take (k*s)
 |.own h off n=>∃cs e,H h=some (.cells cs e s)∧k≤n∧off+k*s≤cs.length∧news=(cs.drop off).take (k*s)
 |_=>False
def copyK(P:Program)(xs:List AV)(ts:List TypeId)(H:AH)(K:AV→AH→Prop):Prop:=match xs,ts with
 |[.own h off nd,x],[t,_]=>(match P.underlying t,lenN x with
  | some (.slice e), some ns => ∃ cs news, H h = some (.cells cs e (ai0 P e)) ∧ srcN H x (ai0 P e) (min ns nd) news ∧ news.length = min ns nd * ai0 P e ∧ ax P e = true ∧ off ≤ cs.length ∧ 0 < ai0 P e ∧
      (off+news.length≤cs.length∨∃c,roomK H h c∧off+news.length≤c*ai0 P e)∧K (.sc (.int .i64 (min ns nd:Nat))) (H.set h (.cells (bG cs off news) e (ai0 P e)))
  |_,_=>False)
 |_,_=>False
def growZK(P:Program)(xs:List AV)(ts:List TypeId)(H:AH)(K:AV→AH→Prop):Prop:=match xs,ts with
 |[.own h 0 i,.sc (.int _ k)],[t,t']=>(match P.underlying t,P.underlying t' with
  | some (.slice e), some (.int _) => ∃ cs g c, H h = some (.cells cs e (ai0 P e)) ∧ H g = some (.note h c) ∧ ax P e = true ∧ 0 < ai0 P e ∧ i * ai0 P e ≤ cs.length ∧ 0 < k ∧ c < i + k.toNat ∧
      i+k.toNat≤maxLen∧(i+k.toNat)*ay P e≤140737488355328∧
      ∀k2 g2 c2,k2≠0→H k2=none→g2≠0→H g2=none→g2≠k2→i+k.toNat≤c2→K (.own k2 0 (i+k.toNat)) ((H.set k2 (.cells (cs.take (i*ai0 P e)) e (ai0 P e))).set g2 (.note k2 c2))
  |_,_=>False)
 |_,_=>False
theorem room_cap{C:Ctx}(g:WR C){h c:Nat}(hr:roomK C.H h c):c≤C.c h:=by
 obtain⟨k,c',h1,h2⟩:=hr
 have:=g.obj k _ h1
 have e:C.c h=c':=this.2.2
 omega
theorem capK_sound{d:Option Tmp}{args:Array Operand}{ts:Array TypeId}{ty:TypeId}{ps:String}{af:Array Edge}{gd:Option (Nat × Bool)}{ρ:Operand→AV}{H:AH}{K:AV→AH→Prop}(h:capK P (args.toList.map ρ) ts.toList H K):
    Eff P H ⟨d,.call ⟨.builtin .cap,args,ts⟩,ty,ps,af,gd⟩ ρ K:=by
 refine cL fun C ρ' hCH g hx=>?_
 unfold capK at h
 split at h
 case h_2=>exact h.elim
 rename_i k n t ha ht
 split at h
 case h_2=>exact h.elim
 rename_i e hu
 obtain⟨x,hxa⟩:∃x,args.toList=[x]:=by
  have hl:args.toList.length=1:=by have:=congrArg List.length ha;simpa using this
  match h1:args.toList,hl with
  |[x],_=>exact⟨x,rfl⟩
 obtain rfl:args = #[x]:=by rw[←Array.toArray_toList (xs:=args),hxa]
 obtain rfl:ts = #[t]:=by rw[←Array.toArray_toList (xs:=ts),ht]
 have hρ:ρ x=.own k 0 n:=by simpa using ha
 have hv:=hx x (by simp[Op.operands,Call.operands])
 rw[hρ]at hv
 generalize hu':ρ' x=u at hv
 cases hv with
 |own _ _ _ cap g1 g2 g3 g4=>
 have ex:=Ext.note (kk:=k) (cc:=cap) g 0
 have gw:=WR.note (kk:=k) (cc:=cap) g ⟨g1,(g4 rfl).symm⟩ 0
 refine⟨.value (goInt cap),_,C.w,?_,.inl rfl,.sc (.int .i64 (cap:Nat)),⟨C.H.set C.n (.note k cap),C.n+1,upd C.i C.n 0,upd C.c C.n 0,C.w⟩,?_,rfl,gw,ex,.sc _⟩
 ·simp[execOp,resolve,invoke,builtin,hu',Builtin.cap_,run_underlying hu]
 ·have:=h C.n cap (Nat.ne_of_gt g.pos) (by rw[←hCH];exact bh g) g2 g3
  rw[←hCH]at this
  exact this
theorem sliceNK_sound{d:Option Tmp}{t:TypeId}{x:Operand}{lo hi:Option Operand}{ty:TypeId}{ps:String}{af:Array Edge}{gd:Option (Nat × Bool)}{ρ:Operand→AV}{H:AH}{K:AV→AH→Prop}(h:dz P t (ρ x) (lo.map ρ) (hi.map ρ) H K):
    Eff P H ⟨d,.slice t x lo hi none,ty,ps,af,gd⟩ ρ K:=by
 refine cL fun C ρ' hCH g hx=>?_
 have hv:=hx x (by simp[Op.operands])
 unfold dz at h
 split at h
 case h_2=>exact h.elim
 rename_i e k off n l hu hxo hl
 split at h
 case h_2=>exact h.elim
 rename_i u hh
 obtain⟨h0,h1,h2,hT,hs,h⟩:=h
 rw[hxo]at hv
 generalize hu':ρ' x=v at hv
 cases hv with
 |own _ _ _ cap g1 g2 g3 g4=>
 have hcap:u.toNat≤cap:=by
  rcases h2 with h2|⟨rfl,h2⟩
  ·omega
  ·rw[←hCH]at h2
   have:=room_cap g h2
   rw[←g4 rfl]at this
   exact this
 have e3:VRo C (hi.map ρ) (hi.map ρ'):=by
  cases hi with
  |none=>exact trivial
  |some y=>exact hx y (by simp[Op.operands])
 have e2:VRo C (lo.map ρ) (lo.map ρ'):=by
  cases lo with
  |none=>exact trivial
  |some y=>exact hx y (by simp[Op.operands])
 have hb1:=c80 (P:=P) e3 hh (y:=cap) (by omega) (by omega) .sliceAcap C.w
 have hb2:=c80 (P:=P) e2 hl (y:=u.toNat) (by omega) (by omega) .sliceB C.w
 have hsb:(Instr.sliceBounds true n cap (lo.map ρ') (hi.map ρ') none).run P C.w=.ok (l.toNat,u.toNat,cap) C.w:=by
  unfold Instr.sliceBounds
  cases hi<;>cases lo<;>(simp[dm]at hb1 hb2;simp[hb1,hb2])
 by_cases hlu:l<u
 ·have hne:¬cap=l.toNat:=by omega
  rw[if_pos hlu]at h
  refine⟨.value (.slice (some ⟨C.i k,off+l.toNat*ai0 P e,none⟩) (u.toNat-l.toNat) (cap-l.toNat)),_,C.w,?_,.inl rfl,.own k (off+l.toNat*ai0 P e) (u.toNat-l.toNat),C,?_,rfl,g,Ext.refl _,?_⟩
  ·simp[execOp,hu',Instr.sliceAt,Instr.slice,run_underlying hu,hsb,bD0 hT,bT,hne]
  ·rw[←hCH]at h;exact h
  ·refine .own k _ _ _ g1 (by omega) (by omega) fun he=>?_
   have hl0:l.toNat=0:=by
    rcases Nat.eq_zero_or_pos l.toNat with h|h
    ·exact h
    ·have:0<l.toNat*ai0 P e:=Nat.mul_pos h hs
     omega
   have ho:off=0:=by omega
   rw[hl0,Nat.sub_zero]
   exact g4 ho
 ·rw[if_neg hlu]at h
  refine⟨.value (.slice (if cap=l.toNat then some ⟨C.i k,off,none⟩ else some ⟨C.i k,off+l.toNat*ai0 P e,none⟩) (u.toNat-l.toNat) (cap-l.toNat)),_,C.w,?_,.inl rfl,.any,C,?_,rfl,g,Ext.refl _,.any _⟩
  ·simp[execOp,hu',Instr.sliceAt,Instr.slice,run_underlying hu,hsb,bD0 hT,bT]
  ·rw[←hCH]at h;exact h
theorem sliceFK_sound{d:Option Tmp}{t:TypeId}{x mx:Operand}{lo hi:Option Operand}{ty:TypeId}{ps:String}{af:Array Edge}{gd:Option (Nat × Bool)}{ρ:Operand→AV}{H:AH}{K:AV→AH→Prop}{z:Bool}(h:jK P t (ρ x) (lo.map ρ) (hi.map ρ) (some (ρ mx)) z H K):
    Eff P H ⟨d,.slice t x lo hi (some mx),ty,ps,af,gd⟩ ρ K:=by
 refine cL fun C ρ' hCH g hx=>?_
 have hv:=hx x (by simp[Op.operands])
 unfold jK at h
 generalize hq:fullA P (P.underlying t) (ρ x) (lo.map ρ) (hi.map ρ) (some (ρ mx)) z=q at h
 unfold fullA at hq
 split at hq
 case h_2=>subst hq;exact h.elim
 rename_i e k cells n hu hxo
 split at hq
 case h_2=>subst hq;exact h.elim
 rename_i l u m hl hh hm
 obtain⟨nn,cc,hnn,hcc,hk0,rfl,rfl,rfl,hT,his,h⟩:∃(nn:Nat) (cc:List AV),nn≤n∧(cc=[]∨cc=cells)∧k≠0∧l=0∧u=(nn:Int)∧m=(nn:Int)∧ax P e=true∧hi.isSome=true∧∀g,g≠0→H g=none→K (.imm g cc nn) (H.set g (.full nn)):=by
  cases z with
  |true=>
   simp only[cond_true]at hq
   subst hq
   obtain⟨⟨hk0,h1,h2,h3⟩,⟨hT,his⟩,h⟩:=h
   exact⟨0,[],Nat.zero_le _,.inl rfl,hk0,h1,h2,h3,hT,by simpa using his,h⟩
  |false=>
   simp only[cond_false]at hq
   subst hq
   obtain⟨⟨hk0,h1,h2,h3⟩,⟨hT,his,hcl⟩,h⟩:=h
   exact⟨n,cells,Nat.le_refl _,.inr rfl,hk0,h1,h2,h3,hT,by simpa using his,h⟩
 clear hq
 rw[hxo]at hv
 generalize hu':ρ' x=v at hv
 obtain⟨A,cap,rfl,hn,hmx,hk,b,o,ha,us,hc,hcv⟩:=hv.imm_inv
 obtain⟨k1,k2,k3⟩:=hk hk0
 obtain⟨hy,rfl⟩:∃hy,hi=some hy:=by
  cases hi with
  |none=>simp at his
  |some y=>exact⟨y,rfl⟩
 have e4:VRo C (some (ρ mx)) (some (ρ' mx)):=hx mx (by simp[Op.operands])
 have e3:VRo C ((some hy).map ρ) ((some hy).map ρ'):=hx hy (by simp[Op.operands])
 have e2:VRo C (lo.map ρ) (lo.map ρ'):=by
  cases lo with
  |none=>exact trivial
  |some y=>exact hx y (by simp[Op.operands])
 have hbs:∀(x:AV) (a b:Nat),bnd (some x) a=bnd (some x) b:=fun x a b=>by
  cases x with
  |sc v=>cases v<;>rfl
  |_=>rfl
 have hm':bnd (some (ρ mx)) cap=some (nn:Int):=(hbs _ _ _).trans hm
 have hh':bnd ((some hy).map ρ) nn=some (nn:Int):=(hbs (ρ hy) _ _).trans hh
 have hb0:=c80 (P:=P) e4 hm' (y:=cap) (by omega) (by omega) .slice3Acap C.w
 have hb1:=c80 (P:=P) e3 hh' (y:=nn) (by omega) (by omega) .slice3B C.w
 have hb2:=c80 (P:=P) e2 hl (y:=nn) (by omega) (by omega) .slice3C C.w
 have hsb:(Instr.sliceBounds true n cap (lo.map ρ') ((some hy).map ρ') (some (ρ' mx))).run P C.w=.ok (0,nn,nn) C.w:=by
  unfold Instr.sliceBounds
  cases lo<;>(simp[dm]at hb0 hb1 hb2;simp[hb0,hb1,hb2])
 have hrmn:rm (pl (C.c k)*rR+nn)=nn:=rm_pack (by omega)
 have gF:=g.full (C.i k) nn (pl (C.c k)*rR+nn) hrmn (by omega)
 have eF:=Ext.full g (C.i k) nn (pl (C.c k)*rR+nn)
 refine⟨.value (.slice A nn nn),_,C.w,?_,.inl rfl,.imm C.n cc nn,⟨C.H.set C.n (.full nn),C.n+1,upd C.i C.n (C.i k),upd C.c C.n (pl (C.c k)*rR+nn),C.w⟩,?_,rfl,gF,eF,?_⟩
 ·have hA:(if nn=0 then A else A.map (·.add (0*ai0 P e)))=A:=by
   split
   ·rfl
   ·cases A with
    |none=>rfl
    |some a=>obtain⟨ab,ao,asp⟩:=a;cases asp<;>simp[Addr.add]
  have hsl:(Instr.sliceAt t (.slice A n cap) (lo.map ρ') ((some hy).map ρ') (some (ρ' mx))).run P C.w=.ok (.slice A nn nn) C.w:=by
   simp only[Instr.sliceAt,Instr.slice,Sem.run_bind,run_underlying hu,Result.andThen_ok,hsb,bD0 hT,Sem.run_pure,hA,Nat.sub_zero]
  simp only[Option.map_some]at hsl
  simp[execOp,hu',hsl]
 ·rw[hCH]
  exact h C.n (Nat.ne_of_gt g.pos) (by rw[←hCH];exact bh g)
 ·have h4:nn=rm (upd C.c C.n (pl (C.c k)*rR+nn) C.n):=by rw[bC0,hrmn]
  have h5:A=some ⟨upd C.i C.n (C.i k) C.n,pl (upd C.c C.n (pl (C.c k)*rR+nn) C.n),none⟩∨(A=none∧nn=0):=by
   rw[bC0,bC0,pl_pack (by omega)]
   rcases k3 with h|⟨h1,h2⟩
   ·exact .inl h
   ·exact .inr ⟨h1,by omega⟩
  rcases hcc with rfl|rfl
  ·exact .imm C.n [] nn A nn (Nat.le_refl _) (by omega) (fun _=>⟨Nat.lt_succ_self _,h4,h5⟩) 0 0 (fun h=>absurd rfl h) (fun _=>undef) (fun j h=>absurd h (by simp)) (fun j h=>absurd h (by simp))
  ·exact .imm C.n cc nn A nn (Nat.le_refl _) (by omega) (fun _=>⟨Nat.lt_succ_self _,h4,h5⟩) b o ha us (fun j hj=>eF.at_ _ _ (hc j hj)) (fun j hj=>(hcv j hj).ext eF)
def slideK(P:Program)(t:TypeId)(x:AV)(lo hi:Option AV)(H:AH)(K:AV→AH→Prop):Prop:=match P.underlying t,x,bnd lo 0 with
 | some (.slice e), .imm k cells n, some l => ∃ o, H k = some o ∧ cy0 e (ai0 P e) o cells.length ∧ k ≠ 0 ∧ hi.isSome = false ∧ 0 ≤ l ∧ l.toNat ≤ n ∧ cells.length = n * ai0 P e ∧ ax P e = true ∧
     ∀k' o',k'≠0→H k'=none→cy0 e (ai0 P e) o' (cells.drop (l.toNat*ai0 P e)).length→K (.imm k' (cells.drop (l.toNat*ai0 P e)) (n-l.toNat)) ((H.kill k).set k' o')
 |_,_,_=>False
theorem slideK_sound{d:Option Tmp}{t:TypeId}{x:Operand}{lo hi:Option Operand}{ty:TypeId}{ps:String}{af:Array Edge}{gd:Option (Nat × Bool)}{ρ:Operand→AV}{H:AH}{K:AV→AH→Prop}(h:slideK P t (ρ x) (lo.map ρ) (hi.map ρ) H K):
    Eff P H ⟨d,.slice t x lo hi none,ty,ps,af,gd⟩ ρ K:=by
 refine cL fun C ρ' hCH g hx=>?_
 have hv:=hx x (by simp[Op.operands])
 unfold slideK at h
 split at h
 case h_2=>exact h.elim
 rename_i e k cells n l hu hxo hl
 obtain⟨o,hko,htok,hk0,hhi,h0,hln,hcl,hT,h⟩:=h
 rw[hxo]at hv
 generalize hu':ρ' x=v at hv
 obtain⟨A,cap,rfl,hn,hmx,hk,b,ob,ha,us,hc,hcv⟩:=hv.imm_inv
 obtain⟨k1,k2,k3⟩:=hk hk0
 obtain rfl:hi=none:=by
  cases hi with
  |none=>rfl
  |some y=>simp at hhi
 have e2:VRo C (lo.map ρ) (lo.map ρ'):=by
  cases lo with
  |none=>exact trivial
  |some y=>exact hx y (by simp[Op.operands])
 have hb2:=c80 (P:=P) e2 hl (y:=n) (by omega) (by omega) .sliceB C.w
 have e3:VRo C ((none:Option Operand).map ρ) ((none:Option Operand).map ρ'):=trivial
 have hb1:=c80 (P:=P) e3 (show bnd ((none:Option Operand).map ρ) n=some (n:Int) from rfl) (y:=cap) (by omega) (by omega) .sliceAcap C.w
 have hsb:(Instr.sliceBounds true n cap (lo.map ρ') none none).run P C.w=.ok (l.toNat,n,cap) C.w:=by
  unfold Instr.sliceBounds
  cases lo<;>(simp[dm]at hb1 hb2;simp[hb1,hb2])
 rw[←hCH]at hko h
 have gk:=g.weaken (C.H.kill k) (fun x o h=>by simp only[AH.kill]at h;split at h;cases h;exact h)
 have ek:=Ext.weaken (C:=C) (C.H.kill k) (fun x o h=>by simp only[AH.kill]at h;split at h;cases h;exact h)
 have hdl:(cells.drop (l.toNat*ai0 P e)).length=(n-l.toNat)*ai0 P e:=by rw[List.length_drop,hcl,Nat.sub_mul]
 have hlz:l.toNat*ai0 P e≤cells.length:=by rw[hcl];exact Nat.mul_le_mul_right _ hln
 have hnn:C.H C.n=none:=bh g
 by_cases hcapl:cap=l.toNat
 ·-- nothing is left, and no room
  subst hcapl
  have hnl:n-l.toNat=0:=by omega
  have hrz:rm (pl (C.c k)*rR+0)=0:=rm_pack (Nat.zero_le _)
  have gF:=gk.full (C.i k) 0 (pl (C.c k)*rR+0) hrz (Nat.zero_le _)
  have eF:=ek.trans (Ext.full gk (C.i k) 0 (pl (C.c k)*rR+0))
  have hnil:cells.drop (l.toNat*ai0 P e)=[]:=List.eq_nil_of_length_eq_zero (by rw[hdl,hnl,Nat.zero_mul])
  refine⟨.value (.slice A (n-l.toNat) (l.toNat-l.toNat)),_,C.w,?_,.inl rfl,.imm C.n (cells.drop (l.toNat*ai0 P e)) (n-l.toNat),⟨(C.H.kill k).set C.n (.full 0),C.n+1,upd C.i C.n (C.i k),upd C.c C.n (pl (C.c k)*rR+0),C.w⟩,?_,rfl,gF,eF,?_⟩
  ·simp[execOp,hu',Instr.sliceAt,Instr.slice,run_underlying hu,hsb,bD0 hT]
  ·exact h C.n (.full 0) (Nat.ne_of_gt g.pos) hnn (.inr ⟨by rw[hnil];exact(Nat.zero_mul _).symm,rfl⟩)
  ·rw[hnil,hnl]
   have hA:A=some ⟨upd C.i C.n (C.i k) C.n,pl (upd C.c C.n (pl (C.c k)*rR+0) C.n),none⟩∨(A=none∧l.toNat-l.toNat=0):=by
    rw[bC0,bC0,pl_pack (Nat.zero_le _)]
    exact k3.imp id fun q=>⟨q.1,by omega⟩
   exact .imm C.n [] 0 A (l.toNat-l.toNat) (Nat.zero_le _) (by omega) (fun _=>⟨Nat.lt_succ_self _,by show _=rm (upd C.c C.n _ C.n);rw[bC0,hrz];omega,hA⟩) 0 0 (fun h=>absurd rfl h) (fun _=>undef) (fun j h=>absurd h (by simp)) (fun j h=>absurd h (by simp))
 ·have hA:A=some ⟨C.i k, pl (C.c k), none⟩:=by
   rcases k3 with h|⟨_,h⟩
   ·exact h
   ·omega
  subst hA
  have hpp:pl ((pl (C.c k)+l.toNat*ai0 P e)*rR+(cap-l.toNat))=pl (C.c k)+l.toNat*ai0 P e:=pl_pack (by omega)
  have hrp:rm ((pl (C.c k)+l.toNat*ai0 P e)*rR+(cap-l.toNat))=cap-l.toNat:=rm_pack (by omega)
  generalize hc':(pl (C.c k)+l.toNat*ai0 P e)*rR+(cap-l.toNat)=c' at hpp hrp
  have fin : ∀ o' : AObj, WR ⟨(C.H.kill k).set C.n o', C.n + 1, upd C.i C.n (C.i k), upd C.c C.n c', C.w⟩ → Ext C ⟨(C.H.kill k).set C.n o', C.n + 1, upd C.i C.n (C.i k), upd C.c C.n c', C.w⟩ → cy0 e (ai0 P e) o' (cells.drop (l.toNat * ai0 P e)).length →
      ∃nx u w',(execOp ρ' ⟨d,.slice t x lo none none,ty,ps,af,gd⟩).run P C.w=.ok nx w'∧(nx=.value u∨(nx=.skip∧u=undef))∧∃v D,K v D.H∧D.w=w'∧WR D∧Ext C D∧VR D v u:=by
   intro o' g' e' t'
   refine⟨.value (.slice (some ⟨C.i k,pl (C.c k)+l.toNat*ai0 P e,none⟩) (n-l.toNat) (cap-l.toNat)),_,C.w,?_,.inl rfl,.imm C.n (cells.drop (l.toNat*ai0 P e)) (n-l.toNat),⟨(C.H.kill k).set C.n o',C.n+1,upd C.i C.n (C.i k),upd C.c C.n c',C.w⟩,?_,rfl,g',e',?_⟩
   ·simp[execOp,hu',Instr.sliceAt,Instr.slice,run_underlying hu,hsb,bD0 hT,bT,hcapl]
   ·exact h C.n o' (Nat.ne_of_gt g.pos) hnn t'
   ·refine .imm C.n _ _ _ _ (by omega) (by omega) (fun _=>⟨Nat.lt_succ_self _,?_,.inl ?_⟩) b (ob+l.toNat*ai0 P e) (fun hne=>?_) (fun j=>us (l.toNat*ai0 P e+j)) (fun j hj=>?_) (fun j hj=>?_)
    ·show _=rm (upd C.c C.n c' C.n)
     rw[bC0,hrp]
    ·show _=some (⟨upd C.i C.n (C.i k) C.n,pl (upd C.c C.n c' C.n),none⟩:Addr)
     rw[bC0,bC0,hpp]
    ·have h1:=ha (fun hz=>hne (by rw[hz,List.drop_nil]))
     simp only[Option.some.injEq,Addr.mk.injEq]at h1 ⊢
     exact⟨h1.1,by rw[h1.2.1],trivial⟩
    ·rw[List.length_drop]at hj
     have:=e'.at_ _ _ (hc (l.toNat*ai0 P e+j) (by omega))
     rw[Nat.add_assoc]
     exact this
    ·rw[List.length_drop]at hj
     rw[List.getElem_drop]
     exact(hcv (l.toNat*ai0 P e+j) (by omega)).ext e'
  rcases htok.cases3 with rfl|⟨hm0,rfl⟩|⟨cc,hm0,rfl⟩
  ·obtain⟨vs,fz,q1,q2,q3,q4⟩:=g.obj k _ hko
   refine fin (.tail (cells.drop (l.toNat*ai0 P e)).length e (ai0 P e)) (WR.grow g hko C.w rfl (fun _ _=>rfl) rfl rfl rfl ?_ (fun _ _=>rfl) (fun _ _ _=>rfl) ⟨vs,fz,q1,q2,?_,?_⟩) (Ext.grow g hko C.w rfl (fun _ _=>rfl) rfl rfl rfl ?_ (fun _ _=>rfl) (fun _ _ _=>rfl)) (.inl rfl)
   ·rw[hpp,List.length_drop];omega
   ·rw[hpp,hrp,q3,←k2,Nat.sub_mul]
    have:l.toNat*ai0 P e≤cap*ai0 P e:=Nat.mul_le_mul_right _ (by omega)
    omega
   ·rw[hpp,List.length_drop];omega
   ·rw[hpp,List.length_drop];omega
  ·have hcz:C.c k=0:=g.obj k _ hko
   rw[hcz,rm_zero]at k2
   exfalso
   omega
  ·have hcz:rm (C.c k)=cc:=(g.obj k _ hko).1
   refine fin (.full (cap-l.toNat)) (gk.full (C.i k) (cap-l.toNat) c' hrp (by omega)) (ek.trans (Ext.full gk (C.i k) (cap-l.toNat) c')) (.inr ⟨?_,rfl⟩)
   show _=(cap-l.toNat)*ai0 P e
   rw[List.length_drop,hm0,k2,hcz,Nat.sub_mul]
theorem srcN_sound{C:Ctx}(g:WR C){x:AV}{xv:Value}{s k ns:Nat}{news:List AV}(h:srcN C.H x s k news)(hx:VR C x xv)(hl:lenN x=some ns):
    (∀w,(Builtin.lenOf xv).run P w=.ok ns w)∧∃nv:List Value,nv.length=news.length∧(∀u∈nv,u.oneCell'=true)∧(∀j (h:j<news.length),VR C news[j] (nv.getD j undef))∧(Builtin.firstCells s k xv).run P C.w=.ok nv.toArray C.w:=by
 unfold srcN at h
 split at h
 ·rename_i kk cells n
  obtain⟨hk,hlen,rfl⟩:=h
  simp only[lenN,Option.some.injEq]at hl
  subst hl
  obtain⟨A,cap,rfl,hn,hm,hkk,b,o,ha,u,hc,hv⟩:=hx.imm_inv
  have hks:k*s≤cells.length:=by rw[hlen];exact Nat.mul_le_mul_right _ hk
  refine⟨fun w=>by simp[Builtin.lenOf],(List.range (k*s)).map u,by simp;omega,fun y hy=>?_,fun j hj=>?_,?_⟩
  ·simp only[List.mem_map,List.mem_range]at hy
   obtain⟨j,hj,rfl⟩:=hy
   exact(hc j (by omega)).2.2
  ·have hj':j<k*s:=by rw[List.length_take]at hj;omega
   rw[List.getElem_take]
   simp only[List.getD,List.getElem?_map,List.getElem?_range hj',Option.map_some,Option.getD_some]
   exact hv j (by omega)
  ·cases A with
   |none=>
    have:cells=[]:=Classical.byContradiction fun h=>by cases ha h
    have h0:k*s=0:=by rw[this]at hks;simp at hks;omega
    rw[h0]
    simp[Builtin.firstCells]
   |some a=>
    simp only[Builtin.firstCells]
    exact run_loadCells (P:=P) C.w a (k*s) u (fun j hj=>by
     have hne:cells≠[]:=fun e=>by rw[e]at hks;simp at hks;omega
     have h1:=ha hne
     simp only[Option.some.injEq]at h1
     rw[h1,bT]
     exact(hc j (by omega)).1)
 ·rename_i hh off n
  obtain⟨cs,e,hH,hk,hle,rfl⟩:=h
  simp only[lenN,Option.some.injEq]at hl
  subst hl
  cases hx with
  |own _ _ _ cap g1 g2 g3 g4=>
  obtain⟨vs,fz,h1,h2,h3,h4,h5⟩:=g.obj hh _ hH
  refine⟨fun w=>by simp[Builtin.lenOf],(List.range (k*s)).map fun j=>vs.getD (off+j) undef,by simp;omega,fun y hy=>?_,fun j hj=>?_,?_⟩
  ·simp only[List.mem_map,List.mem_range]at hy
   obtain⟨j,hj,rfl⟩:=hy
   exact(h5 (off+j) (by omega)).2
  ·have hj':j<k*s:=by rw[List.length_take]at hj;omega
   rw[List.getElem_take,List.getElem_drop]
   simp only[List.getD,List.getElem?_map,List.getElem?_range hj',Option.map_some,Option.getD_some]
   exact(h5 (off+j) (by omega)).1
  ·simp only[Builtin.firstCells]
   exact run_loadCells (P:=P) C.w _ (k*s) (fun j=>vs.getD (off+j) undef) fun j hj=>by
    rw[bT,cell_of_row C.w (C.i hh) (off+j) vs _ fz h1,bi (by omega)]
    exact Array.getElem?_eq_getElem (by omega)
 ·exact h.elim
theorem seg_get'(cur:List Value)(off:Nat)(l:List Value)(h:off≤cur.length)(j:Nat):(cur.take off++l++cur.drop (off+l.length))[j]? = if off≤j∧j<off+l.length then l[j-off]? else cur[j]?:=by
 have ht:(cur.take off).length=off:=by simp;omega
 by_cases h1:j<off
 ·rw[if_neg (by omega),List.append_assoc,List.getElem?_append_left (by omega),List.getElem?_take,if_pos h1]
 ·by_cases h2:j<off+l.length
  ·rw[if_pos (by omega),List.getElem?_append_left (by simp;omega),List.getElem?_append_right (by omega),ht]
  ·rw[if_neg (by omega),List.getElem?_append_right (by simp;omega),List.getElem?_drop]
   congr 1
   simp
   omega
theorem segA_get(cur:List AV)(off:Nat)(l:List AV)(h:off≤cur.length)(j:Nat):(bG cur off l)[j]? = if off≤j∧j<off+l.length then l[j-off]? else cur[j]?:=by
 unfold bG
 have ht:(cur.take off).length=off:=by simp;omega
 by_cases h1:j<off
 ·rw[if_neg (by omega),List.append_assoc,List.getElem?_append_left (by omega),List.getElem?_take,if_pos h1]
 ·by_cases h2:j<off+l.length
  ·rw[if_pos (by omega),List.getElem?_append_left (by simp;omega),List.getElem?_append_right (by omega),ht]
  ·rw[if_neg (by omega),List.getElem?_append_right (by simp;omega),List.getElem?_drop]
   congr 1
   simp
   omega
theorem store_ext{C:Ctx}{h:Nat}{cs l:List AV}{nv:List Value}{e:TypeId}{s off:Nat}(g:WR C)(ho:C.H h=some (.cells cs e s))(hoff:off≤cs.length)(hroom:off+l.length≤C.c h*s)(hn:nv.length=l.length)
    (h1v:∀u∈nv,u.oneCell'=true) (hv:∀j (h:j<l.length),VR C l[j] (nv.getD j undef)):
    ∃w',(storeCells ⟨C.i h,off,none⟩ nv).run P C.w=.ok () w'∧WR ⟨C.H.set h (.cells (bG cs off l) e s),C.n,C.i,C.c,w'⟩∧Ext C ⟨C.H.set h (.cells (bG cs off l) e s),C.n,C.i,C.c,w'⟩:=by
 obtain⟨vs,fz,h1,h2,h3,h4,h5⟩:=g.obj h _ ho
 have hrun:=bu (P:=P) (C.i h) off e fz nv 0 vs C.w h1 h2.off (by omega) h1v
 simp only[Nat.add_zero]at hrun
 have hb:∀b,b≠C.i h→(C.w.setRow (C.i h) (vs.toList.take off++nv++vs.toList.drop (off+nv.length)).toArray).heap[b]? = C.w.heap[b]?:=fun b hb=>setRow_other _ _ _ _ hb
 have hnt:∀m e' s',AObj.cells cs e s ≠ .tail m e' s':=by intro _ _ _ h;cases h
 have ex:=Ext.put g ho (o':=.cells (bG cs off l) e s) rfl (C.w.setRow (C.i h) (vs.toList.take off++nv++vs.toList.drop (off+nv.length)).toArray) (by simp) hb rfl rfl rfl hnt
 refine⟨_,hrun,?_,ex⟩
 refine WR.put g ho (o':=.cells (bG cs off l) e s) rfl _ (by simp) hb rfl rfl rfl hnt ?_
 have hsize:(vs.toList.take off++nv++vs.toList.drop (off+nv.length)).toArray.size=vs.size:=by simp;omega
 have hpl:(bG cs off l).length≤vs.size:=by unfold bG;simp;omega
 refine⟨_,fz,setRow_heap _ _ _ _ _ _ h1,by rw[hsize];exact h2,by rw[hsize];exact h3,by rw[hsize];exact hpl,fun j hj=>?_⟩
 have hg:=segA_get cs off l hoff j
 rw[List.getElem?_eq_getElem hj]at hg
 have hv2:=seg_get' vs.toList off nv (by simp;omega) j
 rw[cJ]
 simp only[]at hv2 ⊢
 rw[hv2]
 split at hg
 ·rename_i hc
  have hjl:j-off<l.length:=by omega
  rw[if_pos (by rw[hn];exact hc)]
  rw[List.getElem?_eq_getElem hjl]at hg
  have e1:=hv (j-off) hjl
  rw[←Option.some.inj hg]at e1
  have e2:nv[j-off]? = some (nv[j-off]'(by omega)):=List.getElem?_eq_getElem (by omega)
  simp only[List.getD,e2,Option.getD_some]at e1 ⊢
  exact⟨e1.ext ex,h1v _ (List.getElem_mem _)⟩
 ·rename_i hc
  rw[if_neg (by rw[hn];exact hc)]
  have hjc:j<cs.length:=by
   rcases Nat.lt_or_ge j cs.length with h|h
   ·exact h
   ·rw[List.getElem?_eq_none h]at hg;cases hg
  rw[List.getElem?_eq_getElem hjc]at hg
  have:=h5 j hjc
  rw[←Option.some.inj hg]at this
  rw[cJ]at this
  exact⟨this.1.ext ex,this.2⟩
theorem copyK_sound{d:Option Tmp}{args:Array Operand}{ts:Array TypeId}{ty:TypeId}{ps:String}{af:Array Edge}{gd:Option (Nat × Bool)}{ρ:Operand→AV}{H:AH}{K:AV→AH→Prop}(h:copyK P (args.toList.map ρ) ts.toList H K):
    Eff P H ⟨d,.call ⟨.builtin .copy,args,ts⟩,ty,ps,af,gd⟩ ρ K:=by
 refine cL fun C ρ' hCH g hx=>?_
 unfold copyK at h
 split at h
 case h_2=>exact h.elim
 rename_i k off nd xa t t2 ha ht
 split at h
 case h_2=>exact h.elim
 rename_i e ns hu hns
 obtain⟨cs,news,hH,hsrc,hnl,hT,hoff,hs,hroom,h⟩:=h
 obtain⟨y,x,hxa⟩:∃y x,args.toList=[y,x]:=by
  have hl:args.toList.length=2:=by have:=congrArg List.length ha;simpa using this
  match h1:args.toList,hl with
  |[y,x],_=>exact⟨y,x,rfl⟩
 obtain rfl:args = #[y,x]:=by rw[←Array.toArray_toList (xs:=args),hxa]
 obtain rfl:ts = #[t,t2]:=by rw[←Array.toArray_toList (xs:=ts),ht]
 simp only[List.map_cons,List.map_nil,List.cons.injEq,and_true]at ha
 obtain⟨hy,hxx⟩:=ha
 have hvy:=hx y (by simp[Op.operands,Call.operands])
 have hvx:=hx x (by simp[Op.operands,Call.operands])
 rw[hy]at hvy
 rw[hxx]at hvx
 rw[←hCH]at hH hsrc
 obtain⟨q1,nv,q2,q3,q4,q5⟩:=srcN_sound (P:=P) g hsrc hvx hns
 have hcap:off+news.length≤C.c k*ai0 P e:=by
  rcases hroom with h1|⟨c,h1,h2⟩
  ·obtain⟨vs,fz,b1,b2,b3,b4,b5⟩:=g.obj k _ hH
   omega
  ·rw[←hCH]at h1
   have:=room_cap g h1
   exact Nat.le_trans h2 (Nat.mul_le_mul_right _ this)
 obtain⟨w',r1,r2,r3⟩:=store_ext (P:=P) g hH hoff hcap q2 q3 q4
 generalize hu':ρ' y=v at hvy
 cases hvy with
 |own _ _ _ cap g1 g2 g3 g4=>
 refine⟨.value (goInt ((min ns nd:Nat):Int)),_,w',?_,.inl rfl,.sc (.int .i64 (min ns nd:Nat)),_,?_,rfl,r2,r3,.sc _⟩
 ·have hm:Nat.min ns nd=min ns nd:=rfl
  simp[execOp,resolve,invoke,builtin,hu',Builtin.copy_,run_underlying hu,q1,bD0 hT,hm,q5,r1]
 ·rw[←hCH]at h;exact h
theorem growZK_sound{d:Option Tmp}{args:Array Operand}{ts:Array TypeId}{ty:TypeId}{ps:String}{af:Array Edge}{gd:Option (Nat × Bool)}{ρ:Operand→AV}{H:AH}{K:AV→AH→Prop}(h:growZK P (args.toList.map ρ) ts.toList H K):
    Eff P H ⟨d,.call ⟨.builtin .append,args,ts⟩,ty,ps,af,gd⟩ ρ K:=by
 refine cL fun C ρ' hCH g hx=>?_
 unfold growZK at h
 split at h
 case h_2=>exact h.elim
 rename_i k i kk m t t2 ha ht
 split at h
 case h_2=>exact h.elim
 rename_i e kn hu hu2
 obtain⟨cs,gn,c,hH,hN,hT,hs,hle,hm,hc,h63,hby,h⟩:=h
 obtain⟨y,x,hxa⟩:∃y x,args.toList=[y,x]:=by
  have hl:args.toList.length=2:=by have:=congrArg List.length ha;simpa using this
  match h1:args.toList,hl with
  |[y,x],_=>exact⟨y,x,rfl⟩
 obtain rfl:args = #[y,x]:=by rw[←Array.toArray_toList (xs:=args),hxa]
 obtain rfl:ts = #[t,t2]:=by rw[←Array.toArray_toList (xs:=ts),ht]
 simp only[List.map_cons,List.map_nil,List.cons.injEq,and_true]at ha
 obtain⟨hy,hxx⟩:=ha
 have hvy:=hx y (by simp[Op.operands,Call.operands])
 have hvx:=hx x (by simp[Op.operands,Call.operands])
 rw[hy]at hvy
 rw[hxx]at hvx
 have hxv:=bQ hvx
 rw[←hCH]at hH hN
 obtain⟨mm,rfl⟩:∃mm:Nat,m=mm:=⟨m.toNat,by omega⟩
 rw[Int.toNat_natCast]at hc h63 hby h
 generalize hu':ρ' y=v at hvy
 cases hvy with
 |own _ _ _ cap g1 g2 g3 g4=>
 have hcap:cap=c:=by
  have:=g.obj gn _ hN
  have e1:C.c k=c:=this.2.2
  rw[g4 rfl];exact e1
 subst hcap
 obtain⟨vs,fz,b1,b2,b3,b4,b5⟩:=g.obj k _ hH
 obtain⟨ti,hti,s1,s2,s3,s4,s5⟩:=c90 hT
 obtain⟨ov,hov⟩:∃ov:List Value,ov=(List.range (i*ai0 P e)).map fun j=>vs.getD j undef:=⟨_,rfl⟩
 have hovl:ov.length=i*ai0 P e:=by rw[hov];simp
 have hfc:(Builtin.firstCells ti.size i (.slice (some ⟨C.i k,0,none⟩) i cap)).run P C.w.drew=.ok ov.toArray C.w.drew:=by
  rw[s1,hov]
  simp only[Builtin.firstCells]
  exact run_loadCells (P:=P) C.w.drew _ (i*ai0 P e) (fun j=>vs.getD j undef) fun j hj=>by
   rw[bT,cell_of_row C.w.drew (C.i k) (0+j) vs _ fz b1,Nat.zero_add,bi (by omega)]
   exact Array.getElem?_eq_getElem (by omega)
 have hgrow:=growslice_fits hc hby
 have hrun:=Lib.run_append_grow_zeros (P:=P) C.w t t2 ty e ti (bk P e) kk kn hu hu2 hti s3 (some ⟨C.i k,0,none⟩) i cap ov hfc mm (by omega) (by omega) (by omega) (by unfold maxLen at h63;omega) (by
  rw[s2]
  have:mm*ay P e≤(i+mm)*ay P e:=Nat.mul_le_mul_right _ (by omega)
  omega) (by rw[s2];exact hgrow)
 have hge:=grownCap_ge C.w (i+mm) cap e
 have hlm:=grownCap_le_maxLen C.w (i+mm) cap e h63
 generalize grownCap C.w (i+mm) cap e=gc at *
 have eh:=Ext.heap (C:=C) C.w.drew rfl rfl rfl rfl
 have gh:=g.heap C.w.drew rfl rfl rfl rfl
 obtain⟨ws,hws⟩:∃ws:Array Value,ws=ov.toArray++Builtin.zeroCells (bk P e).cells mm++Builtin.zeroCells (bk P e).cells (gc-(i+mm)):=⟨_,rfl⟩
 rw[←hws]at hrun
 have hsize:ws.size=gc*ai0 P e:=by
  rw[hws]
  simp only[Array.size_append,List.size_toArray,size_zeroCells,s4,hovl,←Nat.add_mul]
  congr 1
  omega
 have hget:∀j,j<i*ai0 P e→ws.getD j undef=vs.getD j undef:=fun j hj=>by
  rw[cJ,hws]
  simp only[Array.toList_append,List.append_assoc]
  have hlt:j<ov.length:=by omega
  rw[List.getElem?_append_left (by exact hlt),hov]
  simp[hj]
 have htl:(cs.take (i*ai0 P e)).length=i*ai0 P e:=by simp;omega
 have ea:=Ext.add gh (.cells (cs.take (i*ai0 P e)) e (ai0 P e)) (.cells ws e) gc
 have eD:=eh.trans ea
 have ga:=WR.add gh (.cells (cs.take (i*ai0 P e)) e (ai0 P e)) (.cells ws e) gc (by
  refine⟨ws,(0,0),?_,fun off _=>by simp,?_,?_,fun j hj=>?_⟩
  ·show(C.w.drew.alloc (.cells ws e)).heap[upd C.i C.n C.w.drew.heap.size C.n]? = _
   rw[bC0]
   exact heap_alloc_new _ _
  ·show ws.size=upd C.c C.n gc C.n*_
   rw[bC0]
   exact hsize
  ·rw[htl,hsize];exact Nat.mul_le_mul_right _ (by omega)
  ·have hj':j<i*ai0 P e:=by rw[htl]at hj;exact hj
   rw[hget j hj',List.getElem_take]
   have:=b5 j (by omega)
   exact⟨this.1.ext eD,this.2⟩)
 have en:=Ext.note (kk:=C.n) (cc:=gc) ga 0
 have gn':=WR.note (kk:=C.n) (cc:=gc) ga ⟨Nat.lt_succ_self _,bC0⟩ 0
 refine⟨.value (.slice (some ⟨C.w.heap.size,0,none⟩) (i+mm) gc),_,C.w.drew.alloc (.cells ws e),?_,.inl rfl,.own C.n 0 (i+mm),_,?_,rfl,gn',eD.trans en,?_⟩
 ·simp[execOp,resolve,invoke,builtin,hu',hxv,hrun]
 ·have:=h C.n (C.n+1) gc (Nat.ne_of_gt g.pos) (by rw[←hCH];exact bh g) (by omega) (by
   cases hz:H (C.n+1) with
   |none=>rfl
   |some o=>rw[←hCH]at hz;exact absurd (g.lt _ _ hz) (by omega)) (by omega) hge
  rw[←hCH]at this
  exact this
 ·have:=VR.own (C:=⟨C.H.set C.n (.cells (cs.take (i*ai0 P e)) e (ai0 P e)),C.n+1,upd C.i C.n C.w.drew.heap.size,upd C.c C.n gc,C.w.drew.alloc (.cells ws e)⟩) C.n 0 (i+mm) gc (Nat.lt_succ_self _) hge hlm (fun _=>by show _=upd C.c C.n _ C.n;rw[bC0])
  have e2:(⟨C.H.set C.n (.cells (cs.take (i*ai0 P e)) e (ai0 P e)),C.n+1,upd C.i C.n C.w.drew.heap.size,upd C.c C.n gc,C.w.drew.alloc (.cells ws e)⟩:Ctx).i C.n=C.w.heap.size:=bC0
  rw[e2]at this
  exact this.ext en
end Go.Abs
end
