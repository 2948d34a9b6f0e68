/-
  Several texts in one: each says what it proves.
  Conditions: none. Lemmas only.
-/
import Derived.Test.YtcncplameclkfaaGreatDoorAbsN
set_option linter.all false
section
namespace Go.Abs
open Go Go.RowKit
variable {P:Program} {c:Cfg} {Q:Exit→Sg→AH→Prop} {σ:Sg} {H:AH} {K:AV→Prop} {L:AV→AH→Prop} {ρ:Operand→AV} {A:List Nat} {d:Option Tmp} {ty:TypeId} {ps:String} {af:Array Edge} {gd:Option (Nat × Bool)}
theorem aw0{α:Sort _}{a b:α}(h:a=b):a=b:=h ▸ rfl
def bJ{α:Type}(o:Option α)(K:α→Prop):Prop:=match o with|some v=>K v|none=>False
@[congr] theorem optK_congr {α:Type} {o o':Option α} {K:α→Prop} (h:o=o'):bJ o K=bJ o' K:=by rw[h]
theorem cwp_skip:cwp c .skip Q σ H=Q .normal σ H:=aw0 rfl
theorem cwp_ret:cwp c .ret Q σ H=Q .ret σ H:=aw0 rfl
theorem cwp_exit{id:Nat}:cwp c (.exit id) Q σ H=Q (.exit id) σ H:=aw0 rfl
theorem cwp_label{l:Nat}:cwp c (.label l) Q σ H=Q .normal σ H:=aw0 rfl
theorem cwp_seq{a b:Code}:cwp c (.seq a b) Q σ H=cwp c a (dp (cwp c b Q) Q) σ H:=aw0 rfl
theorem cwp_block{id:Nat}{a:Code}:cwp c (.block id a) Q σ H=cwp c a (ABlock id Q) σ H:=aw0 rfl
theorem cwp_cond{x:Operand}{a b:Code}:cwp c (.cond x a b) Q σ H=condK (σ.ev x) (cwp c a Q σ H) (cwp c b Q σ H):=aw0 rfl
theorem cwp_region{id:Nat}{l:List Oper}:cwp c (.region id l.toArray false) Q σ H=Run c l.toArray l (FzK (bI0 c.T (id+1000000)) (KeepO (bI0 c.T (id+4000000)) (Q .normal))) σ H:=aw0 rfl
theorem cwp_tree{id:Nat}{l:List Oper}:cwp c (.region id l.toArray true) Q σ H=DrawK c (eX c.S id) id l (FzK (bI0 c.T (id+1000000)) (KeepO (bI0 c.T (id+4000000)) (Q .normal))) σ H:=aw0 rfl
theorem treeOf_nil{k:Nat}:eX [] k=.nil:=aw0 rfl
theorem treeOf_cons{i k:Nat}{t:STree}{r:List (Nat × STree)}:eX ((i,t)::r) k=bif i == k then t else eX r k:=aw0 rfl
theorem DrawK_nil{K:Sg→AH→Prop}{id:Nat}{l:List Oper}:DrawK c .nil id l K σ H=RunD c l.toArray (ordL l (bI0 c.T (id+2000000))) (bI0 c.T id) K σ H:=aw0 rfl
theorem cwp_loop{a:Code}:cwp c (.loop a) Q σ H=LoopG c a Q σ H:=aw0 rfl
theorem AThen_normal{n:Sg→AH→Prop}:dp n Q .normal σ H=n σ H:=aw0 rfl
theorem AThen_exit{n:Sg→AH→Prop}{id:Nat}:dp n Q (.exit id) σ H=Q (.exit id) σ H:=aw0 rfl
theorem AThen_ret{n:Sg→AH→Prop}:dp n Q .ret σ H=Q .ret σ H:=aw0 rfl
theorem ABlock_normal{id:Nat}:ABlock id Q .normal σ H=Q .normal σ H:=aw0 rfl
theorem ABlock_ret{id:Nat}:ABlock id Q .ret σ H=Q .ret σ H:=aw0 rfl
theorem ABlock_exit{id id':Nat}:ABlock id Q (.exit id') σ H=if id'=id then Q .normal σ H else Q (.exit id') σ H:=aw0 rfl
theorem Run_nil{ops:Array Oper}{K:Sg→AH→Prop}:Run c ops [] K σ H=K σ H:=aw0 rfl
theorem Run_cons{ops:Array Oper}{K:Sg→AH→Prop}{o:Oper}{rest:List Oper}:Run c ops (o::rest) K σ H=
 (dN c.N o.dst∧cS0 ops σ o (bW c.P c.A o σ.ev H fun v H'=>Run c ops rest K (σ.put o.dst v) H') (Run c ops rest K (σ.put o.dst (.tup [])) H)):=aw0 rfl
theorem RunD_nil{ops:Array Oper}{ks:List Nat}{K:Sg→AH→Prop}:RunD c ops [] ks K σ H=K σ H:=aw0 rfl
theorem RunD_0{ops:Array Oper}{K:Sg→AH→Prop}{o:Oper}{rest:List Oper}{ks:List Nat}:RunD c ops (o::rest) (0::ks) K σ H=
 (dN c.N o.dst∧cS0 ops σ o (bm0 c.P o σ.ev fun v=>RunD c ops rest ks K (σ.put o.dst v) H) (RunD c ops rest ks K (σ.put o.dst (.tup [])) H)):=aw0 rfl
theorem RunD_1{ops:Array Oper}{K:Sg→AH→Prop}{o:Oper}{rest:List Oper}{ks:List Nat}:RunD c ops (o::rest) (1::ks) K σ H=
 (dN c.N o.dst∧cS0 ops σ o (stepQ c.P o σ.ev H fun v=>RunD c ops rest ks K (σ.put o.dst v) H) (RunD c ops rest ks K (σ.put o.dst (.tup [])) H)):=aw0 rfl
theorem RunD_2{ops:Array Oper}{K:Sg→AH→Prop}{o:Oper}{rest:List Oper}{ks:List Nat}:RunD c ops (o::rest) (2::ks) K σ H=
 (dN c.N o.dst∧cS0 ops σ o (bW c.P c.A o σ.ev H fun v H'=>RunD c ops rest ks K (σ.put o.dst v) H') (RunD c ops rest ks K (σ.put o.dst (.tup [])) H)):=aw0 rfl
theorem RunT_nil{l:List Oper}{K:Sg→AH→Prop}:RunT c l .nil K σ H=K σ H:=aw0 rfl
theorem RunT_or{l:List Oper}{a b:STree}{K:Sg→AH→Prop}:RunT c l (.or a b) K σ H=(RunT c l a K σ H∧RunT c l b K σ H):=aw0 rfl
theorem RunT_0{l:List Oper}{K:Sg→AH→Prop}{i:Nat}{t:STree}:RunT c l (.op i 0 t) K σ H=bJ l[i]? fun o=>
 (dN c.N o.dst∧cS0 l.toArray σ o (bm0 c.P o σ.ev fun v=>RunT c l t K (σ.put o.dst v) H) (RunT c l t K (σ.put o.dst (.tup [])) H)):=aw0 (by simp only[RunT,bJ,kindT];cases l[i]?<;>rfl)
theorem RunT_2{l:List Oper}{K:Sg→AH→Prop}{i:Nat}{t:STree}:RunT c l (.op i 2 t) K σ H=bJ l[i]? fun o=>
 (dN c.N o.dst∧cS0 l.toArray σ o (bW c.P c.A o σ.ev H fun v H'=>RunT c l t K (σ.put o.dst v) H') (RunT c l t K (σ.put o.dst (.tup [])) H)):=aw0 (by simp only[RunT,bJ,kindT];cases l[i]?<;>rfl)
theorem RunT_3{l:List Oper}{K:Sg→AH→Prop}{i:Nat}{t:STree}:RunT c l (.op i 3 t) K σ H=bJ l[i]? fun o=>
 (dN c.N o.dst∧cS0 l.toArray σ o (je c.P c.A o σ.ev H fun v H'=>RunT c l t K (σ.put o.dst v) H') (RunT c l t K (σ.put o.dst (.tup [])) H)):=aw0 (by simp only[RunT,bJ,kindT];cases l[i]?<;>rfl)
theorem RunT_4{l:List Oper}{K:Sg→AH→Prop}{i:Nat}{t:STree}:RunT c l (.op i 4 t) K σ H=bJ l[i]? fun o=>
 (dN c.N o.dst∧cS0 l.toArray σ o (stepL c.P o σ.ev H fun v=>RunT c l t K (σ.put o.dst v) H) (RunT c l t K (σ.put o.dst (.tup [])) H)):=aw0 (by simp only[RunT,bJ,kindT];cases l[i]?<;>rfl)
theorem ordL_nil{l:List Oper}:ordL l []=l:=aw0 rfl
theorem ordL_cons{l:List Oper}{i:Nat}{is:List Nat}:ordL l (i::is)=selL l (i::is):=aw0 rfl
theorem selL_nil{l:List Oper}:selL l []=[]:=aw0 rfl
def selO(o:Option Oper)(r:List Oper):List Oper:=match o with
 |some o=>o::r
 |none=>r
theorem selL_cons{l:List Oper}{i:Nat}{is:List Nat}:selL l (i::is)=selO l[i]? (selL l is):=aw0 rfl
theorem selO_some{o:Oper}{r:List Oper}:selO (some o) r=o::r:=aw0 rfl
theorem kindsOf_nil{k:Nat}:bI0 [] k=[]:=aw0 rfl
theorem kindsOf_cons{i k:Nat}{l:List Nat}{r:List (Nat × List Nat)}:bI0 ((i,l)::r) k=bif i == k then l else bI0 r k:=aw0 rfl
theorem dstOk_some{N t:Nat}(h:t<N):dN N (some t)=True:=by simp[dN,h]
theorem dstOk_none{N:Nat}:dN N none=True:=by simp[dN]
def optK'(o:Option AV)(K:AV→Prop):Prop:=match o with|some v=>K v|none=>False
theorem sP_move{x:Operand}:bm0 P ⟨d,.move x,ty,ps,af,gd⟩ ρ K=K (ρ x):=aw0 rfl
theorem sP_assign{x:Operand}:bm0 P ⟨d,.assign x,ty,ps,af,gd⟩ ρ K=K (ρ x):=aw0 rfl
theorem sP_pick{a b e:Operand}:bm0 P ⟨d,.pick a b e,ty,ps,af,gd⟩ ρ K=pickK (ρ a) (K (ρ b)) (K (ρ e)):=aw0 rfl
theorem sP_binOp{op:BinOp}{t t':TypeId}{x y:Operand}:bm0 P ⟨d,.binOp op t x y t',ty,ps,af,gd⟩ ρ K=bY P op t (ρ x) (ρ y) K:=aw0 rfl
theorem sP_unOp{op:UnOp}{t:TypeId}{x:Operand}:bm0 P ⟨d,.unOp op t x,ty,ps,af,gd⟩ ρ K=unK op (ρ x) K:=aw0 rfl
theorem sP_convert{s t:TypeId}{x:Operand}:bm0 P ⟨d,.convert s t x,ty,ps,af,gd⟩ ρ K=convK P s t (ρ x) K:=aw0 rfl
theorem sP_extract{x:Operand}{i:Nat}:bm0 P ⟨d,.extract x i,ty,ps,af,gd⟩ ρ K=extrK (ρ x) i K:=aw0 rfl
theorem sP_indexAddr{t:TypeId}{x y:Operand}:bm0 P ⟨d,.indexAddr t x y,ty,ps,af,gd⟩ ρ K=cI P t (ρ x) (ρ y) K:=aw0 rfl
theorem sP_fieldAddr{t:TypeId}{x:Operand}{i:Nat}:bm0 P ⟨d,.fieldAddr t x i,ty,ps,af,gd⟩ ρ K=cK P t (ρ x) i K:=aw0 rfl
theorem sP_load{t:TypeId}{x:Operand}:bm0 P ⟨d,.load t x,ty,ps,af,gd⟩ ρ K=loadK P t (ρ x) K:=aw0 rfl
theorem sP_slice{t:TypeId}{x:Operand}{lo hi mx:Option Operand}:bm0 P ⟨d,.slice t x lo hi mx,ty,ps,af,gd⟩ ρ K=kU P t (ρ x) (lo.map ρ) (hi.map ρ) (mx.map ρ) K:=aw0 rfl
theorem sP_build{t:TypeId}{parts:List (Nat × Operand)}:bm0 P ⟨d,.build t parts.toArray,ty,ps,af,gd⟩ ρ K=eo0 P t (parts.map fun p=>(p.1,ρ p.2)) K:=aw0 rfl
theorem sP_buildSlice{t:TypeId}{n:Nat}{parts:List (Nat × Operand)}:bm0 P ⟨d,.buildSlice t n parts.toArray,ty,ps,af,gd⟩ ρ K=bq0 P t n (parts.map fun p=>(p.1,(ρ p.2).strip)) K:=aw0 rfl
theorem sP_call{f:Operand}{l:List Operand}{ts:Array TypeId}:bm0 P ⟨d,.call ⟨.value f,l.toArray,ts⟩,ty,ps,af,gd⟩ ρ K=callPK P (ρ f) (l.map fun y=>(ρ y).strip) K:=aw0 rfl
theorem sQ_load{t:TypeId}{x:Operand}:stepQ P ⟨d,.load t x,ty,ps,af,gd⟩ ρ H K=ir P t (ρ x) H K:=aw0 rfl
theorem sK_load{t:TypeId}{x:Operand}:bW P A ⟨d,.load t x,ty,ps,af,gd⟩ ρ H L=ir P t (ρ x) H (fun v=>L v H):=aw0 rfl
theorem sK_store{t:TypeId}{a x:Operand}:bW P A ⟨d,.store t a x,ty,ps,af,gd⟩ ρ H L=storeK P t (ρ a) (ρ x) H L:=aw0 rfl
theorem sK_box{t:TypeId}{x:Operand}:bW P A ⟨d,.box t x,ty,ps,af,gd⟩ ρ H L=Req ((ρ x).fine=true) (∀k,k≠0→H k=none→L (.ptr k 0) (H.set k (.cells (ρ x).cellsOf t (ρ x).cellsOf.length))):=aw0 rfl
theorem sK_alloc{t:TypeId}:bW P A ⟨d,.alloc t,ty,ps,af,gd⟩ ρ H L=Req (ax P t=true) (∀k,k≠0→H k=none→L (.ptr k 0) (H.set k (.cells (ap P t) t (ap P t).length))):=aw0 rfl
theorem sK_make{t:TypeId}{l e:Operand}:bW P A ⟨d,.makeSlice t l e,ty,ps,af,gd⟩ ρ H L=bsK (kH A d) (makeP P t (ρ l) (ρ e) fun v=>L v H) (makeK P t (aH l e) (ρ l) (ρ e) H L):=aw0 rfl
theorem sK_append{l:List Operand}{ts:List TypeId}:bW P A ⟨d,.call ⟨.builtin .append,l.toArray,ts.toArray⟩,ty,ps,af,gd⟩ ρ H L=bsK (jz A d) (growZK P (l.map ρ) ts H L) (bsK (j3 A d) (own2K P (l.map ρ) ts H L) (eT P (l.map ρ) ts H L)):=aw0 rfl
theorem sK_call{f:Operand}{l:List Operand}{ts:Array TypeId}:bW P A ⟨d,.call ⟨.value f,l.toArray,ts⟩,ty,ps,af,gd⟩ ρ H L=bsK (kH A d) (dk0 P (ρ f) (l.map ρ) H L) (dk0 P (ρ f) (l.map fun y=>(ρ y).strip) H L):=aw0 rfl
theorem sK_buildSlice{t:TypeId}{n x:Nat}{parts:List (Nat × Operand)}:bW P A ⟨some x,.buildSlice t n parts.toArray,ty,ps,af,gd⟩ ρ H L=
 bsK (j3 A (some x)) (rowK P t n (parts.map fun p=>(p.1,(ρ p.2).strip)) H L) (bsK (A.contains x) (baseK P t n (parts.map fun p=>(p.1,(ρ p.2).strip)) H L) (bq0 P t n (parts.map fun p=>(p.1,(ρ p.2).strip)) fun v=>L v H)):=aw0 rfl
theorem sK_move{x:Operand}:bW P A ⟨d,.move x,ty,ps,af,gd⟩ ρ H L=L (ρ x) H:=aw0 rfl
theorem sK_assign{x:Operand}:bW P A ⟨d,.assign x,ty,ps,af,gd⟩ ρ H L=L (ρ x) H:=aw0 rfl
theorem sK_pick{a b e:Operand}:bW P A ⟨d,.pick a b e,ty,ps,af,gd⟩ ρ H L=pickK (ρ a) (L (ρ b) H) (L (ρ e) H):=aw0 rfl
theorem sK_binOp{op:BinOp}{t t':TypeId}{x y:Operand}:bW P A ⟨d,.binOp op t x y t',ty,ps,af,gd⟩ ρ H L=bY P op t (ρ x) (ρ y) (fun v=>L v H):=aw0 rfl
theorem sK_unOp{op:UnOp}{t:TypeId}{x:Operand}:bW P A ⟨d,.unOp op t x,ty,ps,af,gd⟩ ρ H L=unK op (ρ x) (fun v=>L v H):=aw0 rfl
theorem sK_convert{s t:TypeId}{x:Operand}:bW P A ⟨d,.convert s t x,ty,ps,af,gd⟩ ρ H L=bsK (convAt A d) (convTK P s t (ρ x) H L) (convE P s t (ρ x) H L):=aw0 rfl
theorem sK_extract{x:Operand}{i:Nat}:bW P A ⟨d,.extract x i,ty,ps,af,gd⟩ ρ H L=extrK (ρ x) i (fun v=>L v H):=aw0 rfl
theorem sK_index{t:TypeId}{x y:Operand}:bW P A ⟨d,.index t x y,ty,ps,af,gd⟩ ρ H L=indexK P t (ρ x) (ρ y) (fun v=>L v H):=aw0 rfl
theorem sK_indexAddr{t:TypeId}{x y:Operand}:bW P A ⟨d,.indexAddr t x y,ty,ps,af,gd⟩ ρ H L=cI P t (ρ x) (ρ y) (fun v=>L v H):=aw0 rfl
theorem sK_arr{t:TypeId}{x:Operand}:bW P A ⟨d,.sliceToArrayPointer t x,ty,ps,af,gd⟩ ρ H L=arrK P t (ρ x) (fun v=>L v H):=aw0 rfl
theorem sK_fieldAddr{t:TypeId}{x:Operand}{i:Nat}:bW P A ⟨d,.fieldAddr t x i,ty,ps,af,gd⟩ ρ H L=cK P t (ρ x) i (fun v=>L v H):=aw0 rfl
theorem sK_slice{t:TypeId}{x:Operand}{lo hi:Option Operand}:bW P A ⟨d,.slice t x lo hi none,ty,ps,af,gd⟩ ρ H L=bsK (slideAt A d) (slideK P t (ρ x) (lo.map ρ) (hi.map ρ) H L) (bsK (kO A d) (dz P t (ρ x) (lo.map ρ) (hi.map ρ) H L) (kU P t (ρ x) (lo.map ρ) (hi.map ρ) none (fun v=>L v H))):=aw0 rfl
theorem sL_load{t:TypeId}{x:Operand}{L:AV→Prop}:stepL P ⟨d,.load t x,ty,ps,af,gd⟩ ρ H L=ir P t (ρ x) H L:=aw0 rfl
theorem sG_load{t:TypeId}{x:Operand}:je P A ⟨d,.load t x,ty,ps,af,gd⟩ ρ H L=ir P t (ρ x) H (fun v=>L v H):=aw0 rfl
theorem sG_alloc{t:TypeId}:je P A ⟨d,.alloc t,ty,ps,af,gd⟩ ρ H L=Req (ax P t=true) (∀k,k≠0→H k=none→L (.ptr k 0) (H.set k (.cells (ap P t) t (ap P t).length))):=aw0 rfl
theorem sK_build{t:TypeId}{parts:List (Nat × Operand)}:bW P A ⟨d,.build t parts.toArray,ty,ps,af,gd⟩ ρ H L=eo0 P t (parts.map fun p=>(p.1,ρ p.2)) (fun v=>L v H):=aw0 rfl
theorem sK_makeFunc{f:Fn}{l l':List Operand}:bW P A ⟨d,.makeFunc f l.toArray l'.toArray,ty,ps,af,gd⟩ ρ H L=L (.fn f (l.map fun y=>(ρ y).strip) (l'.map fun y=>(ρ y).strip)) H:=aw0 rfl
theorem sK_len{l:List Operand}{ts:List TypeId}:bW P A ⟨d,.call ⟨.builtin .len,l.toArray,ts.toArray⟩,ty,ps,af,gd⟩ ρ H L=len2E P (l.map ρ) ts H (fun v=>L v H):=aw0 rfl
theorem sQ_len{l:List Operand}{ts:List TypeId}:stepQ P ⟨d,.call ⟨.builtin .len,l.toArray,ts.toArray⟩,ty,ps,af,gd⟩ ρ H K=len2E P (l.map ρ) ts H K:=aw0 rfl
theorem sK_lookup{t:TypeId}{x y:Operand}{ok:Bool}:bW P A ⟨d,.lookup t x y ok,ty,ps,af,gd⟩ ρ H L=lookE P t (ρ x) (ρ y) ok H (fun v=>L v H):=aw0 rfl
theorem sK_upd{t:TypeId}{m x y:Operand}:bW P A ⟨d,.mapUpdate t m x y,ty,ps,af,gd⟩ ρ H L=updK P t (ρ m) (ρ x) (ρ y) H L:=aw0 rfl
theorem sP_nil{x:Operand}:bm0 P ⟨d,.nilCheck x,ty,ps,af,gd⟩ ρ K=optK' (aU P (ρ x)) K:=aw0 (by show nilK _ _ _=_;unfold nilK optK';cases aU P (ρ x)<;>rfl)
theorem sK_nil{x:Operand}:bW P A ⟨d,.nilCheck x,ty,ps,af,gd⟩ ρ H L=optK' (aU P (ρ x)) (fun v=>L v H):=sP_nil (P:=P) (d:=d) (ty:=ty) (ps:=ps) (af:=af) (gd:=gd)
theorem sK_mkmap{t:TypeId}{r:Option Operand}:bW P A ⟨d,.makeMap t r,ty,ps,af,gd⟩ ρ H L=mapK P r.isSome H L:=aw0 rfl
theorem app2_eq{t t':TypeId}{s x:AV}:eT P [s,x] [t,t'] H L=kP P (P.underlying t') s x t t' H L:=aw0 rfl
theorem app3_slice{t t' e:TypeId}{s x:AV}:kP P (some (.slice e)) s x t t' H L=cx P t t' s x H L:=aw0 rfl
section ints
variable {k:IntKind} {a b:Int} {t:TypeId}
theorem bin_add:bY P .add t (.sc (.int k a)) (.sc (.int k b)) K=K (.sc (.int k (k.wrap (a+b)))):=by simp[bY,binI,Req]
theorem bin_sub:bY P .sub t (.sc (.int k a)) (.sc (.int k b)) K=K (.sc (.int k (k.wrap (a-b)))):=by simp[bY,binI,Req]
theorem bin_mul:bY P .mul t (.sc (.int k a)) (.sc (.int k b)) K=K (.sc (.int k (k.wrap (a*b)))):=by simp[bY,binI,Req]
theorem bin_quo:bY P .quo t (.sc (.int k a)) (.sc (.int k b)) K=Req (b≠0) (K (.sc (.int k (k.wrap (a.tdiv b))))):=by simp[bY,binI,Req]
theorem bin_rem:bY P .rem t (.sc (.int k a)) (.sc (.int k b)) K=Req (b≠0) (K (.sc (.int k (a.tmod b)))):=by simp[bY,binI,Req]
theorem bin_and:bY P .and t (.sc (.int k a)) (.sc (.int k b)) K=K (.sc (.int k (bits .and k a b))):=by simp[bY,binI,Req]
theorem bin_or:bY P .or t (.sc (.int k a)) (.sc (.int k b)) K=K (.sc (.int k (bits .or k a b))):=by simp[bY,binI,Req]
theorem bin_xor:bY P .xor t (.sc (.int k a)) (.sc (.int k b)) K=K (.sc (.int k (bits .xor k a b))):=by simp[bY,binI,Req]
theorem bin_eql:bY P .eql t (.sc (.int k a)) (.sc (.int k b)) K=K (.sc (.bool (a == b))):=by simp[bY,binI,Req]
theorem bin_neq:bY P .neq t (.sc (.int k a)) (.sc (.int k b)) K=K (.sc (.bool (a != b))):=by simp[bY,binI,Req]
theorem bin_lss:bY P .lss t (.sc (.int k a)) (.sc (.int k b)) K=K (.sc (.bool (decide (a<b)))):=by simp[bY,binI,Req]
theorem bin_leq:bY P .leq t (.sc (.int k a)) (.sc (.int k b)) K=K (.sc (.bool (decide (a≤b)))):=by simp[bY,binI,Req]
theorem bin_gtr:bY P .gtr t (.sc (.int k a)) (.sc (.int k b)) K=K (.sc (.bool (decide (b<a)))):=by simp[bY,binI,Req]
theorem bin_geq:bY P .geq t (.sc (.int k a)) (.sc (.int k b)) K=K (.sc (.bool (decide (b≤a)))):=by simp[bY,binI,Req]
theorem bin_shl{k':IntKind}:bY P .shl t (.sc (.int k a)) (.sc (.int k' b)) K=Req (0≤b) (K (.sc (.int k (k.wrap (a*2^min b.toNat k.bits))))):=by simp[bY,shiftI]
theorem bin_shr{k':IntKind}:bY P .shr t (.sc (.int k a)) (.sc (.int k' b)) K=Req (0≤b) (K (.sc (.int k (a.fdiv (2^min b.toNat k.bits))))):=by simp[bY,shiftI]
theorem bin_seql{x y:ByteArray}:bY P .eql t (.sc (.string x)) (.sc (.string y)) K=K (.sc (.bool (x.toList == y.toList))):=by simp[bY,binS]
theorem bin_sneq{x y:ByteArray}:bY P .neq t (.sc (.string x)) (.sc (.string y)) K=K (.sc (.bool (!(x.toList == y.toList)))):=by simp[bY,binS]
end ints
def convU(P:Program)(us ud:Option TypeDesc)(x:AV)(K:AV→Prop):Prop:=match us,ud,x with
 |some _,some (.int k),.sc (.int _ n)=>K (.sc (.int k (k.wrap n)))
 |some .string,some .string,.sc (.string b)=>K (.sc (.string b))
 |some (.int _),some .string,.sc (.int _ n)=>K (.sc (.string ⟨(dQ n).toArray⟩))
 |some (.slice e),some .string,.imm _ cells n=>convB (P.underlying e) cells n K
 |some .string,some (.slice e),.sc (.string b)=>Req (P.underlying e=some (.int .u8)∧b.size≤maxLen) (K (.imm 0 (bw b.data.toList) b.size))
 |_,_,_=>False
theorem conv_eq{s t:TypeId}{x:AV}:convK P s t x K=convU P (P.underlying s) (P.underlying t) x K:=aw0 rfl
@[congr] theorem convU_congr {us us' ud ud':Option TypeDesc} {x x':AV} (h:us=us') (g:ud=ud') (e:x=x'):convU P us ud x K=convU P us' ud' x' K:=by rw[h,g,e]
theorem conv_int{u:TypeDesc}{k k':IntKind}{n:Int}:convU P (some u) (some (.int k)) (.sc (.int k' n)) K=K (.sc (.int k (k.wrap n))):=by cases u<;>exact aw0 rfl
theorem conv_bs{e:TypeId}{k n:Nat}{cells:List AV}:convU P (some (.slice e)) (some .string) (.imm k cells n) K=convB (P.underlying e) cells n K:=aw0 rfl
@[congr] theorem convB_congr {u u':Option TypeDesc} {cells:List AV} {n:Nat} (h:u=u'):convB u cells n K=convB u' cells n K:=by rw[h]
theorem convB_u8{n:Nat}{cells:List AV}:convB (some (.int .u8)) cells n K=Req (cells.all isU8=true∧cells.length=n) (K (.sc (.string (dX cells)))):=aw0 rfl
theorem optK'_eq{o:Option AV}{K:AV→Prop}:optK' o K=bJ o K:=aw0 (by cases o<;>rfl)
def extrA(x:AV)(i:Nat):Option AV:=match x with
 |.tup vs=>vs[i]?
 |_=>none
theorem extrK_u(x:AV)(i:Nat)(K:AV→Prop):extrK x i K=bJ (extrA x i) K:=aw0 (by
 unfold extrK extrA
 cases x<;>first|rfl|(rename_i vs;simp only[];cases vs[i]?<;>rfl))
def aG(u:Option TypeDesc)(f:Nat):Option Field:=match u with
 |some (.struct fields)=>fields[f]?
 |_=>none
def ixA(P:Program)(u:Option TypeDesc)(x i:AV):Option (Prop × Prop × AV):=match u,x,i with
 |some (.slice e),.imm _ cells n,.sc (.int _ i)=>some (0≤i∧i<n∧i.toNat*ai0 P e<cells.length,ax P e=true,.ip cells (i.toNat*ai0 P e))
 |some (.slice e),.own h off n,.sc (.int _ i)=>some (0≤i∧i<n,ax P e=true,.ptr h (off+i.toNat*ai0 P e))
 |some (.array n e),.ip cells off,.sc (.int _ i)=>some (0≤i∧i<n,ax P e=true,.ip cells (off+i.toNat*ai0 P e))
 |some (.array n e),.ptr h off,.sc (.int _ i)=>some (0≤i∧i<n,ax P e=true,.ptr h (off+i.toNat*ai0 P e))
 |_,_,_=>none
theorem indexAddrK_u(P:Program)(t:TypeId)(x i:AV)(K:AV→Prop):cI P t x i K=bJ (ixA P (P.underlying t) x i) fun q=>Req q.1 (Req q.2.1 (K q.2.2)):=aw0 (by
 unfold cI ixA
 generalize P.underlying t=u
 split<;>simp[bJ])
def arA(u:Option TypeDesc)(x:AV):Option (Prop × AV):=match u,x with
 |some (.array m _),.imm _ cells n=>some (m≤n∧cells.isEmpty=false,.ip cells 0)
 |_,_=>none
theorem arrK_u(P:Program)(t:TypeId)(x:AV)(K:AV→Prop):arrK P t x K=bJ (arA (P.underlying t) x) fun q=>Req q.1 (K q.2):=aw0 (by
 unfold arrK arA
 generalize P.underlying t=u
 split<;>simp[bJ])
def fpA(x:AV)(o:Nat):Option AV:=match x with
 |.ip cells off=>some (.ip cells (off+o))
 |.ptr h off=>some (.ptr h (off+o))
 |_=>none
theorem fieldAddrK_u(P:Program)(t:TypeId)(x:AV)(f:Nat)(K:AV→Prop):cK P t x f K=bJ (aG (P.underlying t) f) fun fd=>Req (ax P fd.type=true∧ai0 P fd.type≠0) (bJ (fpA x fd.offset) K):=aw0 (by
 unfold cK aG
 cases hu:P.underlying t with
 |none=>rfl
 |some u=>
  cases u<;>try rfl
  simp only[]
  split<;>rename_i hf<;>simp only[hf,bJ]
  cases x<;>rfl)
def liveO(o:Option AObj):Option (List AV × TypeId × Nat):=match o with
 |some (.cells cs e s)=>some (cs,e,s)
 |_=>none
theorem loadK_ip{t:TypeId}{cells:List AV}{off:Nat}:loadK P t (.ip cells off) K=bJ (aJ P t cells off) K:=aw0 (by
 unfold loadK;simp only[];generalize aJ P t cells off=o;cases o<;>rfl)
theorem loadE_ip{t:TypeId}{cells:List AV}{off:Nat}:ir P t (.ip cells off) H K=bJ (aJ P t cells off) K:=loadK_ip
theorem loadE_ptr{t:TypeId}{h off:Nat}:ir P t (.ptr h off) H K=bJ (liveO (H h)) fun q=>bJ (aJ P t q.1 off) K:=aw0 (by
 unfold ir
 simp only[]
 cases H h with
 |none=>rfl
 |some o=>cases o<;>first|rfl|(rename_i cs e s;simp only[liveO,bJ];generalize aJ P t cs off=o;cases o<;>rfl))
theorem storeK_ptr{t:TypeId}{h off:Nat}{x:AV}:storeK P t (.ptr h off) x H L=bJ (liveO (H h)) fun q=>Req (ax P t=true∧x.cellsOf.length=ai0 P t∧off+ai0 P t≤q.1.length∧x.fine=true) (L (.tup []) (H.set h (.cells (bG q.1 off x.cellsOf) q.2.1 q.2.2))):=aw0 (by
 unfold storeK
 simp only[]
 cases H h with
 |none=>rfl
 |some o=>cases o<;>rfl)
def aX(P:Program)(u:Option TypeDesc)(x:AV)(lo hi mx:Option AV):Option (Prop × Prop × AV):=match u,x,mx with
 |some (.slice e),.imm _ cells n,none=>(match bnd lo 0,bnd hi n with
  |some l,some h=>some (0≤l∧l≤h∧h≤n,ax P e=true∧cells.length=n*ai0 P e,.imm 0 ((cells.drop (l.toNat*ai0 P e)).take ((h.toNat-l.toNat)*ai0 P e)) (h.toNat-l.toNat))
  |_,_=>none)
 |some .string,.sc (.string s),none=>(match bnd lo 0,bnd hi s.size with
  |some l,some h=>some (0≤l∧l≤h∧h≤s.size,True,.sc (.string (s.extract l.toNat h.toNat)))
  |_,_=>none)
 |some (.slice e),.own k off n,none=>(match bnd lo 0,bnd hi n with
  |some l,some h=>some (0≤l∧l≤h∧h≤n,ax P e=true∧0<ai0 P e,bif decide (l=0) then .own k off h.toNat else bif decide (l<h) then .own k (off+l.toNat*ai0 P e) (h.toNat-l.toNat) else .any)
  |_,_=>none)
 |some (.slice e),.imm _ cells n,some m=>(match bnd lo 0,bnd hi n,bnd (some m) n with
  |some l,some h,some m=>some (0≤l∧l≤h∧h≤m∧m≤n,ax P e=true∧cells.length=n*ai0 P e∧hi.isSome=true,.imm 0 ((cells.drop (l.toNat*ai0 P e)).take ((h.toNat-l.toNat)*ai0 P e)) (h.toNat-l.toNat))
  |_,_,_=>none)
 |some (.array n e),.ip cells off,none=>(match bnd lo 0,bnd hi n with
  |some l,some h=>some (0≤l∧l≤h∧h≤n∧n≤maxLen,ax P e=true∧off+n*ai0 P e≤cells.length,.imm 0 ((cells.drop (off+l.toNat*ai0 P e)).take ((h.toNat-l.toNat)*ai0 P e)) (h.toNat-l.toNat))
  |_,_=>none)
 |_,_,_=>none
theorem sliceK0_u(P:Program)(t:TypeId)(x:AV)(lo hi mx:Option AV)(K:AV→Prop):sliceK0 P t x lo hi mx K=bJ (aX P (P.underlying t) x lo hi mx) fun q=>Req q.1 (Req q.2.1 (K q.2.2)):=aw0 (by
 unfold sliceK0 aX
 generalize P.underlying t=u
 split
 ·rename_i e k cells n
  simp only[]
  generalize bnd lo 0=b1
  generalize bnd hi n=b2
  cases b1<;>cases b2<;>rfl
 ·rename_i s
  simp only[]
  generalize bnd lo 0=b1
  generalize bnd hi s.size=b2
  cases b1<;>cases b2<;>simp[bJ,Req]
 ·rename_i e k off n
  simp only[]
  generalize bnd lo 0=b1
  generalize bnd hi n=b2
  cases b1<;>cases b2<;>rfl
 ·rename_i e k cells n m
  simp only[]
  generalize bnd lo 0=b1
  generalize bnd hi n=b2
  generalize bnd (some m) n=b3
  cases b1<;>cases b2<;>cases b3<;>rfl
 ·rename_i n e cells off
  simp only[]
  generalize bnd lo 0=b1
  generalize bnd hi n=b2
  cases b1<;>cases b2<;>rfl
 ·simp[bJ])
theorem sliceK_u(P:Program)(t:TypeId)(x:AV)(lo hi mx:Option AV)(K:AV→Prop):kU P t x lo hi mx K=bJ (aX P (P.underlying t) (nilR x) lo hi mx) fun q=>Req q.1 (Req q.2.1 (K q.2.2)):=sliceK0_u P t (nilR x) lo hi mx K
theorem nilR_nil:nilR (.sc (.slice none 0 0))=.imm 0 [] 0:=aw0 rfl
theorem nilR_imm(k:Nat)(cs:List AV)(n:Nat):nilR (.imm k cs n)=.imm k cs n:=aw0 rfl
def aV(u:Option TypeDesc)(x:AV):Option AV:=match u,x with
 |some (.slice _),.imm _ _ n=>some (.sc (.int .i64 n))
 |some (.slice _),.own _ _ n=>some (.sc (.int .i64 n))
 |some (.slice _),.sc (.slice none 0 0)=>some (.sc (.int .i64 0))
 |some .string,.sc (.string s)=>some (.sc (.int .i64 s.size))
 |some (.array n _),_=>some (.sc (.int .i64 n))
 |_,_=>none
theorem lenK_u(P:Program)(t:TypeId)(x:AV)(K:AV→Prop):lenK P t x K=bJ (aV (P.underlying t) x) K:=aw0 (by
 unfold lenK aV
 generalize P.underlying t=u
 split<;>simp[bJ])
def ag0(P:Program)(u:Option TypeDesc)(t:TypeId)(parts:List (Nat × AV)):Option (Prop × Option (List AV)):=match u with
 |some (.struct fields)=>some (ax P t=true∧fields.all (fun f=>ax P f.type)=true,cu (fun i=>(fields[i]?).map fun f=>(f.offset,ai0 P f.type)) (ap P t) parts)
 |some (.array _ e)=>some (ax P t=true∧ax P e=true,cu (fun i=>some (i*ai0 P e,ai0 P e)) (ap P t) parts)
 |_=>none
theorem buildK_u(P:Program)(t:TypeId)(parts:List (Nat × AV))(K:AV→Prop):eo0 P t parts K=bJ (ag0 P (P.underlying t) t parts) fun q=>Req q.1 (bJ q.2 fun cs=>K (.agg cs)):=aw0 (by
 unfold eo0 ag0
 generalize P.underlying t=u
 split<;>simp only[bJ]<;>congr 1<;>(generalize cu _ _ _=o;cases o<;>rfl))
def aT(P:Program)(u:Option TypeDesc)(n:Nat)(parts:List (Nat × AV)):Option (Prop × TypeId × Option (List AV)):=match u with
 |some (.slice e)=>some (ax P e=true∧n*ai0 P e≤16777216∧0<ai0 P e,e,cu (fun i=>some (i*ai0 P e,ai0 P e)) (aQ (aq P e) n) parts)
 |_=>none
theorem buildSliceK_u(P:Program)(t:TypeId)(n:Nat)(parts:List (Nat × AV))(K:AV→Prop):bq0 P t n parts K=bJ (aT P (P.underlying t) n parts) fun q=>Req q.1 (bJ q.2.2 fun cs=>K (.imm 0 cs n)):=aw0 (by
 unfold bq0 aT
 generalize P.underlying t=u
 split<;>simp only[bJ]<;>congr 1<;>(generalize cu _ _ _=o;cases o<;>rfl))
theorem baseK_u(P:Program)(t:TypeId)(n:Nat)(parts:List (Nat × AV))(H:AH)(K:AV→AH→Prop):baseK P t n parts H K=bJ (aT P (P.underlying t) n parts) fun q=>Req q.1 (bJ q.2.2 fun cs=>∀k,k≠0→H k=none→K (.imm k cs n) (H.set k (.tail cs.length q.2.1 (ai0 P q.2.1)))):=aw0 (by
 unfold baseK aT
 generalize P.underlying t=u
 split<;>simp only[bJ]<;>congr 1<;>(generalize cu _ _ _=o;cases o<;>rfl))
def killO(H:AH)(k:Option Nat):AH:=match k with|some k=>H.kill k|none=>H
theorem killO_some{H:AH}{k:Nat}:killO H (some k)=H.kill k:=aw0 rfl
def ae(P:Program)(H:AH)(u:Option TypeDesc)(src:Option (List AV × Nat))(s:AV):Option (Prop × Prop × Prop × TypeId × Option Nat × List AV × Nat):=match u,src,s with
 |some (.slice e),some (news,m),.imm k cells n=>(match H k with
  |some o=>some (cy0 e (ai0 P e) o cells.length,k≠0∧cells.length=n*ai0 P e∧news.length=m*ai0 P e∧0<ai0 P e∧ax P e=true,n+m≤maxLen∧(n+m)*ay P e≤140737488355328,e,some k,cells++news,n+m)
  |none=>none)
 |some (.slice e),some (news,m),.sc (.slice none 0 0)=>some (True,news.length=m*ai0 P e∧0<ai0 P e∧ax P e=true,m≤maxLen∧m*ay P e≤140737488355328,e,none,news,m)
 |_,_,_=>none
theorem appendK_u(P:Program)(t t':TypeId)(s x:AV)(H:AH)(K:AV→AH→Prop):cx P t t' s x H K=bJ (ae P H (P.underlying t) (aS P H t' x) s) fun q=>Req q.1 (Req q.2.1 (Req q.2.2.1
    (∀k' o',k'≠0→H k'=none→cy0 q.2.2.2.1 (ai0 P q.2.2.2.1) o' q.2.2.2.2.2.1.length→K (.imm k' q.2.2.2.2.2.1 q.2.2.2.2.2.2) ((killO H q.2.2.2.2.1).set k' o')))):=aw0 (by
 unfold cx ae
 generalize P.underlying t=u
 generalize aS P H t' x=sr
 split
 ·rename_i e news m
  split
  ·rename_i k cells n
   generalize hk:H k=o
   cases o<;>simp only[hk,bJ,killO]
  ·simp[bJ,killO,Req]
  ·rename_i h1 h2
   split
   ·rename_i e' n' m' k' c' l' _ hx _;exact absurd rfl (h1 _ _ _)
   ·exact absurd rfl h2
   ·rfl
 ·rename_i hn
  split
  ·exact absurd rfl (hn _ _ _ rfl)
  ·exact absurd rfl (hn _ _ _ rfl)
  ·rfl)
def mkA(u:Option TypeDesc)(l c:AV):Option (TypeId × Int × Int):=match u,l,c with
 |some (.slice e),.sc (.int _ l),.sc (.int _ c)=>some (e,l,c)
 |_,_,_=>none
theorem makeK_u(P:Program)(t:TypeId)(same:Bool)(l c:AV)(H:AH)(K:AV→AH→Prop):makeK P t same l c H K=bJ (mkA (P.underlying t) l c) fun q=>Req (ax P q.1=true) (Req (0≤q.2.2∧ay P q.1*q.2.2≤281474976710656∧q.2.2≤maxLen)
      (bsK same (Req (q.2.1=q.2.2) (∀k,k≠0→H k=none→K (.own k 0 q.2.2.toNat) (H.set k (.cells (aQ (aq P q.1) q.2.2.toNat) q.1 (ai0 P q.1)))))
       (Req (q.2.1=0) (∀k,k≠0→H k=none→K (.imm k [] 0) (H.set k (.tail 0 q.1 (ai0 P q.1))))))):=aw0 (by
 unfold makeK mkA
 generalize P.underlying t=u
 split
 ·simp only[bJ];cases same<;>rfl
 ·simp[bJ])
theorem makeP_u(P:Program)(t:TypeId)(l c:AV)(K:AV→Prop):makeP P t l c K=bJ (mkA (P.underlying t) l c) fun q=>Req (ax P q.1=true) (Req (0≤q.2.2∧ay P q.1*q.2.2≤281474976710656∧q.2.2≤maxLen) (Req (q.2.1=q.2.2) (K (.imm 0 (aQ (aq P q.1) q.2.2.toNat) q.2.2.toNat)))):=aw0 (by
 unfold makeP mkA
 generalize P.underlying t=u
 split
 ·rfl
 ·simp[bJ])
theorem callK_fn(P:Program)(f:FuncId)(fi ca args:List AV)(H:AH)(K:AV→AH→Prop):dk0 P (.fn (.func f) fi ca) args H K=ACalls P f (fi++args++ca) H K:=aw0 rfl
theorem callK_of(P:Program)(fx:AV)(args:List AV)(H:AH)(K:AV→AH→Prop)(h:ACallV P fx args H K):dk0 P fx args H K:=by
 unfold dk0
 cases fx with
 |fn f a b=>cases f<;>first|exact ACallV.calls h|exact h
 |_=>exact h
theorem callPK_u(P:Program)(fx:AV)(args:List AV)(K:AV→Prop):callPK P fx args K=bJ (aK fx) fun q=>∃v,APure P q.1 (q.2.1++args++q.2.2) v∧K v:=aw0 (by
 unfold callPK;cases aK fx<;>rfl)
theorem cwp_scope{a:Code}:cwp c (.scope a) Q σ H=ScopeG c a Q σ H:=aw0 rfl
theorem AJump_ret{l:Nat}{J:Sg→AH→Prop}:AJump l J Q .ret σ H=Q .ret σ H:=aw0 rfl
def unA(op:UnOp)(x:AV):Option AV:=match op,x with
 |.not,.sc (.bool b)=>some (.sc (.bool (!b)))
 |.neg,.sc (.int k n)=>some (.sc (.int k (k.wrap (0-n))))
 |.xor,.sc (.int k n)=>some (.sc (.int k (notI k n)))
 |_,_=>none
theorem unK_u(op:UnOp)(x:AV)(K:AV→Prop):unK op x K=bJ (unA op x) K:=aw0 (by unfold unK unA;split<;>simp[bJ])
def ab0(P:Program)(u:Option TypeDesc)(x i:AV):Option (Prop × AV):=match u,x,i with
 |some .string,.sc (.string s),.sc (.int _ i)=>some (0≤i∧i<s.size,.sc (.int .u8 (s.data.toList.getD i.toNat 0).toNat))
 |some (.array n e),.agg cells,.sc (.int _ i)=>if indexK.aggS P e=true then some (0≤i∧i<n∧ax P e=true∧i.toNat*ai0 P e+ai0 P e≤cells.length,.agg ((cells.drop (i.toNat*ai0 P e)).take (ai0 P e)))
  else some (0≤i∧i<n∧ax P e=true∧indexK.aggOf P e=false∧i.toNat*ai0 P e<cells.length,cells.getD (i.toNat*ai0 P e) .any)
 |_,_,_=>none
theorem index_u(P:Program)(t:TypeId)(x i:AV)(K:AV→Prop):indexK P t x i K=bJ (ab0 P (P.underlying t) x i) fun q=>Req q.1 (K q.2):=aw0 (by
 unfold indexK ab0
 generalize P.underlying t=u
 split
 ·simp[bJ]
 ·show(if _ then _ else _)=bJ (if _ then _ else _) _
  split<;>rfl
 ·simp[bJ])
end Go.Abs
end
section
namespace Go.Abs
open Go Go.RowKit
section congr
variable {P:Program} {K:AV→Prop} {L:AV→AH→Prop} {X Y Z:Prop} {a a' b b' c c':AV} {H H':AH} {l l':List AV} {q q':List (Nat × AV)}
@[congr] theorem binK_congr {op:BinOp} {t:TypeId} (h:a=a') (g:b=b'):bY P op t a b K=bY P op t a' b' K:=by rw[h,g]
@[congr] theorem unK_congr {op:UnOp} (h:a=a'):unK op a K=unK op a' K:=by rw[h]
@[congr] theorem convK_congr {s d:TypeId} (h:a=a'):convK P s d a K=convK P s d a' K:=by rw[h]
@[congr] theorem extrK_congr {i:Nat} (h:a=a'):extrK a i K=extrK a' i K:=by rw[h]
@[congr] theorem fieldK_congr {t:TypeId} {f:Nat} (h:a=a'):em P t a f K=em P t a' f K:=by rw[h]
@[congr] theorem indexK_congr {t:TypeId} (h:a=a') (g:b=b'):indexK P t a b K=indexK P t a' b' K:=by rw[h,g]
@[congr] theorem indexAddrK_congr {t:TypeId} (h:a=a') (g:b=b'):cI P t a b K=cI P t a' b' K:=by rw[h,g]
@[congr] theorem arrK_congr {t:TypeId} (h:a=a'):arrK P t a K=arrK P t a' K:=by rw[h]
@[congr] theorem fieldAddrK_congr {t:TypeId} {f:Nat} (h:a=a'):cK P t a f K=cK P t a' f K:=by rw[h]
@[congr] theorem loadK_congr {t:TypeId} (h:a=a'):loadK P t a K=loadK P t a' K:=by rw[h]
@[congr] theorem loadE_congr {t:TypeId} (h:a=a'):ir P t a H K=ir P t a' H K:=by rw[h]
@[congr] theorem storeK_congr {t:TypeId} (h:a=a') (g:b=b'):storeK P t a b H L=storeK P t a' b' H L:=by rw[h,g]
@[congr] theorem sliceK_congr {t:TypeId} {lo lo' hi hi' mx mx':Option AV} (h:a=a') (g1:lo=lo') (g2:hi=hi') (g3:mx=mx'):kU P t a lo hi mx K=kU P t a' lo' hi' mx' K:=by rw[h,g1,g2,g3]
@[congr] theorem lenK_congr {t:TypeId} (h:a=a'):lenK P t a K=lenK P t a' K:=by rw[h]
@[congr] theorem len1K_congr {ts ts':List TypeId} (h:l=l') (g:ts=ts'):len1K P l ts K=len1K P l' ts' K:=by rw[h,g]
@[congr] theorem buildK_congr {t:TypeId} (h:q=q'):eo0 P t q K=eo0 P t q' K:=by rw[h]
@[congr] theorem buildSliceK_congr {t:TypeId} {n:Nat} (h:q=q'):bq0 P t n q K=bq0 P t n q' K:=by rw[h]
@[congr] theorem baseK_congr {t:TypeId} {n:Nat} (h:q=q'):baseK P t n q H L=baseK P t n q' H L:=by rw[h]
@[congr] theorem RunD_congr {c:Cfg} {ops:Array Oper} {l l':List Oper} {ks ks':List Nat} {K:Sg→AH→Prop} {σ:Sg} (h:l=l') (g:ks=ks'):RunD c ops l ks K σ H=RunD c ops l' ks' K σ H:=by rw[h,g]
@[congr] theorem DrawK_congr {c:Cfg} {t t':STree} {id:Nat} {l:List Oper} {K:Sg→AH→Prop} {σ:Sg} (h:t=t'):DrawK c t id l K σ H=DrawK c t' id l K σ H:=by rw[h]
@[congr] theorem app3K_congr {u u':Option TypeDesc} {s x:AV} {t t':TypeId} (h:u=u'):kP P u s x t t' H L=kP P u' s x t t' H L:=by rw[h]
@[congr] theorem own3K_congr {u u':Option TypeDesc} {s x:AV} {t t':TypeId} (h:u=u'):own3K P u s x t t' H L=own3K P u' s x t t' H L:=by rw[h]
@[congr] theorem append2K_congr {ts ts':List TypeId} (h:l=l') (g:ts=ts'):eT P l ts H L=eT P l' ts' H L:=by rw[h,g]
@[congr] theorem appendK_congr {t t':TypeId} (h:a=a') (g:b=b'):cx P t t' a b H L=cx P t t' a' b' H L:=by rw[h,g]
@[congr] theorem makeK_congr {t:TypeId} {s s':Bool} (e:s=s') (h:a=a') (g:b=b'):makeK P t s a b H L=makeK P t s' a' b' H L:=by rw[e,h,g]
@[congr] theorem callK_congr (h:a=a') (g:l=l'):dk0 P a l H L=dk0 P a' l' H L:=by rw[h,g]
@[congr] theorem callPK_congr (h:a=a') (g:l=l'):callPK P a l K=callPK P a' l' K:=by rw[h,g]
@[congr] theorem pickK_congr (h:a=a'):pickK a X Y=pickK a' X Y:=by rw[h]
@[congr] theorem kindK_congr {k k':Nat} (h:k=k'):kindK k X Y Z=kindK k' X Y Z:=by rw[h]
@[congr] theorem condK_congr (h:a=a'):condK a X Y=condK a' X Y:=by rw[h]
@[congr] theorem bsK_congr {x y:Bool} (h:x=y):bsK x X Y=bsK y X Y:=by rw[h]
@[congr] theorem ACalls_congr {f:FuncId} (h:l=l') (g:H=H'):ACalls P f l H L=ACalls P f l' H' L:=by rw[h,g]
theorem APure.call{f:FuncId}{v:AV}(h:APure P f l v)(k:L v H):ACalls P f l H L:=(h H).mono fun v' H' ⟨e1,e2⟩=>by subst e1 e2;exact k
theorem condK_true:condK (.sc (.bool true)) X Y=X:=by simp[condK]
theorem condK_false:condK (.sc (.bool false)) X Y=Y:=by simp[condK]
theorem bsK_true:bsK true X Y=X:=aw0 rfl
theorem bsK_false:bsK false X Y=Y:=aw0 rfl
end congr
abbrev eu(l:List UInt8):AV:=.imm 0 (bw l) l.length
theorem put_some(σ:Sg)(d:Tmp)(v:AV)(t:Nat):(σ.put (some d) v) t=bif t == d then v else σ t:=by
 show(if t=d then v else σ t)=_
 by_cases h:t=d
 ·simp[h]
 ·have h2:(t == d)=false:=by simpa using h
  rw[if_neg h,h2];rfl
theorem put_none(σ:Sg)(v:AV):σ.put none v=σ:=aw0 rfl
theorem ev_tmp(σ:Sg)(t:Tmp):σ.ev (.tmp t)=σ t:=aw0 rfl
theorem ev_const(σ:Sg)(v:Value):σ.ev (.const v)=cst v:=aw0 rfl
theorem ev_global(σ:Sg)(g:Nat):σ.ev (.global g)=globV g:=aw0 rfl
theorem ev_func(σ:Sg)(f:FuncId):σ.ev (.func f)=.fn (.func f) [] []:=aw0 rfl
theorem cst_int(k:IntKind)(n:Int):cst (.int k n)=.sc (.int k n):=aw0 rfl
theorem cst_bool(b:Bool):cst (.bool b)=.sc (.bool b):=aw0 rfl
theorem cst_string(s:ByteArray):cst (.string s)=.sc (.string s):=aw0 rfl
theorem cst_slice(a:Option Addr)(n c:Nat):cst (.slice a n c)=.sc (.slice a n c):=aw0 rfl
theorem guard_none(ops:Array Oper)(σ:Sg)(d:Option Tmp)(op:Op)(ty:TypeId)(ps:String)(af:Array Edge)(X Y:Prop):cS0 ops σ ⟨d,op,ty,ps,af,none⟩ X Y=X:=by
 simp[cS0,eJ]
def dstAt:List Oper→Nat→Option Tmp
 |[],_=>none
 |o::_,0=>o.dst
 |_::l,n+1=>dstAt l n
theorem dstAt_eq(l:List Oper)(n:Nat):(l[n]?).bind (·.dst)=dstAt l n:=by
 induction l generalizing n with
 |nil=>rfl
 |cons o l ih=>cases n<;>simp[dstAt,ih]
def cg(d:Option AV)(want:Bool)(X Y:Prop):Prop:=match d with
 |some (.sc (.bool b))=>((b == want)=true→X)∧((b == want)=false→Y)
 |some (.tup [])=>Y
 |_=>False
theorem guard_some(l:List Oper)(σ:Sg)(d:Option Tmp)(op:Op)(ty:TypeId)(ps:String)(af:Array Edge)(j:Nat)(want:Bool)(X Y:Prop):
    cS0 l.toArray σ ⟨d,op,ty,ps,af,some (j,want)⟩ X Y=cg ((dstAt l j).map σ) want X Y:=by
 simp only[cS0,eJ,List.getElem?_toArray,dstAt_eq,cg]
 cases dstAt l j with
 |none=>rfl
 |some t=>
  simp only[Option.map_some]
  split
  ·rename_i b hb
   split at hb
   ·rename_i hs;simp only[Option.some.injEq]at hb;subst hb;rw[hs]
   ·rename_i hs;simp only[Option.some.injEq]at hb;subst hb;rw[hs];simp
   ·cases hb
  ·rename_i hb
   split at hb
   ·cases hb
   ·cases hb
   ·rename_i n1 n2
    split
    ·rename_i hs;simp only[Option.some.injEq]at hs;exact(n1 _ hs).elim
    ·rename_i hs;simp only[Option.some.injEq]at hs;exact(n2 hs).elim
    ·rfl
theorem guardV_true(X Y:Prop):cg (some (.sc (.bool true))) true X Y=X:=by simp[cg]
theorem guardV_false(X Y:Prop):cg (some (.sc (.bool false))) true X Y=Y:=by simp[cg]
theorem guardV_true'(X Y:Prop):cg (some (.sc (.bool true))) false X Y=Y:=by simp[cg]
theorem guardV_false'(X Y:Prop):cg (some (.sc (.bool false))) false X Y=X:=by simp[cg]
theorem guardV_skip(w:Bool)(X Y:Prop):cg (some (.tup [])) w X Y=Y:=by simp[cg]
@[congr] theorem guardV_congr {d d':Option AV} {w:Bool} {X Y:Prop} (h:d=d'):cg d w X Y=cg d' w X Y:=by rw[h]
theorem strip_sc_int(k:IntKind)(n:Int):AV.strip (.sc (.int k n))=.sc (.int k n):=aw0 rfl
theorem strip_sc_bool(b:Bool):AV.strip (.sc (.bool b))=.sc (.bool b):=aw0 rfl
theorem strip_sc_string(s:ByteArray):AV.strip (.sc (.string s))=.sc (.string s):=aw0 rfl
theorem strip_nil:AV.strip (.sc (.slice none 0 0))=.imm 0 [] 0:=aw0 rfl
theorem strip_imm(k:Nat)(cs:List AV)(n:Nat):AV.strip (.imm k cs n)=.imm 0 cs n:=aw0 rfl
theorem strip_agg(cs:List AV):AV.strip (.agg cs)=.agg (cs.map AV.strip0):=aw0 rfl
theorem strip_ptr(h off:Nat):AV.strip (.ptr h off)=.ptr h off:=aw0 rfl
theorem strip0_sc_int(k:IntKind)(n:Int):AV.strip0 (.sc (.int k n))=.sc (.int k n):=aw0 rfl
theorem strip0_imm(k:Nat)(cs:List AV)(n:Nat):AV.strip0 (.imm k cs n)=.imm 0 cs n:=aw0 rfl
theorem gz(l:List UInt8):(bw l).length=l.length:=by simp[bw]
theorem encB_isU8(l:List UInt8):(bw l).all isU8=true:=by simp[bw,isU8]
theorem strOf_encB(l:List UInt8):dX (bw l)=⟨l.toArray⟩:=by
 unfold dX bw
 congr 2
 rw[List.map_map]
 conv=>rhs;rw[←List.map_id l]
 apply List.map_congr_left
 intro b _
 simp[byteA]
theorem qP(l:List UInt8)(n:Nat):(bw l).drop n=bw (l.drop n):=by simp[bw]
theorem qO(l:List UInt8)(n:Nat):(bw l).take n=bw (l.take n):=by simp[bw]
theorem me(a b:List UInt8):bw a++bw b=bw (a++b):=by simp[bw]
theorem nX{l:List UInt8}{i:Nat}(h:i<l.length):(bw l)[i]? = some (.sc (.int .u8 (l.getD i 0).toNat)):=by
 simp[bw,List.getD,h]
theorem TokO_tail(e:TypeId)(s m:Nat):cy0 e s (.tail m e s) m=True:=by simp[cy0]
theorem TokO_nil(e:TypeId)(s:Nat):cy0 e s .nilt 0=True:=by simp[cy0,AObj.tokC,AObj.tokB]
theorem maxLen_eq:maxLen=9223372036854775807:=aw0 rfl
theorem iw{n:Int}(h : -9223372036854775808≤n∧n<9223372036854775808):IntKind.i64.wrap n=n:=by
 rw[IntKind.wrap_i64];omega
theorem wrapU8{n:Int}(h:0≤n∧n<256):IntKind.u8.wrap n=n:=by
 rw[IntKind.wrap_u8];omega
theorem ofInt8(a:UInt8):BitVec.ofInt 8 (a.toNat:Int)=a.toBitVec:=by
 rw[BitVec.ofInt_natCast]
 apply BitVec.eq_of_toNat_eq
 have:=a.toNat_lt
 simp
theorem n8or(a b:UInt8):bits .or .u8 (a.toNat:Int) (b.toNat:Int)=((a ||| b).toNat:Int):=by
 show IntKind.u8.wrap ((BitVec.ofInt 8 (a.toNat:Int) ||| BitVec.ofInt 8 (b.toNat:Int)).toNat:Int)=_
 rw[ofInt8,ofInt8,IntKind.wrap_u8]
 have h:(a.toBitVec ||| b.toBitVec).toNat=(a ||| b).toNat:=by simp
 have:=(a ||| b).toNat_lt
 rw[h]
 omega
theorem n8and(a b:UInt8):bits .and .u8 (a.toNat:Int) (b.toNat:Int)=((a &&& b).toNat:Int):=by
 show IntKind.u8.wrap ((BitVec.ofInt 8 (a.toNat:Int) &&& BitVec.ofInt 8 (b.toNat:Int)).toNat:Int)=_
 rw[ofInt8,ofInt8,IntKind.wrap_u8]
 have h:(a.toBitVec &&& b.toBitVec).toNat=(a &&& b).toNat:=by simp
 have:=(a &&& b).toNat_lt
 rw[h]
 omega
theorem n8wadd(a b:UInt8):IntKind.u8.wrap ((a.toNat:Int)+(b.toNat:Int))=((a+b).toNat:Int):=by
 rw[IntKind.wrap_u8,UInt8.toNat_add];omega
theorem n8eq(a b:UInt8):((a.toNat:Int) == (b.toNat:Int))=(a == b):=by
 rw[Bool.eq_iff_iff]
 simp only[beq_iff_eq]
 exact⟨fun h=>UInt8.toNat_inj.1 (by omega),fun h=>by rw[h]⟩
theorem bits_u8:IntKind.u8.bits=8:=aw0 rfl
theorem mS:IntKind.u64.bits=64:=aw0 rfl
theorem aP{H:AH}{k k':Nat}{o:AObj}(h:¬k'=k):(H.set k o) k'=H k':=by simp[AH.set,h]
theorem oneCell_int(k:IntKind)(n:Int):(Value.int k n).oneCell'=true:=aw0 rfl
theorem ah(cells:List AV)(off:Nat)(vs:List AV):bG cells off vs=cells.take off++(vs++cells.drop (off+vs.length)):=by simp[bG]
theorem am{H:AH}{k k':Nat}{o:AObj}(h:(H.set k o) k'=none):H k'=none:=by
 simp only[AH.set]at h
 split at h
 ·cases h
 ·exact h
theorem rY(l:List UInt8)(b:UInt8):bw l++[.sc (.int .u8 b.toNat)]=bw (l++[b]):=by simp[bw]
theorem min88:min 8 64=8:=aw0 rfl
theorem set_set{H:AH}{k:Nat}{o o':AObj}:(H.set k o).set k o'=H.set k o':=aw0 (by funext j;simp only[AH.set];split<;>rfl)
theorem bK0{H:AH}{k k':Nat}{o:AObj}(h:(H.set k o) k'=none):¬k=k':=by
 rintro rfl
 simp[AH.set]at h
@[congr] theorem cond_congr {α:Type} {c c':Bool} {a b:α} (h:c=c'):cond c a b=cond c' a b:=by rw[h]
theorem put_same(σ:Sg)(d:Tmp)(v:AV):(σ.put (some d) v) d=v:=by rw[put_some];simp
theorem put_other(σ:Sg)(d:Nat)(v:AV)(t:Nat)(h:¬t=d):(σ.put (some d) v) t=σ t:=by rw[put_some,beq_false_of_ne h];rfl
def guardAt(l:List Oper)(j:Nat)(σ:Sg)(w:Bool)(X Y:Prop):Prop:=cg ((dstAt l j).map σ) w X Y
def ej(a:AV)(w:Bool)(X Y:Prop):Prop:=cg (some a) w X Y
@[congr] theorem guardW_congr {a a':AV} {w:Bool} {X Y:Prop} (h:a=a'):ej a w X Y=ej a' w X Y:=by rw[h]
theorem guard_at(l:List Oper)(σ:Sg)(d:Option Tmp)(op:Op)(ty:TypeId)(ps:String)(af:Array Edge)(j:Nat)(want:Bool)(X Y:Prop):
    cS0 l.toArray σ ⟨d,op,ty,ps,af,some (j,want)⟩ X Y=guardAt l j σ want X Y:=guard_some l σ d op ty ps af j want X Y
theorem guardAt_succ(o:Oper)(l:List Oper)(n:Nat)(σ:Sg)(w:Bool)(X Y:Prop):guardAt (o::l) (n+1) σ w X Y=guardAt l n σ w X Y:=aw0 rfl
theorem extrA_tup(vs:List AV)(i:Nat):extrA (.tup vs) i=vs[i]?:=aw0 rfl
theorem liveO_some(cs:List AV)(e:TypeId)(s:Nat):liveO (some (.cells cs e s))=some (cs,e,s):=aw0 rfl
theorem fpA_ip(cells:List AV)(off o:Nat):fpA (.ip cells off) o=some (.ip cells (off+o)):=aw0 rfl
theorem fpA_ptr(h off o:Nat):fpA (.ptr h off) o=some (.ptr h (off+o)):=aw0 rfl
theorem unA_not(b:Bool):unA .not (.sc (.bool b))=some (.sc (.bool (!b))):=aw0 rfl
theorem unA_neg(k:IntKind)(n:Int):unA .neg (.sc (.int k n))=some (.sc (.int k (k.wrap (0-n)))):=aw0 rfl
theorem unA_xor(k:IntKind)(n:Int):unA .xor (.sc (.int k n))=some (.sc (.int k (notI k n))):=aw0 rfl
end Go.Abs
end
section
namespace Go.Abs
open Go Go.RowKit
variable {P:Program} {c:Cfg} {Q:Exit→Sg→AH→Prop} {σ:Sg} {H:AH} {K:AV→Prop} {L:AV→AH→Prop}
universe u
structure Tie{α:Sort u}(a:α):Type where
def CallP(P:Program)(f:FuncId)(args:List AV)(K:AV→Prop)(_:Tie K):Prop:=∃v,APure P f args v∧K v
def CallK(P:Program)(f:FuncId)(args:List AV)(H:AH)(L:AV→AH→Prop)(_:Tie L):Prop:=ACalls P f args H L
def LoopT(c:Cfg)(a:Code)(Q:Exit→Sg→AH→Prop)(σ:Sg)(H:AH)(_:Tie a)(_:Tie Q):Prop:=LoopG c a Q σ H
theorem callPK_t(P:Program)(fx:AV)(args:List AV)(K:AV→Prop):callPK P fx args K=bJ (aK fx) fun q=>CallP P q.1 (q.2.1++args++q.2.2) K ⟨⟩:=callPK_u P fx args K
def CallX(P:Program)(fx:AV)(args:List AV)(H:AH)(L:AV→AH→Prop)(_:Tie L):Prop:=dk0 P fx args H L
theorem callK_x(P:Program)(fx:AV)(args:List AV)(H:AH)(K:AV→AH→Prop):dk0 P fx args H K=CallX P fx args H K ⟨⟩:=aw0 rfl
theorem CallX_fn(P:Program)(f:FuncId)(fi ca args:List AV)(H:AH)(K:AV→AH→Prop)(t:Tie K):CallX P (.fn (.func f) fi ca) args H K t=CallK P f (fi++args++ca) H K ⟨⟩:=callK_fn P f fi ca args H K
theorem CallX.v{fx:AV}{args:List AV}{R:AV→AH→Prop}{t:Tie L}(h:ACallV P fx args H R)(k:∀v H',R v H'→L v H'):CallX P fx args H L t:=callK_of P fx args H L (h.mono k)
def SliceT(P:Program)(t:TypeId)(x:AV)(lo hi:Option AV)(H:AH)(L:AV→AH→Prop)(_:Tie L):Prop:=dz P t x lo hi H L
def GrowT(P:Program)(xs:List AV)(ts:List TypeId)(H:AH)(L:AV→AH→Prop)(_:Tie L):Prop:=growZK P xs ts H L
theorem sliceNK_t{P:Program}{t:TypeId}{x:AV}{lo hi:Option AV}{H:AH}{L:AV→AH→Prop}:dz P t x lo hi H L=SliceT P t x lo hi H L ⟨⟩:=aw0 rfl
def ConvT(P:Program)(s d:TypeId)(x:AV)(H:AH)(L:AV→AH→Prop)(_:Tie L):Prop:=convTK P s d x H L
theorem convTK_t{P:Program}{s d:TypeId}{x:AV}{H:AH}{L:AV→AH→Prop}:convTK P s d x H L=ConvT P s d x H L ⟨⟩:=aw0 rfl
def SlideT(P:Program)(t:TypeId)(x:AV)(lo hi:Option AV)(H:AH)(L:AV→AH→Prop)(_:Tie L):Prop:=slideK P t x lo hi H L
theorem slideK_t{P:Program}{t:TypeId}{x:AV}{lo hi:Option AV}{H:AH}{L:AV→AH→Prop}:slideK P t x lo hi H L=SlideT P t x lo hi H L ⟨⟩:=aw0 rfl
theorem growZK_t{P:Program}{xs:List AV}{ts:List TypeId}{H:AH}{L:AV→AH→Prop}:growZK P xs ts H L=GrowT P xs ts H L ⟨⟩:=aw0 rfl
def CallR(P:Program)(f:FuncId)(args:List AV)(H:AH)(K:AV→Prop)(_:Tie K):Prop:=∃v,ACalls P f args H (fun v' H'=>v'=v∧H'=H)∧K v
theorem CallR.i{f:FuncId}{args:List AV}{v:AV}{t:Tie K}(h:ACalls P f args H fun v' H'=>v'=v∧H'=H)(k:K v):CallR P f args H K t:=⟨v,h,k⟩
theorem CallR.p{f:FuncId}{args:List AV}{v:AV}{t:Tie K}(h:APure P f args v)(k:K v):CallR P f args H K t:=⟨v,h H,k⟩
def ScopeT(c:Cfg)(a:Code)(Q:Exit→Sg→AH→Prop)(σ:Sg)(H:AH)(_:Tie a)(_:Tie Q):Prop:=ScopeG c a Q σ H
theorem cwp_scope_t{a:Code}:cwp c (.scope a) Q σ H=ScopeT c a Q σ H ⟨⟩ ⟨⟩:=cwp_scope
theorem scope_t{a rest:Code}{t:Tie a}{t':Tie Q}(hm:c.P.follows .mixedOrders=true)(l:Nat)(hok:bV c a=true)(hf:findLabel a l=some rest)(hok':(bV c rest&&(bS rest || !bS a))=true)(I:Nat→Sg→AH→Prop)
    (first:cwp c a (AJump l (fun σ H=>∃m,I m σ H) Q) σ H)
    (pass:∀m σ H,I m σ H→cwp c rest (AJump l (fun σ' H'=>∃m',m'<m∧I m' σ' H') Q) σ H):ScopeT c a Q σ H t t':=by
 simp only[Bool.and_eq_true,Bool.or_eq_true,Bool.not_eq_true']at hok'
 exact fun Γ=>awp_scope l I hf hok'.2 (cwp.sound hm a hok _ _ _ first Γ) fun m σ H hI=>cwp.sound hm rest hok'.1 _ _ _ (pass m σ H hI) Γ
theorem cwp_loop_t{a:Code}:cwp c (.loop a) Q σ H=LoopT c a Q σ H ⟨⟩ ⟨⟩:=cwp_loop
theorem CallP.i{f:FuncId}{args:List AV}{v:AV}{t:Tie K}(h:APure P f args v)(k:K v):CallP P f args K t:=⟨v,h,k⟩
theorem CallK.p{f:FuncId}{args:List AV}{v:AV}{t:Tie L}(h:APure P f args v)(k:L v H):CallK P f args H L t:=h.call k
theorem CallK.i{f:FuncId}{args:List AV}{R:AV→AH→Prop}{t:Tie L}(h:ACalls P f args H R)(k:∀v H',R v H'→L v H'):CallK P f args H L t:=h.mono k
theorem br{a:Code}{t:Tie a}{t':Tie Q}(hm:c.P.follows .mixedOrders=true)(hok:bV c a=true)(I:Nat→Sg→AH→Prop)(m:Nat)(h0:I m σ H)
    (round:∀m σ H,I m σ H→cwp c a (dp (fun σ' H'=>∃m',m'<m∧I m' σ' H') Q) σ H):LoopT c a Q σ H t t':=loop_rule hm hok I m h0 round
theorem jn{a:Code}{t:Tie a}{t':Tie Q}(x:Nat)(hs:σ x=.sc (.slice none 0 0))
    (h:∀k,k≠0→H k=none→LoopT c a Q (σ.put (some x) (.imm k [] 0)) (H.set k .nilt) ⟨⟩ ⟨⟩):LoopT c a Q σ H t t':=tok_rule x hs h
def KeepT(l:List Nat)(acc:Sg)(K:Sg→AH→Prop)(σ:Sg)(H:AH)(_:Tie K):Prop:=KeepK l acc K σ H
def KeepQ(l:List Nat)(K:Sg→AH→Prop)(σ:Sg)(H:AH)(_:Tie K):Prop:=KeepO l K σ H
def evK(v:AV)(F:AV→Prop)(_:Tie F):Prop:=F v
theorem evK_done{v:AV}{F:AV→Prop}{t:Tie F}:evK v F t=F v:=aw0 rfl
theorem KeepT_nil{acc:Sg}{K:Sg→AH→Prop}{t:Tie K}:KeepT [] acc K σ H t=K acc H:=aw0 rfl
theorem KeepT_cons{x:Nat}{xs:List Nat}{acc:Sg}{K:Sg→AH→Prop}{t:Tie K}:KeepT (x::xs) acc K σ H t=evK (σ x) (fun v=>KeepT xs (acc.put (some x) v) K σ H ⟨⟩) ⟨⟩:=aw0 rfl
theorem KeepQ_nil{K:Sg→AH→Prop}{t:Tie K}:KeepQ [] K σ H t=K σ H:=aw0 rfl
theorem KeepQ_cons{x:Nat}{xs:List Nat}{K:Sg→AH→Prop}{t:Tie K}:KeepQ (x::xs) K σ H t=KeepT (x::xs) anyS K σ H ⟨⟩:=aw0 rfl
def FzT(xs:List Nat)(K:Sg→AH→Prop)(σ:Sg)(H:AH)(_:Tie K):Prop:=FzK xs K σ H
theorem cwp_region_t{id:Nat}{l:List Oper}:cwp c (.region id l.toArray false) Q σ H=Run c l.toArray l (fun σ H=>FzT (bI0 c.T (id+1000000)) (fun σ H=>KeepQ (bI0 c.T (id+4000000)) (Q .normal) σ H ⟨⟩) σ H ⟨⟩) σ H:=cwp_region
theorem cwp_draw_t{id:Nat}{l:List Oper}:cwp c (.region id l.toArray true) Q σ H=DrawK c (eX c.S id) id l (fun σ H=>FzT (bI0 c.T (id+1000000)) (fun σ H=>KeepQ (bI0 c.T (id+4000000)) (Q .normal) σ H ⟨⟩) σ H ⟨⟩) σ H:=cwp_tree
def DrawT(c:Cfg)(l:List Oper)(t:STree)(K:Sg→AH→Prop)(σ:Sg)(H:AH)(_:Tie K)(_:Tie l):Prop:=RunJ c l t K σ H
theorem DrawK_op{K:Sg→AH→Prop}{id i k:Nat}{t:STree}{l:List Oper}:DrawK c (.op i k t) id l K σ H=DrawT c l (.op i k t) K σ H ⟨⟩ ⟨⟩:=aw0 rfl
theorem eI00{l:List Oper}{t:STree}{K:Sg→AH→Prop}{k:Tie K}{k':Tie l}(I:Sg→AH→Prop)(h:RunT c l t I σ H)(g:∀σ' H',I σ' H'→K σ' H'):DrawT c l t K σ H k k':=⟨I,h,g⟩
theorem FzT_nil{K:Sg→AH→Prop}{t:Tie K}:FzT [] K σ H t=K σ H:=aw0 rfl
def ptrO(v:AV):Option Nat:=match v with | .ptr k 0=>some k|_=>none
theorem ptrO_ptr{k:Nat}:ptrO (.ptr k 0)=some k:=aw0 rfl
theorem FzT_cons{x:Nat}{xs:List Nat}{K:Sg→AH→Prop}{t:Tie K}:FzT (x::xs) K σ H t=bJ (ptrO (σ x)) fun k=>bJ (liveO (H k)) fun q=>FzT xs K (σ.put (some x) (.ip q.1 0)) (H.kill k) ⟨⟩:=aw0 (by
 unfold FzT
 simp only[FzK,ptrO]
 split
 ·rename_i k hx
  rw[hx]
  simp only[bJ,liveO]
  generalize H k=o
  cases o with
  |none=>rfl
  |some o=>cases o<;>rfl
 ·rename_i hn
  simp only[bJ])
def optT{α:Type}(o:Option α)(K:α→Prop)(_:Tie K):Prop:=bJ o K
theorem optK_t{α:Type}(o:Option α)(K:α→Prop):bJ o K=optT o K ⟨⟩:=aw0 rfl
theorem optT_some{α:Type}(v:α)(K:α→Prop)(t:Tie K):optT (some v) K t=K v:=aw0 rfl
def ReqT(p q:Prop)(_:Tie q):Prop:=p∧q
theorem Req_t(p q:Prop):Req p q=ReqT p q ⟨⟩:=aw0 rfl
theorem ReqT_true{q:Prop}{t:Tie q}:ReqT True q t=q:=by simp[ReqT]
theorem ReqT_of{p q:Prop}{t:Tie q}(h:p):ReqT p q t=q:=by simp[ReqT,h]
theorem ReqT.i{p q:Prop}{t:Tie q}(h:p)(g:q):ReqT p q t:=⟨h,g⟩
def guardT(a:AV)(w:Bool)(X Y:Prop)(_:Tie X)(_:Tie Y):Prop:=ej a w X Y
theorem guardAt_t(t:Tmp)(op:Op)(ty:TypeId)(ps:String)(af:Array Edge)(g:Option (Nat × Bool))(l:List Oper)(σ:Sg)(w:Bool)(X Y:Prop):
    guardAt (⟨some t,op,ty,ps,af,g⟩::l) 0 σ w X Y=guardT (σ t) w X Y ⟨⟩ ⟨⟩:=aw0 rfl
theorem guardT_true(X Y:Prop)(t:Tie X)(t':Tie Y):guardT (.sc (.bool true)) true X Y t t'=X:=guardV_true X Y
theorem guardT_false(X Y:Prop)(t:Tie X)(t':Tie Y):guardT (.sc (.bool false)) true X Y t t'=Y:=guardV_false X Y
theorem guardT_true'(X Y:Prop)(t:Tie X)(t':Tie Y):guardT (.sc (.bool true)) false X Y t t'=Y:=guardV_true' X Y
theorem guardT_false'(X Y:Prop)(t:Tie X)(t':Tie Y):guardT (.sc (.bool false)) false X Y t t'=X:=guardV_false' X Y
theorem guardT_skip(w:Bool)(X Y:Prop)(t:Tie X)(t':Tie Y):guardT (.tup []) w X Y t t'=Y:=guardV_skip w X Y
def condT(a:AV)(X Y:Prop)(_:Tie X)(_:Tie Y):Prop:=condK a X Y
theorem cwp_cond_t{x:Operand}{a b:Code}:cwp c (.cond x a b) Q σ H=condT (σ.ev x) (cwp c a Q σ H) (cwp c b Q σ H) ⟨⟩ ⟨⟩:=cwp_cond
theorem condT_true{X Y:Prop}{t:Tie X}{t':Tie Y}:condT (.sc (.bool true)) X Y t t'=X:=condK_true
theorem condT_false{X Y:Prop}{t:Tie X}{t':Tie Y}:condT (.sc (.bool false)) X Y t t'=Y:=condK_false
def pickT(a:AV)(X Y:Prop)(_:Tie X)(_:Tie Y):Prop:=pickK a X Y
variable {ρ:Operand→AV} {A:List Nat} {d:Option Tmp} {ty:TypeId} {ps:String} {af:Array Edge} {gd:Option (Nat × Bool)}
theorem sP_pick_t{a b e:Operand}:bm0 P ⟨d,.pick a b e,ty,ps,af,gd⟩ ρ K=pickT (ρ a) (K (ρ b)) (K (ρ e)) ⟨⟩ ⟨⟩:=sP_pick
theorem sK_pick_t{a b e:Operand}:bW P A ⟨d,.pick a b e,ty,ps,af,gd⟩ ρ H L=pickT (ρ a) (L (ρ b) H) (L (ρ e) H) ⟨⟩ ⟨⟩:=sK_pick
theorem pickT_true{X Y:Prop}{t:Tie X}{t':Tie Y}:pickT (.sc (.bool true)) X Y t t'=X:=aw0 rfl
theorem pickT_false{X Y:Prop}{t:Tie X}{t':Tie Y}:pickT (.sc (.bool false)) X Y t t'=Y:=aw0 rfl
abbrev strV(l:List UInt8):AV:=.sc (.string ⟨l.toArray⟩)
theorem size_mk(l:List UInt8):ByteArray.size ⟨l.toArray⟩=l.length:=by simp[ByteArray.size]
theorem jd(a n:Nat):((a:Int)).tmod (no_index (OfNat.ofNat n))=((a % OfNat.ofNat n:Nat):Int):=rfl
theorem nC(a n:Nat):((a:Int)).tdiv (no_index (OfNat.ofNat n))=((a/OfNat.ofNat n:Nat):Int):=rfl
theorem mn{a b:Nat}(h:a+b<9223372036854775808):IntKind.i64.wrap ((a:Int)+(b:Int))=((a+b:Nat):Int):=by rw[iw (by omega)];simp
theorem wadd64n{a n:Nat}(h:a+OfNat.ofNat n<9223372036854775808):IntKind.i64.wrap ((a:Int)+no_index (OfNat.ofNat n))=((a+OfNat.ofNat n:Nat):Int):=mn h
theorem wmul64{a b:Nat}(h:a*b<9223372036854775808):IntKind.i64.wrap ((a:Int)*(b:Int))=((a*b:Nat):Int):=by
 rw[←Int.natCast_mul,iw (by omega)]
theorem wmul64n{a n:Nat}(h:OfNat.ofNat n*a<9223372036854775808):IntKind.i64.wrap (no_index (OfNat.ofNat n)*(a:Int))=((OfNat.ofNat n*a:Nat):Int):=wmul64 h
theorem wmul64m{a n:Nat}(h:a*OfNat.ofNat n<9223372036854775808):IntKind.i64.wrap ((a:Int)*no_index (OfNat.ofNat n))=((a*OfNat.ofNat n:Nat):Int):=wmul64 h
theorem wsub64{a b:Nat}(h:b≤a)(g:a<9223372036854775808):IntKind.i64.wrap ((a:Int)-(b:Int))=((a-b:Nat):Int):=by rw[iw (by omega)];omega
theorem wsub64n{a n:Nat}(h:OfNat.ofNat n≤a)(g:a<9223372036854775808):IntKind.i64.wrap ((a:Int)-no_index (OfNat.ofNat n))=((a-OfNat.ofNat n:Nat):Int):=wsub64 h g
theorem wcast64{a:Nat}(h:a<9223372036854775808):IntKind.i64.wrap (a:Int)=(a:Int):=iw (by omega)
theorem jw{a:Nat}(h:a<18446744073709551616):IntKind.u64.wrap (a:Int)=(a:Int):=by rw[IntKind.wrap_u64];omega
theorem ph{a b:Nat}(h:a+b<18446744073709551616):IntKind.u64.wrap ((a:Int)+(b:Int))=((a+b:Nat):Int):=by rw[←Int.natCast_add,jw h]
theorem pP{a n:Nat}(h:a*OfNat.ofNat n<18446744073709551616):IntKind.u64.wrap ((a:Int)*no_index (OfNat.ofNat n))=((a*OfNat.ofNat n:Nat):Int):=by
 have:((a:Int)*OfNat.ofNat n)=((a*OfNat.ofNat n:Nat):Int):=by rw[Int.natCast_mul];rfl
 rw[this,jw h]
theorem jC{a:Nat}:IntKind.u8.wrap (a:Int)=((UInt8.ofNat a).toNat:Int):=by
 rw[IntKind.wrap_u8,UInt8.toNat_ofNat'];omega
def boolE(u:Option TypeDesc)(a b:Bool):Option Bool:=match u with|some .bool=>some (a == b)|_=>none
def ptrE(u:Option TypeDesc)(r:Bool):Option Bool:=match u with|some (.pointer _)=>some r|_=>none
def mapE(u:Option TypeDesc)(r:Bool):Option Bool:=match u with|some (.map _ _)=>some r|_=>none
section eqs
variable {t:TypeId}
theorem eqG_bool(a b:Bool):eqG P 6 t (.sc (.bool a)) (.sc (.bool b))=boolE (P.underlying t) a b:=by
 unfold eqG
 generalize hu:P.underlying t=u
 cases u with
 |none=>simp[eqA,hu,boolE]
 |some u=>cases u<;>simp[eqA,hu,boolE]
theorem eqG_pn(h o:Nat):eqG P 6 t (.ptr h o) (.sc (.pointer none))=ptrE (P.underlying t) false:=by
 unfold eqG
 generalize hu:P.underlying t=u
 cases u with
 |none=>simp[eqA,hu,ptrE]
 |some u=>cases u<;>simp[eqA,hu,ptrE]
theorem bin_q{op:BinOp}{x y:AV}(h:∀k a k' b, x=.sc (.int k a)→y=.sc (.int k' b)→False)(g:∀a b, x=.sc (.string a)→y=.sc (.string b)→False):
    bY P op t x y K=(match op,eqG P 6 t x y with
    |.eql,some r=>Req (bB0 P t=true) (K (.sc (.bool r)))
    |.neq,some r=>Req (bB0 P t=true) (K (.sc (.bool (!r))))
    |_,_=>False):=by
 unfold bY
 split
 ·exact(h _ _ _ _ rfl rfl).elim
 ·exact(g _ _ rfl rfl).elim
 ·rfl
theorem bin_qe{x y:AV}(h:∀k a k' b, x=.sc (.int k a)→y=.sc (.int k' b)→False)(g:∀a b, x=.sc (.string a)→y=.sc (.string b)→False):
    bY P .eql t x y K=bJ (eqG P 6 t x y) fun r=>Req (bB0 P t=true) (K (.sc (.bool r))):=by
 rw[bin_q h g];generalize eqG P 6 t x y=o;cases o<;>rfl
theorem bin_qn{x y:AV}(h:∀k a k' b, x=.sc (.int k a)→y=.sc (.int k' b)→False)(g:∀a b, x=.sc (.string a)→y=.sc (.string b)→False):
    bY P .neq t x y K=bJ (eqG P 6 t x y) fun r=>Req (bB0 P t=true) (K (.sc (.bool (!r)))):=by
 rw[bin_q h g];generalize eqG P 6 t x y=o;cases o<;>rfl
theorem bin_beql{a b:Bool}:bY P .eql t (.sc (.bool a)) (.sc (.bool b)) K=bJ (boolE (P.underlying t) a b) fun r=>Req (bB0 P t=true) (K (.sc (.bool r))):=by
 rw[bin_qe (by intros;simp_all) (by intros;simp_all),eqG_bool]
theorem bin_ageql{a b:List AV}:bY P .eql t (.agg a) (.agg b) K=bJ (eqG P 6 t (.agg a) (.agg b)) fun r=>Req (bB0 P t=true) (K (.sc (.bool r))):=bin_qe (by intros;simp_all) (by intros;simp_all)
theorem bin_agneq{a b:List AV}:bY P .neq t (.agg a) (.agg b) K=bJ (eqG P 6 t (.agg a) (.agg b)) fun r=>Req (bB0 P t=true) (K (.sc (.bool (!r)))):=bin_qn (by intros;simp_all) (by intros;simp_all)
theorem bin_pneql{h o:Nat}:bY P .eql t (.ptr h o) (.sc (.pointer none)) K=bJ (ptrE (P.underlying t) false) fun r=>Req (bB0 P t=true) (K (.sc (.bool r))):=by
 rw[bin_qe (by intros;simp_all) (by intros;simp_all),eqG_pn]
theorem bin_pnneq{h o:Nat}:bY P .neq t (.ptr h o) (.sc (.pointer none)) K=bJ (ptrE (P.underlying t) false) fun r=>Req (bB0 P t=true) (K (.sc (.bool (!r)))):=by
 rw[bin_qn (by intros;simp_all) (by intros;simp_all),eqG_pn]
theorem boolE_bool{a b:Bool}:boolE (some .bool) a b=some (a == b):=aw0 rfl
theorem ptrE_ptr{e:TypeId}{r:Bool}:ptrE (some (.pointer e)) r=some r:=aw0 rfl
end eqs
def putC(cells:List AV)(off:Nat)(vs:List AV):List AV:=bG cells off vs
theorem putC_eq(cells:List AV)(off:Nat)(vs:List AV):putC cells off vs=cells.take off++(vs++cells.drop (off+vs.length)):=ah cells off vs
theorem fillA_n(place:Nat→Option (Nat × Nat))(cells:List AV):cu place cells []=some cells:=aw0 rfl
theorem fillA_c(place:Nat→Option (Nat × Nat))(cells:List AV)(i:Nat)(v:AV)(rest:List (Nat × AV)):cu place cells ((i, v)::rest)=(match place i with
    |none=>none
    |some (off,size)=>if v.cellsOf.length≠size∨off+size > cells.length∨v.fine=false then none else cu place (putC cells off v.cellsOf) rest):=aw0 rfl
theorem cutAt_some{A:List Nat}{x:Nat}:kO A (some x)=A.contains (x+2000000):=aw0 rfl
theorem rawAt_some{A:List Nat}{x:Nat}:kH A (some x)=A.contains (x+4000000):=aw0 rfl
theorem convAt_some{A:List Nat}{x:Nat}:convAt A (some x)=A.contains (x+6000000):=aw0 rfl
theorem slideAt_some{A:List Nat}{x:Nat}:slideAt A (some x)=A.contains (x+5000000):=aw0 rfl
theorem growAt_some{A:List Nat}{x:Nat}:jz A (some x)=A.contains (x+3000000):=aw0 rfl
theorem ownAt_some{A:List Nat}{x:Nat}:j3 A (some x)=A.contains (x+1000000):=aw0 rfl
theorem app3_int{t t':TypeId}{k:IntKind}{s x:AV}:kP P (some (.int k)) s x t t' H L=bJ (strTy P) fun st=>bJ (zerS P (P.underlying t) (some (.int k)) s x) fun q=>Req q.1 (cx P t st s (.sc (.string ⟨(List.replicate q.2 0).toArray⟩)) H L):=aw0 (by
 unfold kP
 simp only[]
 generalize strTy P=o
 generalize zerS P _ _ _ _=o'
 cases o<;>cases o'<;>rfl)
theorem zerS_eq{e:TypeId}{k kk:IntKind}{s:AV}{m:Int}:zerS P (some (.slice e)) (some (.int k)) s (.sc (.int kk m))=(lenS s).map fun n=>(0≤m∧m<9223372036854775808∧(ax P e=true∧bk P e=.int .u8 0)∧n+m.toNat≤maxLen∧(n+m.toNat)*ay P e≤140737488355328,m.toNat):=aw0 (by
 unfold zerS
 generalize lenS s=o
 cases o<;>rfl)
theorem lenS_own{h o n:Nat}:lenS (.own h o n)=some n:=aw0 rfl
theorem lenS_imm{k n:Nat}{cs:List AV}:lenS (.imm k cs n)=some n:=aw0 rfl
theorem own2_eq{t t':TypeId}{s x:AV}:own2K P [s,x] [t,t'] H L=own3K P (P.underlying t') s x t t' H L:=aw0 rfl
theorem own3_slice{t t' e:TypeId}{s x:AV}:own3K P (some (.slice e)) s x t t' H L=ownK P t t' s x H L:=aw0 rfl
theorem own3_int{t t':TypeId}{k:IntKind}{s x:AV}:own3K P (some (.int k)) s x t t' H L=bJ (strTy P) fun st=>bJ (zerS P (P.underlying t) (some (.int k)) s x) fun q=>Req q.1 (ownK P t st s (.sc (.string ⟨(List.replicate q.2 0).toArray⟩)) H L):=aw0 (by
 unfold own3K
 simp only[]
 generalize strTy P=o
 generalize zerS P _ _ _ _=o'
 cases o<;>cases o'<;>rfl)
def aZ(P:Program)(H:AH)(u:Option TypeDesc)(src:Option (List AV × Nat))(s:AV):Option (Prop × Prop × Prop × TypeId × Option Nat × List AV × Nat × Nat):=match u,src,s with
 |some (.slice e),some (news,m),.own k 0 n=>(match H k with
  |some (.cells cs e' s')=>some (news.length=m*ai0 P e∧0<ai0 P e∧ax P e=true,e'=e∧s'=ai0 P e∧n*s'≤cs.length,n+m≤maxLen∧(n+m)*ay P e≤140737488355328,e,some k,cs.take (n*s')++news,n+m,s')
  |_=>none)
 |some (.slice e),some (news,m),.sc (.slice none 0 0)=>some (news.length=m*ai0 P e∧0<ai0 P e∧ax P e=true,True,m≤maxLen∧m*ay P e≤140737488355328,e,none,news,m,ai0 P e)
 |_,_,_=>none
def ownJ(H:AH)(k:Option Nat)(cs:List AV)(e s m:Nat)(K:AV→AH→Prop):Prop:=match k with
 |some k=>∀k',(k'=k∨k'≠0∧H k'=none)→K (.own k' 0 m) ((H.kill k).set k' (.cells cs e s))
 |none=>(m=0→K (.sc (.slice none 0 0)) H)∧(0<m→∀k',k'≠0→H k'=none→K (.own k' 0 m) (H.set k' (.cells cs e s)))
theorem ownK_u(P:Program)(t t':TypeId)(s x:AV)(H:AH)(K:AV→AH→Prop):ownK P t t' s x H K=bJ (aZ P H (P.underlying t) (aS P H t' x) s) fun q=>Req q.1 (Req q.2.1 (Req q.2.2.1 (ownJ H q.2.2.2.2.1 q.2.2.2.2.2.1 q.2.2.2.1 q.2.2.2.2.2.2.2 q.2.2.2.2.2.2.1 K))):=aw0 (by
 unfold ownK aZ
 generalize P.underlying t=u
 generalize aS P H t' x=sr
 split
 ·rename_i e news m
  split
  ·rename_i k n
   generalize hk:H k=o
   cases o with
   |none=>simp[Req,bJ,hk]
   |some o=>cases o<;>first|(simp[Req,bJ,ownJ,hk];done)|(simp only[bJ,ownJ];apply propext;constructor<;>(rintro⟨h1,⟨rfl,h3⟩,h4⟩;exact⟨h1,⟨rfl,h3⟩,h4⟩))
  ·simp[bJ,Req,ownJ]
  ·rename_i h1 h2
   split
   ·exact absurd rfl (h1 _ _)
   ·exact absurd rfl h2
   ·simp[Req,bJ]
 ·rename_i hn
  split
  ·exact absurd rfl (hn _ _ _ rfl)
  ·exact absurd rfl (hn _ _ _ rfl)
  ·rfl)
theorem ownJ_some{k:Nat}{cs:List AV}{e s m:Nat}:ownJ H (some k) cs e s m L=(∀k',(k'=k∨k'≠0∧H k'=none)→L (.own k' 0 m) ((H.kill k).set k' (.cells cs e s))):=aw0 rfl
theorem ownJ_none{cs:List AV}{e s m:Nat}:ownJ H none cs e s m L=((m=0→L (.sc (.slice none 0 0)) H)∧(0<m→∀k',k'≠0→H k'=none→L (.own k' 0 m) (H.set k' (.cells cs e s)))):=aw0 rfl
theorem rowK_u(P:Program)(t:TypeId)(n:Nat)(parts:List (Nat × AV))(H:AH)(K:AV→AH→Prop):rowK P t n parts H K=bJ (aT P (P.underlying t) n parts) fun q=>Req q.1 (bJ q.2.2 fun cs=>∀k,k≠0→H k=none→K (.own k 0 n) (H.set k (.cells cs q.2.1 (ai0 P q.2.1)))):=aw0 (by
 unfold rowK aT
 generalize P.underlying t=u
 split<;>simp only[bJ]<;>congr 1<;>(generalize cu _ _ _=o;cases o<;>rfl))
theorem iW{H:AH}{k k':Nat}{o:AObj}(hk0:k≠0)(hk:H k=none)(h:k'=k∨k'≠0∧(H.set k o) k'=none):k'≠0∧H k'=none:=by
 rcases h with rfl|⟨h1,h2⟩
 ·exact⟨hk0,hk⟩
 ·exact⟨h1,am h2⟩
theorem VRs.get{C:Ctx}{l:List AV}{vs:List Value}(h:VRs C l vs){j:Nat}(hj:j<l.length):VR C l[j] (vs.getD j undef):=h.2 j hj
def Lend(H:AH)(a b:AV):Prop:=b=a∨∃k off n cs e s,a=.own k off n∧H k=some (.cells cs e s)∧off+n*s≤cs.length∧b=.imm 0 ((cs.drop off).take (n*s)) n
theorem Lend.same{H:AH}{a:AV}:Lend H a a:=.inl rfl
theorem Lend.row{H:AH}{k n:Nat}{cs:List AV}{e s:Nat}(h:H k=some (.cells cs e s))(hn:n*s≤cs.length):Lend H (.own k 0 n) (.imm 0 (cs.take (n*s)) n):=
 .inr ⟨k,0,n,cs,e,s,rfl,h,by omega,by rw[List.drop_zero]⟩
def Lends(H:AH):List AV→List AV→Prop
 |[],[]=>True
 |a::l,b::r=>Lend H a b∧Lends H l r
 |_,_=>False
theorem Lends.get{H:AH}:∀ {l r:List AV},Lends H l r→r.length=l.length∧∀j (h:j<l.length) (h':j<r.length),Lend H l[j] r[j]
 |[],[],_=>⟨rfl,fun j h=>absurd h (by simp)⟩
 |a::l,b::r,h=>by
  obtain⟨h1,h2⟩:=Lends.get h.2
  refine⟨by simp[h1],fun j hj hj'=>?_⟩
  cases j with
  |zero=>exact h.1
  |succ j=>exact h2 j (by simpa using hj) (by simpa using hj')
 |[],_::_,h=>h.elim
 |_::_,[],h=>h.elim
theorem len2_eq{t:TypeId}{x:AV}:len2E P [x] [t] H K=lenE P t x H K:=aw0 rfl
def mapO(o:Option AObj):Option (List (AV × AV)):=match o with|some (.map es)=>some es|_=>none
theorem mapO_some(es:List (AV × AV)):mapO (some (.map es))=some es:=aw0 rfl
def lenM(H:AH)(u:Option TypeDesc)(x:AV):Option AV:=match u,x with
 |some (.map _ _),.mp h=>(mapO (H h)).map fun es=>.sc (.int .i64 es.length)
 |some (.map _ _),.sc (.map none)=>some (.sc (.int .i64 0))
 |u,x=>aV u x
theorem lenE_u(P:Program)(t:TypeId)(x:AV)(H:AH)(K:AV→Prop):lenE P t x H K=bJ (lenM H (P.underlying t) x) K:=aw0 (by
 unfold lenE lenM
 split
 ·rename_i kt et h hu
  rw[hu]
  simp only[mapO]
  generalize H h=o
  cases o with
  |none=>rfl
  |some o=>cases o<;>rfl
 ·rename_i kt et hu
  rw[hu]
  rfl
 ·rename_i h1 h2
  rw[lenK_u]
  congr 1
  generalize P.underlying t=u at *
  split
  ·rename_i kt et h;exact(h1 _ _ _ rfl rfl).elim
  ·rename_i kt et;exact(h2 _ _ rfl rfl).elim
  ·rfl)
def mapA(H:AH)(u:Option TypeDesc)(x:AV):Option (TypeId × TypeId × List (AV × AV)):=match u,x with
 |some (.map kt et),.mp h=>(mapO (H h)).map fun es=>(kt,et,es)
 |some (.map kt et),.sc (.map none)=>some (kt,et,[])
 |_,_=>none
theorem lookE_u(P:Program)(t:TypeId)(x key:AV)(ok:Bool)(H:AH)(K:AV→Prop):
    lookE P t x key ok H K=bJ (mapA H (P.underlying t) x) fun q=>Req (cl0 P 6 q.1 key=true∧ax P q.2.1=true) (bJ (cY P q.1 key q.2.2 0) fun r=>K (lookV P q.2.1 ok r)):=aw0 (by
 unfold lookE mapA
 generalize P.underlying t=u
 split
 ·rename_i kt et h
  simp only[mapO]
  generalize H h=o
  cases o with
  |none=>rfl
  |some o=>cases o<;>first|rfl|(rename_i es;simp only[bJ,Option.map_some];congr 1;generalize cY P kt key es 0=r;cases r<;>rfl)
 ·rfl
 ·simp[bJ])
def updJ(H:AH)(h:Nat)(es:List (AV × AV))(key v:AV)(r:Option (Nat × AV))(K:AV→AH→Prop):Prop:=match r with
 |none=>K (.tup []) (H.set h (.map (es++[(key.strip,v.strip)])))
 |some (i,_)=>Req ((es[i]?).map (·.1)=some key∧plainA key=true) (K (.tup []) (H.set h (.map (es.set i (key,v.strip)))))
def mapB(H:AH)(u:Option TypeDesc)(x:AV):Option (TypeId × Nat × List (AV × AV)):=match u,x with
 |some (.map kt _),.mp h=>(mapO (H h)).map fun es=>(kt,h,es)
 |_,_=>none
theorem updK_u(P:Program)(t:TypeId)(m key v:AV)(H:AH)(K:AV→AH→Prop):
    updK P t m key v H K=bJ (mapB H (P.underlying t) m) fun q=>Req (cl0 P 6 q.1 key=true) (bJ (cY P q.1 key q.2.2 0) fun r=>updJ H q.2.1 q.2.2 key v r K):=aw0 (by
 unfold updK mapB
 generalize P.underlying t=u
 split
 ·rename_i kt et h
  simp only[mapO]
  generalize H h=o
  cases o with
  |none=>rfl
  |some o=>cases o<;>first|rfl|(rename_i es;simp only[bJ,Option.map_some,updJ];congr 1;generalize cY P kt key es 0=r;rcases r with _|_|⟨i,w⟩<;>rfl)
 ·rename_i hn
  split
  ·exact(hn _ _ _ rfl rfl).elim
  ·rfl)
theorem updJ_none{h:Nat}{es:List (AV × AV)}{key v:AV}:updJ H h es key v none L=L (.tup []) (H.set h (.map (es++[(key.strip,v.strip)]))):=aw0 rfl
theorem mapK_false:mapK P false H L=(∀k,k≠0→H k=none→L (.mp k) (H.set k (.map []))):=aw0 rfl
theorem lookV_no{et:TypeId}{r:Option (Nat × AV)}:lookV P et false r=(r.map (·.2)).getD (ar P et):=aw0 rfl
theorem mapA_mp{k e:TypeId}{h:Nat}:mapA H (some (.map k e)) (.mp h)=(mapO (H h)).map fun es=>(k,e,es):=aw0 rfl
theorem mapB_mp{k e:TypeId}{h:Nat}:mapB H (some (.map k e)) (.mp h)=(mapO (H h)).map fun es=>(k,h,es):=aw0 rfl
theorem lenM_slice{e:TypeId}{x:AV}:lenM H (some (.slice e)) x=aV (some (.slice e)) x:=aw0 (by unfold lenM;cases x<;>rfl)
def strE(u:Option TypeDesc)(r:Bool):Option Bool:=match u with|some .string=>some r|_=>none
theorem eqG_str{t:TypeId}(a b:ByteArray):eqG P 6 t (.sc (.string a)) (.sc (.string b))=strE (P.underlying t) (a == b):=by
 unfold eqG
 generalize hu:P.underlying t=u
 cases u with
 |none=>simp[eqA,hu,strE]
 |some u=>cases u<;>simp[eqA,hu,strE]
theorem strE_str{r:Bool}:strE (some .string) r=some r:=aw0 rfl
theorem ba_beq(a b:List UInt8):((⟨a.toArray⟩:ByteArray) == ⟨b.toArray⟩)=(a == b):=by
 show(a.toArray == b.toArray)=_
 simp
def chkU(u:Option TypeDesc):Bool:=match u with
 |none|some (.interface _)|some (.array _ _)|some (.struct _)=>false
 |some _=>true
theorem chkA_sc{t:TypeId}{v:Value}:cl0 P 6 t (.sc v)=chkU (P.underlying t):=by
 unfold cl0 chkU
 generalize P.underlying t=u
 cases u with
 |none=>rfl
 |some u=>cases u<;>rfl
theorem chkU_str:chkU (some .string)=true:=aw0 rfl
theorem cst_pointer(a:Option Addr):cst (.pointer a)=.sc (.pointer a):=aw0 rfl
theorem cst_map(a:Option Nat):cst (.map a)=.sc (.map a):=aw0 rfl
theorem mapE_map{k e:TypeId}{r:Bool}:mapE (some (.map k e)) r=some r:=aw0 rfl
section eqs2
variable {t:TypeId}
theorem eqG_mn(h:Nat):eqG P 6 t (.mp h) (.sc (.map none))=mapE (P.underlying t) false:=by
 unfold eqG
 generalize hu:P.underlying t=u
 cases u with
 |none=>simp[eqA,hu,mapE]
 |some u=>cases u<;>simp[eqA,hu,mapE]
theorem bin_mnneq{h:Nat}:bY P .neq t (.mp h) (.sc (.map none)) K=bJ (mapE (P.underlying t) false) fun r=>Req (bB0 P t=true) (K (.sc (.bool (!r)))):=by
 rw[bin_qn (by intros;simp_all) (by intros;simp_all),eqG_mn]
end eqs2
def CvX(P:Program)(s d:TypeId)(x:AV)(H:AH)(L:AV→AH→Prop)(_:Tie L):Prop:=convE P s d x H L
theorem convE_x{s d:TypeId}{x:AV}:convE P s d x H L=CvX P s d x H L ⟨⟩:=aw0 rfl
theorem CvX_sc{s d:TypeId}{v:Value}{t:Tie L}:CvX P s d (.sc v) H L t=convK P s d (.sc v) fun v=>L v H:=aw0 rfl
theorem CvX_imm{s d:TypeId}{k n:Nat}{cs:List AV}{t:Tie L}:CvX P s d (.imm k cs n) H L t=convK P s d (.imm k cs n) fun v=>L v H:=aw0 rfl
def cvO(u u':Option TypeDesc)(o:Option AObj):Option (Bool × TypeId × List AV × TypeId × Nat):=match u,u',o with
 |some (.slice e),some .string,some (.cells cs e' z)=>some (true,e,cs,e',z)
 |some (.slice e),some (.slice _),some (.cells cs e' z)=>some (false,e,cs,e',z)
 |_,_,_=>none
theorem CvX_own{s d:TypeId}{k n:Nat}{t:Tie L}:CvX P s d (.own k 0 n) H L t=bJ (cvO (P.underlying s) (P.underlying d) (H k)) fun q=>bsK q.1
    (Req (P.underlying q.2.1=some (.int .u8)∧q.2.2.2.1=q.2.1∧q.2.2.2.2=1∧q.2.2.1.length=n∧q.2.2.1.all isU8=true) (L (.sc (.string (dX q.2.2.1))) H))
    (Req (s=d∧P.underlying q.2.1=some (.int .u8)∧q.2.2.2.1=q.2.1∧q.2.2.2.2=1∧q.2.2.1.length=n) (L (.imm 0 q.2.2.1 n) (H.kill k))):=aw0 (by
 unfold CvX convE
 simp only[]
 generalize P.underlying s=u
 generalize P.underlying d=u'
 generalize H k=o
 cases u with
 |none=>rfl
 |some u=>cases u' with
  |none=>cases u<;>rfl
  |some u'=>cases o with
   |none=>cases u<;>cases u'<;>rfl
   |some o=>cases u<;>cases u'<;>cases o<;>rfl)
theorem sK_max{A:List Nat}{l:List Operand}{ts:Array TypeId}{d:Option Tmp}{ty:TypeId}{ps:String}{af:Array Edge}{gd:Option (Nat × Bool)}{ρ:Operand→AV}:bW P A ⟨d,.call ⟨.builtin .max,l.toArray,ts⟩,ty,ps,af,gd⟩ ρ H L=bJ (minA .max (l.map ρ)) (fun v=>L v H):=aw0 (by simp only[bW,bm0,minK,bJ];generalize minA .max _=o;cases o<;>rfl)
theorem minA_max{k k':IntKind}{x y:Int}:minA .max [.sc (.int k x),.sc (.int k' y)]=some (.sc (.int k (if x<y then y else x))):=aw0 rfl
section eqs3
variable {t:TypeId}
end eqs3
theorem strip_own{h o n:Nat}:AV.strip (.own h o n)=.own h o n:=aw0 rfl
theorem strip_fn{f:Fn}{a b:List AV}:AV.strip (.fn f a b)=.fn f a b:=aw0 rfl
theorem strip_ip{cs:List AV}{o:Nat}:AV.strip (.ip cs o)=.ip cs o:=aw0 rfl
end Go.Abs
end
