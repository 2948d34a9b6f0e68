/-
  Several texts in one: each says what it proves.
  Conditions: none. Lemmas only.
-/
import Derived.Test.YtjlnpngaiphnmaaRosG1
import Derived.Test.YtjlnpngaiphnmaaRosG2
set_option linter.all false
section
set_option linter.unusedSimpArgs false
set_option linter.unusedVariables false
set_option maxRecDepth 20000
set_option maxHeartbeats 4000000
namespace Go.Proofs.Ytjlnpngaiphnmaa
open Go Go.Abs Go.Proofs
def memb (ms : List Mem) (id : Int) : Bool := (findM ms id).2
def goneM : Bool → List (List Mem) → Int → Bool
  | _,[],_ => false
  | was,ms :: l,id => if was && !memb ms id then true else goneM (memb ms id) l id
def leftM : List (List Mem) → Int → Bool
  | [],_ => false
  | ms :: l,id => (memb ms id && l.any fun k => !memb k id) || leftM l id
theorem gone_left : ∀ (l : List (List Mem)) (was : Bool) (id : Int),goneM was l id = ((was && l.any fun k => !memb k id) || leftM l id)
  | [],was,id => by simp [goneM,leftM]
  | ms :: l,was,id => by
    have ih := gone_left l (memb ms id) id
    rw [show goneM was (ms :: l) id = if was && !memb ms id then true else goneM (memb ms id) l id from rfl,ih]
    rw [show leftM (ms :: l) id = ((memb ms id && l.any fun k => !memb k id) || leftM l id) from rfl,List.any_cons]
    generalize leftM l id = a
    generalize (l.any fun k => !memb k id) = b
    cases was <;> cases memb ms id <;> cases a <;> cases b <;> rfl
def diffM (a b : Mem) : Bool := !(a.pub == b.pub) || !(a.sgn == b.sgn)
def folD (last ms : List Mem) (lf : Int → Bool) : List Int → List Nd → Bool
  | [],es => es.isEmpty
  | id :: ids,es =>
    if memb ms id && lf id then false
    else if memb last id && memb ms id && diffM (findM last id).1 (findM ms id).1 then false
    else if memb last id && !memb ms id then (match es with | [] => false | x :: r => if x.author = id then folD last ms lf ids r else false)
    else folD last ms lf ids es
def okP (last : List Mem) (lf : Int → Bool) (m : Mem) : Bool := !(lf m.id) && !(memb last m.id && diffM (findM last m.id).1 m)
def wentP (last ms : List Mem) : List Int := (last.filter fun m => !memb ms m.id).map Mem.id
def folP (last ms : List Mem) (lf : Int → Bool) (es : List Nd) : Bool := ms.all (okP last lf) && decide (wentP last ms = es.map Nd.author)
theorem folD_eq (last ms : List Mem) (lf : Int → Bool) : ∀ (ids : List Int) (es : List Nd), folD last ms lf ids es =
    ((ids.all fun id => !(memb ms id) || (!(lf id) && !(memb last id && diffM (findM last id).1 (findM ms id).1))) && decide ((ids.filter fun id => memb last id && !memb ms id) = es.map Nd.author))
  | [],es => by cases es <;> simp [folD]
  | id :: ids,es => by
    have ih := folD_eq last ms lf ids
    unfold folD
    rw [List.all_cons,List.filter_cons]
    generalize lf id = a
    generalize diffM (findM last id).1 (findM ms id).1 = b
    generalize memb last id = c
    generalize memb ms id = e
    cases a <;> cases b <;> cases c <;> cases e
    all_goals try (simp only [Bool.and_self,Bool.and_true,Bool.and_false,Bool.true_and,Bool.false_and,Bool.not_true,Bool.not_false,Bool.true_or,Bool.false_or,Bool.or_true,Bool.or_false,if_true,if_false,Bool.false_eq_true]; rw [ih]; done)
    all_goals try (simp; done)
    all_goals
      cases es with
      | nil => simp
      | cons x r =>
        simp only [Bool.and_self,Bool.and_true,Bool.and_false,Bool.true_and,Bool.false_and,Bool.not_true,Bool.not_false,Bool.true_or,Bool.false_or,Bool.or_true,Bool.or_false,if_true,if_false,Bool.false_eq_true,List.map_cons,List.cons.injEq]
        by_cases h : x.author = id
        · rw [if_pos h,ih]
          simp [h]
        · rw [if_neg h]
          have h2 : ¬ id = x.author := fun e => h e.symm
          simp [h2]
theorem find_mem : ∀ {ms : List Mem} {id : Int},(findM ms id).2 = true → (findM ms id).1 ∈ ms ∧ (findM ms id).1.id = id
  | [],id,h => by simp [findM] at h
  | m :: l,id,h => by
    unfold findM at h ⊢
    by_cases c : m.id = id
    · rw [if_pos c]; exact ⟨by simp,c⟩
    · rw [if_neg c] at h ⊢
      have := find_mem h
      exact ⟨by simp [this.1],this.2⟩
theorem rise_gt : ∀ {l : List Int} {last : Int},riseL last l = true → ∀ x ∈ l,last < x ∧ x < 5
  | [],_,_,x,hx => by cases hx
  | n :: l,last,h,x,hx => by
    unfold riseL at h
    rw [Bool.and_eq_true,Bool.and_eq_true,decide_eq_true_eq,decide_eq_true_eq] at h
    rcases List.mem_cons.1 hx with rfl | hx
    · exact ⟨h.1,h.2.1⟩
    · have := rise_gt h.2.2 x hx
      exact ⟨by omega,this.2⟩
theorem rise_low : ∀ {l : List Int} {last k : Int},riseL last l = true → (∀ x ∈ l,k < x) → riseL k l = true
  | [],_,_,_,_ => rfl
  | n :: l,last,k,h,hk => by
    unfold riseL at h ⊢
    rw [Bool.and_eq_true,Bool.and_eq_true,decide_eq_true_eq] at h ⊢
    exact ⟨hk n (by simp),h.2⟩
theorem find_of : ∀ {ms : List Mem} {last : Int},riseL last (ms.map Mem.id) = true → ∀ m ∈ ms,findM ms m.id = (m,true)
  | [],_,_,m,hm => by cases hm
  | x :: l,last,h,m,hm => by
    rw [List.map_cons] at h
    have hr : riseL x.id (l.map Mem.id) = true := by
      unfold riseL at h
      rw [Bool.and_eq_true,Bool.and_eq_true] at h
      exact h.2.2
    unfold findM
    rcases List.mem_cons.1 hm with rfl | hm
    · rw [if_pos rfl]
    · have h1 := (rise_gt hr m.id (List.mem_map.2 ⟨m,hm,rfl⟩)).1
      rw [if_neg (by omega)]
      exact find_of hr m hm
theorem memb_iff {ms : List Mem} {last : Int} (h : riseL last (ms.map Mem.id) = true) (id : Int) : memb ms id = decide (id ∈ ms.map Mem.id) := by
  rw [Bool.eq_iff_iff,decide_eq_true_eq]
  constructor
  · intro hm
    have := find_mem hm
    exact List.mem_map.2 ⟨_,this.1,this.2⟩
  · intro hm
    obtain ⟨m,h1,rfl⟩ := List.mem_map.1 hm
    unfold memb
    rw [find_of h m h1]
theorem rise_filter (l : List Int) (h : riseL (-1) l = true) : l = [0,1,2,3,4].filter fun id => decide (id ∈ l) := by
  have step : ∀ (ids : List Int) (k : Int),(∀ l,riseL k l = true → l = ids.filter fun id => decide (id ∈ l)) → (∀ y ∈ ids,k < y) → ∀ l,riseL (k - 1) l = true → l = (k :: ids).filter fun id => decide (id ∈ l) := by
    intro ids k ih hid l hl
    by_cases hk : k ∈ l
    · cases l with
      | nil => cases hk
      | cons x r =>
        have hx := (rise_gt hl x (by simp)).1
        have hr : riseL x r = true := by
          unfold riseL at hl
          rw [Bool.and_eq_true,Bool.and_eq_true] at hl
          exact hl.2.2
        have hxk : x = k := by
          rcases List.mem_cons.1 hk with e | e
          · exact e.symm
          · have := (rise_gt hr k e).1; omega
        subst hxk
        rw [List.filter_cons,if_pos (by simp)]
        congr 1
        have h1 := ih r hr
        have h2 : (ids.filter fun id => decide (id ∈ x :: r)) = ids.filter fun id => decide (id ∈ r) := List.filter_congr fun y hy => by
          have := hid y hy
          have hne : ¬ y = x := by omega
          simp [hne]
        rw [h2]
        exact h1
    · have hl2 : riseL k l = true := rise_low hl fun x hx => by
        have := (rise_gt hl x hx).1
        have : x ≠ k := fun e => hk (e ▸ hx)
        omega
      rw [List.filter_cons,if_neg (by simp [hk])]
      exact ih l hl2
  have h5 : ∀ l,riseL 4 l = true → l = ([] : List Int).filter fun id => decide (id ∈ l) := fun l hl => by
    cases l with
    | nil => rfl
    | cons x r => have := rise_gt hl x (by simp); omega
  have h4 := step [] 4 h5 (fun _ h => by cases h)
  have h3 := step [4] 3 h4 (fun y hy => by simp at hy; omega)
  have h2 := step [3,4] 2 h3 (fun y hy => by simp at hy; omega)
  have h1 := step [2,3,4] 1 h2 (fun y hy => by simp at hy; omega)
  have h0 := step [1,2,3,4] 0 h1 (fun y hy => by simp at hy; omega)
  exact h0 l h
theorem went_eq {last ms : List Mem} (h : riseL (-1) (last.map Mem.id) = true) : wentP last ms = [0,1,2,3,4].filter fun id => memb last id && !memb ms id := by
  unfold wentP
  have e : (last.filter fun m => !memb ms m.id).map Mem.id = (last.map Mem.id).filter fun id => !memb ms id := by
    rw [List.filter_map]; rfl
  rw [e]
  have h2 := rise_filter _ h
  have h3 : (last.map Mem.id).filter (fun id => !memb ms id) = ([0,1,2,3,4].filter fun id => decide (id ∈ last.map Mem.id)).filter (fun id => !memb ms id) := by
    rw [← h2]
  rw [h3,List.filter_filter]
  refine List.filter_congr fun id _ => ?_
  rw [memb_iff h,Bool.and_comm]
theorem all_eq {ms : List Mem} (h : riseL (-1) (ms.map Mem.id) = true) (p : Mem → Bool) : ms.all p = [0,1,2,3,4].all fun id => !(memb ms id) || p (findM ms id).1 := by
  rw [Bool.eq_iff_iff,List.all_eq_true,List.all_eq_true]
  constructor
  · intro hp id _
    rcases hm : memb ms id with _ | _
    · rfl
    · have := find_mem (show (findM ms id).2 = true from hm)
      simp [hp _ this.1]
  · intro hp m hm
    have hr := rise_gt h m.id (List.mem_map.2 ⟨m,hm,rfl⟩)
    have hf := find_of h m hm
    have h0 : m.id ∈ ([0,1,2,3,4] : List Int) := by
      have : m.id = 0 ∨ m.id = 1 ∨ m.id = 2 ∨ m.id = 3 ∨ m.id = 4 := by omega
      simp [this]
    have h1 := hp m.id h0
    have hmm : memb ms m.id = true := by unfold memb; rw [hf]
    rw [hmm,hf] at h1
    simpa using h1
theorem fol_eq {last ms : List Mem} (lf : Int → Bool) (es : List Nd) (hl : riseL (-1) (last.map Mem.id) = true) (hm : riseL (-1) (ms.map Mem.id) = true) : folD last ms lf [0,1,2,3,4] es = folP last ms lf es := by
  rw [folD_eq]
  unfold folP
  rw [went_eq hl,all_eq hm]
  congr 1
  rw [Bool.eq_iff_iff,List.all_eq_true,List.all_eq_true]
  have key : ∀ id ∈ ([0,1,2,3,4] : List Int),(!(memb ms id) || (!(lf id) && !(memb last id && diffM (findM last id).1 (findM ms id).1))) = (!(memb ms id) || okP last lf (findM ms id).1) := fun id _ => by
    rcases hh : memb ms id with _ | _
    · rfl
    · have := (find_mem (show (findM ms id).2 = true from hh)).2
      unfold okP
      rw [this]
  constructor
  · intro h id hid
    rw [← key id hid]; exact h id hid
  · intro h id hid
    rw [key id hid]; exact h id hid
end Go.Proofs.Ytjlnpngaiphnmaa
end
section
set_option linter.unusedSimpArgs false
set_option linter.unusedVariables false
set_option maxRecDepth 20000
set_option maxHeartbeats 8000000
namespace Go.Proofs.Ytjlnpngaiphnmaa
open Go Go.Abs Go.Proofs
abbrev lgB (a : AV) (k : Nat) (es : List Ent) (d : AV) : AObj := .cells [a,.imm k (es.flatMap entC) es.length,d] 74 3
theorem ent_load {es : List Ent} {i : Nat} (h : i < es.length) : List.take 7 (List.drop (i * 7) (es.flatMap entC)) = [.sc (.int .i64 (es[i]).n),bytesV (es[i]).prev,memsV (es[i]).members,ndsV (es[i]).ends,bytesV (es[i]).once,rowsV (es[i]).boxes,bytesV (es[i]).sig] := flat_load entC_len h
theorem gone_live (H : AH) (r k : Nat) (a d : AV) (es : List Ent) (id : Int) (hl : es.length ≤ 1000000) (hm : ∀ e ∈ es,e.members.length ≤ 1000000) (hr : H r = some (lgB a k es d)) : ACalls Try.prog 74 [.ptr r 0,.sc (.int .i64 id)] H fun v H' => v = .sc (.bool (goneM false (es.map Ent.members) id)) ∧ H' = H := by
  have hcl : (es.flatMap entC).length = es.length * 7 := flat_len entC_len es
  have hld := fun i (h : i < es.length) => ent_load h
  generalize hR : goneM false (es.map Ent.members) id = R at *
  refine ao (c := ⟨Try.prog,33,[(1000004,[7]),(1000005,[8])],[],[]⟩) (rs := [ResultVar.tmp 4]) Try.mixed Try.func74 rfl rfl rfl (Nat.le_of_ble_eq_true rfl) (by kernel_rfl) ?_
  simp (disch := omega) only [↓aI,↓zP,aD,zD,aS,simprocAttr,Try.facts,hr]
  refine br (c := ⟨Try.prog,33,[(1000004,[7]),(1000005,[8])],[],[]⟩) Try.mixed (by kernel_rfl) (fun mm σ H' => H' = H ∧ ∃ (i : Nat) (was : Bool),i + mm = es.length ∧ goneM was ((es.drop i).map Ent.members) id = R ∧
    σ 1 = .sc (.int .i64 id) ∧ σ 5 = .sc (.bool was) ∧ σ 13 = .imm k (es.flatMap entC) es.length ∧ σ 14 = .sc (.int .i64 (es.length : Nat)) ∧ σ 15 = .sc (.int .i64 (i : Nat))) es.length ?_ ?_
  · refine ⟨rfl,0,false,by omega,hR,?_⟩
    simp (disch := omega) only [↓aI,↓zP,aD,zD,aS,simprocAttr,Try.facts,zA]
  · rintro mm σ H' ⟨rfl,i,was,him,hf,s1,s5,s13,s14,s15⟩
    by_cases hlt : i < es.length
    · have hd : es.drop i = es[i] :: es.drop (i + 1) := List.drop_eq_getElem_cons hlt
      have hl := hld i hlt
      have hc3 : i * 7 + 7 ≤ es.length * 7 := by omega
      have hml := hm _ (List.getElem_mem hlt)
      rw [hd,List.map_cons] at hf
      have hfd := find_pure (es[i]).members id hml
      unfold goneM at hf
      rw [show memb (es[i]).members id = (findM (es[i]).members id).2 from rfl] at hf
      generalize findM (es[i]).members id = fm at *
      obtain ⟨⟨mi,mp,mg⟩,was2⟩ := fm
      simp only [memC] at hfd hf
      generalize es[i] = e at *
      obtain ⟨n,prev,ms,ns,once,bs,sig⟩ := e
      simp only [] at hf hl hfd hml
      cases was
      all_goals cases was2
      all_goals
        simp only [Bool.false_and,Bool.true_and,Bool.not_true,Bool.not_false,if_true,if_false,Bool.false_eq_true] at hf
        simp (disch := omega) only [↓aI,↓zP,aD,zD,aS,simprocAttr,Try.facts,zA,s1,s5,s13,s14,s15,hcl,hl,hc3,ah]
        intro k7 hk70 hk7
        try simp (disch := omega) only [↓aI,↓zP,aD,zD,aS,simprocAttr,Try.facts,zA,s1,s5,s13,s14,s15,hcl,hl,hc3,ah]
        first | refine CallK.p (hfd) ?_ | refine CallP.i (hfd) ?_
        simp (disch := omega) only [↓aI,↓zP,aD,zD,aS,simprocAttr,Try.facts,zA,s1,s5,s13,s14,s15]
        rw [aj hk7]
        intro k8 hk80 hk8
        try simp (disch := omega) only [↓aI,↓zP,aD,zD,aS,simprocAttr,Try.facts,zA,s1,s5,s13,s14,s15,aj hk8]
        first | exact ⟨mm - 1,by omega,i + 1,_,by omega,hf,rfl,rfl⟩ | (subst hf; exact ⟨_,rfl,_,Abs.Sub.refl _,rfl,rfl⟩) | (trace_state; fail)
    · obtain rfl : i = es.length := by omega
      rw [List.drop_length,List.map_nil] at hf
      unfold goneM at hf
      subst hf
      simp (disch := omega) only [↓aI,↓zP,aD,zD,aS,simprocAttr,Try.facts,zA,s1,s5,s13,s14,s15,hcl]
      exact ⟨_,rfl,_,Abs.Sub.refl _,rfl,rfl⟩
end Go.Proofs.Ytjlnpngaiphnmaa
end
section
set_option linter.unusedSimpArgs false
set_option linter.unusedVariables false
set_option maxRecDepth 20000
set_option maxHeartbeats 8000000
namespace Go.Proofs.Ytjlnpngaiphnmaa
open Go Go.Abs Go.Proofs
def prevOk (e : Ent) : Bool := decide (e.prev.length = 32) || (decide (e.n = 1) && decide (e.prev.length = 0))
def boxOk (b : List UInt8) : Bool := decide (b.length = 48)
def rightE (e : Ent) : Bool := decide (1 ≤ e.n) && (decide (e.n ≤ 65536) && (prevOk e && (partsL e.members e.ends && (e.boxes.all boxOk && (decide (e.once.length = 32) && (decide (e.boxes.length = e.members.length) && decide (e.sig.length = 64)))))))
theorem right21_pure (e : Ent) (hm : e.members.length ≤ 1000000) (he : e.ends.length ≤ 1000000) (hb : e.boxes.length ≤ 1000000) : APure Try.prog 48 [.agg (entC e)] (.sc (.bool (rightE e))) := by
  have hp := parts_pure e.members e.ends hm he
  have hR : rightE e = (decide (1 ≤ e.n) && (decide (e.n ≤ 65536) && (prevOk e && (partsL e.members e.ends && (e.boxes.all boxOk && (decide (e.once.length = 32) && (decide (e.boxes.length = e.members.length) && decide (e.sig.length = 64)))))))) := rfl
  have hpo : prevOk e = (decide (e.prev.length = 32) || (decide (e.n = 1) && decide (e.prev.length = 0))) := rfl
  generalize rightE e = R at *
  generalize prevOk e = po at *
  generalize partsL e.members e.ends = pt at *
  obtain ⟨n,prev,ms,es,once,bs,sig⟩ := e
  simp only [entC] at *
  have hbl : (bs.map bytesV).length = bs.length := by simp
  have hcase : (po = true ∧ ((n = 1 ∧ prev.length = 0) ∨ (n = 1 ∧ ¬ prev.length = 0 ∧ prev.length = 32) ∨ (¬ n = 1 ∧ prev.length = 32))) ∨ (po = false ∧ ((n = 1 ∧ ¬ prev.length = 0 ∧ ¬ prev.length = 32) ∨ (¬ n = 1 ∧ ¬ prev.length = 32))) := by
    by_cases c1 : n = 1
    · by_cases c2 : prev.length = 0
      · exact .inl ⟨by rw [hpo]; simp [c1,c2],.inl ⟨c1,c2⟩⟩
      · by_cases c3 : prev.length = 32
        · exact .inl ⟨by rw [hpo]; simp [c3],.inr (.inl ⟨c1,c2,c3⟩)⟩
        · exact .inr ⟨by rw [hpo]; simp [c2,c3],.inl ⟨c1,c2,c3⟩⟩
    · by_cases c3 : prev.length = 32
      · exact .inl ⟨by rw [hpo]; simp [c3],.inr (.inr ⟨c1,c3⟩)⟩
      · exact .inr ⟨by rw [hpo]; simp [c1,c3],.inr ⟨c1,c3⟩⟩
  by_cases n1 : 1 ≤ n
  · by_cases n2 : n ≤ 65536
    · rcases hcase with ⟨rfl,hc⟩ | ⟨rfl,hc⟩
      · cases pt
        · obtain rfl : R = false := by rw [hR]; simp
          rcases hc with ⟨q1,q2⟩ | ⟨q1,q2,q3⟩ | ⟨q1,q3⟩
          all_goals
            refine az (c := ⟨Try.prog,71,[(1000000,[1]),(4000010,[2]),(4000002,[1,40]),(4000001,[1,3])],[],[]⟩) (rs := [ResultVar.tmp 2]) Try.mixed Try.func48 rfl rfl rfl (Nat.le_of_ble_eq_true rfl) (by kernel_rfl) fun H => ?_
            simp (disch := omega) only [↓aI,↓zP,aD,zD,aS,simprocAttr,Try.facts,zA]
            intro k hk0 hk
            try simp (disch := omega) only [↓aI,↓zP,aD,zD,aS,simprocAttr,Try.facts,zA,aj hk]
            first | refine CallK.p (hp) ?_ | refine CallP.i (hp) ?_
            simp (disch := omega) only [↓aI,↓zP,aD,zD,aS,simprocAttr,Try.facts,zA]
            first | exact Abs.Sub.refl _ | exact ⟨rfl,Abs.Sub.refl _⟩ | (trace_state; fail)
        · rw [decide_eq_true n1,decide_eq_true n2,Bool.true_and,Bool.true_and,Bool.true_and,Bool.true_and] at hR
          rcases hc with ⟨q1,q2⟩ | ⟨q1,q2,q3⟩ | ⟨q1,q3⟩
          all_goals
            refine az (c := ⟨Try.prog,71,[(1000000,[1]),(4000010,[2]),(4000002,[1,40]),(4000001,[1,3])],[],[]⟩) (rs := [ResultVar.tmp 2]) Try.mixed Try.func48 rfl rfl rfl (Nat.le_of_ble_eq_true rfl) (by kernel_rfl) fun H => ?_
            simp (disch := omega) only [↓aI,↓zP,aD,zD,aS,simprocAttr,Try.facts,zA]
            intro k hk0 hk
            try simp (disch := omega) only [↓aI,↓zP,aD,zD,aS,simprocAttr,Try.facts,zA,aj hk]
            first | refine CallK.p (hp) ?_ | refine CallP.i (hp) ?_
            simp (disch := omega) only [↓aI,↓zP,aD,zD,aS,simprocAttr,Try.facts,zA]
            refine br (c := ⟨Try.prog,71,[(1000000,[1]),(4000010,[2]),(4000002,[1,40]),(4000001,[1,3])],[],[]⟩) Try.mixed (by kernel_rfl) (fun mm σ H' => H' = H ∧ ∃ (i : Nat),i + mm = bs.length ∧ ((bs.drop i).all boxOk && (decide (once.length = 32) && (decide (bs.length = ms.length) && decide (sig.length = 64)))) = R ∧ σ 1 = .ip [.sc (.int .i64 n),bytesV prev,memsV ms,ndsV es,bytesV once,rowsV bs,bytesV sig] 0 ∧ σ 42 = rowsV bs ∧ σ 43 = .sc (.int .i64 (bs.length : Nat)) ∧ σ 44 = .sc (.int .i64 (i : Nat))) bs.length ?_ ?_
            · first | refine ⟨aj hk,0,by omega,hR.symm,?_⟩ | refine ⟨rfl,0,by omega,hR.symm,?_⟩
              simp (disch := omega) only [↓aI,↓zP,aD,zD,aS,simprocAttr,Try.facts,zA]
              try rfl
            · rintro mm σ H' ⟨rfl,i,him,hf,s1,s42,s43,s44⟩
              by_cases hlt : i < bs.length
              · have hd : bs.drop i = bs[i] :: bs.drop (i + 1) := List.drop_eq_getElem_cons hlt
                have hg : (bs.map bytesV)[i]? = some (bytesV bs[i]) := by simp [hlt]
                rw [hd,List.all_cons] at hf
                generalize bs[i] = x at *
                unfold boxOk at hf
                by_cases b1 : x.length = 48
                · rw [decide_eq_true b1,Bool.true_and] at hf
                  simp (disch := omega) only [↓aI,↓zP,aD,zD,aS,simprocAttr,Try.facts,zA,s1,s42,s43,s44,hbl,hg]
                  exact ⟨mm - 1,by omega,i + 1,by omega,hf,rfl⟩
                · obtain rfl : R = false := by rw [← hf]; simp [b1]
                  simp (disch := omega) only [↓aI,↓zP,aD,zD,aS,simprocAttr,Try.facts,zA,s1,s42,s43,s44,hbl,hg]
                  exact Abs.Sub.refl _
              · obtain rfl : i = bs.length := by omega
                rw [List.drop_length,List.all_nil,Bool.true_and] at hf
                by_cases b1 : once.length = 32
                · skip
                  by_cases b2 : bs.length = ms.length
                  · skip
                    by_cases b3 : sig.length = 64
                    · skip
                      obtain rfl : R = true := by rw [← hf]; simp [b1,b2,b3]
                      simp (disch := omega) only [↓aI,↓zP,aD,zD,aS,simprocAttr,Try.facts,zA,s1,s42,s43,s44]
                      exact Abs.Sub.refl _
                    · skip
                      obtain rfl : R = false := by rw [← hf]; simp [b3]
                      simp (disch := omega) only [↓aI,↓zP,aD,zD,aS,simprocAttr,Try.facts,zA,s1,s42,s43,s44]
                      exact Abs.Sub.refl _
                  · skip
                    obtain rfl : R = false := by rw [← hf]; simp [b2]
                    simp (disch := omega) only [↓aI,↓zP,aD,zD,aS,simprocAttr,Try.facts,zA,s1,s42,s43,s44]
                    exact Abs.Sub.refl _
                · skip
                  obtain rfl : R = false := by rw [← hf]; simp [b1]
                  simp (disch := omega) only [↓aI,↓zP,aD,zD,aS,simprocAttr,Try.facts,zA,s1,s42,s43,s44]
                  exact Abs.Sub.refl _
      · obtain rfl : R = false := by rw [hR]; simp
        rcases hc with ⟨q1,q2,q3⟩ | ⟨q1,q3⟩
        all_goals
          refine az (c := ⟨Try.prog,71,[(1000000,[1]),(4000010,[2]),(4000002,[1,40]),(4000001,[1,3])],[],[]⟩) (rs := [ResultVar.tmp 2]) Try.mixed Try.func48 rfl rfl rfl (Nat.le_of_ble_eq_true rfl) (by kernel_rfl) fun H => ?_
          simp (disch := omega) only [↓aI,↓zP,aD,zD,aS,simprocAttr,Try.facts,zA]
          intro k hk0 hk
          try simp (disch := omega) only [↓aI,↓zP,aD,zD,aS,simprocAttr,Try.facts,zA,aj hk]
          first | exact Abs.Sub.refl _ | exact ⟨rfl,Abs.Sub.refl _⟩ | (trace_state; fail)
    · obtain rfl : R = false := by rw [hR]; simp [n2]
      have q1 : ¬ n = 1 := by omega
      refine az (c := ⟨Try.prog,71,[(1000000,[1]),(4000010,[2]),(4000002,[1,40]),(4000001,[1,3])],[],[]⟩) (rs := [ResultVar.tmp 2]) Try.mixed Try.func48 rfl rfl rfl (Nat.le_of_ble_eq_true rfl) (by kernel_rfl) fun H => ?_
      simp (disch := omega) only [↓aI,↓zP,aD,zD,aS,simprocAttr,Try.facts,zA]
      intro k hk0 hk
      try simp (disch := omega) only [↓aI,↓zP,aD,zD,aS,simprocAttr,Try.facts,zA,aj hk]
      first | exact Abs.Sub.refl _ | exact ⟨rfl,Abs.Sub.refl _⟩ | (trace_state; fail)
  · obtain rfl : R = false := by rw [hR]; simp [n1]
    have q1 : ¬ n = 1 := by omega
    refine az (c := ⟨Try.prog,71,[(1000000,[1]),(4000010,[2]),(4000002,[1,40]),(4000001,[1,3])],[],[]⟩) (rs := [ResultVar.tmp 2]) Try.mixed Try.func48 rfl rfl rfl (Nat.le_of_ble_eq_true rfl) (by kernel_rfl) fun H => ?_
    simp (disch := omega) only [↓aI,↓zP,aD,zD,aS,simprocAttr,Try.facts,zA]
    intro k hk0 hk
    try simp (disch := omega) only [↓aI,↓zP,aD,zD,aS,simprocAttr,Try.facts,zA,aj hk]
    first | exact Abs.Sub.refl _ | exact ⟨rfl,Abs.Sub.refl _⟩ | (trace_state; fail)
end Go.Proofs.Ytjlnpngaiphnmaa
end
section
set_option linter.unusedSimpArgs false
set_option linter.unusedVariables false
set_option maxRecDepth 20000
set_option maxHeartbeats 8000000
namespace Go.Proofs.Ytjlnpngaiphnmaa
open Go Go.Abs Go.Proofs
theorem rright21_pure (e : Ent) (hm : e.members.length ≤ 1000000) (he : e.ends.length ≤ 1000000) (hb : e.boxes.length ≤ 1000000) : APure Try.prog 50 [.agg (entC e)] (.sc (.bool (rightE e))) := by
  have hp := rparts_pure e.members e.ends hm he
  have hR : rightE e = (decide (1 ≤ e.n) && (decide (e.n ≤ 65536) && (prevOk e && (partsL e.members e.ends && (e.boxes.all boxOk && (decide (e.once.length = 32) && (decide (e.boxes.length = e.members.length) && decide (e.sig.length = 64)))))))) := rfl
  have hpo : prevOk e = (decide (e.prev.length = 32) || (decide (e.n = 1) && decide (e.prev.length = 0))) := rfl
  generalize rightE e = R at *
  generalize prevOk e = po at *
  generalize partsL e.members e.ends = pt at *
  obtain ⟨n,prev,ms,es,once,bs,sig⟩ := e
  simp only [entC] at *
  have hbl : (bs.map bytesV).length = bs.length := by simp
  have hcase : (po = true ∧ ((n = 1 ∧ prev.length = 0) ∨ (n = 1 ∧ ¬ prev.length = 0 ∧ prev.length = 32) ∨ (¬ n = 1 ∧ prev.length = 32))) ∨ (po = false ∧ ((n = 1 ∧ ¬ prev.length = 0 ∧ ¬ prev.length = 32) ∨ (¬ n = 1 ∧ ¬ prev.length = 32))) := by
    by_cases c1 : n = 1
    · by_cases c2 : prev.length = 0
      · exact .inl ⟨by rw [hpo]; simp [c1,c2],.inl ⟨c1,c2⟩⟩
      · by_cases c3 : prev.length = 32
        · exact .inl ⟨by rw [hpo]; simp [c3],.inr (.inl ⟨c1,c2,c3⟩)⟩
        · exact .inr ⟨by rw [hpo]; simp [c2,c3],.inl ⟨c1,c2,c3⟩⟩
    · by_cases c3 : prev.length = 32
      · exact .inl ⟨by rw [hpo]; simp [c3],.inr (.inr ⟨c1,c3⟩)⟩
      · exact .inr ⟨by rw [hpo]; simp [c1,c3],.inr ⟨c1,c3⟩⟩
  by_cases n1 : 1 ≤ n
  · by_cases n2 : n ≤ 65536
    · rcases hcase with ⟨rfl,hc⟩ | ⟨rfl,hc⟩
      · cases pt
        · obtain rfl : R = false := by rw [hR]; simp
          rcases hc with ⟨q1,q2⟩ | ⟨q1,q2,q3⟩ | ⟨q1,q3⟩
          all_goals
            refine az (c := ⟨Try.prog,75,[(1000000,[1]),(4000007,[1,4,74]),(4000005,[1,4,65]),(4000002,[1,60]),(4000001,[1,3])],[],[]⟩) (rs := [ResultVar.tmp 2]) Try.mixed Try.func50 rfl rfl rfl (Nat.le_of_ble_eq_true rfl) (by kernel_rfl) fun H => ?_
            simp (disch := omega) only [↓aI,↓zP,aD,zD,aS,simprocAttr,Try.facts,zA]
            intro k hk0 hk
            try simp (disch := omega) only [↓aI,↓zP,aD,zD,aS,simprocAttr,Try.facts,zA,aj hk]
            first | refine CallK.p (hp) ?_ | refine CallP.i (hp) ?_
            simp (disch := omega) only [↓aI,↓zP,aD,zD,aS,simprocAttr,Try.facts,zA]
            first | exact Abs.Sub.refl _ | exact ⟨rfl,Abs.Sub.refl _⟩ | (trace_state; fail)
        · rw [decide_eq_true n1,decide_eq_true n2,Bool.true_and,Bool.true_and,Bool.true_and,Bool.true_and] at hR
          rcases hc with ⟨q1,q2⟩ | ⟨q1,q2,q3⟩ | ⟨q1,q3⟩
          all_goals
            by_cases b1 : once.length = 32
            · skip
              by_cases b2 : sig.length = 64
              · skip
                by_cases b3 : bs.length = ms.length
                · skip
                  rw [decide_eq_true b1,decide_eq_true b2,decide_eq_true b3,Bool.and_true,Bool.and_true,Bool.and_true] at hR
                  refine az (c := ⟨Try.prog,75,[(1000000,[1]),(4000007,[1,4,74]),(4000005,[1,4,65]),(4000002,[1,60]),(4000001,[1,3])],[],[]⟩) (rs := [ResultVar.tmp 2]) Try.mixed Try.func50 rfl rfl rfl (Nat.le_of_ble_eq_true rfl) (by kernel_rfl) fun H => ?_
                  simp (disch := omega) only [↓aI,↓zP,aD,zD,aS,simprocAttr,Try.facts,zA]
                  intro k hk0 hk
                  try simp (disch := omega) only [↓aI,↓zP,aD,zD,aS,simprocAttr,Try.facts,zA,aj hk]
                  first | refine CallK.p (hp) ?_ | refine CallP.i (hp) ?_
                  simp (disch := omega) only [↓aI,↓zP,aD,zD,aS,simprocAttr,Try.facts,zA]
                  refine br (c := ⟨Try.prog,75,[(1000000,[1]),(4000007,[1,4,74]),(4000005,[1,4,65]),(4000002,[1,60]),(4000001,[1,3])],[],[]⟩) Try.mixed (by kernel_rfl) (fun mm σ H' => H' = H ∧ ∃ (i : Nat),i + mm = bs.length ∧ (bs.drop i).all boxOk = R ∧ σ 1 = .ip [.sc (.int .i64 n),bytesV prev,memsV ms,ndsV es,bytesV once,rowsV bs,bytesV sig] 0 ∧ σ 4 = .sc (.int .i64 (i : Nat))) bs.length ?_ ?_
                  · first | refine ⟨aj hk,0,by omega,hR.symm,?_⟩ | refine ⟨rfl,0,by omega,hR.symm,?_⟩
                    simp (disch := omega) only [↓aI,↓zP,aD,zD,aS,simprocAttr,Try.facts,zA]
                    try rfl
                  · rintro mm σ H' ⟨rfl,i,him,hf,s1,s4⟩
                    by_cases hlt : i < bs.length
                    · have hd : bs.drop i = bs[i] :: bs.drop (i + 1) := List.drop_eq_getElem_cons hlt
                      have hg : (bs.map bytesV)[i]? = some (bytesV bs[i]) := by simp [hlt]
                      rw [hd,List.all_cons] at hf
                      generalize bs[i] = x at *
                      unfold boxOk at hf
                      by_cases b1 : x.length = 48
                      · rw [decide_eq_true b1,Bool.true_and] at hf
                        simp (disch := omega) only [↓aI,↓zP,aD,zD,aS,simprocAttr,Try.facts,zA,s1,s4,hbl,hg]
                        exact ⟨mm - 1,by omega,i + 1,by omega,hf,rfl⟩
                      · obtain rfl : R = false := by rw [← hf]; simp [b1]
                        simp (disch := omega) only [↓aI,↓zP,aD,zD,aS,simprocAttr,Try.facts,zA,s1,s4,hbl,hg]
                        exact Abs.Sub.refl _
                    · obtain rfl : i = bs.length := by omega
                      rw [List.drop_length,List.all_nil] at hf
                      subst hf
                      simp (disch := omega) only [↓aI,↓zP,aD,zD,aS,simprocAttr,Try.facts,zA,s1,s4]
                      exact Abs.Sub.refl _
                · skip
                  obtain rfl : R = false := by rw [hR]; simp [b3]
                  refine az (c := ⟨Try.prog,75,[(1000000,[1]),(4000007,[1,4,74]),(4000005,[1,4,65]),(4000002,[1,60]),(4000001,[1,3])],[],[]⟩) (rs := [ResultVar.tmp 2]) Try.mixed Try.func50 rfl rfl rfl (Nat.le_of_ble_eq_true rfl) (by kernel_rfl) fun H => ?_
                  simp (disch := omega) only [↓aI,↓zP,aD,zD,aS,simprocAttr,Try.facts,zA]
                  intro k hk0 hk
                  try simp (disch := omega) only [↓aI,↓zP,aD,zD,aS,simprocAttr,Try.facts,zA,aj hk]
                  first | refine CallK.p (hp) ?_ | refine CallP.i (hp) ?_
                  simp (disch := omega) only [↓aI,↓zP,aD,zD,aS,simprocAttr,Try.facts,zA]
                  first | exact Abs.Sub.refl _ | exact ⟨rfl,Abs.Sub.refl _⟩ | (trace_state; fail)
              · skip
                obtain rfl : R = false := by rw [hR]; simp [b2]
                refine az (c := ⟨Try.prog,75,[(1000000,[1]),(4000007,[1,4,74]),(4000005,[1,4,65]),(4000002,[1,60]),(4000001,[1,3])],[],[]⟩) (rs := [ResultVar.tmp 2]) Try.mixed Try.func50 rfl rfl rfl (Nat.le_of_ble_eq_true rfl) (by kernel_rfl) fun H => ?_
                simp (disch := omega) only [↓aI,↓zP,aD,zD,aS,simprocAttr,Try.facts,zA]
                intro k hk0 hk
                try simp (disch := omega) only [↓aI,↓zP,aD,zD,aS,simprocAttr,Try.facts,zA,aj hk]
                first | refine CallK.p (hp) ?_ | refine CallP.i (hp) ?_
                simp (disch := omega) only [↓aI,↓zP,aD,zD,aS,simprocAttr,Try.facts,zA]
                first | exact Abs.Sub.refl _ | exact ⟨rfl,Abs.Sub.refl _⟩ | (trace_state; fail)
            · skip
              obtain rfl : R = false := by rw [hR]; simp [b1]
              refine az (c := ⟨Try.prog,75,[(1000000,[1]),(4000007,[1,4,74]),(4000005,[1,4,65]),(4000002,[1,60]),(4000001,[1,3])],[],[]⟩) (rs := [ResultVar.tmp 2]) Try.mixed Try.func50 rfl rfl rfl (Nat.le_of_ble_eq_true rfl) (by kernel_rfl) fun H => ?_
              simp (disch := omega) only [↓aI,↓zP,aD,zD,aS,simprocAttr,Try.facts,zA]
              intro k hk0 hk
              try simp (disch := omega) only [↓aI,↓zP,aD,zD,aS,simprocAttr,Try.facts,zA,aj hk]
              first | refine CallK.p (hp) ?_ | refine CallP.i (hp) ?_
              simp (disch := omega) only [↓aI,↓zP,aD,zD,aS,simprocAttr,Try.facts,zA]
              first | exact Abs.Sub.refl _ | exact ⟨rfl,Abs.Sub.refl _⟩ | (trace_state; fail)
      · obtain rfl : R = false := by rw [hR]; simp
        rcases hc with ⟨q1,q2,q3⟩ | ⟨q1,q3⟩
        all_goals
          refine az (c := ⟨Try.prog,75,[(1000000,[1]),(4000007,[1,4,74]),(4000005,[1,4,65]),(4000002,[1,60]),(4000001,[1,3])],[],[]⟩) (rs := [ResultVar.tmp 2]) Try.mixed Try.func50 rfl rfl rfl (Nat.le_of_ble_eq_true rfl) (by kernel_rfl) fun H => ?_
          simp (disch := omega) only [↓aI,↓zP,aD,zD,aS,simprocAttr,Try.facts,zA]
          intro k hk0 hk
          try simp (disch := omega) only [↓aI,↓zP,aD,zD,aS,simprocAttr,Try.facts,zA,aj hk]
          first | exact Abs.Sub.refl _ | exact ⟨rfl,Abs.Sub.refl _⟩ | (trace_state; fail)
    · obtain rfl : R = false := by rw [hR]; simp [n2]
      have q1 : ¬ n = 1 := by omega
      by_cases q3 : prev.length = 32
      · skip
        refine az (c := ⟨Try.prog,75,[(1000000,[1]),(4000007,[1,4,74]),(4000005,[1,4,65]),(4000002,[1,60]),(4000001,[1,3])],[],[]⟩) (rs := [ResultVar.tmp 2]) Try.mixed Try.func50 rfl rfl rfl (Nat.le_of_ble_eq_true rfl) (by kernel_rfl) fun H => ?_
        simp (disch := omega) only [↓aI,↓zP,aD,zD,aS,simprocAttr,Try.facts,zA]
        intro k hk0 hk
        try simp (disch := omega) only [↓aI,↓zP,aD,zD,aS,simprocAttr,Try.facts,zA,aj hk]
        first | exact Abs.Sub.refl _ | exact ⟨rfl,Abs.Sub.refl _⟩ | (trace_state; fail)
      · skip
        refine az (c := ⟨Try.prog,75,[(1000000,[1]),(4000007,[1,4,74]),(4000005,[1,4,65]),(4000002,[1,60]),(4000001,[1,3])],[],[]⟩) (rs := [ResultVar.tmp 2]) Try.mixed Try.func50 rfl rfl rfl (Nat.le_of_ble_eq_true rfl) (by kernel_rfl) fun H => ?_
        simp (disch := omega) only [↓aI,↓zP,aD,zD,aS,simprocAttr,Try.facts,zA]
        intro k hk0 hk
        try simp (disch := omega) only [↓aI,↓zP,aD,zD,aS,simprocAttr,Try.facts,zA,aj hk]
        first | exact Abs.Sub.refl _ | exact ⟨rfl,Abs.Sub.refl _⟩ | (trace_state; fail)
  · obtain rfl : R = false := by rw [hR]; simp [n1]
    have q1 : ¬ n = 1 := by omega
    by_cases q3 : prev.length = 32
    · skip
      refine az (c := ⟨Try.prog,75,[(1000000,[1]),(4000007,[1,4,74]),(4000005,[1,4,65]),(4000002,[1,60]),(4000001,[1,3])],[],[]⟩) (rs := [ResultVar.tmp 2]) Try.mixed Try.func50 rfl rfl rfl (Nat.le_of_ble_eq_true rfl) (by kernel_rfl) fun H => ?_
      simp (disch := omega) only [↓aI,↓zP,aD,zD,aS,simprocAttr,Try.facts,zA]
      intro k hk0 hk
      try simp (disch := omega) only [↓aI,↓zP,aD,zD,aS,simprocAttr,Try.facts,zA,aj hk]
      first | exact Abs.Sub.refl _ | exact ⟨rfl,Abs.Sub.refl _⟩ | (trace_state; fail)
    · skip
      refine az (c := ⟨Try.prog,75,[(1000000,[1]),(4000007,[1,4,74]),(4000005,[1,4,65]),(4000002,[1,60]),(4000001,[1,3])],[],[]⟩) (rs := [ResultVar.tmp 2]) Try.mixed Try.func50 rfl rfl rfl (Nat.le_of_ble_eq_true rfl) (by kernel_rfl) fun H => ?_
      simp (disch := omega) only [↓aI,↓zP,aD,zD,aS,simprocAttr,Try.facts,zA]
      intro k hk0 hk
      try simp (disch := omega) only [↓aI,↓zP,aD,zD,aS,simprocAttr,Try.facts,zA,aj hk]
      first | exact Abs.Sub.refl _ | exact ⟨rfl,Abs.Sub.refl _⟩ | (trace_state; fail)
end Go.Proofs.Ytjlnpngaiphnmaa
end
