/-
  Several texts in one: each says what it proves.
  Conditions: none. Lemmas only.
-/
import Derived.Test.YtjlnpngaiphnmaaGreatLetG1
set_option linter.all false
section
set_option linter.unusedSimpArgs false
set_option linter.unusedVariables false
set_option maxRecDepth 20000
set_option maxHeartbeats 4000000
namespace Go.Abs
theorem flat_drop {α β : Type} {f : α → List β} {k : Nat} (hk : ∀ x,(f x).length = k) : ∀ {l : List α} {i : Nat} (h : i < l.length),(l.flatMap f).drop (i * k) = f l[i] ++ (l.drop (i + 1)).flatMap f
  | [],i,h => by simp at h
  | x :: l,0,h => by simp
  | x :: l,i + 1,h => by
    have e : (i + 1) * k = k + i * k := by rw [Nat.add_mul,Nat.one_mul,Nat.add_comm]
    rw [List.flatMap_cons,e,← List.drop_drop,List.drop_left' (hk x),flat_drop hk (by simpa using h)]
    simp
theorem jZ {α β : Type} {f : α → List β} {k : Nat} (hk : ∀ x,(f x).length = k) {l : List α} {i : Nat} (h : i < l.length) : ((l.flatMap f).drop (i * k)).take k = f l[i] := by
  rw [flat_drop hk h,List.take_left' (hk _)]
theorem gu {α β : Type} {f : α → List β} {k : Nat} (hk : ∀ x,(f x).length = k) {l : List α} {i j : Nat} (h : i < l.length) (hj : j < k) : (l.flatMap f)[i * k + j]? = (f l[i])[j]? := by
  have := congrArg (·[j]?) (flat_drop hk h)
  simp only [List.getElem?_drop] at this
  rw [this,List.getElem?_append_left (by rw [hk]; exact hj)]
theorem fF {α β : Type} {f : α → List β} {k : Nat} (hk : ∀ x,(f x).length = k) : ∀ l : List α,(l.flatMap f).length = l.length * k
  | [] => by simp
  | x :: l => by rw [List.flatMap_cons,List.length_append,hk,fF hk l,List.length_cons,Nat.add_mul,Nat.one_mul,Nat.add_comm]
theorem take_snoc {α : Type} {l : List α} {i : Nat} (h : i < l.length) : l.take (i + 1) = l.take i ++ [l[i]] := by
  rw [List.take_add_one,List.getElem?_eq_getElem h]; rfl
theorem jH {α β : Type} (f : α → List β) {l : List α} {i : Nat} (h : i < l.length) : (l.take (i + 1)).flatMap f = (l.take i).flatMap f ++ f l[i] := by
  rw [take_snoc h,List.flatMap_append]; simp
theorem iO {α β : Type} (f : α → List β) (k : Nat) : ∀ l : List α,(∀ x ∈ l,(f x).length ≤ k) → (l.flatMap f).length ≤ l.length * k
  | [],_ => by simp
  | x :: l,h => by
    have h1 := h x (by simp)
    have h2 := iO f k l fun y hy => h y (by simp [hy])
    rw [List.flatMap_cons,List.length_append,List.length_cons,Nat.add_mul,Nat.one_mul]
    omega
end Go.Abs
namespace Go.Proofs.YtjlnpngaiphnmaaGreat
open Go Go.Abs Go.Proofs
structure Mem where
  id : Int
  pub : List UInt8
  sgn : List UInt8
structure Nd where
  author : Int
  seq : Int
structure Ent where
  n : Int
  prev : List UInt8
  members : List Mem
  ends : List Nd
  once : List UInt8
  boxes : List (List UInt8)
  sig : List UInt8
def fL (m : Mem) : List AV := [.sc (.int .i64 m.id),eu m.pub,eu m.sgn]
def ndC (x : Nd) : List AV := [.sc (.int .i64 x.author),.sc (.int .i64 x.seq)]
abbrev fE (l : List Mem) : AV := .imm 0 (l.flatMap fL) l.length
abbrev fY (l : List Nd) : AV := .imm 0 (l.flatMap ndC) l.length
def fX (e : Ent) : List AV := [.sc (.int .i64 e.n),eu e.prev,fE e.members,fY e.ends,eu e.once,fZ e.boxes,eu e.sig]
theorem fU (m : Mem) : (fL m).length = 3 := rfl
theorem gZ (x : Nd) : (ndC x).length = 2 := rfl
theorem i7 (e : Ent) : (fX e).length = 7 := rfl
def j7 (m : Mem) : List UInt8 := fI m.id ++ (fj m.pub ++ fj m.sgn)
def ndL (x : Nd) : List UInt8 := fI x.author ++ fI x.seq
def gE (e : Ent) : List UInt8 := fI 1 ++ (fI e.n ++ (fj e.prev ++ (fI e.members.length ++ (e.members.flatMap j7 ++ (fI e.ends.length ++ (e.ends.flatMap ndL ++ fj e.once))))))
def fV (e : Ent) : List UInt8 := gE e ++ (fI e.boxes.length ++ e.boxes.flatMap fj)
def jy (e : Ent) : List UInt8 := fV e ++ fj e.sig
structure OkE (e : Ent) : Prop where
  prev : e.prev.length ≤ 5000
  ml : e.members.length ≤ 100
  ms : ∀ m ∈ e.members,m.pub.length ≤ 5000 ∧ m.sgn.length ≤ 5000
  el : e.ends.length ≤ 1000
  once : e.once.length ≤ 5000
  bl : e.boxes.length ≤ 100
  bs : ∀ b ∈ e.boxes,b.length ≤ 5000
  sig : e.sig.length ≤ 5000
theorem iH (s : List UInt8) : (fj s).length ≤ 7 + s.length := by
  unfold fj
  rw [List.length_append]
  have := fT s.length
  omega
theorem memL_len {m : Mem} (h : m.pub.length ≤ 5000 ∧ m.sgn.length ≤ 5000) : (j7 m).length ≤ 10021 := by
  unfold j7
  have := fT m.id
  have := iH m.pub
  have := iH m.sgn
  simp only [List.length_append]
  omega
theorem ndL_len (x : Nd) : (ndL x).length ≤ 14 := by
  unfold ndL
  have := fT x.author
  have := fT x.seq
  simp only [List.length_append]
  omega
theorem mems_len {l : List Mem} (h : ∀ m ∈ l,m.pub.length ≤ 5000 ∧ m.sgn.length ≤ 5000) (hl : l.length ≤ 100) : (l.flatMap j7).length ≤ 1002100 :=
  Nat.le_trans (iO j7 10021 l fun x hx => memL_len (h x hx)) (by omega)
theorem nds_len {l : List Nd} (hl : l.length ≤ 1000) : (l.flatMap ndL).length ≤ 14000 :=
  Nat.le_trans (iO ndL 14 l fun x _ => ndL_len x) (by omega)
theorem boxes_len {l : List (List UInt8)} (h : ∀ b ∈ l,b.length ≤ 5000) (hl : l.length ≤ 100) : (l.flatMap fj).length ≤ 500700 :=
  Nat.le_trans (iO fj 5007 l fun x hx => by have := iH x; have := h x hx; omega) (by omega)
theorem iz {e : Ent} (h : OkE e) : (gE e).length ≤ 1030000 := by
  have h1 := fT 1
  have h2 := fT e.n
  have h3 := iH e.prev
  have h4 := fT e.members.length
  have h5 := mems_len h.ms h.ml
  have h6 := fT e.ends.length
  have h7 := nds_len h.el
  have h8 := iH e.once
  have := h.prev
  have := h.once
  unfold gE
  simp only [List.length_append]
  omega
theorem iM {e : Ent} (h : OkE e) : (fV e).length ≤ 1540000 := by
  have h1 := iz h
  have h2 := fT e.boxes.length
  have h3 := boxes_len h.bs h.bl
  unfold fV
  simp only [List.length_append]
  omega
end Go.Proofs.YtjlnpngaiphnmaaGreat
end
section
set_option linter.unusedSimpArgs false
set_option linter.unusedVariables false
set_option maxRecDepth 20000
set_option maxHeartbeats 8000000
namespace Go.Proofs.YtjlnpngaiphnmaaGreat
open Go Go.Abs Go.Proofs
abbrev noM : Mem := ⟨0,[],[]⟩
def fu : List Mem → Int → Mem × Bool
  | [],_ => (noM,false)
  | m :: l,id => if m.id = id then (m,true) else fu l id
def gC : Int → List Int → Bool
  | _,[] => true
  | last,n :: l => decide (last < n) && (decide (n < 5) && gC n l)
def jQ (m : Mem) : Bool := decide (m.pub.length = 32) && decide (m.sgn.length = 32)
def kC (x : Nd) : Bool := decide (0 ≤ x.seq) && decide (x.seq ≤ 1048576)
def gV (ms : List Mem) (es : List Nd) : Bool := decide ((ms.map Mem.id).headD 1 = 0) && (gC (-1) (ms.map Mem.id) && (gC (-1) (es.map Nd.author) && (ms.all jQ && es.all kC)))
theorem iJ {ms : List Mem} {i : Nat} (h : i < ms.length) : List.take 3 (List.drop (i * 3) (ms.flatMap fL)) = [.sc (.int .i64 (ms[i]).id),eu (ms[i]).pub,eu (ms[i]).sgn] := jZ fU h
theorem nd_load {es : List Nd} {i : Nat} (h : i < es.length) : List.take 2 (List.drop (i * 2) (es.flatMap ndC)) = [.sc (.int .i64 (es[i]).author),.sc (.int .i64 (es[i]).seq)] := jZ gZ h
theorem find_pure (ms : List Mem) (id : Int) (hl : ms.length ≤ 1000000) : APure Tryz.prog 83 [fE ms,.sc (.int .i64 id)] (.tup [.agg (fL (fu ms id).1),.sc (.bool (fu ms id).2)]) := by
  have hcl : (ms.flatMap fL).length = ms.length * 3 := fF fU ms
  have hld := fun i (h : i < ms.length) => iJ h
  refine az (c := ⟨Tryz.prog,21,[(1000003,[7])],[],[]⟩) (rs := [ResultVar.cell 4 30,ResultVar.tmp 5]) Tryz.mixed Tryz.func83 rfl rfl rfl (Nat.le_of_ble_eq_true rfl) (by kernel_rfl) fun H => ?_
  simp (disch := omega) only [↓aI,↓zP,aD,zD,aS,simprocAttr,Tryz.facts,zA]
  intro b4 hb40 hb4
  try simp (disch := omega) only [↓aI,↓zP,aD,zD,aS,simprocAttr,Tryz.facts,zA]
  refine br (c := ⟨Tryz.prog,21,[(1000003,[7])],[],[]⟩) Tryz.mixed (by kernel_rfl) (fun mm σ H' => H' = H.set b4 (.cells [.sc (.int .i64 0),.sc (.slice none 0 0),.sc (.slice none 0 0)] 30 3) ∧ ∃ (i : Nat),i + mm = ms.length ∧ fu (ms.drop i) id = fu ms id ∧
    σ 1 = .sc (.int .i64 id) ∧ σ 4 = .ptr b4 0 ∧ σ 8 = fE ms ∧ σ 9 = .sc (.int .i64 (ms.length : Nat)) ∧ σ 10 = .sc (.int .i64 (i : Nat))) ms.length ?_ ?_
  · refine ⟨rfl,0,by omega,rfl,?_⟩
    simp (disch := omega) only [↓aI,↓zP,aD,zD,aS,simprocAttr,Tryz.facts,zA]
  · rintro mm σ H' ⟨rfl,i,him,hf,s1,s4,s8,s9,s10⟩
    by_cases hlt : i < ms.length
    · have hd : ms.drop i = ms[i] :: ms.drop (i + 1) := List.drop_eq_getElem_cons hlt
      have hl := hld i hlt
      have hc3 : i * 3 + 3 ≤ ms.length * 3 := by omega
      rw [hd] at hf
      generalize fu ms id = R at *
      unfold fu at hf
      generalize ms[i] = m at *
      obtain ⟨mi,mp,mg⟩ := m
      simp only [] at hf hl
      by_cases c : mi = id
      · rw [if_pos c] at hf
        subst hf
        simp (disch := omega) only [↓aI,↓zP,aD,zD,aS,simprocAttr,Tryz.facts,zA,s1,s4,s8,s9,s10,hcl,hl,hc3,ah]
        intro k7 hk70 hk7
        have n47 := bK hk7
        try simp (disch := omega) only [↓aI,↓zP,aD,zD,aS,simprocAttr,Tryz.facts,zA,s1,s4,s8,s9,s10,hcl,hl,hc3,ah,aj hk7]
        exact ⟨rfl,Sub.set_new hb4⟩
      · rw [if_neg c] at hf
        simp (disch := omega) only [↓aI,↓zP,aD,zD,aS,simprocAttr,Tryz.facts,zA,s1,s4,s8,s9,s10,hcl,hl,hc3,ah]
        intro k7 hk70 hk7
        try simp (disch := omega) only [↓aI,↓zP,aD,zD,aS,simprocAttr,Tryz.facts,zA,s1,s4,s8,s9,s10,hcl,hl,hc3,ah,aj hk7]
        exact ⟨mm - 1,by omega,i + 1,by omega,hf,rfl⟩
    · obtain rfl : i = ms.length := by omega
      rw [List.drop_length] at hf
      rw [← hf]
      simp (disch := omega) only [↓aI,↓zP,aD,zD,aS,simprocAttr,Tryz.facts,zA,s1,s4,s8,s9,s10,hcl,fu,ah]
      exact ⟨rfl,Sub.set_new hb4⟩
theorem p1_pure (m : Mem) : APure Tryz.prog 64 [.agg (fL m)] (.sc (.int .i64 m.id)) := by
  obtain ⟨mi,mp,mg⟩ := m
  simp only [fL]
  refine az (c := ⟨Tryz.prog,5,[(1000000,[1])],[],[]⟩) (rs := [ResultVar.tmp 2]) Tryz.mixed Tryz.func64 rfl rfl rfl (Nat.le_of_ble_eq_true rfl) (by kernel_rfl) fun H => ?_
  simp (disch := omega) only [↓aI,↓zP,aD,zD,aS,simprocAttr,Tryz.facts,zA]
  intro k hk0 hk
  try simp (disch := omega) only [↓aI,↓zP,aD,zD,aS,simprocAttr,Tryz.facts,zA,aj hk]
  exact Abs.Sub.refl _
theorem p2_pure (x : Nd) : APure Tryz.prog 66 [.agg (ndC x)] (.sc (.int .i64 x.author)) := by
  obtain ⟨xa,xs⟩ := x
  simp only [ndC]
  refine az (c := ⟨Tryz.prog,5,[(1000000,[1])],[],[]⟩) (rs := [ResultVar.tmp 2]) Tryz.mixed Tryz.func66 rfl rfl rfl (Nat.le_of_ble_eq_true rfl) (by kernel_rfl) fun H => ?_
  simp (disch := omega) only [↓aI,↓zP,aD,zD,aS,simprocAttr,Tryz.facts,zA]
  intro k hk0 hk
  try simp (disch := omega) only [↓aI,↓zP,aD,zD,aS,simprocAttr,Tryz.facts,zA,aj hk]
  exact Abs.Sub.refl _
theorem rising1_pure (ms : List Mem) (hl : ms.length ≤ 1000000) : APure Tryz.prog 63 [fE ms,.fn (.func 64) [] []] (.sc (.bool (gC (-1) (ms.map Mem.id)))) := by
  have hcl : (ms.flatMap fL).length = ms.length * 3 := fF fU ms
  have hld := fun i (h : i < ms.length) => iJ h
  have hp := fun m => p1_pure m
  generalize hR : gC (-1) (ms.map Mem.id) = R at *
  refine az (c := ⟨Tryz.prog,27,[(1000004,[7])],[],[]⟩) (rs := [ResultVar.tmp 4]) Tryz.mixed Tryz.func63 rfl rfl rfl (Nat.le_of_ble_eq_true rfl) (by kernel_rfl) fun H => ?_
  simp (disch := omega) only [↓aI,↓zP,aD,zD,aS,simprocAttr,Tryz.facts,zA]
  refine br (c := ⟨Tryz.prog,27,[(1000004,[7])],[],[]⟩) Tryz.mixed (by kernel_rfl) (fun mm σ H' => H' = H ∧ ∃ (i : Nat) (last : Int),i + mm = ms.length ∧ gC last ((ms.drop i).map Mem.id) = R ∧
    σ 1 = .fn (.func 64) [] [] ∧ σ 5 = .sc (.int .i64 last) ∧ σ 9 = fE ms ∧ σ 10 = .sc (.int .i64 (ms.length : Nat)) ∧ σ 11 = .sc (.int .i64 (i : Nat))) ms.length ?_ ?_
  · refine ⟨rfl,0,-1,by omega,hR,?_⟩
    simp (disch := omega) only [↓aI,↓zP,aD,zD,aS,simprocAttr,Tryz.facts,zA]
  · rintro mm σ H' ⟨rfl,i,last,him,hf,s1,s5,s9,s10,s11⟩
    by_cases hlt : i < ms.length
    · have hd : ms.drop i = ms[i] :: ms.drop (i + 1) := List.drop_eq_getElem_cons hlt
      have hl := hld i hlt
      have hc3 : i * 3 + 3 ≤ ms.length * 3 := by omega
      have hp1 := hp ms[i]
      rw [hd,List.map_cons] at hf
      unfold gC at hf
      generalize ms[i] = m at *
      obtain ⟨mi,mp,mg⟩ := m
      simp only [fL] at hf hl hp1
      by_cases c1 : last < mi
      · by_cases c2 : mi < 5
        · rw [decide_eq_true c1,decide_eq_true c2,Bool.true_and,Bool.true_and] at hf
          simp (disch := omega) only [↓aI,↓zP,aD,zD,aS,simprocAttr,Tryz.facts,zA,s1,s5,s9,s10,s11,hcl,hl,hc3,ah]
          intro k7 hk70 hk7
          try simp (disch := omega) only [↓aI,↓zP,aD,zD,aS,simprocAttr,Tryz.facts,zA,s1,s5,s9,s10,s11,hcl,hl,hc3,ah,aj hk7]
          first | refine CallK.p (hp1) ?_ | refine CallP.i (hp1) ?_
          simp (disch := omega) only [↓aI,↓zP,aD,zD,aS,simprocAttr,Tryz.facts,zA,s1,s5,s9,s10,s11]
          exact ⟨mm - 1,by omega,i + 1,mi,by omega,hf,rfl,rfl⟩
        · rw [decide_eq_true c1,decide_eq_false c2,Bool.true_and,Bool.false_and] at hf
          subst hf
          simp (disch := omega) only [↓aI,↓zP,aD,zD,aS,simprocAttr,Tryz.facts,zA,s1,s5,s9,s10,s11,hcl,hl,hc3,ah]
          intro k7 hk70 hk7
          try simp (disch := omega) only [↓aI,↓zP,aD,zD,aS,simprocAttr,Tryz.facts,zA,s1,s5,s9,s10,s11,hcl,hl,hc3,ah,aj hk7]
          first | refine CallK.p (hp1) ?_ | refine CallP.i (hp1) ?_
          simp (disch := omega) only [↓aI,↓zP,aD,zD,aS,simprocAttr,Tryz.facts,zA,s1,s5,s9,s10,s11]
          first | exact Abs.Sub.refl _ | exact ⟨rfl,Abs.Sub.refl _⟩ | (trace_state; fail)
      · rw [decide_eq_false c1,Bool.false_and] at hf
        subst hf
        simp (disch := omega) only [↓aI,↓zP,aD,zD,aS,simprocAttr,Tryz.facts,zA,s1,s5,s9,s10,s11,hcl,hl,hc3,ah]
        intro k7 hk70 hk7
        try simp (disch := omega) only [↓aI,↓zP,aD,zD,aS,simprocAttr,Tryz.facts,zA,s1,s5,s9,s10,s11,hcl,hl,hc3,ah,aj hk7]
        first | refine CallK.p (hp1) ?_ | refine CallP.i (hp1) ?_
        simp (disch := omega) only [↓aI,↓zP,aD,zD,aS,simprocAttr,Tryz.facts,zA,s1,s5,s9,s10,s11]
        first | exact Abs.Sub.refl _ | exact ⟨rfl,Abs.Sub.refl _⟩ | (trace_state; fail)
    · obtain rfl : i = ms.length := by omega
      rw [List.drop_length,List.map_nil] at hf
      unfold gC at hf
      subst hf
      simp (disch := omega) only [↓aI,↓zP,aD,zD,aS,simprocAttr,Tryz.facts,zA,s1,s5,s9,s10,s11,hcl]
      first | exact Abs.Sub.refl _ | exact ⟨rfl,Abs.Sub.refl _⟩ | (trace_state; fail)
end Go.Proofs.YtjlnpngaiphnmaaGreat
end
section
set_option linter.unusedSimpArgs false
set_option linter.unusedVariables false
set_option maxRecDepth 20000
set_option maxHeartbeats 8000000
namespace Go.Proofs.YtjlnpngaiphnmaaGreat
open Go Go.Abs Go.Proofs
theorem core_pure (b : List UInt8) (e : Ent) (hb : b.length ≤ 100) (he : OkE e) : APure Tryz.prog 57 [eu b,.agg (fX e)] (eu (b ++ gE e)) := by
  have l1 := fT 1
  have l2 := fT e.n
  have l3 := iH e.prev
  have l4 := fT e.members.length
  have l5 := mems_len he.ms he.ml
  have l6 := fT e.ends.length
  have l7 := nds_len he.el
  have q1 := he.prev
  have q2 := he.once
  have q3 := he.ml
  have q4 := he.el
  have h1 := iY b (by omega) 1
  have h2 := iY (b ++ fI 1) (by simp only [List.length_append]; omega) e.n
  have h3 := jB (b ++ fI 1 ++ fI e.n) e.prev (by simp only [List.length_append]; omega) (by omega)
  have h4 := iY (b ++ fI 1 ++ fI e.n ++ fj e.prev) (by simp only [List.length_append]; omega) e.members.length
  have h5 := iY (b ++ fI 1 ++ fI e.n ++ fj e.prev ++ fI e.members.length ++ e.members.flatMap j7) (by simp only [List.length_append]; omega) e.ends.length
  have h6 := jB (b ++ fI 1 ++ fI e.n ++ fj e.prev ++ fI e.members.length ++ e.members.flatMap j7 ++ fI e.ends.length ++ e.ends.flatMap ndL) e.once (by simp only [List.length_append]; omega) (by omega)
  have hfin : b ++ fI 1 ++ fI e.n ++ fj e.prev ++ fI e.members.length ++ e.members.flatMap j7 ++ fI e.ends.length ++ e.ends.flatMap ndL ++ fj e.once = b ++ gE e := by
    unfold gE
    simp only [List.append_assoc]
  rw [hfin] at h6
  have lp4 : (b ++ fI 1 ++ fI e.n ++ fj e.prev ++ fI e.members.length).length ≤ 6000 := by simp only [List.length_append]; omega
  have lp6 : (b ++ fI 1 ++ fI e.n ++ fj e.prev ++ fI e.members.length ++ e.members.flatMap j7 ++ fI e.ends.length).length ≤ 1020000 := by simp only [List.length_append]; omega
  generalize b ++ gE e = R at *
  generalize b ++ fI 1 ++ fI e.n ++ fj e.prev ++ fI e.members.length = p4 at *
  generalize b ++ fI 1 ++ fI e.n ++ fj e.prev = p3 at *
  generalize b ++ fI 1 ++ fI e.n = p2 at *
  generalize b ++ fI 1 = p1 at *
  obtain ⟨Z,hZ⟩ : ∃ Z : Nat → List UInt8,∀ i,Z i = p4 ++ (e.members.take i).flatMap j7 := ⟨_,fun _ => rfl⟩
  have hZ0 : p4 = Z 0 := by rw [hZ]; simp
  have hZn : p4 ++ e.members.flatMap j7 = Z e.members.length := by rw [hZ,List.take_length]
  have hZl : ∀ i,(Z i).length ≤ 1010000 := fun i => by
    rw [hZ,List.length_append]
    have := Nat.le_trans (iO j7 10021 (e.members.take i) fun x hx => memL_len (he.ms x (List.mem_of_mem_take hx))) (Nat.mul_le_mul_right _ (List.length_take_le' i e.members))
    omega
  have hZs : ∀ i (h : i < e.members.length),Z (i + 1) = Z i ++ fI (e.members[i]).id ++ fj (e.members[i]).pub ++ fj (e.members[i]).sgn := fun i h => by
    rw [hZ,hZ,jH j7 h]
    unfold j7
    simp only [List.append_assoc]
  rw [hZn] at h5 h6 lp6
  rw [hZ0] at h4
  generalize Z e.members.length ++ fI e.ends.length = p6 at *
  obtain ⟨Y,hY⟩ : ∃ Y : Nat → List UInt8,∀ i,Y i = p6 ++ (e.ends.take i).flatMap ndL := ⟨_,fun _ => rfl⟩
  have hY0 : p6 = Y 0 := by rw [hY]; simp
  have hYn : p6 ++ e.ends.flatMap ndL = Y e.ends.length := by rw [hY,List.take_length]
  have hYl : ∀ i,(Y i).length ≤ 1040000 := fun i => by
    rw [hY,List.length_append]
    have := Nat.le_trans (iO ndL 14 (e.ends.take i) fun x _ => ndL_len x) (Nat.mul_le_mul_right _ (List.length_take_le' i e.ends))
    omega
  have hYs : ∀ i (h : i < e.ends.length),Y (i + 1) = Y i ++ fI (e.ends[i]).author ++ fI (e.ends[i]).seq := fun i h => by
    rw [hY,hY,jH ndL h]
    unfold ndL
    simp only [List.append_assoc]
  rw [hYn] at h6
  rw [hY0] at h5
  have hms := he.ms
  clear hZ hY hZ0 hY0 hZn hYn lp4 lp6 l1 l2 l3 l4 l5 l6 l7
  obtain ⟨n,prev,ms,es,once,bs,sig⟩ := e
  simp only [fX] at *
  have hml : (ms.flatMap fL).length = ms.length * 3 := fF fU ms
  have hel : (es.flatMap ndC).length = es.length * 2 := fF gZ es
  refine az (c := ⟨Tryz.prog,64,[(1,[0,0,0,1,0,0,1,0,0]),(6,[0,0,1,0,0,1,0,0,1,0,0]),(12,[0,0,1,0,0,1,0,0]),(1000000,[3]),(1000005,[6]),(1000011,[8]),(4000014,[4]),(4000012,[0,3,46,47,48]),(4000008,[0,3]),(4000006,[0,3,23,24,25]),(4000002,[0,3]),(4000001,[0,3])],[],[]⟩) (rs := [ResultVar.tmp 4]) Tryz.mixed Tryz.func57 rfl rfl rfl (Nat.le_of_ble_eq_true rfl) (by kernel_rfl) fun H => ?_
  simp (disch := omega) only [↓aI,↓zP,aD,zD,aS,simprocAttr,Tryz.facts,zA]
  intro k hk0 hk
  try simp (disch := omega) only [↓aI,↓zP,aD,zD,aS,simprocAttr,Tryz.facts,zA,aj hk]
  first | refine CallK.p (h1) ?_ | refine CallP.i (h1) ?_
  simp (disch := omega) only [↓aI,↓zP,aD,zD,aS,simprocAttr,Tryz.facts,zA]
  first | refine CallK.p (h2) ?_ | refine CallP.i (h2) ?_
  simp (disch := omega) only [↓aI,↓zP,aD,zD,aS,simprocAttr,Tryz.facts,zA]
  first | refine CallK.p (h3) ?_ | refine CallP.i (h3) ?_
  simp (disch := omega) only [↓aI,↓zP,aD,zD,aS,simprocAttr,Tryz.facts,zA]
  first | refine CallK.p (h4) ?_ | refine CallP.i (h4) ?_
  simp (disch := omega) only [↓aI,↓zP,aD,zD,aS,simprocAttr,Tryz.facts,zA]
  refine br (c := ⟨Tryz.prog,64,[(1,[0,0,0,1,0,0,1,0,0]),(6,[0,0,1,0,0,1,0,0,1,0,0]),(12,[0,0,1,0,0,1,0,0]),(1000000,[3]),(1000005,[6]),(1000011,[8]),(4000014,[4]),(4000012,[0,3,46,47,48]),(4000008,[0,3]),(4000006,[0,3,23,24,25]),(4000002,[0,3]),(4000001,[0,3])],[],[]⟩) Tryz.mixed (by kernel_rfl) (fun mm σ H' => H' = H ∧ ∃ (i : Nat),i + mm = ms.length ∧ σ 0 = eu (Z i) ∧ σ 3 = .ip [.sc (.int .i64 n),eu prev,fE ms,fY es,eu once,fZ bs,eu sig] 0 ∧ σ 23 = fE ms ∧ σ 24 = .sc (.int .i64 (ms.length : Nat)) ∧ σ 25 = .sc (.int .i64 (i : Nat))) ms.length ?_ ?_
  · refine ⟨aj hk,0,by omega,?_⟩
    simp (disch := omega) only [↓aI,↓zP,aD,zD,aS,simprocAttr,Tryz.facts,zA]
    try rfl
  · rintro mm σ H' ⟨rfl,i,him,s0,s3,s23,s24,s25⟩
    by_cases hlt : i < ms.length
    · have hld := jZ fU hlt
      have hm := hms ms[i] (List.getElem_mem hlt)
      have hz := hZl i
      have lq1 := fT (ms[i]).id
      have lq2 := iH (ms[i]).pub
      have a1 := iY (Z i) (by omega) (ms[i]).id
      have a2 := jB (Z i ++ fI (ms[i]).id) (ms[i]).pub (by simp only [List.length_append]; omega) (by omega)
      have a3 := jB (Z i ++ fI (ms[i]).id ++ fj (ms[i]).pub) (ms[i]).sgn (by simp only [List.length_append]; omega) (by omega)
      rw [← hZs i hlt] at a3
      generalize Z i ++ fI (ms[i]).id = A at *
      generalize A ++ fj (ms[i]).pub = B at *
      generalize ms[i] = m at *
      obtain ⟨mi,mp,mg⟩ := m
      simp only [fL] at hld a1 a2 a3
      have hc3 : i * 3 + 3 ≤ ms.length * 3 := by omega
      simp (disch := omega) only [↓aI,↓zP,aD,zD,aS,simprocAttr,Tryz.facts,zA,s0,s3,s23,s24,s25,hml,hld,hc3,ah]
      intro k6 hk60 hk6
      try simp (disch := omega) only [↓aI,↓zP,aD,zD,aS,simprocAttr,Tryz.facts,zA,s0,s3,s23,s24,s25,hml,hld,hc3,ah,aj hk6]
      first | refine CallK.p (a1) ?_ | refine CallP.i (a1) ?_
      simp (disch := omega) only [↓aI,↓zP,aD,zD,aS,simprocAttr,Tryz.facts,zA,s0,s3,s23,s24,s25]
      first | refine CallK.p (a2) ?_ | refine CallP.i (a2) ?_
      simp (disch := omega) only [↓aI,↓zP,aD,zD,aS,simprocAttr,Tryz.facts,zA,s0,s3,s23,s24,s25]
      first | refine CallK.p (a3) ?_ | refine CallP.i (a3) ?_
      simp (disch := omega) only [↓aI,↓zP,aD,zD,aS,simprocAttr,Tryz.facts,zA,s0,s3,s23,s24,s25]
      exact ⟨mm - 1,by omega,aj hk6,i + 1,by omega,rfl,rfl⟩
    · obtain rfl : i = ms.length := by omega
      simp (disch := omega) only [↓aI,↓zP,aD,zD,aS,simprocAttr,Tryz.facts,zA,s0,s3,s23,s24,s25]
      first | refine CallK.p (h5) ?_ | refine CallP.i (h5) ?_
      simp (disch := omega) only [↓aI,↓zP,aD,zD,aS,simprocAttr,Tryz.facts,zA,s0,s3,s23,s24,s25]
      refine br (c := ⟨Tryz.prog,64,[(1,[0,0,0,1,0,0,1,0,0]),(6,[0,0,1,0,0,1,0,0,1,0,0]),(12,[0,0,1,0,0,1,0,0]),(1000000,[3]),(1000005,[6]),(1000011,[8]),(4000014,[4]),(4000012,[0,3,46,47,48]),(4000008,[0,3]),(4000006,[0,3,23,24,25]),(4000002,[0,3]),(4000001,[0,3])],[],[]⟩) Tryz.mixed (by kernel_rfl) (fun mm σ H2 => H2 = H' ∧ ∃ (i : Nat),i + mm = es.length ∧ σ 0 = eu (Y i) ∧ σ 3 = .ip [.sc (.int .i64 n),eu prev,fE ms,fY es,eu once,fZ bs,eu sig] 0 ∧ σ 46 = fY es ∧ σ 47 = .sc (.int .i64 (es.length : Nat)) ∧ σ 48 = .sc (.int .i64 (i : Nat))) es.length ?_ ?_
      · refine ⟨rfl,0,by omega,?_⟩
        simp (disch := omega) only [↓aI,↓zP,aD,zD,aS,simprocAttr,Tryz.facts,zA]
        try rfl
      · rintro mm σ H2 ⟨rfl,i,him,s0,s3,s46,s47,s48⟩
        by_cases hlt : i < es.length
        · have hld := jZ gZ hlt
          have hz := hYl i
          have lq1 := fT (es[i]).author
          have a1 := iY (Y i) (by omega) (es[i]).author
          have a2 := iY (Y i ++ fI (es[i]).author) (by simp only [List.length_append]; omega) (es[i]).seq
          rw [← hYs i hlt] at a2
          have hc3 : i * 2 + 2 ≤ es.length * 2 := by omega
          generalize Y i ++ fI (es[i]).author = A at *
          generalize es[i] = x at *
          obtain ⟨xa,xs⟩ := x
          simp only [ndC] at hld a1 a2
          simp (disch := omega) only [↓aI,↓zP,aD,zD,aS,simprocAttr,Tryz.facts,zA,s0,s3,s46,s47,s48,hel,hld,hc3,ah]
          intro k6 hk60 hk6
          try simp (disch := omega) only [↓aI,↓zP,aD,zD,aS,simprocAttr,Tryz.facts,zA,s0,s3,s46,s47,s48,hel,hld,hc3,ah,aj hk6]
          first | refine CallK.p (a1) ?_ | refine CallP.i (a1) ?_
          simp (disch := omega) only [↓aI,↓zP,aD,zD,aS,simprocAttr,Tryz.facts,zA,s0,s3,s46,s47,s48]
          first | refine CallK.p (a2) ?_ | refine CallP.i (a2) ?_
          simp (disch := omega) only [↓aI,↓zP,aD,zD,aS,simprocAttr,Tryz.facts,zA,s0,s3,s46,s47,s48]
          trace_state
          exact ⟨mm - 1,by omega,aj hk6,i + 1,by omega,rfl,rfl⟩
        · obtain rfl : i = es.length := by omega
          simp (disch := omega) only [↓aI,↓zP,aD,zD,aS,simprocAttr,Tryz.facts,zA,s0,s3,s46,s47,s48]
          first | refine CallK.p (h6) ?_ | refine CallP.i (h6) ?_
          simp (disch := omega) only [↓aI,↓zP,aD,zD,aS,simprocAttr,Tryz.facts,zA,s0,s3,s46,s47,s48]
          trace_state
          exact Abs.Sub.refl _
end Go.Proofs.YtjlnpngaiphnmaaGreat
end
section
set_option linter.unusedSimpArgs false
set_option linter.unusedVariables false
set_option maxRecDepth 20000
set_option maxHeartbeats 8000000
namespace Go.Proofs.YtjlnpngaiphnmaaGreat
open Go Go.Abs Go.Proofs
theorem box_get {bs : List (List UInt8)} {i : Nat} (h : i < bs.length) : (bs.map eu)[i]? = some (eu bs[i]) := by simp [h]
theorem kQ (b : List UInt8) (e : Ent) (hb : b.length ≤ 100) (he : OkE e) : APure Tryz.prog 43 [eu b,.agg (fX e)] (eu (b ++ fV e)) := by
  have l1 := iz he
  have l2 := fT e.boxes.length
  have l3 := he.bl
  have h1 := core_pure b e hb he
  have h2 := iY (b ++ gE e) (by simp only [List.length_append]; omega) e.boxes.length
  have hfin : b ++ gE e ++ fI e.boxes.length ++ e.boxes.flatMap fj = b ++ fV e := by
    unfold fV
    simp only [List.append_assoc]
  have lp : (b ++ gE e ++ fI e.boxes.length).length ≤ 1030200 := by simp only [List.length_append]; omega
  rw [← hfin]
  generalize b ++ gE e ++ fI e.boxes.length = p2 at *
  generalize b ++ gE e = p1 at *
  obtain ⟨Z,hZ⟩ : ∃ Z : Nat → List UInt8,∀ i,Z i = p2 ++ (e.boxes.take i).flatMap fj := ⟨_,fun _ => rfl⟩
  have hZ0 : p2 = Z 0 := by rw [hZ]; simp
  have hZn : p2 ++ e.boxes.flatMap fj = Z e.boxes.length := by rw [hZ,List.take_length]
  have hZl : ∀ i,(Z i).length ≤ 1540000 := fun i => by
    rw [hZ,List.length_append]
    have := Nat.le_trans (iO fj 5007 (e.boxes.take i) fun x hx => by have := iH x; have := he.bs x (List.mem_of_mem_take hx); omega) (Nat.mul_le_mul_right _ (List.length_take_le' i e.boxes))
    omega
  have hZs : ∀ i (h : i < e.boxes.length),Z (i + 1) = Z i ++ fj (e.boxes[i]) := fun i h => by
    rw [hZ,hZ,jH fj h,List.append_assoc]
  have hbs := he.bs
  rw [hZn]
  rw [hZ0] at h2
  clear hZ hZ0 hZn hfin lp l1
  obtain ⟨n,prev,ms,es,once,bs,sig⟩ := e
  simp only [fX] at *
  have hbl : (bs.map eu).length = bs.length := by simp
  refine az (c := ⟨Tryz.prog,26,[(1,[0,1,0,0,1,1,0,0]),(1000000,[3])],[],[]⟩) (rs := [ResultVar.tmp 4]) Tryz.mixed Tryz.func43 rfl rfl rfl (Nat.le_of_ble_eq_true rfl) (by kernel_rfl) fun H => ?_
  simp (disch := omega) only [↓aI,↓zP,aD,zD,aS,simprocAttr,Tryz.facts,zA]
  intro k hk0 hk
  try simp (disch := omega) only [↓aI,↓zP,aD,zD,aS,simprocAttr,Tryz.facts,zA,aj hk]
  first | refine CallK.p (h1) ?_ | refine CallP.i (h1) ?_
  simp (disch := omega) only [↓aI,↓zP,aD,zD,aS,simprocAttr,Tryz.facts,zA]
  first | refine CallK.p (h2) ?_ | refine CallP.i (h2) ?_
  simp (disch := omega) only [↓aI,↓zP,aD,zD,aS,simprocAttr,Tryz.facts,zA]
  refine br (c := ⟨Tryz.prog,26,[(1,[0,1,0,0,1,1,0,0]),(1000000,[3])],[],[]⟩) Tryz.mixed (by kernel_rfl) (fun mm σ H' => H' = H ∧ ∃ (i : Nat),i + mm = bs.length ∧ σ 0 = eu (Z i) ∧ σ 15 = fZ bs ∧ σ 16 = .sc (.int .i64 (bs.length : Nat)) ∧ σ 17 = .sc (.int .i64 (i : Nat))) bs.length ?_ ?_
  · refine ⟨aj hk,0,by omega,?_⟩
    simp (disch := omega) only [↓aI,↓zP,aD,zD,aS,simprocAttr,Tryz.facts,zA]
    try rfl
  · rintro mm σ H' ⟨rfl,i,him,s0,s15,s16,s17⟩
    by_cases hlt : i < bs.length
    · have hg := box_get hlt
      have hz := hZl i
      have hb5 := hbs bs[i] (List.getElem_mem hlt)
      have a1 := jB (Z i) (bs[i]) (by omega) (by omega)
      rw [← hZs i hlt] at a1
      generalize bs[i] = x at *
      simp (disch := omega) only [↓aI,↓zP,aD,zD,aS,simprocAttr,Tryz.facts,zA,s0,s15,s16,s17,hbl,hg]
      first | refine CallK.p (a1) ?_ | refine CallP.i (a1) ?_
      simp (disch := omega) only [↓aI,↓zP,aD,zD,aS,simprocAttr,Tryz.facts,zA,s0,s15,s16,s17]
      exact ⟨mm - 1,by omega,i + 1,by omega,rfl,rfl⟩
    · obtain rfl : i = bs.length := by omega
      simp (disch := omega) only [↓aI,↓zP,aD,zD,aS,simprocAttr,Tryz.facts,zA,s0,s15,s16,s17]
      first | exact Abs.Sub.refl _ | exact ⟨rfl,Abs.Sub.refl _⟩
theorem putR_pure (b : List UInt8) (e : Ent) (hb : b.length ≤ 100) (he : OkE e) : APure Tryz.prog 12 [eu b,.agg (fX e)] (eu (b ++ jy e)) := by
  have l1 := iM he
  have l2 := he.sig
  have h1 := kQ b e hb he
  have h2 := jB (b ++ fV e) e.sig (by simp only [List.length_append]; omega) (by omega)
  have hfin : b ++ fV e ++ fj e.sig = b ++ jy e := by
    unfold jy
    simp only [List.append_assoc]
  rw [hfin] at h2
  generalize b ++ jy e = R at *
  generalize b ++ fV e = p1 at *
  clear hfin l1
  obtain ⟨n,prev,ms,es,once,bs,sig⟩ := e
  simp only [fX] at *
  refine az (c := ⟨Tryz.prog,11,[(1,[0,1,0,0,1,0,0]),(1000000,[3])],[],[]⟩) (rs := [ResultVar.tmp 4]) Tryz.mixed Tryz.func12 rfl rfl rfl (Nat.le_of_ble_eq_true rfl) (by kernel_rfl) fun H => ?_
  simp (disch := omega) only [↓aI,↓zP,aD,zD,aS,simprocAttr,Tryz.facts,zA]
  intro k hk0 hk
  try simp (disch := omega) only [↓aI,↓zP,aD,zD,aS,simprocAttr,Tryz.facts,zA,aj hk]
  first | refine CallK.p (h1) ?_ | refine CallP.i (h1) ?_
  simp (disch := omega) only [↓aI,↓zP,aD,zD,aS,simprocAttr,Tryz.facts,zA]
  first | refine CallK.p (h2) ?_ | refine CallP.i (h2) ?_
  simp (disch := omega) only [↓aI,↓zP,aD,zD,aS,simprocAttr,Tryz.facts,zA]
  first | exact Abs.Sub.refl _ | exact Sub.box hk | exact ⟨rfl,Abs.Sub.refl _⟩ | (trace_state; fail)
theorem iN (b : List UInt8) (hb : b.length ≤ 4000000) (z : Int) : APure Tryz.prog 69 [eu b,.sc (.int .i64 z)] (eu (b ++ fI z)) := by
  have h := rnum_pure b hb z
  generalize b ++ fI z = R at *
  refine az (c := ⟨Tryz.prog,8,[],[],[]⟩) (rs := [ResultVar.tmp 4]) Tryz.mixed Tryz.func69 rfl rfl rfl (Nat.le_of_ble_eq_true rfl) (by kernel_rfl) fun H => ?_
  simp (disch := omega) only [↓aI,↓zP,aD,zD,aS,simprocAttr,Tryz.facts,zA]
  first | refine CallK.p (h) ?_ | refine CallP.i (h) ?_
  simp (disch := omega) only [↓aI,↓zP,aD,zD,aS,simprocAttr,Tryz.facts,zA]
  first | exact Abs.Sub.refl _ | exact ⟨rfl,Abs.Sub.refl _⟩
theorem jE (b s : List UInt8) (hb : b.length ≤ 4000000) (hs : s.length ≤ 4000000) : APure Tryz.prog 44 [eu b,eu s] (eu (b ++ fj s)) := by
  have h := rtext_pure b s hb hs
  generalize b ++ fj s = R at *
  refine az (c := ⟨Tryz.prog,8,[],[],[]⟩) (rs := [ResultVar.tmp 4]) Tryz.mixed Tryz.func44 rfl rfl rfl (Nat.le_of_ble_eq_true rfl) (by kernel_rfl) fun H => ?_
  simp (disch := omega) only [↓aI,↓zP,aD,zD,aS,simprocAttr,Tryz.facts,zA]
  first | refine CallK.p (h) ?_ | refine CallP.i (h) ?_
  simp (disch := omega) only [↓aI,↓zP,aD,zD,aS,simprocAttr,Tryz.facts,zA]
  first | exact Abs.Sub.refl _ | exact ⟨rfl,Abs.Sub.refl _⟩
end Go.Proofs.YtjlnpngaiphnmaaGreat
end
