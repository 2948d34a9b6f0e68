/-
  An abstract logic over the model's walks, part Q: a map that is gone through.
  Conditions: none. Lemmas only.
-/
import Derived.Test.YtpmmafmbjconiaaAbsP
import Derived.Maps.RangeRun
set_option linter.all false
namespace Go.Abs
open Go Go.RowKit
variable {P : Program}
def bornAt (ms : Array MapEntry) (j : Nat) : Nat := (ms.toList.getD j default).born
/-- an iterator that has handed out the entries at these places -/
def itO (b clock : Nat) (ms : Array MapEntry) (js : List Nat) : Obj := .mapIter (some b) clock (js.map (bornAt ms)).toArray clock
def rangeK (P : Program) (t : TypeId) (x : AV) (H : AH) (K : AV → AH → Prop) : Prop := match P.underlying t, x with
  | some (.map _ _), .mp hm => (match H hm with
    | some (.map es) => ∀ hr, hr ≠ 0 → H hr = none → ∀ b ms clock, K (.itr hr hm b clock (es.map (·.1)) (es.map (·.2)) ms) ((H.set hm (.raw (.map ms clock))).set hr (.raw (itO b clock ms [])))
    | _ => False)
  | _, _ => False
def nextK (s : Bool) (it : AV) (H : AH) (K : AV → AH → Prop) : Prop := match it with
  | .itr hr hm b clock ks vs ms => s = false ∧ ∃ js, H hr = some (.raw (itO b clock ms js)) ∧ H hm = some (.raw (.map ms clock)) ∧ (∀ j ∈ js, j < ks.length) ∧
      ((∀ j, j < ks.length → j ∈ js) → K (.tup [.sc (.bool false)]) (H.set hm (.map (ks.zip vs)))) ∧
      (∀ j (h : j < ks.length), j ∉ js → K (.tup [.sc (.bool true), ks[j], vs.getD j .any]) (H.set hr (.raw (itO b clock ms (js ++ [j])))))
  | _ => False
def entryK (it : AV) (H : AH) (K : AV → AH → Prop) : Prop := match it with
  | .itr hr hm b clock ks vs ms => ∃ js j, ∃ h : j < ks.length, H hr = some (.raw (itO b clock ms (js ++ [j]))) ∧ H hm = some (.raw (.map ms clock)) ∧ K (.tup [ks[j], vs.getD j .any]) H
  | _ => False
theorem rangeK_sound {d : Option Tmp} {t : TypeId} {x : Operand} {ty : TypeId} {ps : String} {af : Array Edge} {gd : Option (Nat × Bool)} {ρ : Operand → AV} {H : AH} {K : AV → AH → Prop} (h : rangeK P t (ρ x) H K) :
    Eff P H ⟨d, .range t x, ty, ps, af, gd⟩ ρ K := by
  refine eff_of fun C ρ' hCH g hx => ?_
  have e1 := hx x (by simp [Op.operands])
  unfold rangeK at h
  split at h
  case h_2 => exact h.elim
  rename_i kt et hm hu hxm
  rw [hxm] at e1
  split at h
  case h_2 => exact h.elim
  rename_i es hH
  generalize hv : ρ' x = u at e1
  cases e1 with
  | mp _ hlt =>
  have hH' : C.H hm = some (.map es) := by rw [hCH]; exact hH
  obtain ⟨ms, clock, b1, b2, b3, b4⟩ := map_obj g hH'
  have hnt : ∀ m e s, AObj.map es ≠ .tail m e s := by intro _ _ _ h; cases h
  have ex0 := Ext.put g hH' (o' := .raw (.map ms clock)) rfl C.w rfl (fun b _ => rfl) rfl rfl rfl hnt
  have g0 := WR.put g hH' (o' := .raw (.map ms clock)) rfl C.w rfl (fun b _ => rfl) rfl rfl rfl hnt b1
  have ex1 := Ext.add g0 (.raw (itO (C.i hm) clock ms [])) (itO (C.i hm) clock ms []) 0
  have g1 := WR.add g0 (.raw (itO (C.i hm) clock ms [])) (itO (C.i hm) clock ms []) 0 (by
    show (C.w.alloc _).heap[upd C.i C.n C.w.heap.size C.n]? = _
    rw [upd_same]
    exact heap_alloc_new _ _)
  have hl : ms.size = es.length := by have := b2.1; simpa using this
  refine ⟨.value (.pointer (some ⟨C.w.heap.size, 0, none⟩)), _, C.w.alloc (itO (C.i hm) clock ms []), ?_, .inl rfl, .itr C.n hm (C.i hm) clock (es.map (·.1)) (es.map (·.2)) ms, _, ?_, rfl, g1, ex0.trans ex1, ?_⟩
  · have hr := run_range_map (P := P) C.w t kt et (C.i hm) ms clock hu b1
    simp only [execOp, hv]
    have e : itO (C.i hm) clock ms [] = .mapIter (some (C.i hm)) clock #[] clock := rfl
    rw [e]
    simp [hr]
  · have := h C.n (Nat.ne_of_gt g.pos) (by rw [← hCH]; exact new_none g) (C.i hm) ms clock
    rw [← hCH] at this
    exact this
  · have hh := VR.itr (C := ⟨(C.H.set hm (.raw (.map ms clock))).set C.n (.raw (itO (C.i hm) clock ms [])), C.n + 1, upd C.i C.n C.w.heap.size, upd C.c C.n 0, C.w.alloc (itO (C.i hm) clock ms [])⟩) C.n hm (C.i hm) clock (es.map (·.1)) (es.map (·.2)) ms (Nat.lt_succ_self _) (Nat.lt_succ_of_lt hlt)
      (upd_lt hlt) (by rw [List.length_map]; exact hl) (by rw [List.length_map]; exact hl) b3 b4
      (fun j hj => by rw [List.getElem_map]; exact ((b2.2 j (by simpa using hj)).1.ext ex0).ext ex1)
      (fun j hj => by rw [List.getElem_map]; exact ((b2.2 j (by simpa using hj)).2.ext ex0).ext ex1)
    have e2 : (⟨(C.H.set hm (.raw (.map ms clock))).set C.n (.raw (itO (C.i hm) clock ms [])), C.n + 1, upd C.i C.n C.w.heap.size, upd C.c C.n 0, C.w.alloc (itO (C.i hm) clock ms [])⟩ : Ctx).i C.n = C.w.heap.size := upd_same
    rw [e2] at hh
    exact hh
theorem born_get {ms : Array MapEntry} {j : Nat} (h : j < ms.size) : bornAt ms j = ms[j].born := by
  unfold bornAt
  simp [List.getD, h]
theorem born_idx {ms : Array MapEntry} (h4 : (ms.toList.map (·.born)).Nodup) {i j : Nat} (hi : i < ms.size) (hj : j < ms.size) (e : bornAt ms i = bornAt ms j) : i = j := by
  rw [born_get hi, born_get hj] at e
  have e1 : (ms.toList.map (·.born))[i]'(by simpa using hi) = (ms.toList.map (·.born))[j]'(by simpa using hj) := by simpa using e
  exact (List.getElem_inj h4).1 e1
theorem nextK_sound {d : Option Tmp} {s : Bool} {it : Operand} {ty : TypeId} {ps : String} {af : Array Edge} {gd : Option (Nat × Bool)} {ρ : Operand → AV} {H : AH} {K : AV → AH → Prop} (h : nextK s (ρ it) H K) :
    Eff P H ⟨d, .next it s, ty, ps, af, gd⟩ ρ K := by
  refine eff_of fun C ρ' hCH g hx => ?_
  have e1 := hx it (by simp [Op.operands])
  unfold nextK at h
  split at h
  case h_2 => exact h.elim
  rename_i hr hm b clock ks vs ms hit
  obtain ⟨rfl, js, q1, q2, q3, q4, q5⟩ := h
  rw [hit] at e1
  generalize hv : ρ' it = u at e1
  cases e1 with
  | itr _ _ _ _ _ _ _ h1 h2 hb hk hl h3 h4 g1 g2 =>
  have q1' : C.H hr = some (.raw (itO b clock ms js)) := by rw [hCH]; exact q1
  have q2' : C.H hm = some (.raw (.map ms clock)) := by rw [hCH]; exact q2
  have o1 : C.w.heap[C.i hr]? = some (itO b clock ms js) := g.obj hr _ q1'
  have o2 : C.w.heap[C.i hm]? = some (.map ms clock) := g.obj hm _ q2'
  rw [hb] at o2
  have hold : ∀ x ∈ ms.toList, x.born < clock := fun x hx => by
    obtain ⟨j, hj, rfl⟩ := List.getElem_of_mem hx
    simpa using h3 j (by simpa using hj)
  have hnt : ∀ o : Obj, ∀ m e s, AObj.raw o ≠ .tail m e s := by intro _ _ _ _ h; cases h
  rcases run_next_at (P := P) C.w ty (C.i hr) b clock clock (js.map (bornAt ms)).toArray ms clock o1 o2 hold (Nat.le_refl _) with ⟨hs, hrun⟩ | ⟨e, he, w1, hw1, hrun⟩
  · have hall : ∀ j, j < ks.length → j ∈ js := fun j hj => by
      have hj' : j < ms.size := by omega
      have hx : ms[j].born ∈ js.map (bornAt ms) := by
        have : (leftOf ms (js.map (bornAt ms)).toArray) = #[] := Array.eq_empty_of_size_eq_zero hs
        unfold leftOf at this
        rw [Array.filter_eq_empty_iff] at this
        have := this ms[j] (Array.getElem_mem hj')
        simpa using this
      obtain ⟨i, hi, hie⟩ := List.mem_map.1 hx
      rw [← born_get hj'] at hie
      have := born_idx h4 (by have := q3 i hi; omega) hj' hie
      rw [← this]; exact hi
    have ex := Ext.put g q2' (o' := .map (ks.zip vs)) rfl C.w rfl (fun b _ => rfl) rfl rfl rfl (hnt _)
    refine ⟨.value (.tuple #[.bool false]), _, C.w, by simp [execOp, hv, hrun], .inl rfl, .tup [.sc (.bool false)], ⟨C.H.set hm (.map (ks.zip vs)), C.n, C.i, C.c, C.w⟩, ?_, rfl, WR.put g q2' (o' := .map (ks.zip vs)) rfl C.w rfl (fun b _ => rfl) rfl rfl rfl (hnt _) ?_, ex, ?_⟩
    · have := q4 hall
      rw [← hCH] at this
      exact this
    · refine ⟨ms, clock, by rw [← hb] at o2; exact o2, ⟨by simp; omega, fun j hj => ?_⟩, h3, h4⟩
      have hj1 : j < ks.length := by simp at hj; omega
      have hj2 : j < vs.length := by simp at hj; omega
      rw [List.getElem_zip]
      exact ⟨(g1 j hj1).ext ex, (g2 j hj2).ext ex⟩
    · exact .tup _ _ rfl fun j hj => by
        match j, hj with
        | 0, _ => exact .sc _
  · obtain ⟨hem, hes⟩ : e ∈ ms.toList ∧ e.born ∉ js.map (bornAt ms) := by
      unfold leftOf at he
      simpa using he
    obtain ⟨j, hj, rfl⟩ := List.getElem_of_mem hem
    have hj' : j < ms.size := by simpa using hj
    have hjk : j < ks.length := by omega
    have hjv : j < vs.length := by omega
    have hbj : bornAt ms j = (ms.toList[j]).born := by rw [born_get hj']; simp
    have hnj : j ∉ js := fun hm => hes (List.mem_map.2 ⟨j, hm, hbj⟩)
    have hsz : C.i hr < C.w.heap.size := g.blk hr _ q1' rfl
    have hw : w1.heap = C.w.heap ∧ w1.os = C.w.os ∧ w1.tape = C.w.tape ∧ w1.output = C.w.output := by rcases hw1 with rfl | rfl <;> exact ⟨rfl, rfl, rfl, rfl⟩
    have hob : itO b clock ms (js ++ [j]) = .mapIter (some b) clock ((js.map (bornAt ms)).toArray.push (ms.toList[j]).born) clock := by
      unfold itO
      rw [List.map_append, List.map_cons, List.map_nil, hbj]
      simp
    rw [← hob] at hrun
    obtain ⟨w2, hw2⟩ : ∃ w2, w2 = ChangeMaps.setBlock w1 (C.i hr) (itO b clock ms (js ++ [j])) := ⟨_, rfl⟩
    rw [← hw2] at hrun
    have hheap : w2.heap = C.w.heap.setIfInBounds (C.i hr) (itO b clock ms (js ++ [j])) := by rw [hw2]; show w1.heap.setIfInBounds _ _ = _; rw [hw.1]
    have hoth : ∀ b', b' ≠ C.i hr → w2.heap[b']? = C.w.heap[b']? := fun b' hb' => by
      rw [hheap, Array.getElem?_setIfInBounds_ne (Ne.symm hb')]
    have a1 : w2.os = C.w.os := by rw [hw2]; exact hw.2.1
    have a2 : w2.tape = C.w.tape := by rw [hw2]; exact hw.2.2.1
    have a3 : w2.output = C.w.output := by rw [hw2]; exact hw.2.2.2
    have ex := Ext.put g q1' (o' := .raw (itO b clock ms (js ++ [j]))) rfl w2 (by rw [hheap]; simp) hoth a1 a2 a3 (hnt _)
    refine ⟨.value (.tuple #[.bool true, (ms.toList[j]).key, (ms.toList[j]).val]), _, w2, by simp [execOp, hv, hrun], .inl rfl, .tup [.sc (.bool true), ks[j], vs.getD j .any], _, ?_, rfl,
      WR.put g q1' (o' := .raw (itO b clock ms (js ++ [j]))) rfl w2 (by rw [hheap]; simp) hoth a1 a2 a3 (hnt _) ?_, ex, ?_⟩
    · have := q5 j hjk hnj
      rw [← hCH] at this
      exact this
    · show w2.heap[C.i hr]? = _
      rw [hheap]
      simp [hsz]
    · have k1 := (g1 j hjk).ext ex
      have k2 := (g2 j hjv).ext ex
      have e3 : ms.toList.getD j default = ms.toList[j] := by simp [List.getD, hj']
      rw [e3] at k1 k2
      have e4 : vs.getD j .any = vs[j] := by simp [List.getD, hjv]
      rw [e4]
      exact .tup _ _ rfl fun i hi => by
        match i, hi with
        | 0, _ => exact .sc _
        | 1, _ => exact k1
        | 2, _ => exact k2
theorem entryK_sound {d : Option Tmp} {it : Operand} {ty : TypeId} {ps : String} {af : Array Edge} {gd : Option (Nat × Bool)} {ρ : Operand → AV} {H : AH} {K : AV → AH → Prop} (h : entryK (ρ it) H K) :
    Eff P H ⟨d, .entry it, ty, ps, af, gd⟩ ρ K := by
  refine eff_of fun C ρ' hCH g hx => ?_
  have e1 := hx it (by simp [Op.operands])
  unfold entryK at h
  split at h
  case h_2 => exact h.elim
  rename_i hr hm b clock ks vs ms hit
  obtain ⟨js, j, hjk, q1, q2, q3⟩ := h
  rw [hit] at e1
  generalize hv : ρ' it = u at e1
  cases e1 with
  | itr _ _ _ _ _ _ _ h1 h2 hb hk hl h3 h4 g1 g2 =>
  have q1' : C.H hr = some (.raw (itO b clock ms (js ++ [j]))) := by rw [hCH]; exact q1
  have q2' : C.H hm = some (.raw (.map ms clock)) := by rw [hCH]; exact q2
  have o1 : C.w.heap[C.i hr]? = some (itO b clock ms (js ++ [j])) := g.obj hr _ q1'
  have o2 : C.w.heap[C.i hm]? = some (.map ms clock) := g.obj hm _ q2'
  rw [hb] at o2
  have hj' : j < ms.size := by omega
  have hjv : j < vs.length := by omega
  have hbj : bornAt ms j = (ms.toList[j]'(by simpa using hj')).born := by rw [born_get hj']; simp
  have hob : itO b clock ms (js ++ [j]) = .mapIter (some b) clock ((js.map (bornAt ms)).toArray.push (ms.toList[j]'(by simpa using hj')).born) clock := by
    unfold itO
    rw [List.map_append, List.map_cons, List.map_nil, hbj]
    simp
  rw [hob] at o1
  have hrun := run_entry_at (P := P) C.w (C.i hr) b clock (js.map (bornAt ms)).toArray ms clock _ o1 o2 (List.getElem_mem _) h4
  refine ⟨.value (.tuple #[(ms.toList[j]'(by simpa using hj')).key, (ms.toList[j]'(by simpa using hj')).val]), _, C.w, by simp [execOp, hv, hrun], .inl rfl, .tup [ks[j], vs.getD j .any], C, ?_, rfl, g, Ext.refl _, ?_⟩
  · rw [← hCH] at q3
    exact q3
  · have k1 := g1 j hjk
    have k2 := g2 j hjv
    have e3 : ms.toList.getD j default = ms.toList[j]'(by simpa using hj') := by simp [List.getD, hj']
    rw [e3] at k1 k2
    have e4 : vs.getD j .any = vs[j] := by simp [List.getD, hjv]
    rw [e4]
    exact .tup _ _ rfl fun i hi => by
      match i, hi with
      | 0, _ => exact k1
      | 1, _ => exact k2
end Go.Abs
