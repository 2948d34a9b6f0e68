/-
  An abstract logic over the model's walks, part K: operations that make, write or grow memory.
  Conditions: none. Lemmas only.
-/
import Derived.Test.YtpmmafmbjconiaaAbsJ
set_option linter.all false
namespace Go.Abs
open Go Go.RowKit
variable {P : Program}

/-- what may be appended to, of m cells so far -/
def TokO (e : TypeId) (s : Nat) (o : AObj) (m : Nat) : Prop := o = .tail m e s ∨ (m = 0 ∧ o = .nilt)

/-- an operation with an effect: what is wanted of each world -/
theorem eff_of {o : Oper} {H : AH} {ρ : Operand → AV} {R : AV → AH → Prop}
    (h : ∀ (C : Ctx) (ρ' : Operand → Value), C.H = H → WR C → (∀ x ∈ o.op.operands, VR C (ρ x) (ρ' x)) →
      ∃ nx u w', (execOp ρ' o).run P C.w = .ok nx w' ∧ (nx = .value u ∨ (nx = .skip ∧ u = undef)) ∧ ∃ v D, R v D.H ∧ D.w = w' ∧ WR D ∧ Ext C D ∧ VR D v u) : Eff P H o ρ R := by
  intro n i c w ρ' g hx
  obtain ⟨nx, u, w', h1, h2, v, D, hR, hw, hWR, hE, hV⟩ := h ⟨H, n, i, c, w⟩ ρ' rfl g hx
  obtain ⟨DH, Dn, Di, Dc, Dw⟩ := D
  simp only [] at hw h1
  subst hw
  rw [h1]
  rcases h2 with rfl | ⟨rfl, rfl⟩
  · exact ⟨v, DH, Dn, Di, Dc, hR, hWR, hE, hV⟩
  · exact ⟨v, DH, Dn, Di, Dc, hR, hWR, hE, hV⟩

/-! ### live cells -/
theorem run_loadVar_live {C : Ctx} {h : Nat} {cs : List AV} {e : TypeId} {s : Nat} {off : Nat} {t : TypeId} {a : AV} (g : WR C) (ho : C.H h = some (.cells cs e s)) (hp : partA P t cs off = some a) :
    ∃ r, (loadVar t ⟨C.i h, off, none⟩).run P C.w = .ok r C.w ∧ VR C a r := by
  obtain ⟨vs, fz, h1, h2, h3, h4, h5⟩ := g.obj h _ ho
  have hcell : ∀ j, j < vs.size → C.w.cell? ⟨C.i h, j, none⟩ = some (vs.getD j undef) := fun j hj => by
    rw [cell_of_row C.w (C.i h) j vs e fz h1, getD_lt hj]
    exact Array.getElem?_eq_getElem hj
  unfold partA at hp
  split at hp
  · cases hp
  · rename_i d hd
    split at hp
    · rename_i hagg
      split at hp
      · rename_i hcc
        obtain ⟨ht, hle⟩ := hcc
        simp only [Option.some.injEq] at hp
        subst hp
        have hl : (loadCells ⟨C.i h, off, none⟩ (szOf P t)).run P C.w = .ok ((List.range (szOf P t)).map fun j => vs.getD (off + j) undef).toArray C.w :=
          run_loadCells C.w _ _ (fun j => vs.getD (off + j) undef) fun j hj => by rw [addr_add]; exact hcell _ (by omega)
        refine ⟨_, by simp only [loadVar, Sem.run_bind, run_isAgg hd, hagg, Result.andThen_ok, if_true, run_sizeOf ht, hl, Sem.run_pure]; rfl, ?_⟩
        refine .agg _ _ (by simp; omega) (fun j hj => ?_) (fun j hj => ?_)
        · have hj' : j < szOf P t := by simpa using hj
          have := (h5 (off + j) (by omega)).2
          simpa [hj'] using this
        · have hj' : j < szOf P t := by rw [List.length_take, List.length_drop] at hj; omega
          rw [List.getElem_take, List.getElem_drop]
          have := (h5 (off + j) (by omega)).1
          simpa [hj'] using this
      · cases hp
    · rename_i hagg
      have hlt : off < cs.length := by
        rcases Nat.lt_or_ge off cs.length with h' | h'
        · exact h'
        · rw [List.getElem?_eq_none h'] at hp; cases hp
      rw [List.getElem?_eq_getElem hlt] at hp
      simp only [Option.some.injEq] at hp
      subst hp
      exact ⟨vs.getD off undef, by simp only [loadVar, Sem.run_bind, run_isAgg hd, hagg, Result.andThen_ok, Bool.false_eq_true, if_false, run_load, hcell off (by omega)], (h5 off hlt).1⟩

theorem run_storeCells_free (g o : Nat) (t : TypeId) (fz : Nat × Nat) : ∀ (vs : List Value) (i : Nat) (cur : Array Value) (w : World), w.heap[g]? = some (.cells cur t fz) → Free fz cur.size → o + i + vs.length ≤ cur.size → (∀ v ∈ vs, v.oneCell' = true) →
    (storeCells ⟨g, o, none⟩ vs i).run P w = .ok () (w.setRow g (cur.toList.take (o + i) ++ vs ++ cur.toList.drop (o + i + vs.length)).toArray)
  | [], i, cur, w, hg, _, _, _ => by
    simp only [storeCells, List.append_nil, List.length_nil, Nat.add_zero, List.take_append_drop, Array.toArray_toList]
    rw [setRow_self w g cur t fz hg]
    rfl
  | v :: rest, i, cur, w, hg, hf, hl, h1 => by
    have hi : o + i < cur.size := by simp at hl; omega
    have hadd : (⟨g, o, none⟩ : Addr).add i = ⟨g, o + i, none⟩ := by unfold Addr.add; split <;> simp_all
    have hcell : w.cell? ⟨g, o + i, none⟩ = some cur[o + i] := by simp [World.cell?, hg, hi]
    have hfro : w.frozen? ⟨g, o + i, none⟩ = false := by
      obtain ⟨lo, hi'⟩ := fz
      have := hf (o + i) hi
      simpa [World.frozen?, hg] using this
    have hst : (store ((⟨g, o, none⟩ : Addr).add i) v).run P w = .ok () (w.setRow g (cur.setIfInBounds (o + i) v)) := by
      rw [hadd, run_store P w _ v _ (h1 v (by simp)), hcell]
      simp [hfro, setCell_eq_setRow w g (o + i) cur t fz v hg]
    have ih := run_storeCells_free g o t fz rest (i + 1) (cur.setIfInBounds (o + i) v) (w.setRow g (cur.setIfInBounds (o + i) v)) (setRow_heap w g cur _ t _ hg) (by simpa using hf) (by simp at hl ⊢; omega) (fun x hx => h1 x (by simp [hx]))
    simp only [storeCells, Sem.run_bind, hst, Result.andThen_ok, ih, setRow_setRow]
    congr 3
    have e := list_seg_step cur.toList (o + i) v rest (by simp at hl ⊢; omega)
    simpa [Array.toList_setIfInBounds, Nat.add_assoc] using e

theorem seg_get (cur : List Value) (off : Nat) (l : List Value) (h : off + l.length ≤ cur.length) (j : Nat) : (cur.take off ++ l ++ cur.drop (off + l.length))[j]? = if off ≤ j ∧ j < off + l.length then l[j - off]? else cur[j]? := by
  have ht : (cur.take off).length = off := by simp; omega
  by_cases h1 : j < off
  · rw [if_neg (by omega), List.append_assoc, List.getElem?_append_left (by omega), List.getElem?_take, if_pos h1]
  · by_cases h2 : j < off + l.length
    · rw [if_pos (by omega), List.getElem?_append_left (by simp; omega), List.getElem?_append_right (by omega), ht]
    · rw [if_neg (by omega), List.getElem?_append_right (by simp; omega), List.getElem?_drop]
      congr 1
      simp
      omega

theorem getD_eq (vs : Array Value) (j : Nat) : vs.getD j undef = (vs.toList[j]?).getD undef := by simp

/-- a store into a live row -/
theorem store_live {C : Ctx} {h : Nat} {cs l : List AV} {lv : Array Value} {e : TypeId} {s off : Nat} (g : WR C) (ho : C.H h = some (.cells cs e s)) (hl : Cells C l lv) (hle : off + l.length ≤ cs.length) :
    ∃ w', (storeCells ⟨C.i h, off, none⟩ lv.toList).run P C.w = .ok () w' ∧ WR ⟨C.H.set h (.cells (putCells cs off l) e s), C.n, C.i, C.c, w'⟩ ∧ Ext C ⟨C.H.set h (.cells (putCells cs off l) e s), C.n, C.i, C.c, w'⟩ := by
  obtain ⟨vs, fz, h1, h2, h3, h4, h5⟩ := g.obj h _ ho
  have hsz := hl.1
  have hrun := run_storeCells_free (P := P) (C.i h) off e fz lv.toList 0 vs C.w h1 h2 (by simp; omega) (fun v hv => by
    obtain ⟨j, hj, rfl⟩ := List.getElem_of_mem hv
    have hj' : j < lv.size := by simpa using hj
    have := hl.2.1 j hj'
    rw [getD_lt hj'] at this
    simpa using this)
  simp only [Nat.add_zero] at hrun
  have hb : ∀ b, b ≠ C.i h → (C.w.setRow (C.i h) (vs.toList.take off ++ lv.toList ++ vs.toList.drop (off + lv.toList.length)).toArray).heap[b]? = C.w.heap[b]? := fun b hb => setRow_other _ _ _ _ hb
  have hnt : ∀ m e' s', AObj.cells cs e s ≠ .tail m e' s' := by intro _ _ _ h; cases h
  have ex := Ext.put g ho (o' := .cells (putCells cs off l) e s) rfl (C.w.setRow (C.i h) (vs.toList.take off ++ lv.toList ++ vs.toList.drop (off + lv.toList.length)).toArray) (by simp) hb rfl rfl rfl hnt
  refine ⟨_, hrun, ?_, ex⟩
  refine WR.put g ho (o' := .cells (putCells cs off l) e s) rfl _ (by simp) hb rfl rfl rfl hnt ?_
  have hsize : (vs.toList.take off ++ lv.toList ++ vs.toList.drop (off + lv.toList.length)).toArray.size = vs.size := by simp; omega
  refine ⟨_, fz, setRow_heap _ _ _ _ _ _ h1, by rw [hsize]; exact h2, by rw [hsize]; exact h3, by rw [hsize, putCells_length _ _ _ hle]; exact h4, fun j hj => ?_⟩
  rw [putCells_length _ _ _ hle] at hj
  have hg := putCells_get cs off l hle j
  rw [List.getElem?_eq_getElem (by rw [putCells_length _ _ _ hle]; exact hj)] at hg
  have hv := seg_get vs.toList off lv.toList (by simp; omega) j
  rw [getD_eq]
  simp only [] at hv ⊢
  rw [hv]
  have hlt : lv.toList.length = l.length := by simp [hsz]
  split at hg
  · rename_i hc
    rw [if_pos (by rw [hlt]; exact hc)]
    have hjl : j - off < lv.size := by omega
    have e1 := hl.2.1 (j - off) hjl
    have e2 := hl.get hg.symm
    rw [getD_eq] at e1 e2
    exact ⟨e2.ext ex, e1⟩
  · rename_i hc
    rw [if_neg (by rw [hlt]; exact hc)]
    have e3 := h5 j hj
    rw [List.getElem?_eq_getElem hj] at hg
    simp only [Option.some.injEq] at hg
    rw [hg, ← getD_eq]
    exact ⟨e3.1.ext ex, e3.2⟩

/-- a new live row -/
theorem cells_new {C : Ctx} {cs : List AV} {vs : Array Value} {e : TypeId} {s c : Nat} (g : WR C) (h : Cells C cs vs) (hc : vs.size = c * s) :
    WR ⟨C.H.set C.n (.cells cs e s), C.n + 1, upd C.i C.n C.w.heap.size, upd C.c C.n c, C.w.alloc (.cells vs e)⟩ ∧ Ext C ⟨C.H.set C.n (.cells cs e s), C.n + 1, upd C.i C.n C.w.heap.size, upd C.c C.n c, C.w.alloc (.cells vs e)⟩ := by
  have ex := Ext.add g (.cells cs e s) (.cells vs e) c
  refine ⟨WR.add g (.cells cs e s) (.cells vs e) c ?_, ex⟩
  refine ⟨vs, (0, 0), ?_, fun off _ => by simp, ?_, by rw [h.1]; exact Nat.le_refl _, fun j hj => ⟨(h.2.2 j hj).ext ex, h.2.1 j (by rw [h.1]; exact hj)⟩⟩
  · show (C.w.alloc (.cells vs e)).heap[upd C.i C.n C.w.heap.size C.n]? = _
    rw [upd_same]
    exact heap_alloc_new _ _
  · show vs.size = upd C.c C.n c C.n * s
    rw [upd_same]
    exact hc

/-! ### append -/
/-- what is appended: cells, and where they are read -/
def Src (C : Ctx) (x : AV) (news : List AV) (m : Nat) : Prop := match x with
  | .imm _ cells n => news = cells ∧ m = n
  | .own h off n => ∃ cs e s, C.H h = some (.cells cs e s) ∧ m = n ∧ off + n * s ≤ cs.length ∧ news = (cs.drop off).take (n * s)
  | _ => False

theorem grow_tok {C : Ctx} {k m : Nat} {e : TypeId} {s : Nat} (g : WR C) (ho : C.H k = some (.tail m e s)) {news : List AV} {nv : List Value} (hlen : nv.length = news.length) (h1 : ∀ v ∈ nv, v.oneCell' = true)
    (hv : ∀ j (h : j < news.length), VR C news[j] (nv.getD j undef)) (hfit : m + news.length ≤ C.c k * s) :
    ∃ w', (storeCells ⟨C.i k, m, none⟩ nv).run P C.w = .ok () w' ∧ WR ⟨(C.H.kill k).set C.n (.tail (m + news.length) e s), C.n + 1, upd C.i C.n (C.i k), upd C.c C.n (C.c k), w'⟩ ∧
      Ext C ⟨(C.H.kill k).set C.n (.tail (m + news.length) e s), C.n + 1, upd C.i C.n (C.i k), upd C.c C.n (C.c k), w'⟩ ∧
      ∀ j (h : j < news.length), w'.cell? ⟨C.i k, m + j, none⟩ = some (nv.getD j undef) := by
  obtain ⟨vs, fz, e1, e2, e3, e4⟩ := g.obj k _ ho
  have hrun := run_storeCells_free (P := P) (C.i k) m e fz nv 0 vs C.w e1 e2 (by omega) h1
  simp only [Nat.add_zero] at hrun
  have hsize : (vs.toList.take m ++ nv ++ vs.toList.drop (m + nv.length)).toArray.size = vs.size := by simp; omega
  have hheap := setRow_heap C.w (C.i k) vs (vs.toList.take m ++ nv ++ vs.toList.drop (m + nv.length)).toArray e fz e1
  have hseg := seg_get vs.toList m nv (by simp; omega)
  have hb : ∀ b, b ≠ C.i k → (C.w.setRow (C.i k) (vs.toList.take m ++ nv ++ vs.toList.drop (m + nv.length)).toArray).heap[b]? = C.w.heap[b]? := fun b hb => setRow_other _ _ _ _ hb
  have hc : ∀ off, off < m → (C.w.setRow (C.i k) (vs.toList.take m ++ nv ++ vs.toList.drop (m + nv.length)).toArray).cell? ⟨C.i k, off, none⟩ = C.w.cell? ⟨C.i k, off, none⟩ := fun off ho => by
    rw [cell_of_row _ _ _ _ _ _ hheap, cell_of_row _ _ _ _ _ _ e1, List.getElem?_toArray, hseg, if_neg (by omega)]
    simp
  have hn : ∀ a : Addr, a.block = C.i k → a.spot ≠ none → (C.w.setRow (C.i k) (vs.toList.take m ++ nv ++ vs.toList.drop (m + nv.length)).toArray).cell? a = C.w.cell? a := fun a ha hs => by
    have : a.spot.isSome = true := by cases h : a.spot <;> simp_all
    unfold World.cell?
    rw [ha, hheap, e1]
    simp [this]
  have ex := Ext.grow (m' := m + news.length) g ho _ (by simp) hb rfl rfl rfl (by omega) hc hn
  refine ⟨_, hrun, WR.grow g ho _ (by simp) hb rfl rfl rfl (by omega) hc hn ⟨_, fz, hheap, by rw [hsize]; exact e2, by rw [hsize]; exact e3, by rw [hsize]; omega⟩, ex, fun j hj => ?_⟩
  rw [cell_of_row _ _ _ _ _ _ hheap, List.getElem?_toArray, hseg, if_pos (by omega)]
  have : m + j - m = j := by omega
  rw [this, List.getD, List.getElem?_eq_getElem (by omega)]
  rfl
end Go.Abs
