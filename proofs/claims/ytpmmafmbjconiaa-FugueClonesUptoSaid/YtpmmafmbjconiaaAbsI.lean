/-
  An abstract logic over the model's walks, part I: values that are put together, and conversions.
  Conditions: none. Lemmas only.
-/
import Derived.Test.YtpmmafmbjconiaaAbsG
set_option linter.all false
namespace Go.Abs
open Go Go.RowKit
variable {P : Program}

/-- pairwise, in cells -/
def Cells (C : Ctx) (cells : List AV) (vs : Array Value) : Prop :=
  vs.size = cells.length ∧ (∀ j, j < vs.size → (vs.getD j undef).oneCell' = true) ∧ ∀ j (h : j < cells.length), VR C cells[j] (vs.getD j undef)

theorem VR.one {C : Ctx} {a : AV} {v : Value} (h : VR C a v) (ho : a.one = true) : v.oneCell' = true := by
  cases h <;> simp [AV.one] at ho <;> first | rfl | exact ho

theorem VR.cells {C : Ctx} {a : AV} {v : Value} (h : VR C a v) (hf : a.fine = true) : Cells C a.cellsOf v.cells := by
  by_cases ha : ∃ cs, a = .agg cs
  · obtain ⟨cs, rfl⟩ := ha
    obtain ⟨vs, rfl, h1, h2, h3⟩ := h.agg_inv
    exact ⟨h1, h2, h3⟩
  · have ho : a.one = true := by
      unfold AV.fine at hf
      split at hf
      · exact absurd ⟨_, rfl⟩ ha
      · exact hf
    have h1 := h.one ho
    have e1 : a.cellsOf = [a] := by
      unfold AV.cellsOf
      split
      · exact absurd ⟨_, rfl⟩ ha
      · rfl
    have e2 : v.cells = #[v] := by
      cases v <;> first | rfl | cases h1
    rw [e1, e2]
    refine ⟨rfl, fun j hj => ?_, fun j hj => ?_⟩
    · have : j = 0 := by simp at hj; omega
      subst this
      exact h1
    · have : j = 0 := by simp at hj; omega
      subst this
      exact h

theorem getD_set (vs : Array Value) (i j : Nat) (v : Value) (hi : i < vs.size) : (vs.setIfInBounds i v).getD j undef = if j = i then v else vs.getD j undef := by
  by_cases h : j = i
  · subst h; simp [hi]
  · simp [Array.getElem?_setIfInBounds_ne (Ne.symm h), h]

theorem fold_set (off : Nat) : ∀ (l : List Value) (k : Nat) (vs : Array Value), off + k + l.length ≤ vs.size →
    ((l.zipIdx k).foldl (fun cs (p : Value × Nat) => cs.setIfInBounds (off + p.2) p.1) vs).size = vs.size ∧
    ∀ j, ((l.zipIdx k).foldl (fun cs (p : Value × Nat) => cs.setIfInBounds (off + p.2) p.1) vs).getD j undef = if off + k ≤ j ∧ j < off + k + l.length then l.getD (j - (off + k)) undef else vs.getD j undef
  | [], k, vs, _ => by
    refine ⟨rfl, fun j => ?_⟩
    simp only [List.zipIdx_nil, List.foldl_nil, List.length_nil]
    rw [if_neg (by omega)]
  | v :: l, k, vs, h => by
    simp only [List.length_cons] at h
    have ih := fold_set off l (k + 1) (vs.setIfInBounds (off + k) v) (by simp; omega)
    simp only [List.zipIdx_cons, List.foldl_cons]
    refine ⟨ih.1.trans (by simp), fun j => ?_⟩
    rw [ih.2 j, getD_set _ _ _ _ (by omega)]
    simp only [List.length_cons]
    by_cases h1 : j = off + k
    · subst h1
      rw [if_neg (by omega), if_pos rfl, if_pos (by omega)]
      simp
    · by_cases h2 : off + (k + 1) ≤ j ∧ j < off + (k + 1) + l.length
      · rw [if_pos h2, if_pos (by omega)]
        have : j - (off + k) = (j - (off + (k + 1))) + 1 := by omega
        rw [this, List.getD_cons_succ]
      · rw [if_neg h2, if_neg h1, if_neg (by omega)]

theorem fold_set_array (off : Nat) (cv vs : Array Value) (h : off + cv.size ≤ vs.size) :
    (cv.zipIdx.foldl (fun cs (p : Value × Nat) => cs.setIfInBounds (off + p.2) p.1) vs).size = vs.size ∧
    ∀ j, (cv.zipIdx.foldl (fun cs (p : Value × Nat) => cs.setIfInBounds (off + p.2) p.1) vs).getD j undef = if off ≤ j ∧ j < off + cv.size then cv.getD (j - off) undef else vs.getD j undef := by
  have := fold_set off cv.toList 0 vs (by simpa using h)
  rw [← Array.foldl_toList]
  have e : cv.zipIdx.toList = cv.toList.zipIdx := by simp
  rw [e]
  refine ⟨this.1, fun j => ?_⟩
  rw [this.2 j]
  simp [List.getD]

theorem putCells_length (cells : List AV) (off : Nat) (l : List AV) (h : off + l.length ≤ cells.length) : (putCells cells off l).length = cells.length := by
  simp [putCells]; omega

theorem putCells_get (cells : List AV) (off : Nat) (l : List AV) (h : off + l.length ≤ cells.length) (j : Nat) : (putCells cells off l)[j]? = if off ≤ j ∧ j < off + l.length then l[j - off]? else cells[j]? := by
  unfold putCells
  have ht : (cells.take off).length = off := by simp; omega
  by_cases h1 : j < off
  · rw [if_neg (by omega), List.append_assoc, List.getElem?_append_left (by omega), List.getElem?_take, if_pos h1]
  · by_cases h2 : j < off + l.length
    · rw [if_pos (by omega), List.getElem?_append_left (by simp; omega), List.getElem?_append_right (by omega), ht]
    · rw [if_neg (by omega), List.getElem?_append_right (by simp; omega), List.getElem?_drop]
      congr 1
      simp
      omega

theorem Cells.get {C : Ctx} {cells : List AV} {vs : Array Value} (h : Cells C cells vs) {j : Nat} {a : AV} (ha : cells[j]? = some a) : VR C a (vs.getD j undef) := by
  obtain ⟨h1, h2⟩ := List.getElem?_eq_some_iff.1 ha
  rw [← h2]
  exact h.2.2 j h1

theorem Cells.put {C : Ctx} {cells l : List AV} {vs lv : Array Value} {off : Nat} (h : Cells C cells vs) (g : Cells C l lv) (hle : off + l.length ≤ cells.length) :
    Cells C (putCells cells off l) (lv.zipIdx.foldl (fun cs (p : Value × Nat) => cs.setIfInBounds (off + p.2) p.1) vs) := by
  obtain ⟨f1, f2⟩ := fold_set_array off lv vs (by rw [g.1, h.1]; exact hle)
  refine ⟨by rw [f1, putCells_length _ _ _ hle]; exact h.1, fun j hj => ?_, fun j hj => ?_⟩
  · rw [f2 j]
    split
    · rename_i hc; exact g.2.1 _ (by omega)
    · exact h.2.1 _ (by omega)
  · have hg := putCells_get cells off l hle j
    rw [List.getElem?_eq_getElem hj] at hg
    rw [f2 j, g.1]
    split at hg
    · rename_i hc; rw [if_pos hc]; exact g.get hg.symm
    · rename_i hc; rw [if_neg hc]; exact h.get hg.symm

theorem fill_sound {C : Ctx} {place : Nat → Option (Nat × Nat)} : ∀ (parts : List (Nat × AV)) (pv : List (Nat × Value)) (cells cs : List AV) (vs : Array Value), Cells C cells vs →
    pv.length = parts.length → (∀ j (h : j < parts.length) (h' : j < pv.length), parts[j].1 = pv[j].1 ∧ VR C parts[j].2 pv[j].2) → fillA place cells parts = some cs → ∃ vs', Instr.fill place vs pv = some vs' ∧ Cells C cs vs'
  | [], pv, cells, cs, vs, h, hl, _, hf => by
    have : pv = [] := List.eq_nil_of_length_eq_zero (by simpa using hl)
    subst this
    simp only [fillA, Option.some.injEq] at hf
    subst hf
    exact ⟨vs, rfl, h⟩
  | (i, a) :: parts, pv, cells, cs, vs, h, hl, hr, hf => by
    cases pv with
    | nil => simp at hl
    | cons p pv =>
      obtain ⟨i', v⟩ := p
      have h0 := hr 0 (by simp) (by simp)
      simp only [List.getElem_cons_zero] at h0
      obtain ⟨rfl, hv⟩ := h0
      simp only [fillA] at hf
      split at hf
      · cases hf
      · rename_i off size hp
        split at hf
        · cases hf
        · rename_i hc
          simp only [not_or, Classical.not_not, Bool.not_eq_false] at hc
          obtain ⟨c1, c2, c3⟩ := hc
          have hcv := hv.cells c3
          have hsz : v.cells.size = size := hcv.1.trans c1
          have hput := h.put hcv (off := off) (by rw [c1]; omega)
          obtain ⟨vs', e1, e2⟩ := fill_sound parts pv _ cs _ hput (by simpa using hl) (fun j h1 h2 => hr (j + 1) (by simpa using h1) (by simpa using h2)) hf
          refine ⟨vs', ?_, e2⟩
          simp only [Instr.fill, hp]
          rw [if_neg (by simp only [hsz, ne_eq, not_true_eq_false, decide_false, Bool.false_or, decide_eq_true_eq]; have := h.1; omega)]
          exact e1

theorem zero_cells {C : Ctx} {t : TypeId} (h : hasT P t = true) : Cells C (zeroA P t) (zeOf P t).cells := by
  obtain ⟨i, hi, h1, h2, h3, h4, h5⟩ := hasT_spec h
  refine ⟨by simp [zeroA], fun j hj => by rw [getD_lt hj]; exact h5 j hj, fun j hj => ?_⟩
  have hj' : j < (zeOf P t).cells.size := by simpa [zeroA] using hj
  rw [getD_lt hj']
  simp only [zeroA, List.getElem_map, Array.getElem_toList]
  generalize (zeOf P t).cells[j] = x
  split
  · exact .nil
  · exact .sc _

theorem zeroN_cells {C : Ctx} {t : TypeId} (h : hasT P t = true) : Cells C (zeroN P t) (zeOf P t).cells := by
  obtain ⟨i, hi, h1, h2, h3, h4, h5⟩ := hasT_spec h
  refine ⟨by simp [zeroN], fun j hj => by rw [getD_lt hj]; exact h5 j hj, fun j hj => ?_⟩
  have hj' : j < (zeOf P t).cells.size := by simpa [zeroN] using hj
  rw [getD_lt hj']
  simp only [zeroN, List.getElem_map, Array.getElem_toList]
  exact .sc _

theorem Cells.agg {C : Ctx} {cells : List AV} {vs : Array Value} (h : Cells C cells vs) : VR C (.agg cells) (.agg vs) := .agg _ _ h.1 h.2.1 h.2.2

theorem run_zero {t : TypeId} (h : hasT P t = true) (w : World) : (zeroValue t).run P w = .ok (zeOf P t) w := by
  obtain ⟨i, hi, h1, h2, h3, _⟩ := hasT_spec h
  simp [zeroValue, typeInfo, hi, h3]

theorem run_places {fields : Array Field} (h : fields.all (fun f => hasT P f.type) = true) (w : World) : (fields.mapM (m := Sem) fun f => do pure (f.offset, ← sizeOf f.type)).run P w = .ok (fields.map fun f => (f.offset, szOf P f.type)) w := by
  have key : ∀ (l : List Field), (∀ f ∈ l, hasT P f.type = true) → ((l.mapM (m := Sem) fun f => do pure (f.offset, ← sizeOf f.type)) : Sem _).run P w = .ok (l.map fun f => (f.offset, szOf P f.type)) w := by
    intro l
    induction l with
    | nil => intro _; simp
    | cons f l ih =>
      intro hl
      have i1 := ih fun f hf => hl f (by simp [hf])
      simp only [List.mapM_cons, Sem.run_bind, run_sizeOf (hl f (by simp)), Result.andThen_ok, Sem.run_pure, i1, List.map_cons]
  rw [Array.mapM_eq_mapM_toList]
  have := key fields.toList (fun f hf => by
    have := Array.all_eq_true_iff_forall_mem.1 h f (by simpa using hf)
    exact this)
  simp only [Sem.run_map, this, Result.andThen_ok]
  congr 1
  apply Array.ext'
  simp

theorem buildK_sound {t : TypeId} {parts : List (Nat × AV)} {K : AV → Prop} (h : buildK P t parts K) : ∃ v, K v ∧ ∀ (C : Ctx) (pv : List (Nat × Value)) (w : World), pv.length = parts.length →
    (∀ j (h : j < parts.length) (h' : j < pv.length), parts[j].1 = pv[j].1 ∧ VR C parts[j].2 pv[j].2) → ∃ r, (Instr.build t pv.toArray).run P w = .ok r w ∧ VR C v r := by
  unfold buildK at h
  split at h
  · rename_i fields hu
    obtain ⟨⟨ht, hfs⟩, h⟩ := h
    split at h
    · rename_i cs hcs
      refine ⟨_, h, fun C pv w hl hr => ?_⟩
      obtain ⟨vs', e1, e2⟩ := fill_sound parts pv _ cs _ (zeroN_cells ht) hl hr hcs
      refine ⟨_, ?_, e2.agg⟩
      have hp := run_places (P := P) hfs w
      have e3 : Instr.fill (fun x => ((fields.map fun f => (f.offset, szOf P f.type))[x]? : Option (Nat × Nat))) (zeOf P t).cells pv = some vs' := by
        rw [← e1]
        congr 1
        funext i
        simp
      simp only [Instr.build, Sem.run_bind, run_zero ht, run_underlying hu, Result.andThen_ok, hp, e3, Sem.run_pure]
    · exact h.elim
  · rename_i n e hu
    obtain ⟨⟨ht, he⟩, h⟩ := h
    split at h
    · rename_i cs hcs
      refine ⟨_, h, fun C pv w hl hr => ?_⟩
      obtain ⟨vs', e1, e2⟩ := fill_sound parts pv _ cs _ (zeroN_cells ht) hl hr hcs
      exact ⟨_, by simp [Instr.build, run_zero ht, run_underlying hu, run_sizeOf he, e1], e2.agg⟩
    · exact h.elim
  · exact h.elim

/-! ### what makes a block that belongs to nobody -/
theorem outP_new {o : Oper} {ρ : Operand → AV} {K : AV → Prop} {v : AV} (hK : K v)
    (h : ∀ (C : Ctx) (ρ' : Operand → Value), WR C → (∀ x ∈ o.op.operands, VR C (ρ x) (ρ' x)) → ∃ u w', (execOp ρ' o).run P C.w = .ok (.value u) w' ∧ WR { C with w := w' } ∧ Ext C { C with w := w' } ∧ VR { C with w := w' } v u) : OutP P o ρ K := by
  refine ⟨v, fun H n i c w ρ' g hx => ?_, hK⟩
  obtain ⟨u, w', h1, h2, h3, h4⟩ := h ⟨H, n, i, c, w⟩ ρ' g hx
  simp only [] at h1
  rw [h1]
  exact ⟨v, H, n, i, c, ⟨rfl, rfl⟩, h2, h3, h4⟩

theorem at_new {C : Ctx} (g : WR C) (vs : Array Value) (e : TypeId) (fz : Nat × Nat) (j : Nat) (hj : j < vs.size) (h1 : (vs.getD j undef).oneCell' = true) : ({ C with w := C.w.alloc (.cells vs e fz) } : Ctx).At ⟨C.w.heap.size, j, none⟩ (vs.getD j undef) := by
  refine ⟨?_, fun h => ?_, h1⟩
  · show (C.w.alloc (.cells vs e fz)).cell? ⟨C.w.heap.size, j, none⟩ = _
    rw [World.cell?_alloc_mark]
    simp [hj]
  · have := Owned.lt g (Wr.owned h)
    simp at this

/-- a new block of cells, as a slice that nobody writes -/
theorem imm_new {C : Ctx} (g : WR C) {cells : List AV} {vs : Array Value} (hl : cells.length ≤ vs.size) (h1 : ∀ j, j < cells.length → (vs.getD j undef).oneCell' = true) (hv : ∀ j (h : j < cells.length), VR C cells[j] (vs.getD j undef))
    (e : TypeId) (fz : Nat × Nat) {n cap : Nat} (hn : n ≤ cap) (hm : cap ≤ maxLen) :
    WR { C with w := C.w.alloc (.cells vs e fz) } ∧ Ext C { C with w := C.w.alloc (.cells vs e fz) } ∧ VR { C with w := C.w.alloc (.cells vs e fz) } (.imm 0 cells n) (.slice (some ⟨C.w.heap.size, 0, none⟩) n cap) := by
  have ex := Ext.alloc (C := C) (.cells vs e fz)
  refine ⟨g.alloc _, ex, ?_⟩
  refine .imm 0 cells n _ cap hn hm (fun h => absurd rfl h) C.w.heap.size 0 (fun _ => rfl) (fun j => vs.getD j undef) (fun j hj => ?_) fun j hj => (hv j hj).ext ex
  rw [Nat.zero_add]
  exact at_new g vs e fz j (by omega) (h1 j hj)

theorem rep_cells {C : Ctx} {z : List AV} {zv : Array Value} (h : Cells C z zv) (hz : 0 < zv.size) (n : Nat) : Cells C (repA z n) ((Array.range (n * zv.size)).map (zv[· % zv.size]!)) := by
  have hl : ∀ n, (repA z n).length = n * zv.size := by
    intro n
    induction n with
    | zero => simp [repA]
    | succ n ih => simp [repA, ih, h.1, Nat.succ_mul, Nat.add_comm]
  have hg : ∀ j, j < n * zv.size → ((Array.range (n * zv.size)).map (zv[· % zv.size]!)).getD j undef = zv.getD (j % zv.size) undef := fun j hj => by
    have : j % zv.size < zv.size := Nat.mod_lt _ hz
    rw [getD_lt (by simpa using hj), getD_lt this]
    simp [this]
  have hr : ∀ n j, j < n * zv.size → (repA z n)[j]? = z[j % zv.size]? := by
    intro n
    induction n with
    | zero => intro j hj; omega
    | succ n ih =>
      intro j hj
      rw [Nat.succ_mul] at hj
      simp only [repA]
      by_cases hlt : j < z.length
      · rw [List.getElem?_append_left hlt, Nat.mod_eq_of_lt (by rw [h.1]; exact hlt)]
      · have hzl := h.1
        rw [List.getElem?_append_right (by omega), ih _ (by omega), ← hzl]
        congr 1
        rw [Nat.mod_eq_sub_mod (by omega : j ≥ zv.size)]
  refine ⟨by simp [hl], fun j hj => ?_, fun j hj => ?_⟩
  · have hj' : j < n * zv.size := by simpa using hj
    rw [hg j hj']
    exact h.2.1 _ (Nat.mod_lt _ hz)
  · rw [hl] at hj
    rw [hg j hj]
    have h1 := hr n j hj
    rw [List.getElem?_eq_getElem (by rw [hl]; exact hj)] at h1
    exact h.get h1.symm

theorem buildSliceK_sound {t : TypeId} {n : Nat} {parts : List (Nat × AV)} {K : AV → Prop} (h : buildSliceK P t n parts K) : ∃ v, K v ∧ ∀ (C : Ctx) (pv : List (Nat × Value)), WR C → pv.length = parts.length →
    (∀ j (h : j < parts.length) (h' : j < pv.length), parts[j].1 = pv[j].1 ∧ VR C parts[j].2 pv[j].2) → ∃ r w', (Instr.buildSlice t n pv.toArray).run P C.w = .ok r w' ∧ WR { C with w := w' } ∧ Ext C { C with w := w' } ∧ VR { C with w := w' } v r := by
  unfold buildSliceK at h
  split at h
  · rename_i e hu
    obtain ⟨⟨ht, hlt, hpos⟩, h⟩ := h
    split at h
    · rename_i cs hcs
      refine ⟨_, h, fun C pv g hl hr => ?_⟩
      have hzc := zero_cells (C := C) ht
      have hzs : (zeOf P e).cells.size = szOf P e := by obtain ⟨i, _, _, _, _, h4, _⟩ := hasT_spec ht; exact h4
      have hrep := rep_cells hzc (by omega) n
      obtain ⟨vs', e1, e2⟩ := fill_sound parts pv _ cs _ hrep hl hr hcs
      obtain ⟨r1, r2, r3⟩ := imm_new g (by rw [e2.1]; exact Nat.le_refl _) (fun j hj => e2.2.1 j (by rw [e2.1]; exact hj)) e2.2.2 e (0, 0) (Nat.le_refl n) (by
        have : n * 1 ≤ n * szOf P e := Nat.mul_le_mul_left _ hpos
        unfold maxLen; omega)
      refine ⟨_, _, ?_, r1, r2, r3⟩
      have hlt' : ¬ (16777216 < n * szOf P e) := by omega
      rw [hzs] at e1
      by_cases hn0 : n * szOf P e = 0
      · have hn : n = 0 := by
          rcases Nat.mul_eq_zero.1 hn0 with h | h <;> omega
        subst hn
        simp only [Nat.zero_mul] at e1
        simp [Instr.buildSlice, run_underlying hu, run_sizeOf ht, newRow]
        have e3 : Instr.fill (fun i => some (i * szOf P e, szOf P e)) #[] pv = some vs' := by simpa [Array.range_zero'] using e1
        simp [Array.range_zero', e3]
      · simp [Instr.buildSlice, run_underlying hu, run_sizeOf ht, hlt', hn0, run_zero ht, newRow]
        have e3 : Instr.fill (fun i => some (i * szOf P e, szOf P e)) ((Array.range (n * szOf P e)).map fun x => (zeOf P e).cells[x % szOf P e]!) pv = some vs' := e1
        simp [hzs] at e3 ⊢
        simp [e3]
    · exact h.elim
  · exact h.elim

theorem runeA_cells {C : Ctx} {cells : List AV} {u : Nat → Value} (hv : ∀ j (h : j < cells.length), VR C cells[j] (u j)) (hall : cells.all isI32 = true) :
    ∃ ns : List Int, (List.range cells.length).map u = ns.map (Value.int .i32) ∧ ns = cells.map runeA := by
  refine ⟨cells.map runeA, ?_, rfl⟩
  apply List.ext_getElem
  · simp
  · intro j h1 h2
    have hj : j < cells.length := by simpa using h1
    have := hv j hj
    have hj2 := List.all_eq_true.1 hall cells[j] (List.getElem_mem hj)
    simp only [List.getElem_map, List.getElem_range]
    generalize cells[j] = a at *
    generalize u j = v at *
    unfold isI32 at hj2
    split at hj2
    · cases this; rfl
    · cases hj2
theorem foldl_runes : ∀ (ns : List Int) (s : ByteArray), ns.foldl (fun r n => r ++ Utf8.encode n) s = ⟨s.data ++ (ns.flatMap runeB).toArray⟩
  | [], s => by simp
  | n :: ns, s => by
    simp only [List.foldl_cons]
    rw [foldl_runes ns]
    have : (Utf8.encode n).data = (runeB n).toArray := by simp [runeB]
    simp [this]
/-- bytes as a string, of a row that nobody writes meanwhile -/
theorem conv_str {s d e : TypeId} {k n : Nat} {cells : List AV} (hs : P.underlying s = some (.slice e)) (hd : P.underlying d = some .string) (he : P.underlying e = some (.int .u8)) (hall : cells.all isU8 = true) (hlen : cells.length = n)
    {C : Ctx} {u : Value} (e1 : VR C (.imm k cells n) u) : (convert s d u).run P C.w = .ok (.string (strOf cells)) C.w := by
  obtain ⟨A, cap, rfl, hn, hm, hk, b, o, ha, us, hc, hv⟩ := e1.imm_inv
  rw [run_convert_bytes_string C.w s d e A n cap hs he hd]
  by_cases hne : cells = []
  · subst hne
    simp only [List.length_nil] at hlen
    subst hlen
    have : (ByteArray.empty : ByteArray) = strOf [] := rfl
    cases A with
    | none => simp [Conv.bytesToString, this]
    | some a => simp [Conv.bytesToString, loadCells, loadCellsFrom, this]
  · rw [ha hne]
    obtain ⟨ns, n1, n2⟩ := byteA_cells hv hall
    have hl := row_cells (P := P) hc 0 cells.length (by omega) C.w rfl
    simp only [Nat.zero_add, Nat.add_zero] at hl
    rw [n1, hlen] at hl
    rw [run_bytesToString C.w ⟨b, o, none⟩ n cap ns (by simpa using hl), foldl_push, n2]
    simp [strOf]
theorem convK_sound {s d : TypeId} {x : AV} {K : AV → Prop} (h : convK P s d x K) : ∃ v, K v ∧ ∀ (C : Ctx) (u : Value), WR C → VR C x u → ∃ r w', (convert s d u).run P C.w = .ok r w' ∧ WR { C with w := w' } ∧ Ext C { C with w := w' } ∧ VR { C with w := w' } v r := by
  unfold convK at h
  split at h
  · rename_i a k k' n hs hd
    refine ⟨_, h, fun C u g e => ⟨_, C.w, ?_, g, Ext.refl _, .sc _⟩⟩
    rw [vr_sc e]
    simp [convert, run_underlying hs, run_underlying hd, Conv.intToInt]
  · rename_i b hs hd
    refine ⟨_, h, fun C u g e => ⟨_, C.w, ?_, g, Ext.refl _, .sc _⟩⟩
    rw [vr_sc e]
    simp [convert, run_underlying hs, run_underlying hd]
  · rename_i k k' n hs hd
    refine ⟨_, h, fun C u g e => ⟨_, C.w, ?_, g, Ext.refl _, .sc _⟩⟩
    rw [vr_sc e]
    simp [convert, run_underlying hs, run_underlying hd, Conv.intToString, runeB]
  · rename_i e k cells n hs hd
    unfold convB at h
    split at h
    · rename_i he
      obtain ⟨⟨hall, hlen⟩, hK⟩ := h
      refine ⟨_, hK, fun C u g e1 => ⟨.string (strOf cells), C.w, ?_, g, Ext.refl _, .sc _⟩⟩
      obtain ⟨A, cap, rfl, hn, hm, hk, b, o, ha, us, hc, hv⟩ := e1.imm_inv
      rw [run_convert_bytes_string C.w s d e A n cap hs he hd]
      by_cases hne : cells = []
      · subst hne
        simp only [List.length_nil] at hlen
        subst hlen
        have : (ByteArray.empty : ByteArray) = strOf [] := rfl
        cases A with
        | none => simp [Conv.bytesToString, this]
        | some a => simp [Conv.bytesToString, loadCells, loadCellsFrom, this]
      · rw [ha hne]
        obtain ⟨ns, n1, n2⟩ := byteA_cells hv hall
        have hl := row_cells (P := P) hc 0 cells.length (by omega) C.w rfl
        simp only [Nat.zero_add, Nat.add_zero] at hl
        rw [n1, hlen] at hl
        rw [run_bytesToString C.w ⟨b, o, none⟩ n cap ns (by simpa using hl), foldl_push, n2]
        simp [strOf]
    · rename_i he
      obtain ⟨⟨hall, hlen⟩, hK⟩ := h
      refine ⟨_, hK, fun C u g e1 => ⟨.string ⟨((cells.map runeA).flatMap runeB).toArray⟩, C.w, ?_, g, Ext.refl _, .sc _⟩⟩
      obtain ⟨A, cap, rfl, hn, hm, hk, b, o, ha, us, hc, hv⟩ := e1.imm_inv
      have hconv : (convert s d (.slice A n cap)).run P C.w = (Conv.runesToString (.slice A n cap)).run P C.w := by
        simp [convert, run_underlying hs, run_underlying hd, run_underlying he]
      rw [hconv]
      by_cases hne : cells = []
      · subst hne
        simp only [List.length_nil] at hlen
        subst hlen
        cases A with
        | none => simp [Conv.runesToString]; rfl
        | some a => simp [Conv.runesToString, loadCells, loadCellsFrom]; rfl
      · rw [ha hne]
        obtain ⟨ns, n1, n2⟩ := runeA_cells hv hall
        have hl := row_cells (P := P) hc 0 cells.length (by omega) C.w rfl
        simp only [Nat.zero_add, Nat.add_zero] at hl
        rw [n1, hlen] at hl
        rw [run_runesToString C.w ⟨b, o, none⟩ n cap ns (by simpa using hl), ← n2]
        unfold runesBytes
        rw [foldl_runes]
        simp
    · exact h.elim
  · rename_i e b hs hd
    obtain ⟨⟨he, hlen⟩, hK⟩ := h
    refine ⟨_, hK, fun C u g e1 => ?_⟩
    rw [vr_sc e1]
    have hge := grownCap_ge C.w b.size 0 e
    have hle := grownCap_le_maxLen C.w b.size 0 e hlen
    have eh := Ext.heap (C := C) C.w.drew rfl rfl rfl rfl
    have gh := g.heap C.w.drew rfl rfl rfl rfl
    obtain ⟨r1, r2, r3⟩ := imm_new gh (cells := encB b.data.toList) (vs := bytesRow b (grownCap C.w b.size 0 e)) (by simp [encB, bytesRow])
      (fun j hj => by
        have hj' : j < b.data.size := by simpa [encB] using hj
        have := bytesRow_at b (grownCap C.w b.size 0 e) j hj'
        simp only [Array.getD_eq_getD_getElem?, this, Option.getD_some]
        rfl)
      (fun j hj => by
        have hj' : j < b.data.size := by simpa [encB] using hj
        have := bytesRow_at b (grownCap C.w b.size 0 e) j hj'
        simp only [Array.getD_eq_getD_getElem?, this, Option.getD_some]
        have e4 : (encB b.data.toList)[j] = .sc (.int .u8 (b.data[j]).toNat) := by simp [encB]
        rw [e4]
        exact .sc _) e ((bytesRow b (grownCap C.w b.size 0 e)).size, (bytesRow b (grownCap C.w b.size 0 e)).size + 1) hge hle
    exact ⟨_, _, run_bytes_of_string C.w s d e b hs hd he, r1, eh.trans r2, r3⟩
  · exact h.elim
end Go.Abs
