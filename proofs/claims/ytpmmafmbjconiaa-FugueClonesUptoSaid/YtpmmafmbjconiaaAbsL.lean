/-
  An abstract logic over the model's walks, part L: append.
  Conditions: none. Lemmas only.
-/
import Derived.Test.YtpmmafmbjconiaaAbsK
set_option linter.all false
namespace Go.Abs
open Go Go.RowKit
variable {P : Program}

theorem getD_append_left {a b : List Value} {j : Nat} (h : j < a.length) : (a ++ b).getD j undef = a.getD j undef := by
  simp only [List.getD]; rw [List.getElem?_append_left h]
theorem getD_append_right {a b : List Value} {j : Nat} (h : a.length ≤ j) : (a ++ b).getD j undef = b.getD (j - a.length) undef := by
  simp only [List.getD]; rw [List.getElem?_append_right h]

/-- where the old cells of a slice are read -/
theorem first_old {C : Ctx} {k : Nat} {cells : List AV} {n : Nat} {v : Value} {s : Nat} (hs : VR C (.imm k cells n) v) (hcl : cells.length = n * s) (w : World) (hw : w.heap = C.w.heap) :
    ∃ ov : List Value, ov.length = cells.length ∧ (∀ u ∈ ov, u.oneCell' = true) ∧ (∀ j (h : j < cells.length), VR C cells[j] (ov.getD j undef)) ∧ (Builtin.firstCells s n v).run P w = .ok ov.toArray w := by
  obtain ⟨A, cap, rfl, hn, hm, hk, b, o, ha, u, hc, hv⟩ := hs.imm_inv
  refine ⟨(List.range cells.length).map u, by simp, fun x hx => ?_, fun j hj => ?_, ?_⟩
  · simp only [List.mem_map, List.mem_range] at hx
    obtain ⟨j, hj, rfl⟩ := hx
    exact (hc j hj).2.2
  · simp [List.getD, hj]
    exact hv j hj
  · cases A with
    | none =>
      have : cells = [] := Classical.byContradiction fun h => by cases ha h
      subst this
      simp [Builtin.firstCells]
    | some a =>
      simp only [Builtin.firstCells]
      rw [← hcl]
      have := run_loadCells (P := P) w a cells.length u (fun j hj => by
        have hne : cells ≠ [] := fun e => by simp [e] at hj
        have h1 := ha hne
        simp only [Option.some.injEq] at h1
        rw [h1, addr_add]
        have h2 := (hc j hj).1
        rw [← h2]
        exact World.cell?_of_block (by rw [hw]))
      exact this

theorem not_wr_grow {C : Ctx} {k m m' : Nat} {e : TypeId} {s : Nat} (g : WR C) (ho : C.H k = some (.tail m e s)) {w : World} {off : Nat}
    (h : Wr ⟨(C.H.kill k).set C.n (.tail m' e s), C.n + 1, upd C.i C.n (C.i k), upd C.c C.n (C.c k), w⟩ ⟨C.i k, off, none⟩) : m' ≤ off := by
  obtain ⟨x, hx⟩ := h
  simp only [AH.set, AH.kill] at hx
  by_cases hxn : x = C.n
  · subst hxn
    simp only [if_true] at hx
    exact hx.2
  · simp only [hxn, if_false] at hx
    by_cases hxk : x = k
    · simp [hxk] at hx
    · simp only [hxk, if_false] at hx
      exfalso
      have hu : upd C.i C.n (C.i k) x = C.i x := by simp [upd, hxn]
      rw [hu] at hx
      cases hox : C.H x with
      | none => simp [hox] at hx
      | some o =>
        cases o <;> simp [hox] at hx
        · exact hxk (g.inj x k _ _ hox ho rfl rfl hx.symm)
        · exact hxk (g.inj x k _ _ hox ho rfl rfl hx.1.symm)
        · exact hxk (g.inj x k _ _ hox ho rfl rfl hx.symm)
        · exact hxk (g.inj x k _ _ hox ho rfl rfl hx.symm)
        · exact hxk (g.inj x k _ _ hox ho rfl rfl hx.symm)

theorem append_tok {C : Ctx} (g : WR C) {k : Nat} {cells : List AV} {n : Nat} {v : Value} {o : AObj} {t t' ty e : TypeId} (ht : P.underlying t = some (.slice e)) (hT : hasT P e = true) (hpos : 0 < szOf P e)
    (hs : VR C (.imm k cells n) v) (hk0 : k ≠ 0) (ho : C.H k = some o) (htok : TokO e (szOf P e) o cells.length) (hcl : cells.length = n * szOf P e)
    {xv : Value} {m : Nat} {news : List AV} {nv : List Value} {dt : TypeDesc} (ht' : P.underlying t' = some dt) (hdt : ∀ kk, dt ≠ .int kk) (hlen : ∀ w, (Builtin.lenOf xv).run P w = .ok m w) (hnl : news.length = m * szOf P e)
    (hfirst : ∀ w, w.heap = C.w.heap → (Builtin.firstCells (szOf P e) m xv).run P w = .ok nv.toArray w)
    (hnv : nv.length = news.length) (h1 : ∀ u ∈ nv, u.oneCell' = true) (hv : ∀ j (h : j < news.length), VR C news[j] (nv.getD j undef))
    (h63 : n + m ≤ maxLen) (hby : (n + m) * byOf P e ≤ 140737488355328) :
    ∃ r D o', (Builtin.append_ #[t, t'] ty #[v, xv]).run P C.w = .ok r D.w ∧ D.H = (C.H.kill k).set C.n o' ∧ TokO e (szOf P e) o' (cells ++ news).length ∧ WR D ∧ Ext C D ∧ VR D (.imm C.n (cells ++ news) (n + m)) r := by
  obtain ⟨A, cap, hvv, hn, hm, hk, b, off, ha, u, hc, hcv⟩ := hs.imm_inv
  obtain ⟨k1, k2, k3⟩ := hk hk0
  subst hvv
  obtain ⟨ti, hti, s1, s2, s3, s4, s5⟩ := hasT_spec hT
  have hn0 : C.n ≠ 0 := Nat.ne_of_gt g.pos
  have hllen : (cells ++ news).length = (n + m) * szOf P e := by rw [List.length_append, hcl, hnl, Nat.add_mul]
  -- the weakened state
  have gk := g.weaken (C.H.kill k) (fun x o h => by simp only [AH.kill] at h; split at h; cases h; exact h)
  have ek := Ext.weaken (C := C) (C.H.kill k) (fun x o h => by simp only [AH.kill] at h; split at h; cases h; exact h)
  by_cases hroom : n + m ≤ cap
  · -- there is room
    have hmul : n * szOf P e + m * szOf P e ≤ cap * szOf P e := by rw [← Nat.add_mul]; exact Nat.mul_le_mul_right _ hroom
    rcases htok with rfl | ⟨hm0, rfl⟩
    · have hfit : cells.length + news.length ≤ C.c k * szOf P e := by rw [← k2, hcl, hnl]; exact hmul
      obtain ⟨w', r1, r2, r3, r4⟩ := grow_tok (P := P) g ho hnv h1 hv hfit
      refine ⟨.slice A (n + m) cap, ⟨(C.H.kill k).set C.n (.tail (cells.length + news.length) e (szOf P e)), C.n + 1, upd C.i C.n (C.i k), upd C.c C.n (C.c k), w'⟩, .tail (cells.length + news.length) e (szOf P e), ?_, rfl, .inl (by rw [List.length_append]), r2, r3, ?_⟩
      · have hf := hfirst C.w rfl
        rcases k3 with hA | ⟨hA, hcap⟩
        · subst hA
          rw [hcl] at r1
          simp [Builtin.append_, run_underlying ht, run_underlying ht', run_sizeOf hT, hlen, hroom, hf, addr_add, r1]
        · subst hA
          have : nv = [] := List.eq_nil_of_length_eq_zero (by rw [hnv, hnl]; have : m = 0 := by omega
                                                              simp [this])
          subst this
          simp only [storeCells, Sem.run_pure, Result.ok.injEq, true_and] at r1
          subst r1
          simp [Builtin.append_, run_underlying ht, run_underlying ht', run_sizeOf hT, hlen, hroom, hf]
      · have hcell : ∀ j, j < (cells ++ news).length → (⟨(C.H.kill k).set C.n (.tail (cells.length + news.length) e (szOf P e)), C.n + 1, upd C.i C.n (C.i k), upd C.c C.n (C.c k), w'⟩ : Ctx).At ⟨C.i k, 0 + j, none⟩ (if j < cells.length then u j else nv.getD (j - cells.length) undef) := by
          intro j hj
          rw [Nat.zero_add]
          by_cases hlt : j < cells.length
          · rw [if_pos hlt]
            have hne : cells ≠ [] := fun h => by simp [h] at hlt
            have h2 := ha hne
            have h3 := hc j hlt
            rcases k3 with hA | ⟨hA, _⟩
            · rw [hA] at h2
              simp only [Option.some.injEq, Addr.mk.injEq] at h2
              obtain ⟨rfl, rfl, _⟩ := h2
              rw [Nat.zero_add] at h3
              exact r3.at_ _ _ h3
            · rw [hA] at h2; cases h2
          · rw [if_neg hlt]
            have hj' : j - cells.length < news.length := by rw [List.length_append] at hj; omega
            have h4 := r4 (j - cells.length) hj'
            rw [show cells.length + (j - cells.length) = j by omega] at h4
            refine ⟨h4, fun hw => ?_, h1 _ ?_⟩
            · have := not_wr_grow g ho hw
              rw [List.length_append] at hj
              omega
            · rw [List.getD, List.getElem?_eq_getElem (by omega)]
              exact List.getElem_mem _
        refine .imm C.n (cells ++ news) (n + m) A cap hroom hm (fun _ => ⟨Nat.lt_succ_self _, ?_, ?_⟩) (C.i k) 0 (fun hne => ?_) _ hcell (fun j hj => ?_)
        · show cap = upd C.c C.n (C.c k) C.n
          rw [upd_same]; exact k2
        · show A = some ⟨upd C.i C.n (C.i k) C.n, 0, none⟩ ∨ _
          rw [upd_same]; exact k3
        · rcases k3 with hA | ⟨hA, hcap⟩
          · exact hA
          · exfalso
            apply hne
            apply List.eq_nil_of_length_eq_zero
            rw [hllen]
            have : n + m = 0 := by omega
            simp [this]
        · by_cases hlt : j < cells.length
          · rw [List.getElem_append_left hlt, if_pos hlt]
            exact (hcv j hlt).ext r3
          · rw [List.getElem_append_right (by omega), if_neg hlt]
            exact (hv _ _).ext r3
    · have hcz : C.c k = 0 := g.obj k _ ho
      have hn' : n = 0 := by omega
      have hm' : m = 0 := by omega
      subst hn' hm'
      have hc0 : cells = [] := List.eq_nil_of_length_eq_zero hm0
      have hn0' : news = [] := List.eq_nil_of_length_eq_zero (by simpa using hnl)
      subst hc0 hn0'
      have hnv0 : nv = [] := List.eq_nil_of_length_eq_zero (by simpa using hnv)
      subst hnv0
      have g2 := gk.nilt (C.i k)
      have e2 := ek.trans (Ext.nilt gk (C.i k))
      refine ⟨.slice A 0 cap, ⟨(C.H.kill k).set C.n .nilt, C.n + 1, upd C.i C.n (C.i k), upd C.c C.n 0, C.w⟩, .nilt, ?_, rfl, .inr ⟨rfl, rfl⟩, g2, e2, ?_⟩
      · have hf := hfirst C.w rfl
        cases A with
        | none => simp [Builtin.append_, run_underlying ht, run_underlying ht', run_sizeOf hT, hlen, hf]
        | some a => simp [Builtin.append_, run_underlying ht, run_underlying ht', run_sizeOf hT, hlen, hf, storeCells]
      · refine .imm C.n [] 0 A cap (Nat.zero_le _) hm (fun _ => ⟨Nat.lt_succ_self _, ?_, ?_⟩) 0 0 (fun h => absurd rfl h) (fun _ => undef) (fun j h => absurd h (by simp)) (fun j h => absurd h (by simp))
        · show cap = upd C.c C.n 0 C.n
          rw [upd_same]; omega
        · show A = some ⟨upd C.i C.n (C.i k) C.n, 0, none⟩ ∨ _
          rw [upd_same]; exact k3
  · -- a new row
    obtain ⟨ov, o1, o2, o3, o4⟩ := first_old (P := P) hs hcl C.w.drew rfl
    have hf := hfirst C.w.drew rfl
    have hneed : cap < n + m := by omega
    have hge := grownCap_ge C.w (n + m) cap e
    have hle := grownCap_le_maxLen C.w (n + m) cap e h63
    have eh := Ext.heap (C := { C with H := C.H.kill k }) C.w.drew rfl rfl rfl rfl
    have gh := gk.heap C.w.drew rfl rfl rfl rfl
    have hz := zero_cells (C := C) hT
    have hzs : (zeOf P e).cells.size = szOf P e := s4
    -- the new row's cells
    have hrow : ((ov.toArray ++ nv.toArray ++ Builtin.zeroCells (zeOf P e).cells (grownCap C.w (n + m) cap e - (n + m))) : Array Value).size = grownCap C.w (n + m) cap e * szOf P e := by
      simp only [Array.size_append, List.size_toArray, size_zeroCells, hzs, o1, hnv, hcl, hnl, ← Nat.add_mul]
      congr 1
      omega
    have hnot : ¬ (n + m ≤ cap) := hroom
    have h63' : ¬ ((9223372036854775807 : Int) < (n : Int) + (m : Int)) := by unfold maxLen at h63; omega
    have hgrow := growslice_fits hneed hby
    have h48 : ¬ (281474976710656 < Builtin.nextslicecap (n + m) cap * byOf P e) := by omega
    have hget : ∀ j, j < (cells ++ news).length → ((ov.toArray ++ nv.toArray ++ Builtin.zeroCells (zeOf P e).cells (grownCap C.w (n + m) cap e - (n + m))) : Array Value).getD j undef = (ov ++ nv).getD j undef := by
      intro j hj
      have hj' : j < ov.length + nv.length := by rw [o1, hnv]; rw [List.length_append] at hj; exact hj
      rw [getD_eq]
      simp only [Array.toList_append, List.getD]
      rw [List.getElem?_append_left (by simpa using hj')]
    have hlenR : (cells ++ news).length ≤ ((ov.toArray ++ nv.toArray ++ Builtin.zeroCells (zeOf P e).cells (grownCap C.w (n + m) cap e - (n + m))) : Array Value).size := by
      rw [hrow, hllen]
      exact Nat.mul_le_mul_right _ hge
    have hone : ∀ j, j < (cells ++ news).length → ((ov ++ nv).getD j undef).oneCell' = true := by
      intro j hj
      have hj' : j < (ov ++ nv).length := by rw [List.length_append, o1, hnv, ← List.length_append]; exact hj
      rw [List.getD, List.getElem?_eq_getElem hj']
      have hmem := List.getElem_mem hj'
      rcases List.mem_append.1 hmem with h | h
      · exact o2 _ h
      · exact h1 _ h
    have hrel : ∀ j (h : j < (cells ++ news).length), VR C (cells ++ news)[j] ((ov ++ nv).getD j undef) := by
      intro j hj
      by_cases hlt : j < cells.length
      · rw [List.getElem_append_left hlt, getD_append_left (by omega)]
        exact o3 j hlt
      · rw [List.getElem_append_right (by omega), getD_append_right (by omega), o1]
        exact hv _ _
    generalize hvs : (ov.toArray ++ nv.toArray ++ Builtin.zeroCells (zeOf P e).cells (grownCap C.w (n + m) cap e - (n + m)) : Array Value) = vs at *
    have ea := Ext.add gh (.tail (cells ++ news).length e (szOf P e)) (.cells vs e) (grownCap C.w (n + m) cap e)
    have hobj : ObjR ⟨(C.H.kill k).set C.n (.tail (cells ++ news).length e (szOf P e)), C.n + 1, upd C.i C.n C.w.drew.heap.size, upd C.c C.n (grownCap C.w (n + m) cap e), C.w.drew.alloc (.cells vs e)⟩ C.n (.tail (cells ++ news).length e (szOf P e)) := by
      refine ⟨vs, (0, 0), ?_, fun off _ => by simp, ?_, hlenR⟩
      · show (C.w.drew.alloc (.cells vs e)).heap[upd C.i C.n C.w.drew.heap.size C.n]? = _
        rw [upd_same]
        exact heap_alloc_new _ _
      · show vs.size = upd C.c C.n (grownCap C.w (n + m) cap e) C.n * _
        rw [upd_same]
        exact hrow
    have ga := WR.add gh (.tail (cells ++ news).length e (szOf P e)) (.cells vs e) (grownCap C.w (n + m) cap e) hobj
    have eD := (ek.trans eh).trans ea
    refine ⟨.slice (some ⟨C.w.heap.size, 0, none⟩) (n + m) (grownCap C.w (n + m) cap e), _, .tail (cells ++ news).length e (szOf P e), ?_, rfl, .inl rfl, ga, eD, ?_⟩
    · simp [Builtin.append_, run_underlying ht, run_underlying ht', run_sizeOf hT, hlen, hnot, h63', typeInfo, hti, s2, h48, Question.forced]
      have o4' : (Builtin.firstCells (szOf P e) n (.slice A n cap)).run P C.w.drew = .ok ov.toArray C.w.drew := o4
      simp only [grownCap] at *
      simp [o4', hf, run_zero hT, newRow]
      rw [← hvs, Array.append_assoc]
    · refine .imm C.n (cells ++ news) (n + m) _ _ hge hle (fun _ => ⟨Nat.lt_succ_self _, ?_, .inl ?_⟩) C.w.heap.size 0 (fun _ => rfl) (fun j => (ov ++ nv).getD j undef) (fun j hj => ?_) (fun j hj => (hrel j hj).ext eD)
      · show _ = upd C.c C.n _ C.n
        rw [upd_same]
      · show (some ⟨C.w.heap.size, 0, none⟩ : Option Addr) = some ⟨upd C.i C.n C.w.drew.heap.size C.n, 0, none⟩
        rw [upd_same]
        rfl
      · rw [Nat.zero_add]
        refine ⟨?_, fun hw => ?_, hone j hj⟩
        · show (C.w.drew.alloc (.cells vs e)).cell? ⟨C.w.drew.heap.size, j, none⟩ = _
          rw [World.cell?_alloc_new]
          have hj2 : j < vs.size := by omega
          have h3 := hget j hj
          rw [getD_lt hj2] at h3
          rw [Array.getElem?_eq_getElem hj2, h3]
        · rcases Wr.of_add (C := { H := C.H.kill k, n := C.n, i := C.i, c := C.c, w := C.w.drew }) hw with h | ⟨_, _, h⟩
          · have := Owned.lt gh (Wr.owned h)
            simp at this
          · have := h _ _ _ rfl
            simp only [] at this
            omega
end Go.Abs
