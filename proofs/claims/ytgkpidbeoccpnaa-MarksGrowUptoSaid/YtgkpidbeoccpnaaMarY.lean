/-
  What is put between two that the newest mark covers gets its value: plain law.
  Conditions: none. Lemmas only.
-/
import Derived.Test.YtgkpidbeoccpnaaMarG6
import Derived.Test.YtgkpidbeoccpnaaFugAc
import Derived.Test.YtgkpidbeoccpnaaFugAe
set_option linter.all false
set_option linter.unusedSimpArgs false
set_option linter.unusedVariables false
set_option maxRecDepth 8000
set_option maxHeartbeats 4000000
namespace Go.Proofs.Ytgkpidbeoccpnaa
open Go Go.Abs Go.Proofs Go.Fug
/-- the newest mark, from one element to behind another one -/
def lastMk (c : Int) (x y : EId) : Mk := ⟨c,0,x,false,y,true,2,9⟩
theorem clock_le {l : List Mk} (s : SortM l) : ∀ m ∈ l,m.clock ≤ lastM l := by
  intro m hm
  unfold lastM
  obtain ⟨r,z,rfl⟩ : ∃ r z,l = r ++ [z] := ⟨l.dropLast,l.getLast (List.ne_nil_of_mem hm),(List.dropLast_concat_getLast _).symm⟩
  rw [List.getLast?_concat]
  simp only []
  rcases List.mem_append.1 hm with h | h
  · have := (List.pairwise_append.1 s).2.2 m h z (by simp)
    unfold ltM at this
    omega
  · rw [List.mem_singleton.1 h]
    exact Int.le_refl _
theorem lastM_pos {l : List Mk} (g : GoodM l) : 0 ≤ lastM l := by
  unfold lastM
  cases h : l.getLast? with
  | none => exact Int.le_refl _
  | some m =>
    have := g.ok m (List.mem_of_getLast? h)
    unfold rightM at this
    simp only [Bool.and_eq_true,decide_eq_true_eq] at this
    simp only []
    omega
theorem add_last {l : List Mk} (g : GoodM l) (hl : l.length ≤ 500) {x y : EId} (hx : okA x = true) (hy : okA y = true) (hc : lastM l < 1099511627776) : addM l (lastMk (lastM l + 1) x y) = (l ++ [lastMk (lastM l + 1) x y],0) := by
  have hp := lastM_pos g
  have hnew : ∀ m ∈ l,newM (lastMk (lastM l + 1) x y) m = true := fun m hm => by
    have := clock_le g.sort m hm
    unfold newM lastMk
    simp only []
    rw [if_pos (by omega)]
    simp
    omega
  have hr : rightM (lastMk (lastM l + 1) x y) = true := by
    unfold rightM lastMk
    simp only [hx,hy,Bool.and_true]
    simp
    omega
  have hh : hasM l (lastMk (lastM l + 1) x y).clock (lastMk (lastM l + 1) x y).author = false := by
    unfold hasM
    rw [List.any_eq_false]
    intro m hm
    have := clock_le g.sort m hm
    intro h
    have h2 : m.clock = lastM l + 1 := (of_decide_eq_true h).1
    omega
  unfold addM
  rw [if_neg (by rw [hr]; simp),if_neg (by rw [hh]; simp),if_neg (by omega),List.filter_eq_self.2 hnew,List.filter_eq_nil_iff.2 (fun m hm => by rw [hnew m hm]; simp),List.append_nil]
theorem best_last {l : List Mk} (g : GoodM l) {x y : EId} (ns : List Nd) (i : Nat) (hc : covN ns (lastMk (lastM l + 1) x y) i = true) : (bestN ns (l ++ [lastMk (lastM l + 1) x y]) i 2).value = 9 := by
  have hp := lastM_pos g
  have key : ∀ (r : List Mk) (b : Mk),(∀ m ∈ r,m.clock ≤ lastM l) → b.clock ≤ lastM l → (r.foldl (bestF ns i 2) b).clock ≤ lastM l := by
    intro r
    induction r with
    | nil => intro b _ h; exact h
    | cons m r ih =>
      intro b hr hb
      rw [List.foldl_cons]
      refine ih _ (fun z hz => hr z (by simp [hz])) ?_
      unfold bestF
      split
      · exact hr m (by simp)
      · exact hb
  have hb := key l zeroMk (clock_le g.sort) hp
  unfold bestN
  rw [List.foldl_append,List.foldl_cons,List.foldl_nil]
  generalize l.foldl (bestF ns i 2) zeroMk = b at *
  have hn : newM (lastMk (lastM l + 1) x y) b = true := by
    unfold newM lastMk
    simp only []
    rw [if_pos (by omega)]
    exact decide_eq_true (by omega)
  have e : bestF ns i 2 b (lastMk (lastM l + 1) x y) = lastMk (lastM l + 1) x y := if_pos ⟨rfl,hc,hn⟩
  rw [e]
  rfl
theorem pos_left {A B : List Nd} {x : EId} (h : x ∈ idsNd A) : posN (A ++ B) x < (A.length : Int) ∧ 0 ≤ posN (A ++ B) x := by
  have hm : x ∈ idsNd (A ++ B) := by unfold idsNd at *; rw [List.map_append]; simp [h]
  unfold posN
  rw [if_pos hm]
  have e : idsNd (A ++ B) = idsNd A ++ idsNd B := by unfold idsNd; rw [List.map_append]
  rw [e,List.idxOf_append,if_pos h]
  have := List.idxOf_lt_length_of_mem h
  have hl : (idsNd A).length = A.length := List.length_map _
  omega
theorem pos_right {A B : List Nd} {x : EId} (h : x ∈ idsNd B) (hn : x ∉ idsNd A) : (A.length : Int) ≤ posN (A ++ B) x := by
  have hm : x ∈ idsNd (A ++ B) := by unfold idsNd at *; rw [List.map_append]; simp [h]
  unfold posN
  rw [if_pos hm]
  have e : idsNd (A ++ B) = idsNd A ++ idsNd B := by unfold idsNd; rw [List.map_append]
  have hl : (idsNd A).length = A.length := List.length_map _
  rw [e,List.idxOf_append,if_neg hn]
  omega
theorem cov_between {A B : List Nd} {n : Nd} {x y : EId} {c : Int} (hx : x ∈ idsNd A) (hy : y ∈ idsNd B) (hyA : y ∉ idsNd (A ++ [n])) (rx : x ≠ root) (ry : y ≠ root) : covN (A ++ n :: B) (lastMk c x y) A.length = true := by
  have h1 := pos_left (B := n :: B) hx
  have h2 := pos_right (A := A ++ [n]) hy hyA
  rw [List.append_assoc,List.singleton_append] at h2
  simp only [List.length_append,List.length_cons,List.length_nil] at h2
  unfold covN thereN aheadN lastMk
  simp only [rx,ry,decide_false,Bool.false_or,if_false]
  simp
  omega
/-- what is put between two that the newest mark covers -/
theorem grow_style {l : List Mk} (g : GoodM l) {L : List Ins} {G : List EId} (gL : Fug.Good L) {q : Ins} (g' : Fug.Good (L ++ [q])) {k : Nat} (hk0 : 0 < k) {x y : Nd} (hx : (live (nodes L G))[k - 1]? = some x) (hy : (live (nodes L G))[k]? = some y)
    (hp : (kids L (planA (nodes L G) k) true = [] ∧ q.par = planA (nodes L G) k ∧ q.right = true) ∨ (kids L (planA (nodes L G) k) true ≠ [] ∧ q.par = planZ L G (planA (nodes L G) k) ∧ q.right = false)) :
    ∃ j,∃ hj : j < (nodes (L ++ [q]) G).length,((nodes (L ++ [q]) G)[j]).id = q.id ∧ (∀ i (hi : i < (nodes (L ++ [q]) G).length),i < j → ((nodes (L ++ [q]) G)[i]).id ≠ q.id) ∧
      (bestN (nodes (L ++ [q]) G) (l ++ [lastMk (lastM l + 1) x.id y.id]) j 2).value = 9 := by
  have hk : k < (live (nodes L G)).length := (List.getElem?_eq_some_iff.1 hy).1
  obtain ⟨ha,hka⟩ := planA_ok (G := G) gL (Nat.le_of_lt hk)
  obtain ⟨A,B,hN,hN',hA⟩ := plan_ins (G := G) gL g' (Nat.le_of_lt hk) (fun h => by omega) hka hp
  have hnd := nodes_nodup g' G
  have hidn : (ndOf (L ++ [q]) G q.id).id = q.id := rfl
  have hA' : (live A).length = k := hA
  have hlive : live (nodes L G) = live A ++ live B := by rw [hN]; simp [live]
  have hxA : x ∈ A := by
    rw [hlive,List.getElem?_append_left (by omega)] at hx
    exact (List.mem_filter.1 (List.mem_of_getElem? hx)).1
  have hyB : y ∈ B := by
    rw [hlive,List.getElem?_append_right (by omega)] at hy
    exact (List.mem_filter.1 (List.mem_of_getElem? hy)).1
  have hroot : ∀ z ∈ nodes L G,z.id ≠ root := fun z hz e => root_not gL ((mem_nodes gL G).1 (by rw [← e]; exact List.mem_map.2 ⟨z,hz,rfl⟩))
  have hrx := hroot x (by rw [hN]; simp [hxA])
  have hry := hroot y (by rw [hN]; simp [hyB])
  have hxi : x.id ∈ idsNd A := List.mem_map.2 ⟨x,hxA,rfl⟩
  have hyi : y.id ∈ idsNd B := List.mem_map.2 ⟨y,hyB,rfl⟩
  rw [hN'] at hnd
  have hndA : (idsNd (A ++ [ndOf (L ++ [q]) G q.id]) ++ idsNd B).Nodup := by
    have e : idsN (A ++ ndOf (L ++ [q]) G q.id :: B) = idsNd (A ++ [ndOf (L ++ [q]) G q.id]) ++ idsNd B := by simp [idsN,idsNd]
    rw [e] at hnd
    exact hnd
  have hyA : y.id ∉ idsNd (A ++ [ndOf (L ++ [q]) G q.id]) := fun h => (List.nodup_append.1 hndA).2.2 _ h _ hyi rfl
  have hc := cov_between (n := ndOf (L ++ [q]) G q.id) (c := lastM l + 1) hxi hyi hyA hrx hry
  have hb := best_last g (x := x.id) (y := y.id) _ _ hc
  simp only [hN']
  refine ⟨A.length,by simp,?_,fun i hi hlt e => ?_,hb⟩
  · rw [List.getElem_append_right (Nat.le_refl _)]
    simp [hidn]
  · have e1 : idsN (A ++ ndOf (L ++ [q]) G q.id :: B) = idsN A ++ q.id :: idsN B := by simp [idsN,hidn]
    rw [e1] at hnd
    rw [List.getElem_append_left hlt] at e
    exact (List.nodup_append.1 hnd).2.2 _ (List.mem_map.2 ⟨_,List.getElem_mem hlt,e⟩) _ (by simp) rfl
end Go.Proofs.Ytgkpidbeoccpnaa
