/-
  Rosters: a log that a step makes longer, in plain Lean.
  Conditions: none. Lemmas only.
-/
import Derived.Test.YtjlnpngaiphnmaaRtG7
set_option linter.all false
set_option linter.unusedSimpArgs false
set_option linter.unusedVariables false
set_option maxRecDepth 20000
set_option maxHeartbeats 4000000
namespace Go.Proofs.Ytjlnpngaiphnmaa
open Go Go.Abs Go.Proofs
def GrowM (g g' : LogM) : Prop := g' = g ∨ ∃ e x,g' = ⟨g.L ++ [e],g.D ++ [x]⟩ ∧ folM g e.members e.ends = true
theorem take_grow (ts : List Term) (ad : List UInt8) (g : LogM) (e : Ent) : GrowM g (takeM ts ad g e).2.1 := by
  unfold takeM
  split
  · exact .inl rfl
  split
  · exact .inl rfl
  split
  · exact .inl rfl
  split
  · exact .inl rfl
  split
  · exact .inl rfl
  split
  · exact .inl rfl
  rename_i h
  exact .inr ⟨e,_,rfl,by simpa using h⟩
theorem does_grow (c : BegS) (ad : List UInt8) (b : BM) (t : DoM) : GrowM b.g (doesM c ad b t).g := by
  unfold doesM
  split
  · exact take_grow _ _ _ _
  split
  · exact .inl rfl
  · exact take_grow _ _ _ _
theorem grow_len {g g' : LogM} (h : GrowM g g') : g.L.length ≤ g'.L.length ∧ g'.L.length ≤ g.L.length + 1 := by
  rcases h with rfl | ⟨e,x,rfl,-⟩
  · exact ⟨Nat.le_refl _,Nat.le_succ _⟩
  · simp
theorem grow_dig {g g' : LogM} (hg : OkG g) (h : GrowM g g') (k : Nat) (hk : 1 ≤ k ∧ k ≤ g.L.length) : digM g'.D k = digM g.D k := by
  rcases h with rfl | ⟨e,x,rfl,-⟩
  · rfl
  · have hl := hg.len
    obtain ⟨i,rfl⟩ : ∃ i,k = i + 1 := ⟨k - 1,by omega⟩
    rw [digM_get (show i < g.D.length by omega),digM_get (show i < (g.D ++ [x]).length by simp; omega)]
    exact List.getElem_append_left (by omega)
theorem grow_mems {g g' : LogM} (h : GrowM g g') (k : Nat) (hk : k ≤ g.L.length) : memsM g' k = memsM g k := by
  rcases h with rfl | ⟨e,x,rfl,-⟩
  · rfl
  · unfold memsM
    by_cases h1 : (k : Int) < 1
    · rw [if_pos (.inl h1),if_pos (.inl h1)]
    · rw [if_neg (by simp; omega),if_neg (by omega)]
      simp only [List.getD]
      rw [List.getElem?_append_left (by omega)]
theorem mems_last (g : LogM) : memsM g (g.L.length : Nat) = lastM g.L := by
  unfold memsM lastM
  rcases Nat.eq_zero_or_pos g.L.length with h | h
  · rw [if_pos (by omega),List.length_eq_zero_iff.1 h]; rfl
  · rw [if_neg (by omega),List.getLast?_eq_getElem?]
    rw [show ((g.L.length : Nat) : Int).toNat - 1 = g.L.length - 1 by omega]
    have hi : g.L.length - 1 < g.L.length := by omega
    simp [List.getD,List.getElem?_eq_getElem hi]
theorem endM_snoc (L : List Ent) (e : Ent) (a : Int) : endM (L ++ [e]) a = (endN e.ends a).or (endM L a) := by
  unfold endM
  rw [List.reverse_append]
  rfl
theorem endN_some : ∀ (ns : List Nd) (a : Int),(endN ns a).isSome = decide (a ∈ ns.map Nd.author)
  | [],a => rfl
  | x :: l,a => by
    unfold endN
    by_cases h : x.author = a
    · rw [if_pos h]; simp [h]
    · have h2 : ¬ a = x.author := fun e => h e.symm
      rw [if_neg h,endN_some l a]
      simp [h2]
theorem left_snoc : ∀ (l : List (List Mem)) (k : List Mem) (id : Int),leftM (l ++ [k]) id = (leftM l id || ((l.any fun m => memb m id) && !memb k id))
  | [],k,id => by simp [leftM]
  | m :: l,k,id => by
    rw [List.cons_append,leftM,leftM,left_snoc l k id,List.any_append]
    simp only [List.any_cons,List.any_nil,Bool.or_false]
    generalize leftM l id = a
    generalize (l.any fun k => !memb k id) = b
    generalize (l.any fun m => memb m id) = d
    cases memb m id <;> cases a <;> cases b <;> cases d <;> cases memb k id <;> rfl
def GoneI (g : LogM) (gone : List Bool) : Prop := gone.length = 5 ∧ ∀ (i : Nat) (h : i < 5),gone.getD i false = (endM g.L (i : Int)).isSome ∧ (gone.getD i false = true → leftM (g.L.map Ent.members) (i : Int) = true ∧ memb (lastM g.L) (i : Int) = false)
theorem gone_new : GoneI ⟨[],[]⟩ [false,false,false,false,false] := by
  refine ⟨rfl,fun i h => ?_⟩
  have : [false,false,false,false,false].getD i false = false := by
    match i,h with
    | 0,_ => rfl
    | 1,_ => rfl
    | 2,_ => rfl
    | 3,_ => rfl
    | 4,_ => rfl
  rw [this]
  exact ⟨rfl,fun h => by cases h⟩
theorem grow_one {g g' : LogM} {gone : List Bool} (hG : GrowM g g') (h : GoneI g gone) (i : Nat) (hi : i < 5) :
    (gone.getD i false && memb (lastM g'.L) (i : Int)) = false ∧ (endM g'.L (i : Int)).isSome = (gone.getD i false || (memb (lastM g.L) (i : Int) && !memb (lastM g'.L) (i : Int))) ∧
      ((gone.getD i false || (memb (lastM g.L) (i : Int) && !memb (lastM g'.L) (i : Int))) = true → leftM (g'.L.map Ent.members) (i : Int) = true ∧ memb (lastM g'.L) (i : Int) = false) := by
  obtain ⟨h1,h2⟩ := h.2 i hi
  rcases hG with rfl | ⟨e,x,rfl,hf⟩
  · rw [← h1]
    generalize gone.getD i false = q at *
    generalize memb (lastM g'.L) (i : Int) = w at *
    cases q
    · cases w <;> simp
    · obtain ⟨h3,rfl⟩ := h2 rfl
      simp [h3]
  · have hl : lastM (g.L ++ [e]) = e.members := by unfold lastM; simp
    have hfd := hf
    unfold folM at hfd
    rw [folD_eq,Bool.and_eq_true,decide_eq_true_eq,List.all_eq_true] at hfd
    obtain ⟨ha,hb⟩ := hfd
    have hin : (i : Int) ∈ ([0,1,2,3,4] : List Int) := by
      match i,hi with
      | 0,_ => decide
      | 1,_ => decide
      | 2,_ => decide
      | 3,_ => decide
      | 4,_ => decide
    have hai := ha _ hin
    have hen : (endN e.ends (i : Int)).isSome = (memb (lastM g.L) (i : Int) && !memb e.members (i : Int)) := by
      rw [endN_some,← hb]
      rw [Bool.eq_iff_iff,decide_eq_true_eq,List.mem_filter]
      exact ⟨fun h => h.2,fun h => ⟨hin,h⟩⟩
    show (_ && memb (lastM (g.L ++ [e])) _) = false ∧ (endM (g.L ++ [e]) _).isSome = (_ || (_ && !memb (lastM (g.L ++ [e])) _)) ∧ ((_ || (_ && !memb (lastM (g.L ++ [e])) _)) = true → leftM ((g.L ++ [e]).map Ent.members) _ = true ∧ memb (lastM (g.L ++ [e])) _ = false)
    rw [hl,endM_snoc,Option.isSome_or,hen,← h1,List.map_append,List.map_cons,List.map_nil,left_snoc]
    have hany : memb (lastM g.L) (i : Int) = true → ((g.L.map Ent.members).any fun m => memb m (i : Int)) = true := by
      intro hm
      unfold lastM at hm
      cases hq : g.L.getLast? with
      | none => rw [hq] at hm; simp [memb,findM] at hm
      | some z =>
        rw [hq] at hm
        rw [List.any_eq_true]
        exact ⟨z.members,List.mem_map.2 ⟨z,List.mem_of_getLast? hq,rfl⟩,hm⟩
    generalize ((g.L.map Ent.members).any fun m => memb m (i : Int)) = any at *
    generalize gone.getD i false = q at *
    generalize memb (lastM g.L) (i : Int) = w at *
    generalize memb e.members (i : Int) = z at *
    generalize leftM (g.L.map Ent.members) (i : Int) = lf at *
    cases q
    · cases w
      · cases z <;> simp
      · have := hany rfl
        subst this
        cases z <;> simp
    · obtain ⟨rfl,rfl⟩ := h2 rfl
      cases z
      · simp
      · simp at hai
end Go.Proofs.Ytjlnpngaiphnmaa
