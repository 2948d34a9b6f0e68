/-
  An abstract logic over the model's walks, part So: a live row put in order by a function whose contract is known.
  Conditions: none. Lemmas only.
-/
import Derived.Test.YtcgjlmopeblapaaGreatAbsG6
import Derived.Shelf.GgSortFunc.InsertionK
import Derived.Sort.Statements
set_option linter.all false
namespace Go.Abs
open Go Go.RowKit Go.Sort
theorem grow_push (w : World) (os : Array Obj) (o : Obj) : Go.Sort.grow w (os.push o) = (Go.Sort.grow w os).alloc o := by
  unfold Go.Sort.grow World.alloc
  simp
theorem WR.grows {C : Ctx} (g : WR C) (os : Array Obj) : WR { C with w := Go.Sort.grow C.w os } ∧ Ext C { C with w := Go.Sort.grow C.w os } := by
  have key : ∀ l : List Obj,WR { C with w := Go.Sort.grow C.w l.reverse.toArray } ∧ Ext C { C with w := Go.Sort.grow C.w l.reverse.toArray } := by
    intro l
    induction l with
    | nil =>
      rw [List.reverse_nil,show ([] : List Obj).toArray = #[] from rfl,grow_empty]
      exact ⟨g,Ext.refl _⟩
    | cons o l ih =>
      have e : (o :: l).reverse.toArray = l.reverse.toArray.push o := by simp
      rw [e,grow_push]
      exact ⟨ih.1.alloc o,ih.2.trans (Ext.alloc (C := { C with w := Go.Sort.grow C.w l.reverse.toArray }) o)⟩
  have h := key os.toList.reverse
  simpa using h
theorem flatMap_get {α β : Type} (enc : α → List β) (s : Nat) (hs : ∀ x,(enc x).length = s) : ∀ (l : List α) (j : Nat) (h : j < (l.flatMap enc).length),∃ (h1 : j / s < l.length) (h2 : j % s < (enc l[j / s]).length),(l.flatMap enc)[j] = (enc l[j / s])[j % s]
  | [],j,h => by simp at h
  | x :: l,j,h => by
    have hx := hs x
    by_cases hj : j < s
    · have e1 : j / s = 0 := Nat.div_eq_of_lt hj
      have e2 : j % s = j := Nat.mod_eq_of_lt hj
      refine ⟨by rw [e1]; simp,by simp only [e1,e2,List.getElem_cons_zero]; omega,?_⟩
      simp only [e1,e2,List.getElem_cons_zero,List.flatMap_cons]
      rw [List.getElem_append_left (by omega)]
    · have hs0 : 0 < s := by
        rcases Nat.eq_zero_or_pos s with e | e
        · subst e
          have : ((x :: l).flatMap enc).length = 0 := by
            clear h
            induction (x :: l) with
            | nil => rfl
            | cons y r ih => simp [List.flatMap_cons,hs y,ih]
          omega
        · exact e
      have hl : j - s < (l.flatMap enc).length := by
        rw [List.flatMap_cons,List.length_append] at h
        omega
      obtain ⟨h1,h2,h3⟩ := flatMap_get enc s hs l (j - s) hl
      have e1 : j / s = (j - s) / s + 1 := by
        rw [Nat.div_eq_sub_div hs0 (by omega)]
      have e2 : j % s = (j - s) % s := Nat.mod_eq_sub_mod (by omega)
      refine ⟨by rw [e1]; simp; omega,by simp only [e1,e2,List.getElem_cons_succ]; exact h2,?_⟩
      simp only [e1,e2,List.getElem_cons_succ,List.flatMap_cons]
      rw [List.getElem_append_right (by omega),← h3]
      congr 1
      omega
theorem flatMap_len {α β : Type} (enc : α → List β) (s : Nat) (hs : ∀ x,(enc x).length = s) : ∀ l : List α,(l.flatMap enc).length = l.length * s
  | [] => by simp
  | x :: l => by rw [List.flatMap_cons,List.length_append,flatMap_len enc s hs l,hs,List.length_cons,Nat.succ_mul,Nat.add_comm]
theorem flatK_flat {α : Type} [Inhabited α] (enc : α → List Value) (s : Nat) (hs : ∀ x,(enc x).length = s) (l : List α) : flatK enc s l.toArray = (l.flatMap enc).toArray := by
  refine ext_get! (by simp [flatMap_len enc s hs]) fun t ht => ?_
  have ht' : t < l.length * s := by simpa using ht
  have hlen := flatMap_len enc s hs l
  rw [get_flatK _ _ _ t (by simpa using ht')]
  obtain ⟨h1,h2,h3⟩ := flatMap_get enc s hs l t (by omega)
  have e1 : l.toArray[t / s]! = l[t / s] := by simp [h1]
  rw [e1]
  have e2 : (l.flatMap enc).toArray[t]! = (l.flatMap enc)[t]'(by omega) := by rw [getElem!_pos (l.flatMap enc).toArray t (by rw [List.size_toArray]; omega)]; simp
  rw [e2,h3]
  simp [h2]
theorem acalls_sort {P : Program} {α : Type} [Inhabited α] {f g : FuncId} (encV : α → List Value) (s : Nat) (hs : ∀ x, (encV x).length = s) (h1 : ∀ x, ∀ v ∈ encV x, v.oneCell' = true) (lt : α → α → Bool) (hcal : ak P f = true)
    (hcon : ∀ (blk cap : Nat) (d : Array α) (w : World),HoldsK encV s w blk 0 d → blk < w.heap.size → d.size < 4611686018427387904 → Calls P f #[.slice (some ⟨blk,0,none⟩) d.size cap,.func (.func g) #[] #[]] w fun e w' => e = .returned (.tuple #[]) ∧ ∃ d' n os,PermIn 0 d.size d d' ∧ SortedIn lt 0 d.size d' ∧ w' = Go.Proofs.sortWorldK encV s w blk 0 n d' os)
    (H : AH) (k : Nat) (l : List α) (e : TypeId) (hk : H k = some (.cells ((l.flatMap encV).map .sc) e s)) (hl : l.length ≤ 1000000) :
    ACalls P f [.own k 0 l.length,.fn (.func g) [] []] H fun v H' => v = .tup [] ∧ ∃ l' : List α,l'.Perm l ∧ l'.Pairwise (fun a b => lt b a = false) ∧ H' = H.set k (.cells ((l'.flatMap encV).map .sc) e s) := by
  intro n i c w vs gw hx
  obtain ⟨hlv,hv⟩ := hx
  match vs,hlv with
  | [x,y],_ =>
  have hvx := hv 0 (by simp)
  have hvy := hv 1 (by simp)
  simp only [List.getElem_cons_zero,List.getElem_cons_succ,List.getD,List.getElem?_cons_zero,List.getElem?_cons_succ,Option.getD_some] at hvx hvy
  cases hvx with
  | own _ _ _ cap hh hn hm hc =>
  cases hvy with
  | fn _ _ _ vf vc q1 q2 _ _ =>
  obtain rfl : vf = #[] := Array.eq_empty_of_size_eq_zero q1
  obtain rfl : vc = #[] := Array.eq_empty_of_size_eq_zero q2
  rw [cZ hcal]
  have hob := gw.obj k _ hk
  obtain ⟨va,fz,o1,o2,o3,o4,o5⟩ := hob
  simp only at o1 o3 o4 o5
  have hfl := flatMap_len encV s hs l
  rw [List.length_map] at o4
  have hval : ∀ j (hj : j < (l.flatMap encV).length),va.getD j undef = (l.flatMap encV)[j] := fun j hj => by
    have := (o5 j (by rw [List.length_map]; exact hj)).1
    rw [List.getElem_map] at this
    exact (bQ this)
  have hgd : ∀ j (hj : j < va.size),va[j]? = some (va.getD j undef) := fun j hj => by simp [hj]
  have hH : HoldsK encV s w (i k) 0 l.toArray := by
    unfold HoldsK Holds
    rw [flatK_flat encV s hs]
    intro j hj
    have hj' : j < (l.flatMap encV).length := by simpa using hj
    refine ⟨?_,?_⟩
    · unfold World.cell?
      simp only [o1,Nat.zero_add,Option.isSome_none,Bool.false_eq_true,if_false]
      rw [hgd j (by omega),hval j hj',getElem!_pos _ j hj]
      simp
    · unfold World.frozen?
      simp only [o1,Nat.zero_add]
      exact o2 j (by omega)
  have hblk := gw.blk k _ hk rfl
  refine (hcon (i k) cap l.toArray w hH hblk (by simp; omega)).mono ?_
  rintro e' w' ⟨rfl,d',n',os,hp,hsrt,rfl⟩
  refine ⟨_,rfl,.tup [],H.set k (.cells ((d'.toList.flatMap encV).map .sc) e s),n,i,c,⟨rfl,d'.toList,?_,?_,rfl⟩,?_⟩
  · have h := hp.2.2
    have hsz := hp.1
    rw [Array.extract_eq_self_of_le (by omega),Array.extract_eq_self_of_le (Nat.le_refl _)] at h
    exact h
  · rw [List.pairwise_iff_getElem]
    intro a b ha hb hab
    have hsz := hp.1
    have := hsrt a b (Nat.zero_le _) hab (by simp only [Array.length_toList] at hb; omega)
    rw [getElem!_pos d' b (by simpa using hb),getElem!_pos d' a (by simpa using ha)] at this
    simpa using this
  · have hsz : d'.toList.length = l.length := by have := hp.1; simpa using this
    have hfl' := flatMap_len encV s hs d'.toList
    have hfk : flatK encV s d' = (d'.toList.flatMap encV).toArray := by
      have := flatK_flat encV s hs d'.toList
      simpa using this
    have hnt : ∀ m e' s',AObj.cells ((l.flatMap encV).map .sc) e s ≠ .tail m e' s' := by intro _ _ _ h; cases h
    have hW : Go.Sort.putRowK encV s (Go.Sort.ahead w n') (i k) 0 d' = { w with drawn := w.drawn + n',heap := w.heap.modify (i k) (Go.Sort.onCells (Go.Sort.putCells id 0 (flatK encV s d'))) } := rfl
    have hother : ∀ b,b ≠ i k → (Go.Sort.putRowK encV s (Go.Sort.ahead w n') (i k) 0 d').heap[b]? = w.heap[b]? := fun b hb => by
      rw [hW]
      simp only [Array.getElem?_modify]
      rw [if_neg (fun e => hb e.symm)]
    have ex := Ext.put gw (h := k) hk (o' := .cells ((d'.toList.flatMap encV).map .sc) e s) rfl (Go.Sort.putRowK encV s (Go.Sort.ahead w n') (i k) 0 d') (by rw [hW]; simp) hother rfl rfl rfl hnt
    have hvs : (Go.Sort.putCells id 0 (flatK encV s d') va).size = va.size := by simp [Go.Sort.putCells]
    have gr := WR.put gw (h := k) hk (o' := .cells ((d'.toList.flatMap encV).map .sc) e s) rfl (Go.Sort.putRowK encV s (Go.Sort.ahead w n') (i k) 0 d') (by rw [hW]; simp) hother rfl rfl rfl hnt
      ⟨Go.Sort.putCells id 0 (flatK encV s d') va,fz,by
        rw [hW]
        simp only [Array.getElem?_modify,if_true,o1,Option.map_some]
        rfl,by rw [hvs]; exact o2,by rw [hvs]; exact o3,by rw [hvs,List.length_map,hfl',hsz,← hfl]; exact o4,fun j hj => by
        rw [List.length_map] at hj
        have hjv : j < va.size := by rw [hfl',hsz,← hfl] at hj; omega
        have hg : (Go.Sort.putCells id 0 (flatK encV s d') va).getD j undef = (d'.toList.flatMap encV)[j] := by
          have hjs : j < (d'.toList.flatMap encV).toArray.size := by rw [List.size_toArray]; exact hj
          unfold Go.Sort.putCells
          rw [hfk,Array.getD_eq_getD_getElem?,Array.getElem?_mapIdx,Array.getElem?_eq_getElem hjv]
          simp only [Option.map_some,Option.getD_some]
          rw [if_pos ⟨Nat.zero_le _,by omega⟩,Nat.sub_zero,getElem!_pos _ j hjs]
          simp
        rw [hg,List.getElem_map]
        refine ⟨.sc _,?_⟩
        obtain ⟨q1,q2,q3⟩ := flatMap_get encV s hs d'.toList j hj
        rw [q3]
        exact h1 _ _ (List.getElem_mem _)⟩
    obtain ⟨k1,k2⟩ := WR.grows gr os
    exact ⟨k1,ex.trans k2,.tup [] #[] rfl (fun j h => absurd h (by simp))⟩
end Go.Abs
