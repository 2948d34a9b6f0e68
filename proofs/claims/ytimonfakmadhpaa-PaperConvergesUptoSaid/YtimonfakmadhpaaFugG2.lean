/-
  Several texts in one: each says what it proves.
  Conditions: none. Lemmas only.
-/
import Derived.Test.YtimonfakmadhpaaFugG1
set_option linter.all false
section
set_option linter.unusedSimpArgs false
set_option linter.unusedVariables false
set_option maxRecDepth 8000
set_option maxHeartbeats 4000000
namespace Go.Proofs.Ytimonfakmadhpaa
open Go Go.Abs Go.Proofs Go.Fug

def bp (l : List Ins) : List AV := l.flatMap cA
theorem bN (l : List Ins) : (bp l).length = l.length * 6 := by
  induction l with
  | nil => rfl
  | cons t r ih => simp only [bp,List.flatMap_cons,List.length_append,List.length_cons] at *; rw [ih]; simp [cA]; omega
theorem inssC_drop {l : List Ins} {i : Nat} (h : i < l.length) : (bp l).drop (i * 6) = cA l[i] ++ bp (l.drop (i + 1)) := by
  induction l generalizing i with
  | nil => simp at h
  | cons t r ih =>
    cases i with
    | zero => simp [bp]
    | succ i =>
      have e : (i + 1) * 6 = 6 + i * 6 := by omega
      have e1 : bp (t :: r) = cA t ++ bp r := rfl
      rw [e,← List.drop_drop,e1,List.drop_left' (by simp [cA]),ih (by simpa using h)]
      rfl
theorem ei {l : List Ins} {i : Nat} (h : i < l.length) : ((bp l).drop (i * 6)).take 6 = cA l[i] := by
  rw [inssC_drop h,List.take_left' (by simp [cA])]
theorem dD (l : List Ins) (i : Ins) : bp l ++ cA i = bp (l ++ [i]) := by simp [bp]

abbrev treeC (L : List Ins) (G : List EId) : List AV := [.imm 0 (bp L) L.length,.imm 0 (cB G) G.length]
end Go.Proofs.Ytimonfakmadhpaa
end
section
set_option linter.unusedSimpArgs false
set_option linter.unusedVariables false
set_option maxRecDepth 8000
set_option maxHeartbeats 4000000
namespace Go.Proofs.Ytimonfakmadhpaa
open Go Go.Abs Go.Proofs Go.Fug

end Go.Proofs.Ytimonfakmadhpaa
end
section
namespace Go.Fug

theorem cO {α : Type} [DecidableEq α] : ∀ (l m : List α),l.Nodup → (∀ x ∈ l,x ∈ m) → l.length ≤ m.length
  | [],_,_,_ => Nat.zero_le _
  | a :: l,m,h,hs => by
    obtain ⟨h1,h2⟩ := List.nodup_cons.1 h
    have ha := hs a (by simp)
    have := cO l (m.erase a) h2 fun x hx => (List.mem_erase_of_ne (fun e : x = a => h1 (by rw [← e]; exact hx))).2 (hs x (by simp [hx]))
    rw [List.length_erase_of_mem ha] at this
    have hm : 0 < m.length := List.length_pos_of_mem ha
    simp only [List.length_cons]
    omega
theorem uniq_id {L : List Ins} (h : (L.map (·.id)).Nodup) {i j : Ins} (hi : i ∈ L) (hj : j ∈ L) (e : i.id = j.id) : i = j := by
  have h1 := find_id h hi
  have h2 := find_id h hj
  rw [e] at h1
  rw [h1] at h2
  exact Option.some.inj h2
def next (L : List Ins) (S : List EId) : List EId := S.flatMap fun z => kids L z false ++ kids L z true
theorem kids_nodup {L : List Ins} (h : (L.map (·.id)).Nodup) (p : EId) (r : Bool) : (kids L p r).Nodup :=
  (kids_sorted h p r).imp fun hab e => by rw [e,less_irr] at hab; cases hab
theorem kids_apart {L : List Ins} (h : (L.map (·.id)).Nodup) {p q x : EId} {r s : Bool} (h1 : x ∈ kids L p r) (h2 : x ∈ kids L q s) : p = q ∧ r = s := by
  obtain ⟨i,hi,e1,e2,e3⟩ := mem_kids.1 h1
  obtain ⟨j,hj,f1,f2,f3⟩ := mem_kids.1 h2
  obtain rfl := uniq_id h hi hj (e1.trans f1.symm)
  exact ⟨e2.symm.trans f2,e3.symm.trans f3⟩
theorem next_nodup {L : List Ins} (h : (L.map (·.id)).Nodup) {S : List EId} (hS : S.Nodup) : (next L S).Nodup := by
  unfold next List.Nodup
  rw [List.pairwise_flatMap]
  refine ⟨fun z _ => ?_,hS.imp fun {z z'} hne x hx y hy e => ?_⟩
  · show (kids L z false ++ kids L z true).Nodup
    rw [List.nodup_append]
    exact ⟨kids_nodup h _ _,kids_nodup h _ _,fun a ha b hb e => by
      subst e
      have := (kids_apart h ha hb).2
      cases this⟩
  · subst e
    rcases List.mem_append.1 hx with h1 | h1 <;> rcases List.mem_append.1 hy with h2 | h2 <;> exact hne (kids_apart h h1 h2).1
theorem next_le {L : List Ins} (h : (L.map (·.id)).Nodup) {S : List EId} (hS : S.Nodup) : (next L S).length ≤ L.length := by
  have := cO (next L S) (L.map (·.id)) (next_nodup h hS) fun x hx => by
    obtain ⟨z,_,hz⟩ := List.mem_flatMap.1 hx
    rcases List.mem_append.1 hz with h1 | h1 <;> (obtain ⟨i,hi,e,-⟩ := mem_kids.1 h1; exact List.mem_map.2 ⟨i,hi,e⟩)
  rwa [List.length_map] at this
def cnt (L : List Ins) (G : List EId) (n : Nat) (x : EId) : Nat := (below L G n x false).length + (below L G n x true).length
theorem below_len (L : List Ins) (G : List EId) (n : Nat) (x : EId) (r : Bool) : (below L G (n + 1) x r).length = ((kids L x r).map fun y => 1 + cnt L G n y).sum := by
  simp only [below,List.length_flatMap]
  congr 1
  apply List.map_congr_left
  intro y _
  simp only [List.length_append,List.length_singleton,cnt]
  omega
theorem cnt_sum (L : List Ins) (G : List EId) (n : Nat) : ∀ S : List EId,(S.map (cnt L G (n + 1))).sum = ((next L S).map fun y => 1 + cnt L G n y).sum
  | [] => rfl
  | x :: S => by
    have ih := cnt_sum L G n S
    simp only [List.map_cons,List.sum_cons,next,List.flatMap_cons,List.map_append,List.sum_append] at *
    rw [ih]
    show cnt L G (n + 1) x + _ = _
    unfold cnt
    rw [below_len,below_len]
    rfl
theorem cnt_le {L : List Ins} (G : List EId) (h : (L.map (·.id)).Nodup) : ∀ (n : Nat) (S : List EId),S.Nodup → (S.map (cnt L G n)).sum ≤ n * L.length
  | 0,S,_ => by
    have : ∀ S : List EId,(S.map (cnt L G 0)).sum = 0 := fun S => by
      induction S with
      | nil => rfl
      | cons x S ih => rw [List.map_cons,List.sum_cons,ih]; rfl
    rw [this]; omega
  | n + 1,S,hS => by
    rw [cnt_sum]
    have ih := cnt_le G h n (next L S) (next_nodup h hS)
    have hl := next_le h hS
    have : ∀ M : List EId,(M.map fun y => 1 + cnt L G n y).sum = M.length + (M.map (cnt L G n)).sum := fun M => by
      induction M with
      | nil => rfl
      | cons x M ih => simp only [List.map_cons,List.sum_cons,List.length_cons,ih]; omega
    rw [this,Nat.succ_mul]
    omega
theorem below_le {L : List Ins} (G : List EId) (h : (L.map (·.id)).Nodup) (n : Nat) (x : EId) (r : Bool) : (below L G n x r).length ≤ n * L.length := by
  have := cnt_le G h n [x] (by simp)
  simp only [List.map_cons,List.map_nil,List.sum_cons,List.sum_nil,cnt] at this
  cases r <;> omega
end Go.Fug
end
section
set_option linter.unusedSimpArgs false
set_option linter.unusedVariables false
set_option maxRecDepth 8000
set_option maxHeartbeats 4000000
namespace Go.Proofs.Ytimonfakmadhpaa
open Go Go.Abs Go.Proofs Go.Fug

def ndC (n : Nd) : List AV := [.sc (.int .i64 n.id.1),.sc (.int .i64 n.id.2),.sc (.int .i32 n.rune),.sc (.bool n.gone)]
end Go.Proofs.Ytimonfakmadhpaa
end
