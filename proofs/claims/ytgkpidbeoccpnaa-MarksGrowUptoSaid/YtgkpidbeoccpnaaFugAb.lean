/-
  The walks of the fugue layer: where one is to hang: the document's.
  Conditions: none. Lemmas only.
-/
import Derived.Test.YtgkpidbeoccpnaaFugAa
import Derived.Test.YtgkpidbeoccpnaaFugG5
set_option linter.all false
set_option linter.unusedSimpArgs false
set_option linter.unusedVariables false
set_option maxRecDepth 8000
set_option maxHeartbeats 4000000
namespace Go.Proofs.Ytgkpidbeoccpnaa
open Go Go.Abs Go.Proofs Go.Fug
/-- whom one stands behind -/
def planA (N : List Nd) (k : Nat) : EId := if k = 0 then root else (((live N)[k - 1]?).map (·.id)).getD root
def planL (L : List Ins) (G : List EId) (i : Int) : EId × Bool × Int :=
  if 0 ≤ i ∧ i ≤ ((live (nodes L G)).length : Nat) then
    if kids L (planA (nodes L G) i.toNat) true = [] then (planA (nodes L G) i.toNat,true,0) else (planZ L G (planA (nodes L G) i.toNat),false,0)
  else (root,false,6)
abbrev planV (p : EId × Bool × Int) : AV := .tup [idV p.1,.sc (.bool p.2.1),.sc (.int .i64 p.2.2)]
theorem planA_ok {L : List Ins} {G : List EId} (g : Fug.Good L) {k : Nat} (hk : k ≤ (live (nodes L G)).length) :
    (planA (nodes L G) k = root ∨ planA (nodes L G) k ∈ L.map (·.id)) ∧ (∀ h : 0 < k,planA (nodes L G) k = ((live (nodes L G))[k - 1]'(by omega)).id) := by
  by_cases h : k = 0
  · subst h
    exact ⟨.inl rfl,fun h => by omega⟩
  · have e : planA (nodes L G) k = ((live (nodes L G))[k - 1]'(by omega)).id := by
      unfold planA
      rw [if_neg h,List.getElem?_eq_getElem (by omega)]
      rfl
    refine ⟨.inr ?_,fun _ => e⟩
    rw [e,← mem_nodes g G]
    exact List.mem_map.2 ⟨_,(List.mem_filter.1 (List.getElem_mem _)).1,rfl⟩
end Go.Proofs.Ytgkpidbeoccpnaa
