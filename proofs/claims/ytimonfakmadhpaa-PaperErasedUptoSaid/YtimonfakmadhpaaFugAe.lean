/-
  The fugue layer in plain Lean: one that is planned stands where it was planned.
  Conditions: none. Lemmas only.
-/
import Derived.Test.YtimonfakmadhpaaFugG5
set_option linter.all false
namespace Go.Fug
section
variable {L : List Ins} {G : List EId} {i : Ins}
def liv (l : List Nd) : List Nd := l.filter fun n => !n.gone
theorem nd_eq {n : Nd} (h : n ∈ bF L G) : n = bl L G n.id := by
  obtain ⟨y,-,rfl⟩ := mem_below h
  rfl
theorem liv_nodup (g : Good L) (G : List EId) : (ck (liv (bF L G))).Nodup := (nodes_nodup g G).sublist (List.Sublist.map _ List.filter_sublist)
end
end Go.Fug
