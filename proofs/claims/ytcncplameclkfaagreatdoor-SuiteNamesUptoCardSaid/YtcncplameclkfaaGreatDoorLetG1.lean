/-
  Tests on numbers, settled out of what is known.
  Conditions: none. Lemmas only.
-/
import Derived.Test.YtcncplameclkfaaGreatDoorFugFacts
set_option linter.all false
set_option maxRecDepth 20000
set_option maxHeartbeats 4000000
namespace Go.Proofs.YtcncplameclkfaaGreatDoor
open Go Go.Abs Go.Proofs
theorem dT{p:Prop}[Decidable p](h:p):decide p=true:=by simpa using h
theorem dF{p:Prop}[Decidable p](h:¬p):decide p=false:=by simpa using h
theorem nT{a b:Int}(h:¬a=b):(a != b)=true:=by simpa using h
theorem nF{a b:Int}(h:a=b):(a != b)=false:=by simpa using h
end Go.Proofs.YtcncplameclkfaaGreatDoor
