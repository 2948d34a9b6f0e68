/-
  Several texts in one: each says what it proves.
  Conditions: none. Lemmas only.
-/
import Derived.Test.YtcncplameclkfaaGreatDoorBxG7
set_option linter.all false
section
set_option maxRecDepth 20000
set_option maxHeartbeats 4000000
namespace Go.Proofs.YtcncplameclkfaaGreatDoor
open Go Go.Abs Go.Proofs Go.Box
theorem jk{c:Cfg}{l:List Oper}{t:STree}{K:Sg→AH→Prop}{σ:Sg}{H:AH}{k:Tie K}{k':Tie l}(h:RunT c l t K σ H):DrawT c l t K σ H k k':=eI00 K h fun _ _ h=>h
theorem mD{H:AH}{a b:Nat}{x y:AObj}(h:¬a=b)(hn:H a=none):((H.set a x).set b y).kill a=H.set b y:=by
 funext z
 simp only[AH.set,AH.kill]
 by_cases e1:z=a
 ·subst e1
  simp[h,hn]
 ·simp[e1]
theorem mG{H:AH}{a b:Nat}{x y x':AObj}(h:¬a=b):((H.set a x).set b y).set a x'=(H.set a x').set b y:=by
 rw[fD h,set_set]
end Go.Proofs.YtcncplameclkfaaGreatDoor
end
