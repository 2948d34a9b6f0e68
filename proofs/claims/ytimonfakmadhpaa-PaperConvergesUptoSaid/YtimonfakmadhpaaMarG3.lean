/-
  Several texts in one: each says what it proves.
  Conditions: none. Lemmas only.
-/
import Derived.Test.YtimonfakmadhpaaMarG2
import Derived.Test.YtimonfakmadhpaaFugG2
set_option linter.all false
section
set_option linter.unusedSimpArgs false
set_option linter.unusedVariables false
set_option maxRecDepth 8000
set_option maxHeartbeats 4000000
namespace Go.Proofs.Ytimonfakmadhpaa
open Go Go.Abs Go.Proofs Go.Fug
abbrev ancC (x : EId) (b : Bool) : List AV := [.sc (.int .i64 x.1),.sc (.int .i64 x.2),.sc (.bool b)]
def idsNd (ns : List Nd) : List EId := ns.map (·.id)
def posN (ns : List Nd) (x : EId) : Int := if x ∈ idsNd ns then ((idsNd ns).idxOf x : Nat) else -1
def thereN (ns : List Nd) (x : EId) : Bool := decide (x = bL) || decide (0 ≤ posN ns x)
def aheadN (ns : List Nd) (x : EId) (b : Bool) (i : Nat) : Bool := if x = bL then b else decide (posN ns x < i) || (decide (posN ns x = i) && !b)
def covN (ns : List Nd) (m : Mk) (i : Nat) : Bool := thereN ns m.fid && (thereN ns m.tid && (aheadN ns m.fid m.fb i && !aheadN ns m.tid m.tb i))
end Go.Proofs.Ytimonfakmadhpaa
end
section
set_option linter.unusedSimpArgs false
set_option linter.unusedVariables false
set_option maxRecDepth 8000
set_option maxHeartbeats 4000000
namespace Go.Proofs.Ytimonfakmadhpaa
open Go Go.Abs Go.Proofs Go.Fug
def zeroMk : Mk := ⟨0,0,(0,0),false,(0,0),false,0,0⟩
def bestF (ns : List Nd) (i : Nat) (n : Int) (b m : Mk) : Mk := if m.name = n ∧ covN ns m i = true ∧ newM m b = true then m else b
def bestN (ns : List Nd) (l : List Mk) (i : Nat) (n : Int) : Mk := l.foldl (bestF ns i n) zeroMk
abbrev styC (a b c d : Int) : List AV := [.sc (.int .i64 0),.sc (.int .i64 a),.sc (.int .i64 b),.sc (.int .i64 c),.sc (.int .i64 d)]
abbrev styD (ns : List Nd) (l : List Mk) (i : Nat) : List AV := styC (bestN ns l i 1).value (bestN ns l i 2).value (bestN ns l i 3).value (bestN ns l i 4).value
end Go.Proofs.Ytimonfakmadhpaa
end
