/-
  The walks of the suite layer: the document's suite: what is shared, verified, opened.
  Conditions: none. Lemmas only.
-/
import Derived.Test.YtaehlpkinbpmbaaSuiM
set_option linter.all false
set_option linter.unusedSimpArgs false
set_option linter.unusedVariables false
set_option maxRecDepth 20000
namespace Go.Proofs.Ytaehlpkinbpmbaa
open Go Go.Abs Go.Proofs

def openV (ts : List Term) (key : List UInt8) (n : Nat) (o b : List UInt8) : AV :=
  if opT ts key n o b = true then .tup [bytesV (partT (findT ts b 98).1 3),.sc (.int .i64 0)] else .tup [.imm 0 [] 0,.sc (.int .i64 9)]
end Go.Proofs.Ytaehlpkinbpmbaa
