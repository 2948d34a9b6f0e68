/-
  Facts of the seat's program: sizes of types, functions that have bodies. By program.
  Conditions: none.
-/
import Derived.Test.YtibipjdngpjndaaProg
import Derived.Test.YtibipjdngpjndaaAbsG5
set_option linter.all false
set_option linter.unusedSimpArgs false
namespace Go.Proofs.Try
open Go Go.Abs
theorem mixed : prog.follows .mixedOrders = true := by kernel_rfl
theorem sz2 : ai0 prog 2 = 1 := by kernel_rfl
theorem by2 : ay prog 2 = 8 := by kernel_rfl
theorem ze2 : aq prog 2 = [.sc (.int .i64 0)] := by kernel_rfl
theorem zn2 : ap prog 2 = [.sc (.int .i64 0)] := by kernel_rfl
theorem ha2 : ax prog 2 = true := by kernel_rfl
theorem sz3 : ai0 prog 3 = 1 := by kernel_rfl
theorem by3 : ay prog 3 = 8 := by kernel_rfl
theorem ze3 : aq prog 3 = [.sc (.int .i64 0)] := by kernel_rfl
theorem zn3 : ap prog 3 = [.sc (.int .i64 0)] := by kernel_rfl
theorem ha3 : ax prog 3 = true := by kernel_rfl
theorem sz4 : ai0 prog 4 = 1 := by kernel_rfl
theorem by4 : ay prog 4 = 1 := by kernel_rfl
theorem ze4 : aq prog 4 = [.sc (.bool false)] := by kernel_rfl
theorem zn4 : ap prog 4 = [.sc (.bool false)] := by kernel_rfl
theorem ha4 : ax prog 4 = true := by kernel_rfl
theorem sz5 : ai0 prog 5 = 1 := by kernel_rfl
theorem by5 : ay prog 5 = 1 := by kernel_rfl
theorem ze5 : aq prog 5 = [.sc (.int .u8 0)] := by kernel_rfl
theorem zn5 : ap prog 5 = [.sc (.int .u8 0)] := by kernel_rfl
theorem ha5 : ax prog 5 = true := by kernel_rfl
theorem sz9 : ai0 prog 9 = 1 := by kernel_rfl
theorem by9 : ay prog 9 = 16 := by kernel_rfl
theorem ze9 : aq prog 9 = [.sc (.string ⟨#[]⟩)] := by kernel_rfl
theorem zn9 : ap prog 9 = [.sc (.string ⟨#[]⟩)] := by kernel_rfl
theorem ha9 : ax prog 9 = true := by kernel_rfl
theorem sz12 : ai0 prog 12 = 1 := by kernel_rfl
theorem by12 : ay prog 12 = 8 := by kernel_rfl
theorem ze12 : aq prog 12 = [.sc (.int .u64 0)] := by kernel_rfl
theorem zn12 : ap prog 12 = [.sc (.int .u64 0)] := by kernel_rfl
theorem ha12 : ax prog 12 = true := by kernel_rfl
theorem sz21 : ai0 prog 21 = 1 := by kernel_rfl
theorem by21 : ay prog 21 = 4 := by kernel_rfl
theorem ze21 : aq prog 21 = [.sc (.int .i32 0)] := by kernel_rfl
theorem zn21 : ap prog 21 = [.sc (.int .i32 0)] := by kernel_rfl
theorem ha21 : ax prog 21 = true := by kernel_rfl
theorem sz22 : ai0 prog 22 = 1 := by kernel_rfl
theorem by22 : ay prog 22 = 24 := by kernel_rfl
theorem ze22 : aq prog 22 = [.imm 0 [] 0] := by kernel_rfl
theorem zn22 : ap prog 22 = [.sc (.slice none 0 0)] := by kernel_rfl
theorem ha22 : ax prog 22 = true := by kernel_rfl
theorem sz24 : ai0 prog 24 = 1 := by kernel_rfl
theorem by24 : ay prog 24 = 8 := by kernel_rfl
theorem ze24 : aq prog 24 = [.sc (.pointer none)] := by kernel_rfl
theorem zn24 : ap prog 24 = [.sc (.pointer none)] := by kernel_rfl
theorem ha24 : ax prog 24 = true := by kernel_rfl
theorem sz28 : ai0 prog 28 = 1 := by kernel_rfl
theorem by28 : ay prog 28 = 8 := by kernel_rfl
theorem ze28 : aq prog 28 = [.sc (.int .i64 0)] := by kernel_rfl
theorem zn28 : ap prog 28 = [.sc (.int .i64 0)] := by kernel_rfl
theorem ha28 : ax prog 28 = true := by kernel_rfl
theorem sz32 : ai0 prog 32 = 1 := by kernel_rfl
theorem by32 : ay prog 32 = 8 := by kernel_rfl
theorem ze32 : aq prog 32 = [.sc (.pointer none)] := by kernel_rfl
theorem zn32 : ap prog 32 = [.sc (.pointer none)] := by kernel_rfl
theorem ha32 : ax prog 32 = true := by kernel_rfl
theorem sz36 : ai0 prog 36 = 2 := by kernel_rfl
theorem by36 : ay prog 36 = 32 := by kernel_rfl
theorem ze36 : aq prog 36 = [.imm 0 [] 0,.sc (.int .i64 0)] := by kernel_rfl
theorem zn36 : ap prog 36 = [.sc (.slice none 0 0),.sc (.int .i64 0)] := by kernel_rfl
theorem ha36 : ax prog 36 = true := by kernel_rfl
theorem sz37 : ai0 prog 37 = 2 := by kernel_rfl
theorem by37 : ay prog 37 = 32 := by kernel_rfl
theorem ze37 : aq prog 37 = [.imm 0 [] 0,.sc (.int .i64 0)] := by kernel_rfl
theorem zn37 : ap prog 37 = [.sc (.slice none 0 0),.sc (.int .i64 0)] := by kernel_rfl
theorem ha37 : ax prog 37 = true := by kernel_rfl
theorem sz40 : ai0 prog 40 = 1 := by kernel_rfl
theorem by40 : ay prog 40 = 8 := by kernel_rfl
theorem ze40 : aq prog 40 = [.sc (.map none)] := by kernel_rfl
theorem zn40 : ap prog 40 = [.sc (.map none)] := by kernel_rfl
theorem ha40 : ax prog 40 = true := by kernel_rfl
theorem sz41 : ai0 prog 41 = 1 := by kernel_rfl
theorem by41 : ay prog 41 = 24 := by kernel_rfl
theorem ze41 : aq prog 41 = [.imm 0 [] 0] := by kernel_rfl
theorem zn41 : ap prog 41 = [.sc (.slice none 0 0)] := by kernel_rfl
theorem ha41 : ax prog 41 = true := by kernel_rfl
theorem sz42 : ai0 prog 42 = 2 := by kernel_rfl
theorem by42 : ay prog 42 = 32 := by kernel_rfl
theorem ze42 : aq prog 42 = [.imm 0 [] 0,.sc (.map none)] := by kernel_rfl
theorem zn42 : ap prog 42 = [.sc (.slice none 0 0),.sc (.map none)] := by kernel_rfl
theorem ha42 : ax prog 42 = true := by kernel_rfl
theorem sz43 : ai0 prog 43 = 2 := by kernel_rfl
theorem by43 : ay prog 43 = 32 := by kernel_rfl
theorem ze43 : aq prog 43 = [.imm 0 [] 0,.sc (.map none)] := by kernel_rfl
theorem zn43 : ap prog 43 = [.sc (.slice none 0 0),.sc (.map none)] := by kernel_rfl
theorem ha43 : ax prog 43 = true := by kernel_rfl
theorem sz44 : ai0 prog 44 = 3 := by kernel_rfl
theorem by44 : ay prog 44 = 40 := by kernel_rfl
theorem ze44 : aq prog 44 = [.imm 0 [] 0,.sc (.map none),.sc (.int .i64 0)] := by kernel_rfl
theorem zn44 : ap prog 44 = [.sc (.slice none 0 0),.sc (.map none),.sc (.int .i64 0)] := by kernel_rfl
theorem ha44 : ax prog 44 = true := by kernel_rfl
theorem sz45 : ai0 prog 45 = 3 := by kernel_rfl
theorem by45 : ay prog 45 = 40 := by kernel_rfl
theorem ze45 : aq prog 45 = [.imm 0 [] 0,.sc (.map none),.sc (.int .i64 0)] := by kernel_rfl
theorem zn45 : ap prog 45 = [.sc (.slice none 0 0),.sc (.map none),.sc (.int .i64 0)] := by kernel_rfl
theorem ha45 : ax prog 45 = true := by kernel_rfl
theorem sz49 : ai0 prog 49 = 1 := by kernel_rfl
theorem by49 : ay prog 49 = 4 := by kernel_rfl
theorem ze49 : aq prog 49 = [.sc (.int .u32 0)] := by kernel_rfl
theorem zn49 : ap prog 49 = [.sc (.int .u32 0)] := by kernel_rfl
theorem ha49 : ax prog 49 = true := by kernel_rfl
theorem sz53 : ai0 prog 53 = 1 := by kernel_rfl
theorem by53 : ay prog 53 = 8 := by kernel_rfl
theorem ze53 : aq prog 53 = [.sc (.int .u64 0)] := by kernel_rfl
theorem zn53 : ap prog 53 = [.sc (.int .u64 0)] := by kernel_rfl
theorem ha53 : ax prog 53 = true := by kernel_rfl
theorem sz57 : ai0 prog 57 = 1 := by kernel_rfl
theorem by57 : ay prog 57 = 24 := by kernel_rfl
theorem ze57 : aq prog 57 = [.imm 0 [] 0] := by kernel_rfl
theorem zn57 : ap prog 57 = [.sc (.slice none 0 0)] := by kernel_rfl
theorem ha57 : ax prog 57 = true := by kernel_rfl
theorem sz58 : ai0 prog 58 = 2 := by kernel_rfl
theorem by58 : ay prog 58 = 32 := by kernel_rfl
theorem ze58 : aq prog 58 = [.sc (.int .u8 0),.imm 0 [] 0] := by kernel_rfl
theorem zn58 : ap prog 58 = [.sc (.int .u8 0),.sc (.slice none 0 0)] := by kernel_rfl
theorem ha58 : ax prog 58 = true := by kernel_rfl
theorem sz59 : ai0 prog 59 = 2 := by kernel_rfl
theorem by59 : ay prog 59 = 32 := by kernel_rfl
theorem ze59 : aq prog 59 = [.sc (.int .u8 0),.imm 0 [] 0] := by kernel_rfl
theorem zn59 : ap prog 59 = [.sc (.int .u8 0),.sc (.slice none 0 0)] := by kernel_rfl
theorem ha59 : ax prog 59 = true := by kernel_rfl
theorem sz62 : ai0 prog 62 = 16 := by kernel_rfl
theorem by62 : ay prog 62 = 64 := by kernel_rfl
theorem ze62 : aq prog 62 = [.sc (.int .u32 0),.sc (.int .u32 0),.sc (.int .u32 0),.sc (.int .u32 0),.sc (.int .u32 0),.sc (.int .u32 0),.sc (.int .u32 0),.sc (.int .u32 0),.sc (.int .u32 0),.sc (.int .u32 0),.sc (.int .u32 0),.sc (.int .u32 0),.sc (.int .u32 0),.sc (.int .u32 0),.sc (.int .u32 0),.sc (.int .u32 0)] := by kernel_rfl
theorem zn62 : ap prog 62 = [.sc (.int .u32 0),.sc (.int .u32 0),.sc (.int .u32 0),.sc (.int .u32 0),.sc (.int .u32 0),.sc (.int .u32 0),.sc (.int .u32 0),.sc (.int .u32 0),.sc (.int .u32 0),.sc (.int .u32 0),.sc (.int .u32 0),.sc (.int .u32 0),.sc (.int .u32 0),.sc (.int .u32 0),.sc (.int .u32 0),.sc (.int .u32 0)] := by kernel_rfl
theorem ha62 : ax prog 62 = true := by kernel_rfl
theorem sz68 : ai0 prog 68 = 1 := by kernel_rfl
theorem by68 : ay prog 68 = 24 := by kernel_rfl
theorem ze68 : aq prog 68 = [.imm 0 [] 0] := by kernel_rfl
theorem zn68 : ap prog 68 = [.sc (.slice none 0 0)] := by kernel_rfl
theorem ha68 : ax prog 68 = true := by kernel_rfl
theorem sz70 : ai0 prog 70 = 1 := by kernel_rfl
theorem by70 : ay prog 70 = 24 := by kernel_rfl
theorem ze70 : aq prog 70 = [.imm 0 [] 0] := by kernel_rfl
theorem zn70 : ap prog 70 = [.sc (.slice none 0 0)] := by kernel_rfl
theorem ha70 : ax prog 70 = true := by kernel_rfl
theorem sz72 : ai0 prog 72 = 1 := by kernel_rfl
theorem by72 : ay prog 72 = 24 := by kernel_rfl
theorem ze72 : aq prog 72 = [.imm 0 [] 0] := by kernel_rfl
theorem zn72 : ap prog 72 = [.sc (.slice none 0 0)] := by kernel_rfl
theorem ha72 : ax prog 72 = true := by kernel_rfl
theorem sz79 : ai0 prog 79 = 1 := by kernel_rfl
theorem by79 : ay prog 79 = 8 := by kernel_rfl
theorem ze79 : aq prog 79 = [.sc (.pointer none)] := by kernel_rfl
theorem zn79 : ap prog 79 = [.sc (.pointer none)] := by kernel_rfl
theorem ha79 : ax prog 79 = true := by kernel_rfl
theorem sz82 : ai0 prog 82 = 4 := by kernel_rfl
theorem by82 : ay prog 82 = 32 := by kernel_rfl
theorem ze82 : aq prog 82 = [.sc (.int .i64 0),.sc (.int .i64 0),.sc (.int .i64 0),.sc (.int .i64 0)] := by kernel_rfl
theorem zn82 : ap prog 82 = [.sc (.int .i64 0),.sc (.int .i64 0),.sc (.int .i64 0),.sc (.int .i64 0)] := by kernel_rfl
theorem ha82 : ax prog 82 = true := by kernel_rfl
theorem sz83 : ai0 prog 83 = 4 := by kernel_rfl
theorem by83 : ay prog 83 = 16 := by kernel_rfl
theorem ze83 : aq prog 83 = [.sc (.int .u32 0),.sc (.int .u32 0),.sc (.int .u32 0),.sc (.int .u32 0)] := by kernel_rfl
theorem zn83 : ap prog 83 = [.sc (.int .u32 0),.sc (.int .u32 0),.sc (.int .u32 0),.sc (.int .u32 0)] := by kernel_rfl
theorem ha83 : ax prog 83 = true := by kernel_rfl
theorem sz85 : ai0 prog 85 = 1 := by kernel_rfl
theorem by85 : ay prog 85 = 8 := by kernel_rfl
theorem ze85 : aq prog 85 = [.sc (.int .u64 0)] := by kernel_rfl
theorem zn85 : ap prog 85 = [.sc (.int .u64 0)] := by kernel_rfl
theorem ha85 : ax prog 85 = true := by kernel_rfl
theorem sz86 : ai0 prog 86 = 4 := by kernel_rfl
theorem by86 : ay prog 86 = 32 := by kernel_rfl
theorem ze86 : aq prog 86 = [.sc (.int .u64 0),.sc (.int .u64 0),.sc (.int .u64 0),.sc (.int .u64 0)] := by kernel_rfl
theorem zn86 : ap prog 86 = [.sc (.int .u64 0),.sc (.int .u64 0),.sc (.int .u64 0),.sc (.int .u64 0)] := by kernel_rfl
theorem ha86 : ax prog 86 = true := by kernel_rfl
theorem sz87 : ai0 prog 87 = 4 := by kernel_rfl
theorem by87 : ay prog 87 = 32 := by kernel_rfl
theorem ze87 : aq prog 87 = [.sc (.int .u64 0),.sc (.int .u64 0),.sc (.int .u64 0),.sc (.int .u64 0)] := by kernel_rfl
theorem zn87 : ap prog 87 = [.sc (.int .u64 0),.sc (.int .u64 0),.sc (.int .u64 0),.sc (.int .u64 0)] := by kernel_rfl
theorem ha87 : ax prog 87 = true := by kernel_rfl
theorem sz99 : ai0 prog 99 = 2 := by kernel_rfl
theorem by99 : ay prog 99 = 16 := by kernel_rfl
theorem ze99 : aq prog 99 = [.sc (.int .i64 0),.sc (.int .i64 0)] := by kernel_rfl
theorem zn99 : ap prog 99 = [.sc (.int .i64 0),.sc (.int .i64 0)] := by kernel_rfl
theorem ha99 : ax prog 99 = true := by kernel_rfl
theorem sz100 : ai0 prog 100 = 4 := by kernel_rfl
theorem by100 : ay prog 100 = 32 := by kernel_rfl
theorem ze100 : aq prog 100 = [.sc (.int .i64 0),.sc (.int .i64 0),.sc (.int .i64 0),.sc (.int .i64 0)] := by kernel_rfl
theorem zn100 : ap prog 100 = [.sc (.int .i64 0),.sc (.int .i64 0),.sc (.int .i64 0),.sc (.int .i64 0)] := by kernel_rfl
theorem ha100 : ax prog 100 = true := by kernel_rfl
theorem sz101 : ai0 prog 101 = 16 := by kernel_rfl
theorem by101 : ay prog 101 = 16 := by kernel_rfl
theorem ze101 : aq prog 101 = [.sc (.int .u8 0),.sc (.int .u8 0),.sc (.int .u8 0),.sc (.int .u8 0),.sc (.int .u8 0),.sc (.int .u8 0),.sc (.int .u8 0),.sc (.int .u8 0),.sc (.int .u8 0),.sc (.int .u8 0),.sc (.int .u8 0),.sc (.int .u8 0),.sc (.int .u8 0),.sc (.int .u8 0),.sc (.int .u8 0),.sc (.int .u8 0)] := by kernel_rfl
theorem zn101 : ap prog 101 = [.sc (.int .u8 0),.sc (.int .u8 0),.sc (.int .u8 0),.sc (.int .u8 0),.sc (.int .u8 0),.sc (.int .u8 0),.sc (.int .u8 0),.sc (.int .u8 0),.sc (.int .u8 0),.sc (.int .u8 0),.sc (.int .u8 0),.sc (.int .u8 0),.sc (.int .u8 0),.sc (.int .u8 0),.sc (.int .u8 0),.sc (.int .u8 0)] := by kernel_rfl
theorem ha101 : ax prog 101 = true := by kernel_rfl
theorem sz102 : ai0 prog 102 = 8 := by kernel_rfl
theorem by102 : ay prog 102 = 64 := by kernel_rfl
theorem ze102 : aq prog 102 = [.sc (.int .u64 0),.sc (.int .u64 0),.sc (.int .u64 0),.sc (.int .u64 0),.sc (.int .u64 0),.sc (.int .u64 0),.sc (.int .u64 0),.sc (.int .u64 0)] := by kernel_rfl
theorem zn102 : ap prog 102 = [.sc (.int .u64 0),.sc (.int .u64 0),.sc (.int .u64 0),.sc (.int .u64 0),.sc (.int .u64 0),.sc (.int .u64 0),.sc (.int .u64 0),.sc (.int .u64 0)] := by kernel_rfl
theorem ha102 : ax prog 102 = true := by kernel_rfl
theorem sz106 : ai0 prog 106 = 16 := by kernel_rfl
theorem by106 : ay prog 106 = 128 := by kernel_rfl
theorem ze106 : aq prog 106 = [.sc (.int .u64 0),.sc (.int .u64 0),.sc (.int .u64 0),.sc (.int .u64 0),.sc (.int .u64 0),.sc (.int .u64 0),.sc (.int .u64 0),.sc (.int .u64 0),.sc (.int .u64 0),.sc (.int .u64 0),.sc (.int .u64 0),.sc (.int .u64 0),.sc (.int .u64 0),.sc (.int .u64 0),.sc (.int .u64 0),.sc (.int .u64 0)] := by kernel_rfl
theorem zn106 : ap prog 106 = [.sc (.int .u64 0),.sc (.int .u64 0),.sc (.int .u64 0),.sc (.int .u64 0),.sc (.int .u64 0),.sc (.int .u64 0),.sc (.int .u64 0),.sc (.int .u64 0),.sc (.int .u64 0),.sc (.int .u64 0),.sc (.int .u64 0),.sc (.int .u64 0),.sc (.int .u64 0),.sc (.int .u64 0),.sc (.int .u64 0),.sc (.int .u64 0)] := by kernel_rfl
theorem ha106 : ax prog 106 = true := by kernel_rfl
theorem sz115 : ai0 prog 115 = 1 := by kernel_rfl
theorem by115 : ay prog 115 = 8 := by kernel_rfl
theorem ze115 : aq prog 115 = [.sc (.pointer none)] := by kernel_rfl
theorem zn115 : ap prog 115 = [.sc (.pointer none)] := by kernel_rfl
theorem ha115 : ax prog 115 = true := by kernel_rfl
theorem eq82 (a1 b1 : Int) (a2 b2 : Int) (a3 b3 : Int) (a4 b4 : Int) : eqG prog 6 82 (.agg [.sc (.int .i64 a1),.sc (.int .i64 a2),.sc (.int .i64 a3),.sc (.int .i64 a4)]) (.agg [.sc (.int .i64 b1),.sc (.int .i64 b2),.sc (.int .i64 b3),.sc (.int .i64 b4)]) = some ((a1 == b1) && ((a2 == b2) && ((a3 == b3) && ((a4 == b4) && true)))) := by kernel_rfl
theorem ck82 (x0 x1 x2 x3 : AV) : cl0 prog 6 82 (.agg [x0,x1,x2,x3]) = true := by kernel_rfl
theorem eq83 (a1 b1 : Int) (a2 b2 : Int) (a3 b3 : Int) (a4 b4 : Int) : eqG prog 6 83 (.agg [.sc (.int .u32 a1),.sc (.int .u32 a2),.sc (.int .u32 a3),.sc (.int .u32 a4)]) (.agg [.sc (.int .u32 b1),.sc (.int .u32 b2),.sc (.int .u32 b3),.sc (.int .u32 b4)]) = some ((a1 == b1) && ((a2 == b2) && ((a3 == b3) && ((a4 == b4) && true)))) := by kernel_rfl
theorem ck83 (x0 x1 x2 x3 : AV) : cl0 prog 6 83 (.agg [x0,x1,x2,x3]) = true := by kernel_rfl
theorem eq86 (a1 b1 : Int) (a2 b2 : Int) (a3 b3 : Int) (a4 b4 : Int) : eqG prog 6 86 (.agg [.sc (.int .u64 a1),.sc (.int .u64 a2),.sc (.int .u64 a3),.sc (.int .u64 a4)]) (.agg [.sc (.int .u64 b1),.sc (.int .u64 b2),.sc (.int .u64 b3),.sc (.int .u64 b4)]) = some ((a1 == b1) && ((a2 == b2) && ((a3 == b3) && ((a4 == b4) && true)))) := by kernel_rfl
theorem ck86 (x0 x1 x2 x3 : AV) : cl0 prog 6 86 (.agg [x0,x1,x2,x3]) = true := by kernel_rfl
theorem eq87 (a1 b1 : Int) (a2 b2 : Int) (a3 b3 : Int) (a4 b4 : Int) : eqG prog 6 87 (.agg [.sc (.int .u64 a1),.sc (.int .u64 a2),.sc (.int .u64 a3),.sc (.int .u64 a4)]) (.agg [.sc (.int .u64 b1),.sc (.int .u64 b2),.sc (.int .u64 b3),.sc (.int .u64 b4)]) = some ((a1 == b1) && ((a2 == b2) && ((a3 == b3) && ((a4 == b4) && true)))) := by kernel_rfl
theorem ck87 (x0 x1 x2 x3 : AV) : cl0 prog 6 87 (.agg [x0,x1,x2,x3]) = true := by kernel_rfl
theorem eq99 (a1 b1 : Int) (a2 b2 : Int) : eqG prog 6 99 (.agg [.sc (.int .i64 a1),.sc (.int .i64 a2)]) (.agg [.sc (.int .i64 b1),.sc (.int .i64 b2)]) = some ((a1 == b1) && ((a2 == b2) && true)) := by kernel_rfl
theorem ck99 (x0 x1 : AV) : cl0 prog 6 99 (.agg [x0,x1]) = true := by kernel_rfl
theorem eq100 (a1 b1 : Int) (a2 b2 : Int) (a3 b3 : Int) (a4 b4 : Int) : eqG prog 6 100 (.agg [.sc (.int .i64 a1),.sc (.int .i64 a2),.sc (.int .i64 a3),.sc (.int .i64 a4)]) (.agg [.sc (.int .i64 b1),.sc (.int .i64 b2),.sc (.int .i64 b3),.sc (.int .i64 b4)]) = some (((a1 == b1) && ((a2 == b2) && true)) && (((a3 == b3) && ((a4 == b4) && true)) && true)) := by kernel_rfl
theorem ck100 (x0 x1 x2 x3 : AV) : cl0 prog 6 100 (.agg [x0,x1,x2,x3]) = true := by kernel_rfl
theorem eq102 (a1 b1 : Int) (a2 b2 : Int) (a3 b3 : Int) (a4 b4 : Int) (a5 b5 : Int) (a6 b6 : Int) (a7 b7 : Int) (a8 b8 : Int) : eqG prog 6 102 (.agg [.sc (.int .u64 a1),.sc (.int .u64 a2),.sc (.int .u64 a3),.sc (.int .u64 a4),.sc (.int .u64 a5),.sc (.int .u64 a6),.sc (.int .u64 a7),.sc (.int .u64 a8)]) (.agg [.sc (.int .u64 b1),.sc (.int .u64 b2),.sc (.int .u64 b3),.sc (.int .u64 b4),.sc (.int .u64 b5),.sc (.int .u64 b6),.sc (.int .u64 b7),.sc (.int .u64 b8)]) = some ((a1 == b1) && ((a2 == b2) && ((a3 == b3) && ((a4 == b4) && ((a5 == b5) && ((a6 == b6) && ((a7 == b7) && ((a8 == b8) && true)))))))) := by kernel_rfl
theorem ck102 (x0 x1 x2 x3 x4 x5 x6 x7 : AV) : cl0 prog 6 102 (.agg [x0,x1,x2,x3,x4,x5,x6,x7]) = true := by kernel_rfl
theorem zv2 : ar prog 2 = .sc (.int .i64 0) := by kernel_rfl
theorem zv3 : ar prog 3 = .sc (.int .i64 0) := by kernel_rfl
theorem zv4 : ar prog 4 = .sc (.bool false) := by kernel_rfl
theorem zv5 : ar prog 5 = .sc (.int .u8 0) := by kernel_rfl
theorem zv9 : ar prog 9 = .sc (.string ⟨#[]⟩) := by kernel_rfl
theorem zv12 : ar prog 12 = .sc (.int .u64 0) := by kernel_rfl
theorem zv21 : ar prog 21 = .sc (.int .i32 0) := by kernel_rfl
theorem zv22 : ar prog 22 = .sc (.slice none 0 0) := by kernel_rfl
theorem zv24 : ar prog 24 = .sc (.pointer none) := by kernel_rfl
theorem zv28 : ar prog 28 = .sc (.int .i64 0) := by kernel_rfl
theorem zv32 : ar prog 32 = .sc (.pointer none) := by kernel_rfl
theorem zv36 : ar prog 36 = .agg [.sc (.slice none 0 0),.sc (.int .i64 0)] := by kernel_rfl
theorem zv37 : ar prog 37 = .agg [.sc (.slice none 0 0),.sc (.int .i64 0)] := by kernel_rfl
theorem zv40 : ar prog 40 = .sc (.map none) := by kernel_rfl
theorem zv41 : ar prog 41 = .sc (.slice none 0 0) := by kernel_rfl
theorem zv42 : ar prog 42 = .agg [.sc (.slice none 0 0),.sc (.map none)] := by kernel_rfl
theorem zv43 : ar prog 43 = .agg [.sc (.slice none 0 0),.sc (.map none)] := by kernel_rfl
theorem zv44 : ar prog 44 = .agg [.sc (.slice none 0 0),.sc (.map none),.sc (.int .i64 0)] := by kernel_rfl
theorem zv45 : ar prog 45 = .agg [.sc (.slice none 0 0),.sc (.map none),.sc (.int .i64 0)] := by kernel_rfl
theorem zv49 : ar prog 49 = .sc (.int .u32 0) := by kernel_rfl
theorem zv53 : ar prog 53 = .sc (.int .u64 0) := by kernel_rfl
theorem zv57 : ar prog 57 = .sc (.slice none 0 0) := by kernel_rfl
theorem zv58 : ar prog 58 = .agg [.sc (.int .u8 0),.sc (.slice none 0 0)] := by kernel_rfl
theorem zv59 : ar prog 59 = .agg [.sc (.int .u8 0),.sc (.slice none 0 0)] := by kernel_rfl
theorem zv62 : ar prog 62 = .agg [.sc (.int .u32 0),.sc (.int .u32 0),.sc (.int .u32 0),.sc (.int .u32 0),.sc (.int .u32 0),.sc (.int .u32 0),.sc (.int .u32 0),.sc (.int .u32 0),.sc (.int .u32 0),.sc (.int .u32 0),.sc (.int .u32 0),.sc (.int .u32 0),.sc (.int .u32 0),.sc (.int .u32 0),.sc (.int .u32 0),.sc (.int .u32 0)] := by kernel_rfl
theorem zv68 : ar prog 68 = .sc (.slice none 0 0) := by kernel_rfl
theorem zv70 : ar prog 70 = .sc (.slice none 0 0) := by kernel_rfl
theorem zv72 : ar prog 72 = .sc (.slice none 0 0) := by kernel_rfl
theorem zv79 : ar prog 79 = .sc (.pointer none) := by kernel_rfl
theorem zv82 : ar prog 82 = .agg [.sc (.int .i64 0),.sc (.int .i64 0),.sc (.int .i64 0),.sc (.int .i64 0)] := by kernel_rfl
theorem zv83 : ar prog 83 = .agg [.sc (.int .u32 0),.sc (.int .u32 0),.sc (.int .u32 0),.sc (.int .u32 0)] := by kernel_rfl
theorem zv85 : ar prog 85 = .sc (.int .u64 0) := by kernel_rfl
theorem zv86 : ar prog 86 = .agg [.sc (.int .u64 0),.sc (.int .u64 0),.sc (.int .u64 0),.sc (.int .u64 0)] := by kernel_rfl
theorem zv87 : ar prog 87 = .agg [.sc (.int .u64 0),.sc (.int .u64 0),.sc (.int .u64 0),.sc (.int .u64 0)] := by kernel_rfl
theorem zv99 : ar prog 99 = .agg [.sc (.int .i64 0),.sc (.int .i64 0)] := by kernel_rfl
theorem zv100 : ar prog 100 = .agg [.sc (.int .i64 0),.sc (.int .i64 0),.sc (.int .i64 0),.sc (.int .i64 0)] := by kernel_rfl
theorem zv101 : ar prog 101 = .agg [.sc (.int .u8 0),.sc (.int .u8 0),.sc (.int .u8 0),.sc (.int .u8 0),.sc (.int .u8 0),.sc (.int .u8 0),.sc (.int .u8 0),.sc (.int .u8 0),.sc (.int .u8 0),.sc (.int .u8 0),.sc (.int .u8 0),.sc (.int .u8 0),.sc (.int .u8 0),.sc (.int .u8 0),.sc (.int .u8 0),.sc (.int .u8 0)] := by kernel_rfl
theorem zv102 : ar prog 102 = .agg [.sc (.int .u64 0),.sc (.int .u64 0),.sc (.int .u64 0),.sc (.int .u64 0),.sc (.int .u64 0),.sc (.int .u64 0),.sc (.int .u64 0),.sc (.int .u64 0)] := by kernel_rfl
theorem zv106 : ar prog 106 = .agg [.sc (.int .u64 0),.sc (.int .u64 0),.sc (.int .u64 0),.sc (.int .u64 0),.sc (.int .u64 0),.sc (.int .u64 0),.sc (.int .u64 0),.sc (.int .u64 0),.sc (.int .u64 0),.sc (.int .u64 0),.sc (.int .u64 0),.sc (.int .u64 0),.sc (.int .u64 0),.sc (.int .u64 0),.sc (.int .u64 0),.sc (.int .u64 0)] := by kernel_rfl
theorem zv115 : ar prog 115 = .sc (.pointer none) := by kernel_rfl
theorem eo1 : bB prog 1 = true := by kernel_rfl
theorem eo4 : bB prog 4 = true := by kernel_rfl
theorem eo23 : bB prog 23 = true := by kernel_rfl
theorem eo24 : bB prog 24 = true := by kernel_rfl
theorem eo25 : bB prog 25 = true := by kernel_rfl
theorem eo26 : bB prog 26 = true := by kernel_rfl
theorem eo27 : bB prog 27 = true := by kernel_rfl
theorem eo30 : bB prog 30 = true := by kernel_rfl
theorem eo31 : bB prog 31 = true := by kernel_rfl
theorem eo32 : bB prog 32 = true := by kernel_rfl
theorem eo33 : bB prog 33 = true := by kernel_rfl
theorem eo34 : bB prog 34 = true := by kernel_rfl
theorem eo35 : bB prog 35 = true := by kernel_rfl
theorem eo38 : bB prog 38 = true := by kernel_rfl
theorem eo39 : bB prog 39 = true := by kernel_rfl
theorem eo40 : bB prog 40 = true := by kernel_rfl
theorem eo46 : bB prog 46 = true := by kernel_rfl
theorem eo47 : bB prog 47 = true := by kernel_rfl
theorem eo48 : bB prog 48 = true := by kernel_rfl
theorem eo50 : bB prog 50 = true := by kernel_rfl
theorem eo51 : bB prog 51 = true := by kernel_rfl
theorem eo52 : bB prog 52 = true := by kernel_rfl
theorem eo54 : bB prog 54 = true := by kernel_rfl
theorem eo55 : bB prog 55 = true := by kernel_rfl
theorem eo56 : bB prog 56 = true := by kernel_rfl
theorem eo60 : bB prog 60 = true := by kernel_rfl
theorem eo61 : bB prog 61 = true := by kernel_rfl
theorem eo63 : bB prog 63 = true := by kernel_rfl
theorem eo64 : bB prog 64 = true := by kernel_rfl
theorem eo65 : bB prog 65 = true := by kernel_rfl
theorem eo66 : bB prog 66 = true := by kernel_rfl
theorem eo67 : bB prog 67 = true := by kernel_rfl
theorem eo69 : bB prog 69 = true := by kernel_rfl
theorem eo71 : bB prog 71 = true := by kernel_rfl
theorem eo73 : bB prog 73 = true := by kernel_rfl
theorem eo74 : bB prog 74 = true := by kernel_rfl
theorem eo75 : bB prog 75 = true := by kernel_rfl
theorem eo76 : bB prog 76 = true := by kernel_rfl
theorem eo77 : bB prog 77 = true := by kernel_rfl
theorem eo78 : bB prog 78 = true := by kernel_rfl
theorem eo79 : bB prog 79 = true := by kernel_rfl
theorem eo80 : bB prog 80 = true := by kernel_rfl
theorem eo81 : bB prog 81 = true := by kernel_rfl
theorem eo82 : bB prog 82 = true := by kernel_rfl
theorem eo83 : bB prog 83 = true := by kernel_rfl
theorem eo84 : bB prog 84 = true := by kernel_rfl
theorem eo86 : bB prog 86 = true := by kernel_rfl
theorem eo87 : bB prog 87 = true := by kernel_rfl
theorem eo89 : bB prog 89 = true := by kernel_rfl
theorem eo91 : bB prog 91 = true := by kernel_rfl
theorem eo92 : bB prog 92 = true := by kernel_rfl
theorem eo93 : bB prog 93 = true := by kernel_rfl
theorem eo94 : bB prog 94 = true := by kernel_rfl
theorem eo95 : bB prog 95 = true := by kernel_rfl
theorem eo96 : bB prog 96 = true := by kernel_rfl
theorem eo97 : bB prog 97 = true := by kernel_rfl
theorem eo98 : bB prog 98 = true := by kernel_rfl
theorem eo99 : bB prog 99 = true := by kernel_rfl
theorem eo100 : bB prog 100 = true := by kernel_rfl
theorem eo102 : bB prog 102 = true := by kernel_rfl
theorem eo103 : bB prog 103 = true := by kernel_rfl
theorem eo104 : bB prog 104 = true := by kernel_rfl
theorem eo105 : bB prog 105 = true := by kernel_rfl
theorem eo115 : bB prog 115 = true := by kernel_rfl
theorem strTy : strTy prog = some 9 := by kernel_rfl
theorem z8_5 : bk prog 5 = .int .u8 0 := by kernel_rfl
theorem ca3 : ak prog 3 = true := by kernel_rfl
theorem ca4 : ak prog 4 = true := by kernel_rfl
theorem ca5 : ak prog 5 = true := by kernel_rfl
theorem ca6 : ak prog 6 = true := by kernel_rfl
theorem ca7 : ak prog 7 = true := by kernel_rfl
theorem ca8 : ak prog 8 = true := by kernel_rfl
theorem ca9 : ak prog 9 = true := by kernel_rfl
theorem ca10 : ak prog 10 = true := by kernel_rfl
theorem ca11 : ak prog 11 = true := by kernel_rfl
theorem ca12 : ak prog 12 = true := by kernel_rfl
theorem ca13 : ak prog 13 = true := by kernel_rfl
theorem ca14 : ak prog 14 = true := by kernel_rfl
theorem ca15 : ak prog 15 = true := by kernel_rfl
theorem ca16 : ak prog 16 = true := by kernel_rfl
theorem ca17 : ak prog 17 = true := by kernel_rfl
theorem ca18 : ak prog 18 = true := by kernel_rfl
theorem ca19 : ak prog 19 = true := by kernel_rfl
theorem ca20 : ak prog 20 = true := by kernel_rfl
theorem ca21 : ak prog 21 = true := by kernel_rfl
theorem ca22 : ak prog 22 = true := by kernel_rfl
theorem ca23 : ak prog 23 = true := by kernel_rfl
theorem ca24 : ak prog 24 = true := by kernel_rfl
theorem ca25 : ak prog 25 = true := by kernel_rfl
theorem ca26 : ak prog 26 = true := by kernel_rfl
theorem ca27 : ak prog 27 = true := by kernel_rfl
theorem ca28 : ak prog 28 = true := by kernel_rfl
theorem ca29 : ak prog 29 = true := by kernel_rfl
theorem ca30 : ak prog 30 = true := by kernel_rfl
theorem ca31 : ak prog 31 = true := by kernel_rfl
theorem ca32 : ak prog 32 = true := by kernel_rfl
theorem ca33 : ak prog 33 = true := by kernel_rfl
theorem ca34 : ak prog 34 = true := by kernel_rfl
theorem ca35 : ak prog 35 = true := by kernel_rfl
theorem ca36 : ak prog 36 = true := by kernel_rfl
theorem ca37 : ak prog 37 = true := by kernel_rfl
theorem ca38 : ak prog 38 = true := by kernel_rfl
theorem ca39 : ak prog 39 = true := by kernel_rfl
theorem ca40 : ak prog 40 = true := by kernel_rfl
theorem ca41 : ak prog 41 = true := by kernel_rfl
theorem ca42 : ak prog 42 = true := by kernel_rfl
theorem ca43 : ak prog 43 = true := by kernel_rfl
theorem ca44 : ak prog 44 = true := by kernel_rfl
theorem ca45 : ak prog 45 = true := by kernel_rfl
theorem ca46 : ak prog 46 = true := by kernel_rfl
theorem ca47 : ak prog 47 = true := by kernel_rfl
theorem ca48 : ak prog 48 = true := by kernel_rfl
theorem ca49 : ak prog 49 = true := by kernel_rfl
theorem ca50 : ak prog 50 = true := by kernel_rfl
theorem ca51 : ak prog 51 = true := by kernel_rfl
theorem ca52 : ak prog 52 = true := by kernel_rfl
theorem ca53 : ak prog 53 = true := by kernel_rfl
theorem ca54 : ak prog 54 = true := by kernel_rfl
theorem ca55 : ak prog 55 = true := by kernel_rfl
theorem ca56 : ak prog 56 = true := by kernel_rfl
theorem ca57 : ak prog 57 = true := by kernel_rfl
theorem ca58 : ak prog 58 = true := by kernel_rfl
theorem ca59 : ak prog 59 = true := by kernel_rfl
theorem ca60 : ak prog 60 = true := by kernel_rfl
theorem ca61 : ak prog 61 = true := by kernel_rfl
theorem ca62 : ak prog 62 = true := by kernel_rfl
theorem ca63 : ak prog 63 = true := by kernel_rfl
theorem ca64 : ak prog 64 = true := by kernel_rfl
theorem ca65 : ak prog 65 = true := by kernel_rfl
theorem ca66 : ak prog 66 = true := by kernel_rfl
theorem ca67 : ak prog 67 = true := by kernel_rfl
theorem ca68 : ak prog 68 = true := by kernel_rfl
theorem ca69 : ak prog 69 = true := by kernel_rfl
theorem ca70 : ak prog 70 = true := by kernel_rfl
theorem ca71 : ak prog 71 = true := by kernel_rfl
theorem ca72 : ak prog 72 = true := by kernel_rfl
theorem ca73 : ak prog 73 = true := by kernel_rfl
theorem ca74 : ak prog 74 = true := by kernel_rfl
theorem ca75 : ak prog 75 = true := by kernel_rfl
set_option maxRecDepth 100000 in
def facts := And.intro underlying1 <|
 And.intro eo1 <|
 And.intro underlying2 <|
 And.intro sz2 <|
 And.intro by2 <|
 And.intro ha2 <|
 And.intro ze2 <|
 And.intro zn2 <|
 And.intro zv2 <|
 And.intro underlying3 <|
 And.intro sz3 <|
 And.intro by3 <|
 And.intro ha3 <|
 And.intro ze3 <|
 And.intro zn3 <|
 And.intro zv3 <|
 And.intro underlying4 <|
 And.intro sz4 <|
 And.intro by4 <|
 And.intro ha4 <|
 And.intro eo4 <|
 And.intro ze4 <|
 And.intro zn4 <|
 And.intro zv4 <|
 And.intro underlying5 <|
 And.intro z8_5 <|
 And.intro sz5 <|
 And.intro by5 <|
 And.intro ha5 <|
 And.intro ze5 <|
 And.intro zn5 <|
 And.intro zv5 <|
 And.intro underlying9 <|
 And.intro sz9 <|
 And.intro by9 <|
 And.intro ha9 <|
 And.intro ze9 <|
 And.intro zn9 <|
 And.intro zv9 <|
 And.intro underlying12 <|
 And.intro sz12 <|
 And.intro by12 <|
 And.intro ha12 <|
 And.intro ze12 <|
 And.intro zn12 <|
 And.intro zv12 <|
 And.intro underlying21 <|
 And.intro sz21 <|
 And.intro by21 <|
 And.intro ha21 <|
 And.intro ze21 <|
 And.intro zn21 <|
 And.intro zv21 <|
 And.intro underlying22 <|
 And.intro sz22 <|
 And.intro by22 <|
 And.intro ha22 <|
 And.intro ze22 <|
 And.intro zn22 <|
 And.intro zv22 <|
 And.intro underlying23 <|
 And.intro eo23 <|
 And.intro underlying24 <|
 And.intro sz24 <|
 And.intro by24 <|
 And.intro ha24 <|
 And.intro eo24 <|
 And.intro ze24 <|
 And.intro zn24 <|
 And.intro zv24 <|
 And.intro underlying25 <|
 And.intro eo25 <|
 And.intro underlying26 <|
 And.intro eo26 <|
 And.intro underlying27 <|
 And.intro eo27 <|
 And.intro underlying28 <|
 And.intro sz28 <|
 And.intro by28 <|
 And.intro ha28 <|
 And.intro ze28 <|
 And.intro zn28 <|
 And.intro zv28 <|
 And.intro underlying30 <|
 And.intro eo30 <|
 And.intro underlying31 <|
 And.intro eo31 <|
 And.intro underlying32 <|
 And.intro sz32 <|
 And.intro by32 <|
 And.intro ha32 <|
 And.intro eo32 <|
 And.intro ze32 <|
 And.intro zn32 <|
 And.intro zv32 <|
 And.intro underlying33 <|
 And.intro eo33 <|
 And.intro underlying34 <|
 And.intro eo34 <|
 And.intro underlying35 <|
 And.intro eo35 <|
 And.intro underlying36 <|
 And.intro sz36 <|
 And.intro by36 <|
 And.intro ha36 <|
 And.intro ze36 <|
 And.intro zn36 <|
 And.intro zv36 <|
 And.intro underlying37 <|
 And.intro sz37 <|
 And.intro by37 <|
 And.intro ha37 <|
 And.intro ze37 <|
 And.intro zn37 <|
 And.intro zv37 <|
 And.intro underlying38 <|
 And.intro eo38 <|
 And.intro underlying39 <|
 And.intro eo39 <|
 And.intro underlying40 <|
 And.intro sz40 <|
 And.intro by40 <|
 And.intro ha40 <|
 And.intro eo40 <|
 And.intro ze40 <|
 And.intro zn40 <|
 And.intro zv40 <|
 And.intro underlying41 <|
 And.intro sz41 <|
 And.intro by41 <|
 And.intro ha41 <|
 And.intro ze41 <|
 And.intro zn41 <|
 And.intro zv41 <|
 And.intro underlying42 <|
 And.intro sz42 <|
 And.intro by42 <|
 And.intro ha42 <|
 And.intro ze42 <|
 And.intro zn42 <|
 And.intro zv42 <|
 And.intro underlying43 <|
 And.intro sz43 <|
 And.intro by43 <|
 And.intro ha43 <|
 And.intro ze43 <|
 And.intro zn43 <|
 And.intro zv43 <|
 And.intro underlying44 <|
 And.intro sz44 <|
 And.intro by44 <|
 And.intro ha44 <|
 And.intro ze44 <|
 And.intro zn44 <|
 And.intro zv44 <|
 And.intro underlying45 <|
 And.intro sz45 <|
 And.intro by45 <|
 And.intro ha45 <|
 And.intro ze45 <|
 And.intro zn45 <|
 And.intro zv45 <|
 And.intro underlying46 <|
 And.intro eo46 <|
 And.intro underlying47 <|
 And.intro eo47 <|
 And.intro underlying48 <|
 And.intro eo48 <|
 And.intro underlying49 <|
 And.intro sz49 <|
 And.intro by49 <|
 And.intro ha49 <|
 And.intro ze49 <|
 And.intro zn49 <|
 And.intro zv49 <|
 And.intro underlying50 <|
 And.intro eo50 <|
 And.intro underlying51 <|
 And.intro eo51 <|
 And.intro underlying52 <|
 And.intro eo52 <|
 And.intro underlying53 <|
 And.intro sz53 <|
 And.intro by53 <|
 And.intro ha53 <|
 And.intro ze53 <|
 And.intro zn53 <|
 And.intro zv53 <|
 And.intro underlying54 <|
 And.intro eo54 <|
 And.intro underlying55 <|
 And.intro eo55 <|
 And.intro underlying56 <|
 And.intro eo56 <|
 And.intro underlying57 <|
 And.intro sz57 <|
 And.intro by57 <|
 And.intro ha57 <|
 And.intro ze57 <|
 And.intro zn57 <|
 And.intro zv57 <|
 And.intro underlying58 <|
 And.intro sz58 <|
 And.intro by58 <|
 And.intro ha58 <|
 And.intro ze58 <|
 And.intro zn58 <|
 And.intro zv58 <|
 And.intro underlying59 <|
 And.intro sz59 <|
 And.intro by59 <|
 And.intro ha59 <|
 And.intro ze59 <|
 And.intro zn59 <|
 And.intro zv59 <|
 And.intro underlying60 <|
 And.intro eo60 <|
 And.intro underlying61 <|
 And.intro eo61 <|
 And.intro underlying62 <|
 And.intro sz62 <|
 And.intro by62 <|
 And.intro ha62 <|
 And.intro ze62 <|
 And.intro zn62 <|
 And.intro zv62 <|
 And.intro underlying63 <|
 And.intro eo63 <|
 And.intro underlying64 <|
 And.intro eo64 <|
 And.intro underlying65 <|
 And.intro eo65 <|
 And.intro underlying66 <|
 And.intro eo66 <|
 And.intro underlying67 <|
 And.intro eo67 <|
 And.intro underlying68 <|
 And.intro sz68 <|
 And.intro by68 <|
 And.intro ha68 <|
 And.intro ze68 <|
 And.intro zn68 <|
 And.intro zv68 <|
 And.intro underlying69 <|
 And.intro eo69 <|
 And.intro underlying70 <|
 And.intro sz70 <|
 And.intro by70 <|
 And.intro ha70 <|
 And.intro ze70 <|
 And.intro zn70 <|
 And.intro zv70 <|
 And.intro underlying71 <|
 And.intro eo71 <|
 And.intro underlying72 <|
 And.intro sz72 <|
 And.intro by72 <|
 And.intro ha72 <|
 And.intro ze72 <|
 And.intro zn72 <|
 And.intro zv72 <|
 And.intro underlying73 <|
 And.intro eo73 <|
 And.intro underlying74 <|
 And.intro eo74 <|
 And.intro underlying75 <|
 And.intro eo75 <|
 And.intro underlying76 <|
 And.intro eo76 <|
 And.intro underlying77 <|
 And.intro eo77 <|
 And.intro underlying78 <|
 And.intro eo78 <|
 And.intro underlying79 <|
 And.intro sz79 <|
 And.intro by79 <|
 And.intro ha79 <|
 And.intro eo79 <|
 And.intro ze79 <|
 And.intro zn79 <|
 And.intro zv79 <|
 And.intro underlying80 <|
 And.intro eo80 <|
 And.intro underlying81 <|
 And.intro eo81 <|
 And.intro underlying82 <|
 And.intro sz82 <|
 And.intro by82 <|
 And.intro ha82 <|
 And.intro eo82 <|
 And.intro ze82 <|
 And.intro zn82 <|
 And.intro zv82 <|
 And.intro eq82 <|
 And.intro ck82 <|
 And.intro underlying83 <|
 And.intro sz83 <|
 And.intro by83 <|
 And.intro ha83 <|
 And.intro eo83 <|
 And.intro ze83 <|
 And.intro zn83 <|
 And.intro zv83 <|
 And.intro eq83 <|
 And.intro ck83 <|
 And.intro underlying84 <|
 And.intro eo84 <|
 And.intro underlying85 <|
 And.intro sz85 <|
 And.intro by85 <|
 And.intro ha85 <|
 And.intro ze85 <|
 And.intro zn85 <|
 And.intro zv85 <|
 And.intro underlying86 <|
 And.intro sz86 <|
 And.intro by86 <|
 And.intro ha86 <|
 And.intro eo86 <|
 And.intro ze86 <|
 And.intro zn86 <|
 And.intro zv86 <|
 And.intro eq86 <|
 And.intro ck86 <|
 And.intro underlying87 <|
 And.intro sz87 <|
 And.intro by87 <|
 And.intro ha87 <|
 And.intro eo87 <|
 And.intro ze87 <|
 And.intro zn87 <|
 And.intro zv87 <|
 And.intro eq87 <|
 And.intro ck87 <|
 And.intro underlying89 <|
 And.intro eo89 <|
 And.intro underlying91 <|
 And.intro eo91 <|
 And.intro underlying92 <|
 And.intro eo92 <|
 And.intro underlying93 <|
 And.intro eo93 <|
 And.intro underlying94 <|
 And.intro eo94 <|
 And.intro underlying95 <|
 And.intro eo95 <|
 And.intro underlying96 <|
 And.intro eo96 <|
 And.intro underlying97 <|
 And.intro eo97 <|
 And.intro underlying98 <|
 And.intro eo98 <|
 And.intro underlying99 <|
 And.intro sz99 <|
 And.intro by99 <|
 And.intro ha99 <|
 And.intro eo99 <|
 And.intro ze99 <|
 And.intro zn99 <|
 And.intro zv99 <|
 And.intro eq99 <|
 And.intro ck99 <|
 And.intro underlying100 <|
 And.intro sz100 <|
 And.intro by100 <|
 And.intro ha100 <|
 And.intro eo100 <|
 And.intro ze100 <|
 And.intro zn100 <|
 And.intro zv100 <|
 And.intro eq100 <|
 And.intro ck100 <|
 And.intro underlying101 <|
 And.intro sz101 <|
 And.intro by101 <|
 And.intro ha101 <|
 And.intro ze101 <|
 And.intro zn101 <|
 And.intro zv101 <|
 And.intro underlying102 <|
 And.intro sz102 <|
 And.intro by102 <|
 And.intro ha102 <|
 And.intro eo102 <|
 And.intro ze102 <|
 And.intro zn102 <|
 And.intro zv102 <|
 And.intro eq102 <|
 And.intro ck102 <|
 And.intro underlying103 <|
 And.intro eo103 <|
 And.intro underlying104 <|
 And.intro eo104 <|
 And.intro underlying105 <|
 And.intro eo105 <|
 And.intro underlying106 <|
 And.intro sz106 <|
 And.intro by106 <|
 And.intro ha106 <|
 And.intro ze106 <|
 And.intro zn106 <|
 And.intro zv106 <|
 And.intro underlying115 <|
 And.intro sz115 <|
 And.intro by115 <|
 And.intro ha115 <|
 And.intro eo115 <|
 And.intro ze115 <|
 And.intro zn115 <|
 And.intro zv115 <|
 And.intro strTy <|
 And.intro ca3 <|
 And.intro ca4 <|
 And.intro ca5 <|
 And.intro ca6 <|
 And.intro ca7 <|
 And.intro ca8 <|
 And.intro ca9 <|
 And.intro ca10 <|
 And.intro ca11 <|
 And.intro ca12 <|
 And.intro ca13 <|
 And.intro ca14 <|
 And.intro ca15 <|
 And.intro ca16 <|
 And.intro ca17 <|
 And.intro ca18 <|
 And.intro ca19 <|
 And.intro ca20 <|
 And.intro ca21 <|
 And.intro ca22 <|
 And.intro ca23 <|
 And.intro ca24 <|
 And.intro ca25 <|
 And.intro ca26 <|
 And.intro ca27 <|
 And.intro ca28 <|
 And.intro ca29 <|
 And.intro ca30 <|
 And.intro ca31 <|
 And.intro ca32 <|
 And.intro ca33 <|
 And.intro ca34 <|
 And.intro ca35 <|
 And.intro ca36 <|
 And.intro ca37 <|
 And.intro ca38 <|
 And.intro ca39 <|
 And.intro ca40 <|
 And.intro ca41 <|
 And.intro ca42 <|
 And.intro ca43 <|
 And.intro ca44 <|
 And.intro ca45 <|
 And.intro ca46 <|
 And.intro ca47 <|
 And.intro ca48 <|
 And.intro ca49 <|
 And.intro ca50 <|
 And.intro ca51 <|
 And.intro ca52 <|
 And.intro ca53 <|
 And.intro ca54 <|
 And.intro ca55 <|
 And.intro ca56 <|
 And.intro ca57 <|
 And.intro ca58 <|
 And.intro ca59 <|
 And.intro ca60 <|
 And.intro ca61 <|
 And.intro ca62 <|
 And.intro ca63 <|
 And.intro ca64 <|
 And.intro ca65 <|
 And.intro ca66 <|
 And.intro ca67 <|
 And.intro ca68 <|
 And.intro ca69 <|
 And.intro ca70 <|
 And.intro ca71 <|
 And.intro ca72 <|
 And.intro ca73 <|
 And.intro ca74 <| ca75
end Go.Proofs.Try
