/-
  Facts of the seat's program: sizes of types, functions that have bodies. By program.
  Conditions: none.
-/
import Derived.Test.YtjlnpngaiphnmaaProg
import Derived.Test.YtjlnpngaiphnmaaAbsG5
set_option linter.all false
set_option linter.unusedSimpArgs false
namespace Go.Proofs.Try
open Go Go.Abs
theorem mixed : prog.follows .mixedOrders = true := by kernel_rfl
theorem sz2 : ai prog 2 = 1 := by kernel_rfl
theorem by2 : ay prog 2 = 8 := by kernel_rfl
theorem ze2 : aq prog 2 = [.sc (.int .i64 0)] := by kernel_rfl
theorem zn2 : ap prog 2 = [.sc (.int .i64 0)] := by kernel_rfl
theorem ha2 : ax prog 2 = true := by kernel_rfl
theorem sz3 : ai prog 3 = 1 := by kernel_rfl
theorem by3 : ay prog 3 = 8 := by kernel_rfl
theorem ze3 : aq prog 3 = [.sc (.int .i64 0)] := by kernel_rfl
theorem zn3 : ap prog 3 = [.sc (.int .i64 0)] := by kernel_rfl
theorem ha3 : ax prog 3 = true := by kernel_rfl
theorem sz4 : ai prog 4 = 1 := by kernel_rfl
theorem by4 : ay prog 4 = 1 := by kernel_rfl
theorem ze4 : aq prog 4 = [.sc (.bool false)] := by kernel_rfl
theorem zn4 : ap prog 4 = [.sc (.bool false)] := by kernel_rfl
theorem ha4 : ax prog 4 = true := by kernel_rfl
theorem sz5 : ai prog 5 = 1 := by kernel_rfl
theorem by5 : ay prog 5 = 1 := by kernel_rfl
theorem ze5 : aq prog 5 = [.sc (.int .u8 0)] := by kernel_rfl
theorem zn5 : ap prog 5 = [.sc (.int .u8 0)] := by kernel_rfl
theorem ha5 : ax prog 5 = true := by kernel_rfl
theorem sz9 : ai prog 9 = 1 := by kernel_rfl
theorem by9 : ay prog 9 = 16 := by kernel_rfl
theorem ze9 : aq prog 9 = [.sc (.string ⟨#[]⟩)] := by kernel_rfl
theorem zn9 : ap prog 9 = [.sc (.string ⟨#[]⟩)] := by kernel_rfl
theorem ha9 : ax prog 9 = true := by kernel_rfl
theorem sz12 : ai prog 12 = 1 := by kernel_rfl
theorem by12 : ay prog 12 = 8 := by kernel_rfl
theorem ze12 : aq prog 12 = [.sc (.int .u64 0)] := by kernel_rfl
theorem zn12 : ap prog 12 = [.sc (.int .u64 0)] := by kernel_rfl
theorem ha12 : ax prog 12 = true := by kernel_rfl
theorem sz21 : ai prog 21 = 1 := by kernel_rfl
theorem by21 : ay prog 21 = 4 := by kernel_rfl
theorem ze21 : aq prog 21 = [.sc (.int .i32 0)] := by kernel_rfl
theorem zn21 : ap prog 21 = [.sc (.int .i32 0)] := by kernel_rfl
theorem ha21 : ax prog 21 = true := by kernel_rfl
theorem sz22 : ai prog 22 = 1 := by kernel_rfl
theorem by22 : ay prog 22 = 24 := by kernel_rfl
theorem ze22 : aq prog 22 = [.imm 0 [] 0] := by kernel_rfl
theorem zn22 : ap prog 22 = [.sc (.slice none 0 0)] := by kernel_rfl
theorem ha22 : ax prog 22 = true := by kernel_rfl
theorem sz25 : ai prog 25 = 1 := by kernel_rfl
theorem by25 : ay prog 25 = 8 := by kernel_rfl
theorem ze25 : aq prog 25 = [.sc (.pointer none)] := by kernel_rfl
theorem zn25 : ap prog 25 = [.sc (.pointer none)] := by kernel_rfl
theorem ha25 : ax prog 25 = true := by kernel_rfl
theorem sz26 : ai prog 26 = 1 := by kernel_rfl
theorem by26 : ay prog 26 = 8 := by kernel_rfl
theorem ze26 : aq prog 26 = [.sc (.pointer none)] := by kernel_rfl
theorem zn26 : ap prog 26 = [.sc (.pointer none)] := by kernel_rfl
theorem ha26 : ax prog 26 = true := by kernel_rfl
theorem sz27 : ai prog 27 = 1 := by kernel_rfl
theorem by27 : ay prog 27 = 24 := by kernel_rfl
theorem ze27 : aq prog 27 = [.imm 0 [] 0] := by kernel_rfl
theorem zn27 : ap prog 27 = [.sc (.slice none 0 0)] := by kernel_rfl
theorem ha27 : ax prog 27 = true := by kernel_rfl
theorem sz28 : ai prog 28 = 2 := by kernel_rfl
theorem by28 : ay prog 28 = 32 := by kernel_rfl
theorem ze28 : aq prog 28 = [.imm 0 [] 0,.sc (.int .i64 0)] := by kernel_rfl
theorem zn28 : ap prog 28 = [.sc (.slice none 0 0),.sc (.int .i64 0)] := by kernel_rfl
theorem ha28 : ax prog 28 = true := by kernel_rfl
theorem sz29 : ai prog 29 = 2 := by kernel_rfl
theorem by29 : ay prog 29 = 32 := by kernel_rfl
theorem ze29 : aq prog 29 = [.imm 0 [] 0,.sc (.int .i64 0)] := by kernel_rfl
theorem zn29 : ap prog 29 = [.sc (.slice none 0 0),.sc (.int .i64 0)] := by kernel_rfl
theorem ha29 : ax prog 29 = true := by kernel_rfl
theorem sz30 : ai prog 30 = 1 := by kernel_rfl
theorem by30 : ay prog 30 = 24 := by kernel_rfl
theorem ze30 : aq prog 30 = [.imm 0 [] 0] := by kernel_rfl
theorem zn30 : ap prog 30 = [.sc (.slice none 0 0)] := by kernel_rfl
theorem ha30 : ax prog 30 = true := by kernel_rfl
theorem sz31 : ai prog 31 = 1 := by kernel_rfl
theorem by31 : ay prog 31 = 24 := by kernel_rfl
theorem ze31 : aq prog 31 = [.imm 0 [] 0] := by kernel_rfl
theorem zn31 : ap prog 31 = [.sc (.slice none 0 0)] := by kernel_rfl
theorem ha31 : ax prog 31 = true := by kernel_rfl
theorem sz32 : ai prog 32 = 1 := by kernel_rfl
theorem by32 : ay prog 32 = 24 := by kernel_rfl
theorem ze32 : aq prog 32 = [.imm 0 [] 0] := by kernel_rfl
theorem zn32 : ap prog 32 = [.sc (.slice none 0 0)] := by kernel_rfl
theorem ha32 : ax prog 32 = true := by kernel_rfl
theorem sz33 : ai prog 33 = 3 := by kernel_rfl
theorem by33 : ay prog 33 = 72 := by kernel_rfl
theorem ze33 : aq prog 33 = [.imm 0 [] 0,.imm 0 [] 0,.imm 0 [] 0] := by kernel_rfl
theorem zn33 : ap prog 33 = [.sc (.slice none 0 0),.sc (.slice none 0 0),.sc (.slice none 0 0)] := by kernel_rfl
theorem ha33 : ax prog 33 = true := by kernel_rfl
theorem sz34 : ai prog 34 = 3 := by kernel_rfl
theorem by34 : ay prog 34 = 72 := by kernel_rfl
theorem ze34 : aq prog 34 = [.imm 0 [] 0,.imm 0 [] 0,.imm 0 [] 0] := by kernel_rfl
theorem zn34 : ap prog 34 = [.sc (.slice none 0 0),.sc (.slice none 0 0),.sc (.slice none 0 0)] := by kernel_rfl
theorem ha34 : ax prog 34 = true := by kernel_rfl
theorem sz35 : ai prog 35 = 1 := by kernel_rfl
theorem by35 : ay prog 35 = 24 := by kernel_rfl
theorem ze35 : aq prog 35 = [.imm 0 [] 0] := by kernel_rfl
theorem zn35 : ap prog 35 = [.sc (.slice none 0 0)] := by kernel_rfl
theorem ha35 : ax prog 35 = true := by kernel_rfl
theorem sz36 : ai prog 36 = 11 := by kernel_rfl
theorem by36 : ay prog 36 = 216 := by kernel_rfl
theorem ze36 : aq prog 36 = [.sc (.pointer none),.sc (.pointer none),.imm 0 [] 0,.sc (.int .i64 0),.imm 0 [] 0,.imm 0 [] 0,.imm 0 [] 0,.imm 0 [] 0,.imm 0 [] 0,.imm 0 [] 0,.imm 0 [] 0] := by kernel_rfl
theorem zn36 : ap prog 36 = [.sc (.pointer none),.sc (.pointer none),.sc (.slice none 0 0),.sc (.int .i64 0),.sc (.slice none 0 0),.sc (.slice none 0 0),.sc (.slice none 0 0),.sc (.slice none 0 0),.sc (.slice none 0 0),.sc (.slice none 0 0),.sc (.slice none 0 0)] := by kernel_rfl
theorem ha36 : ax prog 36 = true := by kernel_rfl
theorem sz37 : ai prog 37 = 11 := by kernel_rfl
theorem by37 : ay prog 37 = 216 := by kernel_rfl
theorem ze37 : aq prog 37 = [.sc (.pointer none),.sc (.pointer none),.imm 0 [] 0,.sc (.int .i64 0),.imm 0 [] 0,.imm 0 [] 0,.imm 0 [] 0,.imm 0 [] 0,.imm 0 [] 0,.imm 0 [] 0,.imm 0 [] 0] := by kernel_rfl
theorem zn37 : ap prog 37 = [.sc (.pointer none),.sc (.pointer none),.sc (.slice none 0 0),.sc (.int .i64 0),.sc (.slice none 0 0),.sc (.slice none 0 0),.sc (.slice none 0 0),.sc (.slice none 0 0),.sc (.slice none 0 0),.sc (.slice none 0 0),.sc (.slice none 0 0)] := by kernel_rfl
theorem ha37 : ax prog 37 = true := by kernel_rfl
theorem sz48 : ai prog 48 = 5 := by kernel_rfl
theorem by48 : ay prog 48 = 5 := by kernel_rfl
theorem ze48 : aq prog 48 = [.sc (.bool false),.sc (.bool false),.sc (.bool false),.sc (.bool false),.sc (.bool false)] := by kernel_rfl
theorem zn48 : ap prog 48 = [.sc (.bool false),.sc (.bool false),.sc (.bool false),.sc (.bool false),.sc (.bool false)] := by kernel_rfl
theorem ha48 : ax prog 48 = true := by kernel_rfl
theorem sz49 : ai prog 49 = 1 := by kernel_rfl
theorem by49 : ay prog 49 = 24 := by kernel_rfl
theorem ze49 : aq prog 49 = [.imm 0 [] 0] := by kernel_rfl
theorem zn49 : ap prog 49 = [.sc (.slice none 0 0)] := by kernel_rfl
theorem ha49 : ax prog 49 = true := by kernel_rfl
theorem sz50 : ai prog 50 = 8 := by kernel_rfl
theorem by50 : ay prog 50 = 56 := by kernel_rfl
theorem ze50 : aq prog 50 = [.sc (.int .u8 0),.sc (.bool false),.sc (.bool false),.imm 0 [] 0,.sc (.int .u8 0),.sc (.bool false),.sc (.int .i64 0),.sc (.int .u8 0)] := by kernel_rfl
theorem zn50 : ap prog 50 = [.sc (.int .u8 0),.sc (.bool false),.sc (.bool false),.sc (.slice none 0 0),.sc (.int .u8 0),.sc (.bool false),.sc (.int .i64 0),.sc (.int .u8 0)] := by kernel_rfl
theorem ha50 : ax prog 50 = true := by kernel_rfl
theorem sz51 : ai prog 51 = 8 := by kernel_rfl
theorem by51 : ay prog 51 = 56 := by kernel_rfl
theorem ze51 : aq prog 51 = [.sc (.int .u8 0),.sc (.bool false),.sc (.bool false),.imm 0 [] 0,.sc (.int .u8 0),.sc (.bool false),.sc (.int .i64 0),.sc (.int .u8 0)] := by kernel_rfl
theorem zn51 : ap prog 51 = [.sc (.int .u8 0),.sc (.bool false),.sc (.bool false),.sc (.slice none 0 0),.sc (.int .u8 0),.sc (.bool false),.sc (.int .i64 0),.sc (.int .u8 0)] := by kernel_rfl
theorem ha51 : ax prog 51 = true := by kernel_rfl
theorem sz54 : ai prog 54 = 3 := by kernel_rfl
theorem by54 : ay prog 54 = 56 := by kernel_rfl
theorem ze54 : aq prog 54 = [.sc (.int .i64 0),.imm 0 [] 0,.imm 0 [] 0] := by kernel_rfl
theorem zn54 : ap prog 54 = [.sc (.int .i64 0),.sc (.slice none 0 0),.sc (.slice none 0 0)] := by kernel_rfl
theorem ha54 : ax prog 54 = true := by kernel_rfl
theorem sz55 : ai prog 55 = 3 := by kernel_rfl
theorem by55 : ay prog 55 = 56 := by kernel_rfl
theorem ze55 : aq prog 55 = [.sc (.int .i64 0),.imm 0 [] 0,.imm 0 [] 0] := by kernel_rfl
theorem zn55 : ap prog 55 = [.sc (.int .i64 0),.sc (.slice none 0 0),.sc (.slice none 0 0)] := by kernel_rfl
theorem ha55 : ax prog 55 = true := by kernel_rfl
theorem sz58 : ai prog 58 = 7 := by kernel_rfl
theorem by58 : ay prog 58 = 152 := by kernel_rfl
theorem ze58 : aq prog 58 = [.sc (.int .i64 0),.imm 0 [] 0,.imm 0 [] 0,.imm 0 [] 0,.imm 0 [] 0,.imm 0 [] 0,.imm 0 [] 0] := by kernel_rfl
theorem zn58 : ap prog 58 = [.sc (.int .i64 0),.sc (.slice none 0 0),.sc (.slice none 0 0),.sc (.slice none 0 0),.sc (.slice none 0 0),.sc (.slice none 0 0),.sc (.slice none 0 0)] := by kernel_rfl
theorem ha58 : ax prog 58 = true := by kernel_rfl
theorem sz59 : ai prog 59 = 7 := by kernel_rfl
theorem by59 : ay prog 59 = 152 := by kernel_rfl
theorem ze59 : aq prog 59 = [.sc (.int .i64 0),.imm 0 [] 0,.imm 0 [] 0,.imm 0 [] 0,.imm 0 [] 0,.imm 0 [] 0,.imm 0 [] 0] := by kernel_rfl
theorem zn59 : ap prog 59 = [.sc (.int .i64 0),.sc (.slice none 0 0),.sc (.slice none 0 0),.sc (.slice none 0 0),.sc (.slice none 0 0),.sc (.slice none 0 0),.sc (.slice none 0 0)] := by kernel_rfl
theorem ha59 : ax prog 59 = true := by kernel_rfl
theorem sz61 : ai prog 61 = 1 := by kernel_rfl
theorem by61 : ay prog 61 = 8 := by kernel_rfl
theorem ze61 : aq prog 61 = [.sc (.int .i64 0)] := by kernel_rfl
theorem zn61 : ap prog 61 = [.sc (.int .i64 0)] := by kernel_rfl
theorem ha61 : ax prog 61 = true := by kernel_rfl
theorem sz67 : ai prog 67 = 1 := by kernel_rfl
theorem by67 : ay prog 67 = 8 := by kernel_rfl
theorem ze67 : aq prog 67 = [.sc (.int .u64 0)] := by kernel_rfl
theorem zn67 : ap prog 67 = [.sc (.int .u64 0)] := by kernel_rfl
theorem ha67 : ax prog 67 = true := by kernel_rfl
theorem sz73 : ai prog 73 = 3 := by kernel_rfl
theorem by73 : ay prog 73 = 72 := by kernel_rfl
theorem ze73 : aq prog 73 = [.imm 0 [] 0,.imm 0 [] 0,.imm 0 [] 0] := by kernel_rfl
theorem zn73 : ap prog 73 = [.sc (.slice none 0 0),.sc (.slice none 0 0),.sc (.slice none 0 0)] := by kernel_rfl
theorem ha73 : ax prog 73 = true := by kernel_rfl
theorem sz74 : ai prog 74 = 3 := by kernel_rfl
theorem by74 : ay prog 74 = 72 := by kernel_rfl
theorem ze74 : aq prog 74 = [.imm 0 [] 0,.imm 0 [] 0,.imm 0 [] 0] := by kernel_rfl
theorem zn74 : ap prog 74 = [.sc (.slice none 0 0),.sc (.slice none 0 0),.sc (.slice none 0 0)] := by kernel_rfl
theorem ha74 : ax prog 74 = true := by kernel_rfl
theorem sz75 : ai prog 75 = 2 := by kernel_rfl
theorem by75 : ay prog 75 = 16 := by kernel_rfl
theorem ze75 : aq prog 75 = [.sc (.int .i64 0),.sc (.int .i64 0)] := by kernel_rfl
theorem zn75 : ap prog 75 = [.sc (.int .i64 0),.sc (.int .i64 0)] := by kernel_rfl
theorem ha75 : ax prog 75 = true := by kernel_rfl
theorem sz76 : ai prog 76 = 2 := by kernel_rfl
theorem by76 : ay prog 76 = 16 := by kernel_rfl
theorem ze76 : aq prog 76 = [.sc (.int .i64 0),.sc (.int .i64 0)] := by kernel_rfl
theorem zn76 : ap prog 76 = [.sc (.int .i64 0),.sc (.int .i64 0)] := by kernel_rfl
theorem ha76 : ax prog 76 = true := by kernel_rfl
theorem sz91 : ai prog 91 = 1 := by kernel_rfl
theorem by91 : ay prog 91 = 8 := by kernel_rfl
theorem ze91 : aq prog 91 = [.sc (.map none)] := by kernel_rfl
theorem zn91 : ap prog 91 = [.sc (.map none)] := by kernel_rfl
theorem ha91 : ax prog 91 = true := by kernel_rfl
theorem sz92 : ai prog 92 = 1 := by kernel_rfl
theorem by92 : ay prog 92 = 24 := by kernel_rfl
theorem ze92 : aq prog 92 = [.imm 0 [] 0] := by kernel_rfl
theorem zn92 : ap prog 92 = [.sc (.slice none 0 0)] := by kernel_rfl
theorem ha92 : ax prog 92 = true := by kernel_rfl
theorem sz93 : ai prog 93 = 2 := by kernel_rfl
theorem by93 : ay prog 93 = 32 := by kernel_rfl
theorem ze93 : aq prog 93 = [.imm 0 [] 0,.sc (.map none)] := by kernel_rfl
theorem zn93 : ap prog 93 = [.sc (.slice none 0 0),.sc (.map none)] := by kernel_rfl
theorem ha93 : ax prog 93 = true := by kernel_rfl
theorem sz94 : ai prog 94 = 2 := by kernel_rfl
theorem by94 : ay prog 94 = 32 := by kernel_rfl
theorem ze94 : aq prog 94 = [.imm 0 [] 0,.sc (.map none)] := by kernel_rfl
theorem zn94 : ap prog 94 = [.sc (.slice none 0 0),.sc (.map none)] := by kernel_rfl
theorem ha94 : ax prog 94 = true := by kernel_rfl
theorem sz95 : ai prog 95 = 3 := by kernel_rfl
theorem by95 : ay prog 95 = 40 := by kernel_rfl
theorem ze95 : aq prog 95 = [.imm 0 [] 0,.sc (.map none),.sc (.int .i64 0)] := by kernel_rfl
theorem zn95 : ap prog 95 = [.sc (.slice none 0 0),.sc (.map none),.sc (.int .i64 0)] := by kernel_rfl
theorem ha95 : ax prog 95 = true := by kernel_rfl
theorem sz96 : ai prog 96 = 3 := by kernel_rfl
theorem by96 : ay prog 96 = 40 := by kernel_rfl
theorem ze96 : aq prog 96 = [.imm 0 [] 0,.sc (.map none),.sc (.int .i64 0)] := by kernel_rfl
theorem zn96 : ap prog 96 = [.sc (.slice none 0 0),.sc (.map none),.sc (.int .i64 0)] := by kernel_rfl
theorem ha96 : ax prog 96 = true := by kernel_rfl
theorem sz98 : ai prog 98 = 1 := by kernel_rfl
theorem by98 : ay prog 98 = 16 := by kernel_rfl
theorem ze98 : aq prog 98 = [.sc .nilIface] := by kernel_rfl
theorem zn98 : ap prog 98 = [.sc .nilIface] := by kernel_rfl
theorem ha98 : ax prog 98 = true := by kernel_rfl
theorem sz110 : ai prog 110 = 2 := by kernel_rfl
theorem by110 : ay prog 110 = 32 := by kernel_rfl
theorem ze110 : aq prog 110 = [.sc (.int .u8 0),.imm 0 [] 0] := by kernel_rfl
theorem zn110 : ap prog 110 = [.sc (.int .u8 0),.sc (.slice none 0 0)] := by kernel_rfl
theorem ha110 : ax prog 110 = true := by kernel_rfl
theorem sz111 : ai prog 111 = 2 := by kernel_rfl
theorem by111 : ay prog 111 = 32 := by kernel_rfl
theorem ze111 : aq prog 111 = [.sc (.int .u8 0),.imm 0 [] 0] := by kernel_rfl
theorem zn111 : ap prog 111 = [.sc (.int .u8 0),.sc (.slice none 0 0)] := by kernel_rfl
theorem ha111 : ax prog 111 = true := by kernel_rfl
theorem sz120 : ai prog 120 = 1 := by kernel_rfl
theorem by120 : ay prog 120 = 24 := by kernel_rfl
theorem ze120 : aq prog 120 = [.imm 0 [] 0] := by kernel_rfl
theorem zn120 : ap prog 120 = [.sc (.slice none 0 0)] := by kernel_rfl
theorem ha120 : ax prog 120 = true := by kernel_rfl
theorem sz126 : ai prog 126 = 2 := by kernel_rfl
theorem by126 : ay prog 126 = 32 := by kernel_rfl
theorem ze126 : aq prog 126 = [.sc (.int .u8 0),.imm 0 [] 0] := by kernel_rfl
theorem zn126 : ap prog 126 = [.sc (.int .u8 0),.sc (.slice none 0 0)] := by kernel_rfl
theorem ha126 : ax prog 126 = true := by kernel_rfl
theorem sz129 : ai prog 129 = 1 := by kernel_rfl
theorem by129 : ay prog 129 = 8 := by kernel_rfl
theorem ze129 : aq prog 129 = [.sc (.int .u64 0)] := by kernel_rfl
theorem zn129 : ap prog 129 = [.sc (.int .u64 0)] := by kernel_rfl
theorem ha129 : ax prog 129 = true := by kernel_rfl
theorem sz133 : ai prog 133 = 1 := by kernel_rfl
theorem by133 : ay prog 133 = 8 := by kernel_rfl
theorem ze133 : aq prog 133 = [.sc (.pointer none)] := by kernel_rfl
theorem zn133 : ap prog 133 = [.sc (.pointer none)] := by kernel_rfl
theorem ha133 : ax prog 133 = true := by kernel_rfl
theorem sz140 : ai prog 140 = 1 := by kernel_rfl
theorem by140 : ay prog 140 = 4 := by kernel_rfl
theorem ze140 : aq prog 140 = [.sc (.int .u32 0)] := by kernel_rfl
theorem zn140 : ap prog 140 = [.sc (.int .u32 0)] := by kernel_rfl
theorem ha140 : ax prog 140 = true := by kernel_rfl
theorem sz144 : ai prog 144 = 1 := by kernel_rfl
theorem by144 : ay prog 144 = 8 := by kernel_rfl
theorem ze144 : aq prog 144 = [.sc (.pointer none)] := by kernel_rfl
theorem zn144 : ap prog 144 = [.sc (.pointer none)] := by kernel_rfl
theorem ha144 : ax prog 144 = true := by kernel_rfl
theorem eq48 (a1 b1 : Bool) (a2 b2 : Bool) (a3 b3 : Bool) (a4 b4 : Bool) (a5 b5 : Bool) : eqG prog 6 48 (.agg [.sc (.bool a1),.sc (.bool a2),.sc (.bool a3),.sc (.bool a4),.sc (.bool a5)]) (.agg [.sc (.bool b1),.sc (.bool b2),.sc (.bool b3),.sc (.bool b4),.sc (.bool b5)]) = some ((a1 == b1) && ((a2 == b2) && ((a3 == b3) && ((a4 == b4) && ((a5 == b5) && true))))) := by kernel_rfl
theorem ck48 (x0 x1 x2 x3 x4 : AV) : cl prog 6 48 (.agg [x0,x1,x2,x3,x4]) = true := by kernel_rfl
theorem eq75 (a1 b1 : Int) (a2 b2 : Int) : eqG prog 6 75 (.agg [.sc (.int .i64 a1),.sc (.int .i64 a2)]) (.agg [.sc (.int .i64 b1),.sc (.int .i64 b2)]) = some ((a1 == b1) && ((a2 == b2) && true)) := by kernel_rfl
theorem ck75 (x0 x1 : AV) : cl prog 6 75 (.agg [x0,x1]) = true := by kernel_rfl
theorem eq76 (a1 b1 : Int) (a2 b2 : Int) : eqG prog 6 76 (.agg [.sc (.int .i64 a1),.sc (.int .i64 a2)]) (.agg [.sc (.int .i64 b1),.sc (.int .i64 b2)]) = some ((a1 == b1) && ((a2 == b2) && true)) := by kernel_rfl
theorem ck76 (x0 x1 : AV) : cl prog 6 76 (.agg [x0,x1]) = true := by kernel_rfl
theorem zv2 : ar prog 2 = .sc (.int .i64 0) := by kernel_rfl
theorem zv3 : ar prog 3 = .sc (.int .i64 0) := by kernel_rfl
theorem zv4 : ar prog 4 = .sc (.bool false) := by kernel_rfl
theorem zv5 : ar prog 5 = .sc (.int .u8 0) := by kernel_rfl
theorem zv9 : ar prog 9 = .sc (.string ⟨#[]⟩) := by kernel_rfl
theorem zv12 : ar prog 12 = .sc (.int .u64 0) := by kernel_rfl
theorem zv21 : ar prog 21 = .sc (.int .i32 0) := by kernel_rfl
theorem zv22 : ar prog 22 = .sc (.slice none 0 0) := by kernel_rfl
theorem zv25 : ar prog 25 = .sc (.pointer none) := by kernel_rfl
theorem zv26 : ar prog 26 = .sc (.pointer none) := by kernel_rfl
theorem zv27 : ar prog 27 = .sc (.slice none 0 0) := by kernel_rfl
theorem zv28 : ar prog 28 = .agg [.sc (.slice none 0 0),.sc (.int .i64 0)] := by kernel_rfl
theorem zv29 : ar prog 29 = .agg [.sc (.slice none 0 0),.sc (.int .i64 0)] := by kernel_rfl
theorem zv30 : ar prog 30 = .sc (.slice none 0 0) := by kernel_rfl
theorem zv31 : ar prog 31 = .sc (.slice none 0 0) := by kernel_rfl
theorem zv32 : ar prog 32 = .sc (.slice none 0 0) := by kernel_rfl
theorem zv33 : ar prog 33 = .agg [.sc (.slice none 0 0),.sc (.slice none 0 0),.sc (.slice none 0 0)] := by kernel_rfl
theorem zv34 : ar prog 34 = .agg [.sc (.slice none 0 0),.sc (.slice none 0 0),.sc (.slice none 0 0)] := by kernel_rfl
theorem zv35 : ar prog 35 = .sc (.slice none 0 0) := by kernel_rfl
theorem zv36 : ar prog 36 = .agg [.sc (.pointer none),.sc (.pointer none),.sc (.slice none 0 0),.sc (.int .i64 0),.sc (.slice none 0 0),.sc (.slice none 0 0),.sc (.slice none 0 0),.sc (.slice none 0 0),.sc (.slice none 0 0),.sc (.slice none 0 0),.sc (.slice none 0 0)] := by kernel_rfl
theorem zv37 : ar prog 37 = .agg [.sc (.pointer none),.sc (.pointer none),.sc (.slice none 0 0),.sc (.int .i64 0),.sc (.slice none 0 0),.sc (.slice none 0 0),.sc (.slice none 0 0),.sc (.slice none 0 0),.sc (.slice none 0 0),.sc (.slice none 0 0),.sc (.slice none 0 0)] := by kernel_rfl
theorem zv48 : ar prog 48 = .agg [.sc (.bool false),.sc (.bool false),.sc (.bool false),.sc (.bool false),.sc (.bool false)] := by kernel_rfl
theorem zv49 : ar prog 49 = .sc (.slice none 0 0) := by kernel_rfl
theorem zv50 : ar prog 50 = .agg [.sc (.int .u8 0),.sc (.bool false),.sc (.bool false),.sc (.slice none 0 0),.sc (.int .u8 0),.sc (.bool false),.sc (.int .i64 0),.sc (.int .u8 0)] := by kernel_rfl
theorem zv51 : ar prog 51 = .agg [.sc (.int .u8 0),.sc (.bool false),.sc (.bool false),.sc (.slice none 0 0),.sc (.int .u8 0),.sc (.bool false),.sc (.int .i64 0),.sc (.int .u8 0)] := by kernel_rfl
theorem zv54 : ar prog 54 = .agg [.sc (.int .i64 0),.sc (.slice none 0 0),.sc (.slice none 0 0)] := by kernel_rfl
theorem zv55 : ar prog 55 = .agg [.sc (.int .i64 0),.sc (.slice none 0 0),.sc (.slice none 0 0)] := by kernel_rfl
theorem zv58 : ar prog 58 = .agg [.sc (.int .i64 0),.sc (.slice none 0 0),.sc (.slice none 0 0),.sc (.slice none 0 0),.sc (.slice none 0 0),.sc (.slice none 0 0),.sc (.slice none 0 0)] := by kernel_rfl
theorem zv59 : ar prog 59 = .agg [.sc (.int .i64 0),.sc (.slice none 0 0),.sc (.slice none 0 0),.sc (.slice none 0 0),.sc (.slice none 0 0),.sc (.slice none 0 0),.sc (.slice none 0 0)] := by kernel_rfl
theorem zv61 : ar prog 61 = .sc (.int .i64 0) := by kernel_rfl
theorem zv67 : ar prog 67 = .sc (.int .u64 0) := by kernel_rfl
theorem zv73 : ar prog 73 = .agg [.sc (.slice none 0 0),.sc (.slice none 0 0),.sc (.slice none 0 0)] := by kernel_rfl
theorem zv74 : ar prog 74 = .agg [.sc (.slice none 0 0),.sc (.slice none 0 0),.sc (.slice none 0 0)] := by kernel_rfl
theorem zv75 : ar prog 75 = .agg [.sc (.int .i64 0),.sc (.int .i64 0)] := by kernel_rfl
theorem zv76 : ar prog 76 = .agg [.sc (.int .i64 0),.sc (.int .i64 0)] := by kernel_rfl
theorem zv91 : ar prog 91 = .sc (.map none) := by kernel_rfl
theorem zv92 : ar prog 92 = .sc (.slice none 0 0) := by kernel_rfl
theorem zv93 : ar prog 93 = .agg [.sc (.slice none 0 0),.sc (.map none)] := by kernel_rfl
theorem zv94 : ar prog 94 = .agg [.sc (.slice none 0 0),.sc (.map none)] := by kernel_rfl
theorem zv95 : ar prog 95 = .agg [.sc (.slice none 0 0),.sc (.map none),.sc (.int .i64 0)] := by kernel_rfl
theorem zv96 : ar prog 96 = .agg [.sc (.slice none 0 0),.sc (.map none),.sc (.int .i64 0)] := by kernel_rfl
theorem zv98 : ar prog 98 = .sc .nilIface := by kernel_rfl
theorem zv110 : ar prog 110 = .agg [.sc (.int .u8 0),.sc (.slice none 0 0)] := by kernel_rfl
theorem zv111 : ar prog 111 = .agg [.sc (.int .u8 0),.sc (.slice none 0 0)] := by kernel_rfl
theorem zv120 : ar prog 120 = .sc (.slice none 0 0) := by kernel_rfl
theorem zv126 : ar prog 126 = .agg [.sc (.int .u8 0),.sc (.slice none 0 0)] := by kernel_rfl
theorem zv129 : ar prog 129 = .sc (.int .u64 0) := by kernel_rfl
theorem zv133 : ar prog 133 = .sc (.pointer none) := by kernel_rfl
theorem zv140 : ar prog 140 = .sc (.int .u32 0) := by kernel_rfl
theorem zv144 : ar prog 144 = .sc (.pointer none) := by kernel_rfl
theorem eo1 : bB prog 1 = true := by kernel_rfl
theorem eo4 : bB prog 4 = true := by kernel_rfl
theorem eo23 : bB prog 23 = true := by kernel_rfl
theorem eo24 : bB prog 24 = true := by kernel_rfl
theorem eo25 : bB prog 25 = true := by kernel_rfl
theorem eo26 : bB prog 26 = true := by kernel_rfl
theorem eo39 : bB prog 39 = true := by kernel_rfl
theorem eo41 : bB prog 41 = true := by kernel_rfl
theorem eo42 : bB prog 42 = true := by kernel_rfl
theorem eo43 : bB prog 43 = true := by kernel_rfl
theorem eo44 : bB prog 44 = true := by kernel_rfl
theorem eo45 : bB prog 45 = true := by kernel_rfl
theorem eo46 : bB prog 46 = true := by kernel_rfl
theorem eo47 : bB prog 47 = true := by kernel_rfl
theorem eo48 : bB prog 48 = true := by kernel_rfl
theorem eo52 : bB prog 52 = true := by kernel_rfl
theorem eo53 : bB prog 53 = true := by kernel_rfl
theorem eo57 : bB prog 57 = true := by kernel_rfl
theorem eo60 : bB prog 60 = true := by kernel_rfl
theorem eo63 : bB prog 63 = true := by kernel_rfl
theorem eo64 : bB prog 64 = true := by kernel_rfl
theorem eo65 : bB prog 65 = true := by kernel_rfl
theorem eo66 : bB prog 66 = true := by kernel_rfl
theorem eo69 : bB prog 69 = true := by kernel_rfl
theorem eo71 : bB prog 71 = true := by kernel_rfl
theorem eo72 : bB prog 72 = true := by kernel_rfl
theorem eo75 : bB prog 75 = true := by kernel_rfl
theorem eo76 : bB prog 76 = true := by kernel_rfl
theorem eo77 : bB prog 77 = true := by kernel_rfl
theorem eo78 : bB prog 78 = true := by kernel_rfl
theorem eo80 : bB prog 80 = true := by kernel_rfl
theorem eo81 : bB prog 81 = true := by kernel_rfl
theorem eo82 : bB prog 82 = true := by kernel_rfl
theorem eo83 : bB prog 83 = true := by kernel_rfl
theorem eo85 : bB prog 85 = true := by kernel_rfl
theorem eo87 : bB prog 87 = true := by kernel_rfl
theorem eo89 : bB prog 89 = true := by kernel_rfl
theorem eo90 : bB prog 90 = true := by kernel_rfl
theorem eo91 : bB prog 91 = true := by kernel_rfl
theorem eo99 : bB prog 99 = true := by kernel_rfl
theorem eo100 : bB prog 100 = true := by kernel_rfl
theorem eo101 : bB prog 101 = true := by kernel_rfl
theorem eo102 : bB prog 102 = true := by kernel_rfl
theorem eo103 : bB prog 103 = true := by kernel_rfl
theorem eo104 : bB prog 104 = true := by kernel_rfl
theorem eo105 : bB prog 105 = true := by kernel_rfl
theorem eo106 : bB prog 106 = true := by kernel_rfl
theorem eo107 : bB prog 107 = true := by kernel_rfl
theorem eo108 : bB prog 108 = true := by kernel_rfl
theorem eo109 : bB prog 109 = true := by kernel_rfl
theorem eo112 : bB prog 112 = true := by kernel_rfl
theorem eo113 : bB prog 113 = true := by kernel_rfl
theorem eo114 : bB prog 114 = true := by kernel_rfl
theorem eo115 : bB prog 115 = true := by kernel_rfl
theorem eo116 : bB prog 116 = true := by kernel_rfl
theorem eo117 : bB prog 117 = true := by kernel_rfl
theorem eo118 : bB prog 118 = true := by kernel_rfl
theorem eo119 : bB prog 119 = true := by kernel_rfl
theorem eo121 : bB prog 121 = true := by kernel_rfl
theorem eo122 : bB prog 122 = true := by kernel_rfl
theorem eo123 : bB prog 123 = true := by kernel_rfl
theorem eo125 : bB prog 125 = true := by kernel_rfl
theorem eo127 : bB prog 127 = true := by kernel_rfl
theorem eo128 : bB prog 128 = true := by kernel_rfl
theorem eo130 : bB prog 130 = true := by kernel_rfl
theorem eo131 : bB prog 131 = true := by kernel_rfl
theorem eo132 : bB prog 132 = true := by kernel_rfl
theorem eo133 : bB prog 133 = true := by kernel_rfl
theorem eo134 : bB prog 134 = true := by kernel_rfl
theorem eo144 : bB prog 144 = true := by kernel_rfl
theorem eo150 : bB prog 150 = true := by kernel_rfl
theorem eo151 : bB prog 151 = true := by kernel_rfl
theorem strTy : strTy prog = some 9 := by kernel_rfl
theorem z8_5 : bk prog 5 = .int .u8 0 := by kernel_rfl
theorem ca3 : ak prog 3 = true := by kernel_rfl
theorem ca4 : ak prog 4 = true := by kernel_rfl
theorem ca5 : ak prog 5 = true := by kernel_rfl
theorem ca6 : ak prog 6 = true := by kernel_rfl
theorem ca7 : ak prog 7 = true := by kernel_rfl
theorem ca8 : ak prog 8 = true := by kernel_rfl
theorem ca9 : ak prog 9 = true := by kernel_rfl
theorem ca10 : ak prog 10 = true := by kernel_rfl
theorem ca11 : ak prog 11 = true := by kernel_rfl
theorem ca12 : ak prog 12 = true := by kernel_rfl
theorem ca13 : ak prog 13 = true := by kernel_rfl
theorem ca14 : ak prog 14 = true := by kernel_rfl
theorem ca15 : ak prog 15 = true := by kernel_rfl
theorem ca16 : ak prog 16 = true := by kernel_rfl
theorem ca17 : ak prog 17 = true := by kernel_rfl
theorem ca18 : ak prog 18 = true := by kernel_rfl
theorem ca19 : ak prog 19 = true := by kernel_rfl
theorem ca20 : ak prog 20 = true := by kernel_rfl
theorem ca21 : ak prog 21 = true := by kernel_rfl
theorem ca22 : ak prog 22 = true := by kernel_rfl
theorem ca23 : ak prog 23 = true := by kernel_rfl
theorem ca24 : ak prog 24 = true := by kernel_rfl
theorem ca25 : ak prog 25 = true := by kernel_rfl
theorem ca26 : ak prog 26 = true := by kernel_rfl
theorem ca27 : ak prog 27 = true := by kernel_rfl
theorem ca28 : ak prog 28 = true := by kernel_rfl
theorem ca29 : ak prog 29 = true := by kernel_rfl
theorem ca30 : ak prog 30 = true := by kernel_rfl
theorem ca31 : ak prog 31 = true := by kernel_rfl
theorem ca32 : ak prog 32 = true := by kernel_rfl
theorem ca33 : ak prog 33 = true := by kernel_rfl
theorem ca34 : ak prog 34 = true := by kernel_rfl
theorem ca35 : ak prog 35 = true := by kernel_rfl
theorem ca36 : ak prog 36 = true := by kernel_rfl
theorem ca37 : ak prog 37 = true := by kernel_rfl
theorem ca38 : ak prog 38 = true := by kernel_rfl
theorem ca39 : ak prog 39 = true := by kernel_rfl
theorem ca40 : ak prog 40 = true := by kernel_rfl
theorem ca41 : ak prog 41 = true := by kernel_rfl
theorem ca42 : ak prog 42 = true := by kernel_rfl
theorem ca43 : ak prog 43 = true := by kernel_rfl
theorem ca44 : ak prog 44 = true := by kernel_rfl
theorem ca45 : ak prog 45 = true := by kernel_rfl
theorem ca46 : ak prog 46 = true := by kernel_rfl
theorem ca47 : ak prog 47 = true := by kernel_rfl
theorem ca48 : ak prog 48 = true := by kernel_rfl
theorem ca49 : ak prog 49 = true := by kernel_rfl
theorem ca50 : ak prog 50 = true := by kernel_rfl
theorem ca51 : ak prog 51 = true := by kernel_rfl
theorem ca52 : ak prog 52 = true := by kernel_rfl
theorem ca53 : ak prog 53 = true := by kernel_rfl
theorem ca54 : ak prog 54 = true := by kernel_rfl
theorem ca55 : ak prog 55 = true := by kernel_rfl
theorem ca56 : ak prog 56 = true := by kernel_rfl
theorem ca57 : ak prog 57 = true := by kernel_rfl
theorem ca58 : ak prog 58 = true := by kernel_rfl
theorem ca59 : ak prog 59 = true := by kernel_rfl
theorem ca60 : ak prog 60 = true := by kernel_rfl
theorem ca61 : ak prog 61 = true := by kernel_rfl
theorem ca62 : ak prog 62 = true := by kernel_rfl
theorem ca63 : ak prog 63 = true := by kernel_rfl
theorem ca64 : ak prog 64 = true := by kernel_rfl
theorem ca65 : ak prog 65 = true := by kernel_rfl
theorem ca66 : ak prog 66 = true := by kernel_rfl
theorem ca67 : ak prog 67 = true := by kernel_rfl
theorem ca68 : ak prog 68 = true := by kernel_rfl
theorem ca69 : ak prog 69 = true := by kernel_rfl
theorem ca70 : ak prog 70 = true := by kernel_rfl
theorem ca71 : ak prog 71 = true := by kernel_rfl
theorem ca72 : ak prog 72 = true := by kernel_rfl
theorem ca73 : ak prog 73 = true := by kernel_rfl
theorem ca74 : ak prog 74 = true := by kernel_rfl
theorem ca75 : ak prog 75 = true := by kernel_rfl
theorem ca76 : ak prog 76 = true := by kernel_rfl
theorem ca77 : ak prog 77 = true := by kernel_rfl
theorem ca78 : ak prog 78 = true := by kernel_rfl
theorem ca79 : ak prog 79 = true := by kernel_rfl
theorem ca80 : ak prog 80 = true := by kernel_rfl
theorem ca81 : ak prog 81 = true := by kernel_rfl
theorem ca82 : ak prog 82 = true := by kernel_rfl
theorem ca83 : ak prog 83 = true := by kernel_rfl
theorem ca84 : ak prog 84 = true := by kernel_rfl
theorem ca85 : ak prog 85 = true := by kernel_rfl
theorem ca86 : ak prog 86 = true := by kernel_rfl
theorem ca87 : ak prog 87 = true := by kernel_rfl
theorem ca88 : ak prog 88 = true := by kernel_rfl
theorem ca89 : ak prog 89 = true := by kernel_rfl
theorem ca90 : ak prog 90 = true := by kernel_rfl
theorem ca106 : ak prog 106 = true := by kernel_rfl
theorem ca107 : ak prog 107 = true := by kernel_rfl
theorem ca108 : ak prog 108 = true := by kernel_rfl
theorem ca109 : ak prog 109 = true := by kernel_rfl
theorem ca110 : ak prog 110 = true := by kernel_rfl
theorem ca111 : ak prog 111 = true := by kernel_rfl
theorem ca112 : ak prog 112 = true := by kernel_rfl
theorem ca113 : ak prog 113 = true := by kernel_rfl
theorem ca114 : ak prog 114 = true := by kernel_rfl
theorem co25 : prog.concrete 25 = true := by kernel_rfl
theorem me25_Derive : methA prog 25 "Derive" = some 106 := by kernel_rfl
theorem me25_Draw : methA prog 25 "Draw" = some 30 := by kernel_rfl
theorem me25_Hash : methA prog 25 "Hash" = some 107 := by kernel_rfl
theorem me25_Open : methA prog 25 "Open" = some 108 := by kernel_rfl
theorem me25_Public : methA prog 25 "Public" = some 34 := by kernel_rfl
theorem me25_Seal : methA prog 25 "Seal" = some 109 := by kernel_rfl
theorem me25_Shared : methA prog 25 "Shared" = some 110 := by kernel_rfl
theorem me25_Sign : methA prog 25 "Sign" = some 111 := by kernel_rfl
theorem me25_Signer : methA prog 25 "Signer" = some 35 := by kernel_rfl
theorem me25_Verify : methA prog 25 "Verify" = some 112 := by kernel_rfl
set_option maxRecDepth 100000 in
def facts := And.intro underlying1 <|
 And.intro eo1 <|
 And.intro underlying2 <|
 And.intro sz2 <|
 And.intro by2 <|
 And.intro ha2 <|
 And.intro ze2 <|
 And.intro zn2 <|
 And.intro zv2 <|
 And.intro underlying3 <|
 And.intro sz3 <|
 And.intro by3 <|
 And.intro ha3 <|
 And.intro ze3 <|
 And.intro zn3 <|
 And.intro zv3 <|
 And.intro underlying4 <|
 And.intro sz4 <|
 And.intro by4 <|
 And.intro ha4 <|
 And.intro eo4 <|
 And.intro ze4 <|
 And.intro zn4 <|
 And.intro zv4 <|
 And.intro underlying5 <|
 And.intro z8_5 <|
 And.intro sz5 <|
 And.intro by5 <|
 And.intro ha5 <|
 And.intro ze5 <|
 And.intro zn5 <|
 And.intro zv5 <|
 And.intro underlying9 <|
 And.intro sz9 <|
 And.intro by9 <|
 And.intro ha9 <|
 And.intro ze9 <|
 And.intro zn9 <|
 And.intro zv9 <|
 And.intro underlying12 <|
 And.intro sz12 <|
 And.intro by12 <|
 And.intro ha12 <|
 And.intro ze12 <|
 And.intro zn12 <|
 And.intro zv12 <|
 And.intro underlying21 <|
 And.intro sz21 <|
 And.intro by21 <|
 And.intro ha21 <|
 And.intro ze21 <|
 And.intro zn21 <|
 And.intro zv21 <|
 And.intro underlying22 <|
 And.intro sz22 <|
 And.intro by22 <|
 And.intro ha22 <|
 And.intro ze22 <|
 And.intro zn22 <|
 And.intro zv22 <|
 And.intro underlying23 <|
 And.intro eo23 <|
 And.intro underlying24 <|
 And.intro eo24 <|
 And.intro underlying25 <|
 And.intro sz25 <|
 And.intro by25 <|
 And.intro ha25 <|
 And.intro eo25 <|
 And.intro ze25 <|
 And.intro zn25 <|
 And.intro zv25 <|
 And.intro underlying26 <|
 And.intro sz26 <|
 And.intro by26 <|
 And.intro ha26 <|
 And.intro eo26 <|
 And.intro ze26 <|
 And.intro zn26 <|
 And.intro zv26 <|
 And.intro underlying27 <|
 And.intro sz27 <|
 And.intro by27 <|
 And.intro ha27 <|
 And.intro ze27 <|
 And.intro zn27 <|
 And.intro zv27 <|
 And.intro underlying28 <|
 And.intro sz28 <|
 And.intro by28 <|
 And.intro ha28 <|
 And.intro ze28 <|
 And.intro zn28 <|
 And.intro zv28 <|
 And.intro underlying29 <|
 And.intro sz29 <|
 And.intro by29 <|
 And.intro ha29 <|
 And.intro ze29 <|
 And.intro zn29 <|
 And.intro zv29 <|
 And.intro underlying30 <|
 And.intro sz30 <|
 And.intro by30 <|
 And.intro ha30 <|
 And.intro ze30 <|
 And.intro zn30 <|
 And.intro zv30 <|
 And.intro underlying31 <|
 And.intro sz31 <|
 And.intro by31 <|
 And.intro ha31 <|
 And.intro ze31 <|
 And.intro zn31 <|
 And.intro zv31 <|
 And.intro underlying32 <|
 And.intro sz32 <|
 And.intro by32 <|
 And.intro ha32 <|
 And.intro ze32 <|
 And.intro zn32 <|
 And.intro zv32 <|
 And.intro underlying33 <|
 And.intro sz33 <|
 And.intro by33 <|
 And.intro ha33 <|
 And.intro ze33 <|
 And.intro zn33 <|
 And.intro zv33 <|
 And.intro underlying34 <|
 And.intro sz34 <|
 And.intro by34 <|
 And.intro ha34 <|
 And.intro ze34 <|
 And.intro zn34 <|
 And.intro zv34 <|
 And.intro underlying35 <|
 And.intro sz35 <|
 And.intro by35 <|
 And.intro ha35 <|
 And.intro ze35 <|
 And.intro zn35 <|
 And.intro zv35 <|
 And.intro underlying36 <|
 And.intro sz36 <|
 And.intro by36 <|
 And.intro ha36 <|
 And.intro ze36 <|
 And.intro zn36 <|
 And.intro zv36 <|
 And.intro underlying37 <|
 And.intro sz37 <|
 And.intro by37 <|
 And.intro ha37 <|
 And.intro ze37 <|
 And.intro zn37 <|
 And.intro zv37 <|
 And.intro underlying39 <|
 And.intro eo39 <|
 And.intro underlying41 <|
 And.intro eo41 <|
 And.intro underlying42 <|
 And.intro eo42 <|
 And.intro underlying43 <|
 And.intro eo43 <|
 And.intro underlying44 <|
 And.intro eo44 <|
 And.intro underlying45 <|
 And.intro eo45 <|
 And.intro underlying46 <|
 And.intro eo46 <|
 And.intro underlying47 <|
 And.intro eo47 <|
 And.intro underlying48 <|
 And.intro sz48 <|
 And.intro by48 <|
 And.intro ha48 <|
 And.intro eo48 <|
 And.intro ze48 <|
 And.intro zn48 <|
 And.intro zv48 <|
 And.intro eq48 <|
 And.intro ck48 <|
 And.intro underlying49 <|
 And.intro sz49 <|
 And.intro by49 <|
 And.intro ha49 <|
 And.intro ze49 <|
 And.intro zn49 <|
 And.intro zv49 <|
 And.intro underlying50 <|
 And.intro sz50 <|
 And.intro by50 <|
 And.intro ha50 <|
 And.intro ze50 <|
 And.intro zn50 <|
 And.intro zv50 <|
 And.intro underlying51 <|
 And.intro sz51 <|
 And.intro by51 <|
 And.intro ha51 <|
 And.intro ze51 <|
 And.intro zn51 <|
 And.intro zv51 <|
 And.intro underlying52 <|
 And.intro eo52 <|
 And.intro underlying53 <|
 And.intro eo53 <|
 And.intro underlying54 <|
 And.intro sz54 <|
 And.intro by54 <|
 And.intro ha54 <|
 And.intro ze54 <|
 And.intro zn54 <|
 And.intro zv54 <|
 And.intro underlying55 <|
 And.intro sz55 <|
 And.intro by55 <|
 And.intro ha55 <|
 And.intro ze55 <|
 And.intro zn55 <|
 And.intro zv55 <|
 And.intro underlying57 <|
 And.intro eo57 <|
 And.intro underlying58 <|
 And.intro sz58 <|
 And.intro by58 <|
 And.intro ha58 <|
 And.intro ze58 <|
 And.intro zn58 <|
 And.intro zv58 <|
 And.intro underlying59 <|
 And.intro sz59 <|
 And.intro by59 <|
 And.intro ha59 <|
 And.intro ze59 <|
 And.intro zn59 <|
 And.intro zv59 <|
 And.intro underlying60 <|
 And.intro eo60 <|
 And.intro underlying61 <|
 And.intro sz61 <|
 And.intro by61 <|
 And.intro ha61 <|
 And.intro ze61 <|
 And.intro zn61 <|
 And.intro zv61 <|
 And.intro underlying63 <|
 And.intro eo63 <|
 And.intro underlying64 <|
 And.intro eo64 <|
 And.intro underlying65 <|
 And.intro eo65 <|
 And.intro underlying66 <|
 And.intro eo66 <|
 And.intro underlying67 <|
 And.intro sz67 <|
 And.intro by67 <|
 And.intro ha67 <|
 And.intro ze67 <|
 And.intro zn67 <|
 And.intro zv67 <|
 And.intro underlying69 <|
 And.intro eo69 <|
 And.intro underlying71 <|
 And.intro eo71 <|
 And.intro underlying72 <|
 And.intro eo72 <|
 And.intro underlying73 <|
 And.intro sz73 <|
 And.intro by73 <|
 And.intro ha73 <|
 And.intro ze73 <|
 And.intro zn73 <|
 And.intro zv73 <|
 And.intro underlying74 <|
 And.intro sz74 <|
 And.intro by74 <|
 And.intro ha74 <|
 And.intro ze74 <|
 And.intro zn74 <|
 And.intro zv74 <|
 And.intro underlying75 <|
 And.intro sz75 <|
 And.intro by75 <|
 And.intro ha75 <|
 And.intro eo75 <|
 And.intro ze75 <|
 And.intro zn75 <|
 And.intro zv75 <|
 And.intro eq75 <|
 And.intro ck75 <|
 And.intro underlying76 <|
 And.intro sz76 <|
 And.intro by76 <|
 And.intro ha76 <|
 And.intro eo76 <|
 And.intro ze76 <|
 And.intro zn76 <|
 And.intro zv76 <|
 And.intro eq76 <|
 And.intro ck76 <|
 And.intro underlying77 <|
 And.intro eo77 <|
 And.intro underlying78 <|
 And.intro eo78 <|
 And.intro underlying80 <|
 And.intro eo80 <|
 And.intro underlying81 <|
 And.intro eo81 <|
 And.intro underlying82 <|
 And.intro eo82 <|
 And.intro underlying83 <|
 And.intro eo83 <|
 And.intro underlying85 <|
 And.intro eo85 <|
 And.intro underlying87 <|
 And.intro eo87 <|
 And.intro underlying89 <|
 And.intro eo89 <|
 And.intro underlying90 <|
 And.intro eo90 <|
 And.intro underlying91 <|
 And.intro sz91 <|
 And.intro by91 <|
 And.intro ha91 <|
 And.intro eo91 <|
 And.intro ze91 <|
 And.intro zn91 <|
 And.intro zv91 <|
 And.intro underlying92 <|
 And.intro sz92 <|
 And.intro by92 <|
 And.intro ha92 <|
 And.intro ze92 <|
 And.intro zn92 <|
 And.intro zv92 <|
 And.intro underlying93 <|
 And.intro sz93 <|
 And.intro by93 <|
 And.intro ha93 <|
 And.intro ze93 <|
 And.intro zn93 <|
 And.intro zv93 <|
 And.intro underlying94 <|
 And.intro sz94 <|
 And.intro by94 <|
 And.intro ha94 <|
 And.intro ze94 <|
 And.intro zn94 <|
 And.intro zv94 <|
 And.intro underlying95 <|
 And.intro sz95 <|
 And.intro by95 <|
 And.intro ha95 <|
 And.intro ze95 <|
 And.intro zn95 <|
 And.intro zv95 <|
 And.intro underlying96 <|
 And.intro sz96 <|
 And.intro by96 <|
 And.intro ha96 <|
 And.intro ze96 <|
 And.intro zn96 <|
 And.intro zv96 <|
 And.intro underlying98 <|
 And.intro sz98 <|
 And.intro by98 <|
 And.intro ha98 <|
 And.intro ze98 <|
 And.intro zn98 <|
 And.intro zv98 <|
 And.intro underlying99 <|
 And.intro eo99 <|
 And.intro underlying100 <|
 And.intro eo100 <|
 And.intro underlying101 <|
 And.intro eo101 <|
 And.intro underlying102 <|
 And.intro eo102 <|
 And.intro underlying103 <|
 And.intro eo103 <|
 And.intro underlying104 <|
 And.intro eo104 <|
 And.intro underlying105 <|
 And.intro eo105 <|
 And.intro underlying106 <|
 And.intro eo106 <|
 And.intro underlying107 <|
 And.intro eo107 <|
 And.intro underlying108 <|
 And.intro eo108 <|
 And.intro underlying109 <|
 And.intro eo109 <|
 And.intro underlying110 <|
 And.intro sz110 <|
 And.intro by110 <|
 And.intro ha110 <|
 And.intro ze110 <|
 And.intro zn110 <|
 And.intro zv110 <|
 And.intro underlying111 <|
 And.intro sz111 <|
 And.intro by111 <|
 And.intro ha111 <|
 And.intro ze111 <|
 And.intro zn111 <|
 And.intro zv111 <|
 And.intro underlying112 <|
 And.intro eo112 <|
 And.intro underlying113 <|
 And.intro eo113 <|
 And.intro underlying114 <|
 And.intro eo114 <|
 And.intro underlying115 <|
 And.intro eo115 <|
 And.intro underlying116 <|
 And.intro eo116 <|
 And.intro underlying117 <|
 And.intro eo117 <|
 And.intro underlying118 <|
 And.intro eo118 <|
 And.intro underlying119 <|
 And.intro eo119 <|
 And.intro underlying120 <|
 And.intro sz120 <|
 And.intro by120 <|
 And.intro ha120 <|
 And.intro ze120 <|
 And.intro zn120 <|
 And.intro zv120 <|
 And.intro underlying121 <|
 And.intro eo121 <|
 And.intro underlying122 <|
 And.intro eo122 <|
 And.intro underlying123 <|
 And.intro eo123 <|
 And.intro underlying125 <|
 And.intro eo125 <|
 And.intro underlying126 <|
 And.intro sz126 <|
 And.intro by126 <|
 And.intro ha126 <|
 And.intro ze126 <|
 And.intro zn126 <|
 And.intro zv126 <|
 And.intro underlying127 <|
 And.intro eo127 <|
 And.intro underlying128 <|
 And.intro eo128 <|
 And.intro underlying129 <|
 And.intro sz129 <|
 And.intro by129 <|
 And.intro ha129 <|
 And.intro ze129 <|
 And.intro zn129 <|
 And.intro zv129 <|
 And.intro underlying130 <|
 And.intro eo130 <|
 And.intro underlying131 <|
 And.intro eo131 <|
 And.intro underlying132 <|
 And.intro eo132 <|
 And.intro underlying133 <|
 And.intro sz133 <|
 And.intro by133 <|
 And.intro ha133 <|
 And.intro eo133 <|
 And.intro ze133 <|
 And.intro zn133 <|
 And.intro zv133 <|
 And.intro underlying134 <|
 And.intro eo134 <|
 And.intro underlying140 <|
 And.intro sz140 <|
 And.intro by140 <|
 And.intro ha140 <|
 And.intro ze140 <|
 And.intro zn140 <|
 And.intro zv140 <|
 And.intro underlying144 <|
 And.intro sz144 <|
 And.intro by144 <|
 And.intro ha144 <|
 And.intro eo144 <|
 And.intro ze144 <|
 And.intro zn144 <|
 And.intro zv144 <|
 And.intro underlying150 <|
 And.intro eo150 <|
 And.intro underlying151 <|
 And.intro eo151 <|
 And.intro strTy <|
 And.intro ca3 <|
 And.intro ca4 <|
 And.intro ca5 <|
 And.intro ca6 <|
 And.intro ca7 <|
 And.intro ca8 <|
 And.intro ca9 <|
 And.intro ca10 <|
 And.intro ca11 <|
 And.intro ca12 <|
 And.intro ca13 <|
 And.intro ca14 <|
 And.intro ca15 <|
 And.intro ca16 <|
 And.intro ca17 <|
 And.intro ca18 <|
 And.intro ca19 <|
 And.intro ca20 <|
 And.intro ca21 <|
 And.intro ca22 <|
 And.intro ca23 <|
 And.intro ca24 <|
 And.intro ca25 <|
 And.intro ca26 <|
 And.intro ca27 <|
 And.intro ca28 <|
 And.intro ca29 <|
 And.intro ca30 <|
 And.intro ca31 <|
 And.intro ca32 <|
 And.intro ca33 <|
 And.intro ca34 <|
 And.intro ca35 <|
 And.intro ca36 <|
 And.intro ca37 <|
 And.intro ca38 <|
 And.intro ca39 <|
 And.intro ca40 <|
 And.intro ca41 <|
 And.intro ca42 <|
 And.intro ca43 <|
 And.intro ca44 <|
 And.intro ca45 <|
 And.intro ca46 <|
 And.intro ca47 <|
 And.intro ca48 <|
 And.intro ca49 <|
 And.intro ca50 <|
 And.intro ca51 <|
 And.intro ca52 <|
 And.intro ca53 <|
 And.intro ca54 <|
 And.intro ca55 <|
 And.intro ca56 <|
 And.intro ca57 <|
 And.intro ca58 <|
 And.intro ca59 <|
 And.intro ca60 <|
 And.intro ca61 <|
 And.intro ca62 <|
 And.intro ca63 <|
 And.intro ca64 <|
 And.intro ca65 <|
 And.intro ca66 <|
 And.intro ca67 <|
 And.intro ca68 <|
 And.intro ca69 <|
 And.intro ca70 <|
 And.intro ca71 <|
 And.intro ca72 <|
 And.intro ca73 <|
 And.intro ca74 <|
 And.intro ca75 <|
 And.intro ca76 <|
 And.intro ca77 <|
 And.intro ca78 <|
 And.intro ca79 <|
 And.intro ca80 <|
 And.intro ca81 <|
 And.intro ca82 <|
 And.intro ca83 <|
 And.intro ca84 <|
 And.intro ca85 <|
 And.intro ca86 <|
 And.intro ca87 <|
 And.intro ca88 <|
 And.intro ca89 <|
 And.intro ca90 <|
 And.intro ca106 <|
 And.intro ca107 <|
 And.intro ca108 <|
 And.intro ca109 <|
 And.intro ca110 <|
 And.intro ca111 <|
 And.intro ca112 <|
 And.intro ca113 <|
 And.intro ca114 <|
 And.intro co25 <|
 And.intro me25_Derive <|
 And.intro me25_Draw <|
 And.intro me25_Hash <|
 And.intro me25_Open <|
 And.intro me25_Public <|
 And.intro me25_Seal <|
 And.intro me25_Shared <|
 And.intro me25_Sign <|
 And.intro me25_Signer <| me25_Verify
end Go.Proofs.Try
