/-
  Facts of the seat's program: sizes of types, functions that have bodies. By program.
  Conditions: none.
-/
import Derived.Test.YtaehlpkinbpmbaaProg
import Derived.Test.YtaehlpkinbpmbaaAbsG5
set_option linter.all false
set_option linter.unusedSimpArgs false
namespace Go.Proofs.Try
open Go Go.Abs
theorem mixed : prog.follows .mixedOrders = true := by kernel_rfl
theorem sz2 : ai prog 2 = 1 := by kernel_rfl
theorem by2 : ay prog 2 = 8 := by kernel_rfl
theorem ze2 : aq prog 2 = [.sc (.int .i64 0)] := by kernel_rfl
theorem zn2 : ap prog 2 = [.sc (.int .i64 0)] := by kernel_rfl
theorem ha2 : ax prog 2 = true := by kernel_rfl
theorem sz3 : ai prog 3 = 1 := by kernel_rfl
theorem by3 : ay prog 3 = 8 := by kernel_rfl
theorem ze3 : aq prog 3 = [.sc (.int .i64 0)] := by kernel_rfl
theorem zn3 : ap prog 3 = [.sc (.int .i64 0)] := by kernel_rfl
theorem ha3 : ax prog 3 = true := by kernel_rfl
theorem sz4 : ai prog 4 = 1 := by kernel_rfl
theorem by4 : ay prog 4 = 1 := by kernel_rfl
theorem ze4 : aq prog 4 = [.sc (.bool false)] := by kernel_rfl
theorem zn4 : ap prog 4 = [.sc (.bool false)] := by kernel_rfl
theorem ha4 : ax prog 4 = true := by kernel_rfl
theorem sz5 : ai prog 5 = 1 := by kernel_rfl
theorem by5 : ay prog 5 = 1 := by kernel_rfl
theorem ze5 : aq prog 5 = [.sc (.int .u8 0)] := by kernel_rfl
theorem zn5 : ap prog 5 = [.sc (.int .u8 0)] := by kernel_rfl
theorem ha5 : ax prog 5 = true := by kernel_rfl
theorem sz9 : ai prog 9 = 1 := by kernel_rfl
theorem by9 : ay prog 9 = 16 := by kernel_rfl
theorem ze9 : aq prog 9 = [.sc (.string ⟨#[]⟩)] := by kernel_rfl
theorem zn9 : ap prog 9 = [.sc (.string ⟨#[]⟩)] := by kernel_rfl
theorem ha9 : ax prog 9 = true := by kernel_rfl
theorem sz12 : ai prog 12 = 1 := by kernel_rfl
theorem by12 : ay prog 12 = 8 := by kernel_rfl
theorem ze12 : aq prog 12 = [.sc (.int .u64 0)] := by kernel_rfl
theorem zn12 : ap prog 12 = [.sc (.int .u64 0)] := by kernel_rfl
theorem ha12 : ax prog 12 = true := by kernel_rfl
theorem sz21 : ai prog 21 = 1 := by kernel_rfl
theorem by21 : ay prog 21 = 4 := by kernel_rfl
theorem ze21 : aq prog 21 = [.sc (.int .i32 0)] := by kernel_rfl
theorem zn21 : ap prog 21 = [.sc (.int .i32 0)] := by kernel_rfl
theorem ha21 : ax prog 21 = true := by kernel_rfl
theorem sz22 : ai prog 22 = 1 := by kernel_rfl
theorem by22 : ay prog 22 = 24 := by kernel_rfl
theorem ze22 : aq prog 22 = [.imm 0 [] 0] := by kernel_rfl
theorem zn22 : ap prog 22 = [.sc (.slice none 0 0)] := by kernel_rfl
theorem ha22 : ax prog 22 = true := by kernel_rfl
theorem sz23 : ai prog 23 = 7 := by kernel_rfl
theorem by23 : ay prog 23 = 104 := by kernel_rfl
theorem ze23 : aq prog 23 = [.sc (.int .i64 0),.sc (.int .i64 0),.sc (.int .i64 0),.sc (.int .i64 0),.imm 0 [] 0,.imm 0 [] 0,.imm 0 [] 0] := by kernel_rfl
theorem zn23 : ap prog 23 = [.sc (.int .i64 0),.sc (.int .i64 0),.sc (.int .i64 0),.sc (.int .i64 0),.sc (.slice none 0 0),.sc (.slice none 0 0),.sc (.slice none 0 0)] := by kernel_rfl
theorem ha23 : ax prog 23 = true := by kernel_rfl
theorem sz24 : ai prog 24 = 7 := by kernel_rfl
theorem by24 : ay prog 24 = 104 := by kernel_rfl
theorem ze24 : aq prog 24 = [.sc (.int .i64 0),.sc (.int .i64 0),.sc (.int .i64 0),.sc (.int .i64 0),.imm 0 [] 0,.imm 0 [] 0,.imm 0 [] 0] := by kernel_rfl
theorem zn24 : ap prog 24 = [.sc (.int .i64 0),.sc (.int .i64 0),.sc (.int .i64 0),.sc (.int .i64 0),.sc (.slice none 0 0),.sc (.slice none 0 0),.sc (.slice none 0 0)] := by kernel_rfl
theorem ha24 : ax prog 24 = true := by kernel_rfl
theorem sz25 : ai prog 25 = 11 := by kernel_rfl
theorem by25 : ay prog 25 = 144 := by kernel_rfl
theorem ze25 : aq prog 25 = [.sc (.int .i64 0),.sc (.int .i64 0),.sc (.int .i64 0),.sc (.int .i64 0),.imm 0 [] 0,.imm 0 [] 0,.imm 0 [] 0,.imm 0 [] 0,.sc (.bool false),.sc (.int .u8 0),.sc (.int .i64 0)] := by kernel_rfl
theorem zn25 : ap prog 25 = [.sc (.int .i64 0),.sc (.int .i64 0),.sc (.int .i64 0),.sc (.int .i64 0),.sc (.slice none 0 0),.sc (.slice none 0 0),.sc (.slice none 0 0),.sc (.slice none 0 0),.sc (.bool false),.sc (.int .u8 0),.sc (.int .i64 0)] := by kernel_rfl
theorem ha25 : ax prog 25 = true := by kernel_rfl
theorem sz26 : ai prog 26 = 11 := by kernel_rfl
theorem by26 : ay prog 26 = 144 := by kernel_rfl
theorem ze26 : aq prog 26 = [.sc (.int .i64 0),.sc (.int .i64 0),.sc (.int .i64 0),.sc (.int .i64 0),.imm 0 [] 0,.imm 0 [] 0,.imm 0 [] 0,.imm 0 [] 0,.sc (.bool false),.sc (.int .u8 0),.sc (.int .i64 0)] := by kernel_rfl
theorem zn26 : ap prog 26 = [.sc (.int .i64 0),.sc (.int .i64 0),.sc (.int .i64 0),.sc (.int .i64 0),.sc (.slice none 0 0),.sc (.slice none 0 0),.sc (.slice none 0 0),.sc (.slice none 0 0),.sc (.bool false),.sc (.int .u8 0),.sc (.int .i64 0)] := by kernel_rfl
theorem ha26 : ax prog 26 = true := by kernel_rfl
theorem sz27 : ai prog 27 = 1 := by kernel_rfl
theorem by27 : ay prog 27 = 8 := by kernel_rfl
theorem ze27 : aq prog 27 = [.sc (.pointer none)] := by kernel_rfl
theorem zn27 : ap prog 27 = [.sc (.pointer none)] := by kernel_rfl
theorem ha27 : ax prog 27 = true := by kernel_rfl
theorem sz30 : ai prog 30 = 1 := by kernel_rfl
theorem by30 : ay prog 30 = 8 := by kernel_rfl
theorem ze30 : aq prog 30 = [.sc (.int .i64 0)] := by kernel_rfl
theorem zn30 : ap prog 30 = [.sc (.int .i64 0)] := by kernel_rfl
theorem ha30 : ax prog 30 = true := by kernel_rfl
theorem sz37 : ai prog 37 = 5 := by kernel_rfl
theorem by37 : ay prog 37 = 72 := by kernel_rfl
theorem ze37 : aq prog 37 = [.sc (.int .i64 0),.sc (.int .i64 0),.sc (.int .i64 0),.imm 0 [] 0,.imm 0 [] 0] := by kernel_rfl
theorem zn37 : ap prog 37 = [.sc (.int .i64 0),.sc (.int .i64 0),.sc (.int .i64 0),.sc (.slice none 0 0),.sc (.slice none 0 0)] := by kernel_rfl
theorem ha37 : ax prog 37 = true := by kernel_rfl
theorem sz38 : ai prog 38 = 5 := by kernel_rfl
theorem by38 : ay prog 38 = 72 := by kernel_rfl
theorem ze38 : aq prog 38 = [.sc (.int .i64 0),.sc (.int .i64 0),.sc (.int .i64 0),.imm 0 [] 0,.imm 0 [] 0] := by kernel_rfl
theorem zn38 : ap prog 38 = [.sc (.int .i64 0),.sc (.int .i64 0),.sc (.int .i64 0),.sc (.slice none 0 0),.sc (.slice none 0 0)] := by kernel_rfl
theorem ha38 : ax prog 38 = true := by kernel_rfl
theorem sz48 : ai prog 48 = 4 := by kernel_rfl
theorem by48 : ay prog 48 = 80 := by kernel_rfl
theorem ze48 : aq prog 48 = [.imm 0 [] 0,.imm 0 [] 0,.imm 0 [] 0,.sc (.int .i64 0)] := by kernel_rfl
theorem zn48 : ap prog 48 = [.sc (.slice none 0 0),.sc (.slice none 0 0),.sc (.slice none 0 0),.sc (.int .i64 0)] := by kernel_rfl
theorem ha48 : ax prog 48 = true := by kernel_rfl
theorem sz49 : ai prog 49 = 4 := by kernel_rfl
theorem by49 : ay prog 49 = 80 := by kernel_rfl
theorem ze49 : aq prog 49 = [.imm 0 [] 0,.imm 0 [] 0,.imm 0 [] 0,.sc (.int .i64 0)] := by kernel_rfl
theorem zn49 : ap prog 49 = [.sc (.slice none 0 0),.sc (.slice none 0 0),.sc (.slice none 0 0),.sc (.int .i64 0)] := by kernel_rfl
theorem ha49 : ax prog 49 = true := by kernel_rfl
theorem sz52 : ai prog 52 = 1 := by kernel_rfl
theorem by52 : ay prog 52 = 24 := by kernel_rfl
theorem ze52 : aq prog 52 = [.imm 0 [] 0] := by kernel_rfl
theorem zn52 : ap prog 52 = [.sc (.slice none 0 0)] := by kernel_rfl
theorem ha52 : ax prog 52 = true := by kernel_rfl
theorem sz53 : ai prog 53 = 2 := by kernel_rfl
theorem by53 : ay prog 53 = 32 := by kernel_rfl
theorem ze53 : aq prog 53 = [.imm 0 [] 0,.sc (.int .i64 0)] := by kernel_rfl
theorem zn53 : ap prog 53 = [.sc (.slice none 0 0),.sc (.int .i64 0)] := by kernel_rfl
theorem ha53 : ax prog 53 = true := by kernel_rfl
theorem sz54 : ai prog 54 = 2 := by kernel_rfl
theorem by54 : ay prog 54 = 32 := by kernel_rfl
theorem ze54 : aq prog 54 = [.imm 0 [] 0,.sc (.int .i64 0)] := by kernel_rfl
theorem zn54 : ap prog 54 = [.sc (.slice none 0 0),.sc (.int .i64 0)] := by kernel_rfl
theorem ha54 : ax prog 54 = true := by kernel_rfl
theorem sz67 : ai prog 67 = 1 := by kernel_rfl
theorem by67 : ay prog 67 = 8 := by kernel_rfl
theorem ze67 : aq prog 67 = [.sc (.pointer none)] := by kernel_rfl
theorem zn67 : ap prog 67 = [.sc (.pointer none)] := by kernel_rfl
theorem ha67 : ax prog 67 = true := by kernel_rfl
theorem sz70 : ai prog 70 = 2 := by kernel_rfl
theorem by70 : ay prog 70 = 32 := by kernel_rfl
theorem ze70 : aq prog 70 = [.imm 0 [] 0,.sc (.int .i64 0)] := by kernel_rfl
theorem zn70 : ap prog 70 = [.sc (.slice none 0 0),.sc (.int .i64 0)] := by kernel_rfl
theorem ha70 : ax prog 70 = true := by kernel_rfl
theorem sz71 : ai prog 71 = 2 := by kernel_rfl
theorem by71 : ay prog 71 = 32 := by kernel_rfl
theorem ze71 : aq prog 71 = [.imm 0 [] 0,.sc (.int .i64 0)] := by kernel_rfl
theorem zn71 : ap prog 71 = [.sc (.slice none 0 0),.sc (.int .i64 0)] := by kernel_rfl
theorem ha71 : ax prog 71 = true := by kernel_rfl
theorem sz77 : ai prog 77 = 1 := by kernel_rfl
theorem by77 : ay prog 77 = 8 := by kernel_rfl
theorem ze77 : aq prog 77 = [.sc (.map none)] := by kernel_rfl
theorem zn77 : ap prog 77 = [.sc (.map none)] := by kernel_rfl
theorem ha77 : ax prog 77 = true := by kernel_rfl
theorem sz78 : ai prog 78 = 1 := by kernel_rfl
theorem by78 : ay prog 78 = 24 := by kernel_rfl
theorem ze78 : aq prog 78 = [.imm 0 [] 0] := by kernel_rfl
theorem zn78 : ap prog 78 = [.sc (.slice none 0 0)] := by kernel_rfl
theorem ha78 : ax prog 78 = true := by kernel_rfl
theorem sz79 : ai prog 79 = 2 := by kernel_rfl
theorem by79 : ay prog 79 = 32 := by kernel_rfl
theorem ze79 : aq prog 79 = [.imm 0 [] 0,.sc (.map none)] := by kernel_rfl
theorem zn79 : ap prog 79 = [.sc (.slice none 0 0),.sc (.map none)] := by kernel_rfl
theorem ha79 : ax prog 79 = true := by kernel_rfl
theorem sz80 : ai prog 80 = 2 := by kernel_rfl
theorem by80 : ay prog 80 = 32 := by kernel_rfl
theorem ze80 : aq prog 80 = [.imm 0 [] 0,.sc (.map none)] := by kernel_rfl
theorem zn80 : ap prog 80 = [.sc (.slice none 0 0),.sc (.map none)] := by kernel_rfl
theorem ha80 : ax prog 80 = true := by kernel_rfl
theorem sz81 : ai prog 81 = 3 := by kernel_rfl
theorem by81 : ay prog 81 = 40 := by kernel_rfl
theorem ze81 : aq prog 81 = [.imm 0 [] 0,.sc (.map none),.sc (.int .i64 0)] := by kernel_rfl
theorem zn81 : ap prog 81 = [.sc (.slice none 0 0),.sc (.map none),.sc (.int .i64 0)] := by kernel_rfl
theorem ha81 : ax prog 81 = true := by kernel_rfl
theorem sz82 : ai prog 82 = 3 := by kernel_rfl
theorem by82 : ay prog 82 = 40 := by kernel_rfl
theorem ze82 : aq prog 82 = [.imm 0 [] 0,.sc (.map none),.sc (.int .i64 0)] := by kernel_rfl
theorem zn82 : ap prog 82 = [.sc (.slice none 0 0),.sc (.map none),.sc (.int .i64 0)] := by kernel_rfl
theorem ha82 : ax prog 82 = true := by kernel_rfl
theorem sz86 : ai prog 86 = 1 := by kernel_rfl
theorem by86 : ay prog 86 = 16 := by kernel_rfl
theorem ze86 : aq prog 86 = [.sc .nilIface] := by kernel_rfl
theorem zn86 : ap prog 86 = [.sc .nilIface] := by kernel_rfl
theorem ha86 : ax prog 86 = true := by kernel_rfl
theorem sz91 : ai prog 91 = 1 := by kernel_rfl
theorem by91 : ay prog 91 = 8 := by kernel_rfl
theorem ze91 : aq prog 91 = [.sc (.int .u64 0)] := by kernel_rfl
theorem zn91 : ap prog 91 = [.sc (.int .u64 0)] := by kernel_rfl
theorem ha91 : ax prog 91 = true := by kernel_rfl
theorem sz96 : ai prog 96 = 1 := by kernel_rfl
theorem by96 : ay prog 96 = 24 := by kernel_rfl
theorem ze96 : aq prog 96 = [.imm 0 [] 0] := by kernel_rfl
theorem zn96 : ap prog 96 = [.sc (.slice none 0 0)] := by kernel_rfl
theorem ha96 : ax prog 96 = true := by kernel_rfl
theorem sz97 : ai prog 97 = 2 := by kernel_rfl
theorem by97 : ay prog 97 = 32 := by kernel_rfl
theorem ze97 : aq prog 97 = [.sc (.int .u8 0),.imm 0 [] 0] := by kernel_rfl
theorem zn97 : ap prog 97 = [.sc (.int .u8 0),.sc (.slice none 0 0)] := by kernel_rfl
theorem ha97 : ax prog 97 = true := by kernel_rfl
theorem sz98 : ai prog 98 = 2 := by kernel_rfl
theorem by98 : ay prog 98 = 32 := by kernel_rfl
theorem ze98 : aq prog 98 = [.sc (.int .u8 0),.imm 0 [] 0] := by kernel_rfl
theorem zn98 : ap prog 98 = [.sc (.int .u8 0),.sc (.slice none 0 0)] := by kernel_rfl
theorem ha98 : ax prog 98 = true := by kernel_rfl
theorem sz102 : ai prog 102 = 2 := by kernel_rfl
theorem by102 : ay prog 102 = 16 := by kernel_rfl
theorem ze102 : aq prog 102 = [.sc .nilFunc,.sc .nilFunc] := by kernel_rfl
theorem zn102 : ap prog 102 = [.sc .nilFunc,.sc .nilFunc] := by kernel_rfl
theorem ha102 : ax prog 102 = true := by kernel_rfl
theorem sz103 : ai prog 103 = 4 := by kernel_rfl
theorem by103 : ay prog 103 = 48 := by kernel_rfl
theorem ze103 : aq prog 103 = [.imm 0 [] 0,.sc (.int .i64 0),.sc (.bool false),.sc (.int .i64 0)] := by kernel_rfl
theorem zn103 : ap prog 103 = [.sc (.slice none 0 0),.sc (.int .i64 0),.sc (.bool false),.sc (.int .i64 0)] := by kernel_rfl
theorem ha103 : ax prog 103 = true := by kernel_rfl
theorem sz104 : ai prog 104 = 4 := by kernel_rfl
theorem by104 : ay prog 104 = 48 := by kernel_rfl
theorem ze104 : aq prog 104 = [.imm 0 [] 0,.sc (.int .i64 0),.sc (.bool false),.sc (.int .i64 0)] := by kernel_rfl
theorem zn104 : ap prog 104 = [.sc (.slice none 0 0),.sc (.int .i64 0),.sc (.bool false),.sc (.int .i64 0)] := by kernel_rfl
theorem ha104 : ax prog 104 = true := by kernel_rfl
theorem sz105 : ai prog 105 = 4 := by kernel_rfl
theorem by105 : ay prog 105 = 48 := by kernel_rfl
theorem ze105 : aq prog 105 = [.imm 0 [] 0,.sc (.int .i64 0),.sc (.bool false),.sc (.int .i64 0)] := by kernel_rfl
theorem zn105 : ap prog 105 = [.sc (.slice none 0 0),.sc (.int .i64 0),.sc (.bool false),.sc (.int .i64 0)] := by kernel_rfl
theorem ha105 : ax prog 105 = true := by kernel_rfl
theorem sz106 : ai prog 106 = 4 := by kernel_rfl
theorem by106 : ay prog 106 = 48 := by kernel_rfl
theorem ze106 : aq prog 106 = [.imm 0 [] 0,.sc (.int .i64 0),.sc (.bool false),.sc (.int .i64 0)] := by kernel_rfl
theorem zn106 : ap prog 106 = [.sc (.slice none 0 0),.sc (.int .i64 0),.sc (.bool false),.sc (.int .i64 0)] := by kernel_rfl
theorem ha106 : ax prog 106 = true := by kernel_rfl
theorem sz113 : ai prog 113 = 2 := by kernel_rfl
theorem by113 : ay prog 113 = 32 := by kernel_rfl
theorem ze113 : aq prog 113 = [.sc (.int .u8 0),.imm 0 [] 0] := by kernel_rfl
theorem zn113 : ap prog 113 = [.sc (.int .u8 0),.sc (.slice none 0 0)] := by kernel_rfl
theorem ha113 : ax prog 113 = true := by kernel_rfl
theorem sz116 : ai prog 116 = 1 := by kernel_rfl
theorem by116 : ay prog 116 = 8 := by kernel_rfl
theorem ze116 : aq prog 116 = [.sc (.int .u64 0)] := by kernel_rfl
theorem zn116 : ap prog 116 = [.sc (.int .u64 0)] := by kernel_rfl
theorem ha116 : ax prog 116 = true := by kernel_rfl
theorem sz118 : ai prog 118 = 4 := by kernel_rfl
theorem by118 : ay prog 118 = 32 := by kernel_rfl
theorem ze118 : aq prog 118 = [.sc (.int .i64 0),.sc (.int .i64 0),.sc (.int .i64 0),.sc (.int .i64 0)] := by kernel_rfl
theorem zn118 : ap prog 118 = [.sc (.int .i64 0),.sc (.int .i64 0),.sc (.int .i64 0),.sc (.int .i64 0)] := by kernel_rfl
theorem ha118 : ax prog 118 = true := by kernel_rfl
theorem sz128 : ai prog 128 = 7 := by kernel_rfl
theorem by128 : ay prog 128 = 56 := by kernel_rfl
theorem ze128 : aq prog 128 = [.sc (.int .i64 0),.sc (.int .i64 0),.sc (.int .i64 0),.sc (.int .i64 0),.sc (.int .i64 0),.sc (.int .i64 0),.sc (.int .i64 0)] := by kernel_rfl
theorem zn128 : ap prog 128 = [.sc (.int .i64 0),.sc (.int .i64 0),.sc (.int .i64 0),.sc (.int .i64 0),.sc (.int .i64 0),.sc (.int .i64 0),.sc (.int .i64 0)] := by kernel_rfl
theorem ha128 : ax prog 128 = true := by kernel_rfl
theorem sz129 : ai prog 129 = 1 := by kernel_rfl
theorem by129 : ay prog 129 = 8 := by kernel_rfl
theorem ze129 : aq prog 129 = [.sc (.pointer none)] := by kernel_rfl
theorem zn129 : ap prog 129 = [.sc (.pointer none)] := by kernel_rfl
theorem ha129 : ax prog 129 = true := by kernel_rfl
theorem sz130 : ai prog 130 = 1 := by kernel_rfl
theorem by130 : ay prog 130 = 8 := by kernel_rfl
theorem ze130 : aq prog 130 = [.sc (.pointer none)] := by kernel_rfl
theorem zn130 : ap prog 130 = [.sc (.pointer none)] := by kernel_rfl
theorem ha130 : ax prog 130 = true := by kernel_rfl
theorem sz137 : ai prog 137 = 1 := by kernel_rfl
theorem by137 : ay prog 137 = 4 := by kernel_rfl
theorem ze137 : aq prog 137 = [.sc (.int .u32 0)] := by kernel_rfl
theorem zn137 : ap prog 137 = [.sc (.int .u32 0)] := by kernel_rfl
theorem ha137 : ax prog 137 = true := by kernel_rfl
theorem sz141 : ai prog 141 = 1 := by kernel_rfl
theorem by141 : ay prog 141 = 8 := by kernel_rfl
theorem ze141 : aq prog 141 = [.sc (.pointer none)] := by kernel_rfl
theorem zn141 : ap prog 141 = [.sc (.pointer none)] := by kernel_rfl
theorem ha141 : ax prog 141 = true := by kernel_rfl
theorem eq118 (a1 b1 : Int) (a2 b2 : Int) (a3 b3 : Int) (a4 b4 : Int) : eqG prog 6 118 (.agg [.sc (.int .i64 a1),.sc (.int .i64 a2),.sc (.int .i64 a3),.sc (.int .i64 a4)]) (.agg [.sc (.int .i64 b1),.sc (.int .i64 b2),.sc (.int .i64 b3),.sc (.int .i64 b4)]) = some ((a1 == b1) && ((a2 == b2) && ((a3 == b3) && ((a4 == b4) && true)))) := by kernel_rfl
theorem ck118 (x0 x1 x2 x3 : AV) : cl prog 6 118 (.agg [x0,x1,x2,x3]) = true := by kernel_rfl
theorem eq128 (a1 b1 : Int) (a2 b2 : Int) (a3 b3 : Int) (a4 b4 : Int) (a5 b5 : Int) (a6 b6 : Int) (a7 b7 : Int) : eqG prog 6 128 (.agg [.sc (.int .i64 a1),.sc (.int .i64 a2),.sc (.int .i64 a3),.sc (.int .i64 a4),.sc (.int .i64 a5),.sc (.int .i64 a6),.sc (.int .i64 a7)]) (.agg [.sc (.int .i64 b1),.sc (.int .i64 b2),.sc (.int .i64 b3),.sc (.int .i64 b4),.sc (.int .i64 b5),.sc (.int .i64 b6),.sc (.int .i64 b7)]) = some ((a1 == b1) && ((a2 == b2) && ((a3 == b3) && ((a4 == b4) && ((a5 == b5) && ((a6 == b6) && ((a7 == b7) && true))))))) := by kernel_rfl
theorem ck128 (x0 x1 x2 x3 x4 x5 x6 : AV) : cl prog 6 128 (.agg [x0,x1,x2,x3,x4,x5,x6]) = true := by kernel_rfl
theorem zv2 : ar prog 2 = .sc (.int .i64 0) := by kernel_rfl
theorem zv3 : ar prog 3 = .sc (.int .i64 0) := by kernel_rfl
theorem zv4 : ar prog 4 = .sc (.bool false) := by kernel_rfl
theorem zv5 : ar prog 5 = .sc (.int .u8 0) := by kernel_rfl
theorem zv9 : ar prog 9 = .sc (.string ⟨#[]⟩) := by kernel_rfl
theorem zv12 : ar prog 12 = .sc (.int .u64 0) := by kernel_rfl
theorem zv21 : ar prog 21 = .sc (.int .i32 0) := by kernel_rfl
theorem zv22 : ar prog 22 = .sc (.slice none 0 0) := by kernel_rfl
theorem zv23 : ar prog 23 = .agg [.sc (.int .i64 0),.sc (.int .i64 0),.sc (.int .i64 0),.sc (.int .i64 0),.sc (.slice none 0 0),.sc (.slice none 0 0),.sc (.slice none 0 0)] := by kernel_rfl
theorem zv24 : ar prog 24 = .agg [.sc (.int .i64 0),.sc (.int .i64 0),.sc (.int .i64 0),.sc (.int .i64 0),.sc (.slice none 0 0),.sc (.slice none 0 0),.sc (.slice none 0 0)] := by kernel_rfl
theorem zv25 : ar prog 25 = .agg [.sc (.int .i64 0),.sc (.int .i64 0),.sc (.int .i64 0),.sc (.int .i64 0),.sc (.slice none 0 0),.sc (.slice none 0 0),.sc (.slice none 0 0),.sc (.slice none 0 0),.sc (.bool false),.sc (.int .u8 0),.sc (.int .i64 0)] := by kernel_rfl
theorem zv26 : ar prog 26 = .agg [.sc (.int .i64 0),.sc (.int .i64 0),.sc (.int .i64 0),.sc (.int .i64 0),.sc (.slice none 0 0),.sc (.slice none 0 0),.sc (.slice none 0 0),.sc (.slice none 0 0),.sc (.bool false),.sc (.int .u8 0),.sc (.int .i64 0)] := by kernel_rfl
theorem zv27 : ar prog 27 = .sc (.pointer none) := by kernel_rfl
theorem zv30 : ar prog 30 = .sc (.int .i64 0) := by kernel_rfl
theorem zv37 : ar prog 37 = .agg [.sc (.int .i64 0),.sc (.int .i64 0),.sc (.int .i64 0),.sc (.slice none 0 0),.sc (.slice none 0 0)] := by kernel_rfl
theorem zv38 : ar prog 38 = .agg [.sc (.int .i64 0),.sc (.int .i64 0),.sc (.int .i64 0),.sc (.slice none 0 0),.sc (.slice none 0 0)] := by kernel_rfl
theorem zv48 : ar prog 48 = .agg [.sc (.slice none 0 0),.sc (.slice none 0 0),.sc (.slice none 0 0),.sc (.int .i64 0)] := by kernel_rfl
theorem zv49 : ar prog 49 = .agg [.sc (.slice none 0 0),.sc (.slice none 0 0),.sc (.slice none 0 0),.sc (.int .i64 0)] := by kernel_rfl
theorem zv52 : ar prog 52 = .sc (.slice none 0 0) := by kernel_rfl
theorem zv53 : ar prog 53 = .agg [.sc (.slice none 0 0),.sc (.int .i64 0)] := by kernel_rfl
theorem zv54 : ar prog 54 = .agg [.sc (.slice none 0 0),.sc (.int .i64 0)] := by kernel_rfl
theorem zv67 : ar prog 67 = .sc (.pointer none) := by kernel_rfl
theorem zv70 : ar prog 70 = .agg [.sc (.slice none 0 0),.sc (.int .i64 0)] := by kernel_rfl
theorem zv71 : ar prog 71 = .agg [.sc (.slice none 0 0),.sc (.int .i64 0)] := by kernel_rfl
theorem zv77 : ar prog 77 = .sc (.map none) := by kernel_rfl
theorem zv78 : ar prog 78 = .sc (.slice none 0 0) := by kernel_rfl
theorem zv79 : ar prog 79 = .agg [.sc (.slice none 0 0),.sc (.map none)] := by kernel_rfl
theorem zv80 : ar prog 80 = .agg [.sc (.slice none 0 0),.sc (.map none)] := by kernel_rfl
theorem zv81 : ar prog 81 = .agg [.sc (.slice none 0 0),.sc (.map none),.sc (.int .i64 0)] := by kernel_rfl
theorem zv82 : ar prog 82 = .agg [.sc (.slice none 0 0),.sc (.map none),.sc (.int .i64 0)] := by kernel_rfl
theorem zv86 : ar prog 86 = .sc .nilIface := by kernel_rfl
theorem zv91 : ar prog 91 = .sc (.int .u64 0) := by kernel_rfl
theorem zv96 : ar prog 96 = .sc (.slice none 0 0) := by kernel_rfl
theorem zv97 : ar prog 97 = .agg [.sc (.int .u8 0),.sc (.slice none 0 0)] := by kernel_rfl
theorem zv98 : ar prog 98 = .agg [.sc (.int .u8 0),.sc (.slice none 0 0)] := by kernel_rfl
theorem zv102 : ar prog 102 = .agg [.sc .nilFunc,.sc .nilFunc] := by kernel_rfl
theorem zv103 : ar prog 103 = .agg [.sc (.slice none 0 0),.sc (.int .i64 0),.sc (.bool false),.sc (.int .i64 0)] := by kernel_rfl
theorem zv104 : ar prog 104 = .agg [.sc (.slice none 0 0),.sc (.int .i64 0),.sc (.bool false),.sc (.int .i64 0)] := by kernel_rfl
theorem zv105 : ar prog 105 = .agg [.sc (.slice none 0 0),.sc (.int .i64 0),.sc (.bool false),.sc (.int .i64 0)] := by kernel_rfl
theorem zv106 : ar prog 106 = .agg [.sc (.slice none 0 0),.sc (.int .i64 0),.sc (.bool false),.sc (.int .i64 0)] := by kernel_rfl
theorem zv113 : ar prog 113 = .agg [.sc (.int .u8 0),.sc (.slice none 0 0)] := by kernel_rfl
theorem zv116 : ar prog 116 = .sc (.int .u64 0) := by kernel_rfl
theorem zv118 : ar prog 118 = .agg [.sc (.int .i64 0),.sc (.int .i64 0),.sc (.int .i64 0),.sc (.int .i64 0)] := by kernel_rfl
theorem zv128 : ar prog 128 = .agg [.sc (.int .i64 0),.sc (.int .i64 0),.sc (.int .i64 0),.sc (.int .i64 0),.sc (.int .i64 0),.sc (.int .i64 0),.sc (.int .i64 0)] := by kernel_rfl
theorem zv129 : ar prog 129 = .sc (.pointer none) := by kernel_rfl
theorem zv130 : ar prog 130 = .sc (.pointer none) := by kernel_rfl
theorem zv137 : ar prog 137 = .sc (.int .u32 0) := by kernel_rfl
theorem zv141 : ar prog 141 = .sc (.pointer none) := by kernel_rfl
theorem eo1 : bB prog 1 = true := by kernel_rfl
theorem eo4 : bB prog 4 = true := by kernel_rfl
theorem eo27 : bB prog 27 = true := by kernel_rfl
theorem eo28 : bB prog 28 = true := by kernel_rfl
theorem eo29 : bB prog 29 = true := by kernel_rfl
theorem eo32 : bB prog 32 = true := by kernel_rfl
theorem eo33 : bB prog 33 = true := by kernel_rfl
theorem eo34 : bB prog 34 = true := by kernel_rfl
theorem eo35 : bB prog 35 = true := by kernel_rfl
theorem eo36 : bB prog 36 = true := by kernel_rfl
theorem eo40 : bB prog 40 = true := by kernel_rfl
theorem eo41 : bB prog 41 = true := by kernel_rfl
theorem eo42 : bB prog 42 = true := by kernel_rfl
theorem eo43 : bB prog 43 = true := by kernel_rfl
theorem eo45 : bB prog 45 = true := by kernel_rfl
theorem eo46 : bB prog 46 = true := by kernel_rfl
theorem eo47 : bB prog 47 = true := by kernel_rfl
theorem eo50 : bB prog 50 = true := by kernel_rfl
theorem eo51 : bB prog 51 = true := by kernel_rfl
theorem eo56 : bB prog 56 = true := by kernel_rfl
theorem eo57 : bB prog 57 = true := by kernel_rfl
theorem eo59 : bB prog 59 = true := by kernel_rfl
theorem eo61 : bB prog 61 = true := by kernel_rfl
theorem eo63 : bB prog 63 = true := by kernel_rfl
theorem eo65 : bB prog 65 = true := by kernel_rfl
theorem eo66 : bB prog 66 = true := by kernel_rfl
theorem eo67 : bB prog 67 = true := by kernel_rfl
theorem eo68 : bB prog 68 = true := by kernel_rfl
theorem eo69 : bB prog 69 = true := by kernel_rfl
theorem eo73 : bB prog 73 = true := by kernel_rfl
theorem eo74 : bB prog 74 = true := by kernel_rfl
theorem eo75 : bB prog 75 = true := by kernel_rfl
theorem eo76 : bB prog 76 = true := by kernel_rfl
theorem eo77 : bB prog 77 = true := by kernel_rfl
theorem eo83 : bB prog 83 = true := by kernel_rfl
theorem eo84 : bB prog 84 = true := by kernel_rfl
theorem eo87 : bB prog 87 = true := by kernel_rfl
theorem eo88 : bB prog 88 = true := by kernel_rfl
theorem eo89 : bB prog 89 = true := by kernel_rfl
theorem eo90 : bB prog 90 = true := by kernel_rfl
theorem eo92 : bB prog 92 = true := by kernel_rfl
theorem eo93 : bB prog 93 = true := by kernel_rfl
theorem eo94 : bB prog 94 = true := by kernel_rfl
theorem eo95 : bB prog 95 = true := by kernel_rfl
theorem eo99 : bB prog 99 = true := by kernel_rfl
theorem eo100 : bB prog 100 = true := by kernel_rfl
theorem eo101 : bB prog 101 = true := by kernel_rfl
theorem eo107 : bB prog 107 = true := by kernel_rfl
theorem eo108 : bB prog 108 = true := by kernel_rfl
theorem eo110 : bB prog 110 = true := by kernel_rfl
theorem eo112 : bB prog 112 = true := by kernel_rfl
theorem eo114 : bB prog 114 = true := by kernel_rfl
theorem eo115 : bB prog 115 = true := by kernel_rfl
theorem eo117 : bB prog 117 = true := by kernel_rfl
theorem eo118 : bB prog 118 = true := by kernel_rfl
theorem eo119 : bB prog 119 = true := by kernel_rfl
theorem eo120 : bB prog 120 = true := by kernel_rfl
theorem eo121 : bB prog 121 = true := by kernel_rfl
theorem eo123 : bB prog 123 = true := by kernel_rfl
theorem eo125 : bB prog 125 = true := by kernel_rfl
theorem eo126 : bB prog 126 = true := by kernel_rfl
theorem eo127 : bB prog 127 = true := by kernel_rfl
theorem eo128 : bB prog 128 = true := by kernel_rfl
theorem eo129 : bB prog 129 = true := by kernel_rfl
theorem eo130 : bB prog 130 = true := by kernel_rfl
theorem eo131 : bB prog 131 = true := by kernel_rfl
theorem eo141 : bB prog 141 = true := by kernel_rfl
theorem eo147 : bB prog 147 = true := by kernel_rfl
theorem eo148 : bB prog 148 = true := by kernel_rfl
theorem eo149 : bB prog 149 = true := by kernel_rfl
theorem eo150 : bB prog 150 = true := by kernel_rfl
theorem strTy : strTy prog = some 9 := by kernel_rfl
theorem z8_5 : bk prog 5 = .int .u8 0 := by kernel_rfl
theorem ca3 : ak prog 3 = true := by kernel_rfl
theorem ca4 : ak prog 4 = true := by kernel_rfl
theorem ca5 : ak prog 5 = true := by kernel_rfl
theorem ca6 : ak prog 6 = true := by kernel_rfl
theorem ca7 : ak prog 7 = true := by kernel_rfl
theorem ca8 : ak prog 8 = true := by kernel_rfl
theorem ca9 : ak prog 9 = true := by kernel_rfl
theorem ca10 : ak prog 10 = true := by kernel_rfl
theorem ca11 : ak prog 11 = true := by kernel_rfl
theorem ca12 : ak prog 12 = true := by kernel_rfl
theorem ca13 : ak prog 13 = true := by kernel_rfl
theorem ca14 : ak prog 14 = true := by kernel_rfl
theorem ca15 : ak prog 15 = true := by kernel_rfl
theorem ca16 : ak prog 16 = true := by kernel_rfl
theorem ca17 : ak prog 17 = true := by kernel_rfl
theorem ca18 : ak prog 18 = true := by kernel_rfl
theorem ca19 : ak prog 19 = true := by kernel_rfl
theorem ca20 : ak prog 20 = true := by kernel_rfl
theorem ca21 : ak prog 21 = true := by kernel_rfl
theorem ca22 : ak prog 22 = true := by kernel_rfl
theorem ca23 : ak prog 23 = true := by kernel_rfl
theorem ca24 : ak prog 24 = true := by kernel_rfl
theorem ca25 : ak prog 25 = true := by kernel_rfl
theorem ca26 : ak prog 26 = true := by kernel_rfl
theorem ca27 : ak prog 27 = true := by kernel_rfl
theorem ca28 : ak prog 28 = true := by kernel_rfl
theorem ca29 : ak prog 29 = true := by kernel_rfl
theorem ca30 : ak prog 30 = true := by kernel_rfl
theorem ca31 : ak prog 31 = true := by kernel_rfl
theorem ca32 : ak prog 32 = true := by kernel_rfl
theorem ca33 : ak prog 33 = true := by kernel_rfl
theorem ca34 : ak prog 34 = true := by kernel_rfl
theorem ca35 : ak prog 35 = true := by kernel_rfl
theorem ca36 : ak prog 36 = true := by kernel_rfl
theorem ca37 : ak prog 37 = true := by kernel_rfl
theorem ca38 : ak prog 38 = true := by kernel_rfl
theorem ca39 : ak prog 39 = true := by kernel_rfl
theorem ca40 : ak prog 40 = true := by kernel_rfl
theorem ca41 : ak prog 41 = true := by kernel_rfl
theorem ca42 : ak prog 42 = true := by kernel_rfl
theorem ca43 : ak prog 43 = true := by kernel_rfl
theorem ca44 : ak prog 44 = true := by kernel_rfl
theorem ca45 : ak prog 45 = true := by kernel_rfl
theorem ca46 : ak prog 46 = true := by kernel_rfl
theorem ca47 : ak prog 47 = true := by kernel_rfl
theorem ca48 : ak prog 48 = true := by kernel_rfl
theorem ca49 : ak prog 49 = true := by kernel_rfl
theorem ca50 : ak prog 50 = true := by kernel_rfl
theorem ca51 : ak prog 51 = true := by kernel_rfl
theorem ca52 : ak prog 52 = true := by kernel_rfl
theorem ca53 : ak prog 53 = true := by kernel_rfl
theorem ca54 : ak prog 54 = true := by kernel_rfl
theorem ca55 : ak prog 55 = true := by kernel_rfl
theorem ca56 : ak prog 56 = true := by kernel_rfl
theorem ca57 : ak prog 57 = true := by kernel_rfl
theorem ca58 : ak prog 58 = true := by kernel_rfl
theorem ca59 : ak prog 59 = true := by kernel_rfl
theorem ca60 : ak prog 60 = true := by kernel_rfl
theorem ca61 : ak prog 61 = true := by kernel_rfl
theorem ca62 : ak prog 62 = true := by kernel_rfl
theorem ca63 : ak prog 63 = true := by kernel_rfl
theorem ca64 : ak prog 64 = true := by kernel_rfl
theorem ca65 : ak prog 65 = true := by kernel_rfl
theorem ca66 : ak prog 66 = true := by kernel_rfl
theorem ca67 : ak prog 67 = true := by kernel_rfl
theorem ca68 : ak prog 68 = true := by kernel_rfl
theorem ca69 : ak prog 69 = true := by kernel_rfl
theorem ca70 : ak prog 70 = true := by kernel_rfl
theorem ca71 : ak prog 71 = true := by kernel_rfl
theorem ca72 : ak prog 72 = true := by kernel_rfl
theorem ca73 : ak prog 73 = true := by kernel_rfl
theorem ca74 : ak prog 74 = true := by kernel_rfl
theorem ca75 : ak prog 75 = true := by kernel_rfl
theorem ca76 : ak prog 76 = true := by kernel_rfl
theorem ca77 : ak prog 77 = true := by kernel_rfl
theorem ca78 : ak prog 78 = true := by kernel_rfl
theorem ca79 : ak prog 79 = true := by kernel_rfl
theorem ca80 : ak prog 80 = true := by kernel_rfl
theorem ca81 : ak prog 81 = true := by kernel_rfl
theorem ca82 : ak prog 82 = true := by kernel_rfl
theorem ca83 : ak prog 83 = true := by kernel_rfl
theorem ca84 : ak prog 84 = true := by kernel_rfl
theorem ca85 : ak prog 85 = true := by kernel_rfl
theorem ca86 : ak prog 86 = true := by kernel_rfl
theorem ca87 : ak prog 87 = true := by kernel_rfl
theorem ca88 : ak prog 88 = true := by kernel_rfl
theorem ca89 : ak prog 89 = true := by kernel_rfl
theorem ca90 : ak prog 90 = true := by kernel_rfl
theorem ca91 : ak prog 91 = true := by kernel_rfl
theorem ca92 : ak prog 92 = true := by kernel_rfl
theorem ca108 : ak prog 108 = true := by kernel_rfl
theorem ca109 : ak prog 109 = true := by kernel_rfl
theorem ca110 : ak prog 110 = true := by kernel_rfl
theorem ca111 : ak prog 111 = true := by kernel_rfl
theorem ca112 : ak prog 112 = true := by kernel_rfl
theorem ca113 : ak prog 113 = true := by kernel_rfl
theorem ca114 : ak prog 114 = true := by kernel_rfl
theorem ca115 : ak prog 115 = true := by kernel_rfl
theorem ca116 : ak prog 116 = true := by kernel_rfl
theorem ca117 : ak prog 117 = true := by kernel_rfl
theorem ca119 : ak prog 119 = true := by kernel_rfl
theorem ca120 : ak prog 120 = true := by kernel_rfl
theorem co27 : prog.concrete 27 = true := by kernel_rfl
theorem me27_Derive : methA prog 27 "Derive" = some 108 := by kernel_rfl
theorem me27_Draw : methA prog 27 "Draw" = some 10 := by kernel_rfl
theorem me27_Hash : methA prog 27 "Hash" = some 51 := by kernel_rfl
theorem me27_Open : methA prog 27 "Open" = some 109 := by kernel_rfl
theorem me27_Public : methA prog 27 "Public" = some 110 := by kernel_rfl
theorem me27_Seal : methA prog 27 "Seal" = some 111 := by kernel_rfl
theorem me27_Shared : methA prog 27 "Shared" = some 112 := by kernel_rfl
theorem me27_Sign : methA prog 27 "Sign" = some 113 := by kernel_rfl
theorem me27_Signer : methA prog 27 "Signer" = some 17 := by kernel_rfl
theorem me27_Verify : methA prog 27 "Verify" = some 114 := by kernel_rfl
set_option maxRecDepth 100000 in
def facts := And.intro underlying1 <|
 And.intro eo1 <|
 And.intro underlying2 <|
 And.intro sz2 <|
 And.intro by2 <|
 And.intro ha2 <|
 And.intro ze2 <|
 And.intro zn2 <|
 And.intro zv2 <|
 And.intro underlying3 <|
 And.intro sz3 <|
 And.intro by3 <|
 And.intro ha3 <|
 And.intro ze3 <|
 And.intro zn3 <|
 And.intro zv3 <|
 And.intro underlying4 <|
 And.intro sz4 <|
 And.intro by4 <|
 And.intro ha4 <|
 And.intro eo4 <|
 And.intro ze4 <|
 And.intro zn4 <|
 And.intro zv4 <|
 And.intro underlying5 <|
 And.intro z8_5 <|
 And.intro sz5 <|
 And.intro by5 <|
 And.intro ha5 <|
 And.intro ze5 <|
 And.intro zn5 <|
 And.intro zv5 <|
 And.intro underlying9 <|
 And.intro sz9 <|
 And.intro by9 <|
 And.intro ha9 <|
 And.intro ze9 <|
 And.intro zn9 <|
 And.intro zv9 <|
 And.intro underlying12 <|
 And.intro sz12 <|
 And.intro by12 <|
 And.intro ha12 <|
 And.intro ze12 <|
 And.intro zn12 <|
 And.intro zv12 <|
 And.intro underlying21 <|
 And.intro sz21 <|
 And.intro by21 <|
 And.intro ha21 <|
 And.intro ze21 <|
 And.intro zn21 <|
 And.intro zv21 <|
 And.intro underlying22 <|
 And.intro sz22 <|
 And.intro by22 <|
 And.intro ha22 <|
 And.intro ze22 <|
 And.intro zn22 <|
 And.intro zv22 <|
 And.intro underlying23 <|
 And.intro sz23 <|
 And.intro by23 <|
 And.intro ha23 <|
 And.intro ze23 <|
 And.intro zn23 <|
 And.intro zv23 <|
 And.intro underlying24 <|
 And.intro sz24 <|
 And.intro by24 <|
 And.intro ha24 <|
 And.intro ze24 <|
 And.intro zn24 <|
 And.intro zv24 <|
 And.intro underlying25 <|
 And.intro sz25 <|
 And.intro by25 <|
 And.intro ha25 <|
 And.intro ze25 <|
 And.intro zn25 <|
 And.intro zv25 <|
 And.intro underlying26 <|
 And.intro sz26 <|
 And.intro by26 <|
 And.intro ha26 <|
 And.intro ze26 <|
 And.intro zn26 <|
 And.intro zv26 <|
 And.intro underlying27 <|
 And.intro sz27 <|
 And.intro by27 <|
 And.intro ha27 <|
 And.intro eo27 <|
 And.intro ze27 <|
 And.intro zn27 <|
 And.intro zv27 <|
 And.intro underlying28 <|
 And.intro eo28 <|
 And.intro underlying29 <|
 And.intro eo29 <|
 And.intro underlying30 <|
 And.intro sz30 <|
 And.intro by30 <|
 And.intro ha30 <|
 And.intro ze30 <|
 And.intro zn30 <|
 And.intro zv30 <|
 And.intro underlying32 <|
 And.intro eo32 <|
 And.intro underlying33 <|
 And.intro eo33 <|
 And.intro underlying34 <|
 And.intro eo34 <|
 And.intro underlying35 <|
 And.intro eo35 <|
 And.intro underlying36 <|
 And.intro eo36 <|
 And.intro underlying37 <|
 And.intro sz37 <|
 And.intro by37 <|
 And.intro ha37 <|
 And.intro ze37 <|
 And.intro zn37 <|
 And.intro zv37 <|
 And.intro underlying38 <|
 And.intro sz38 <|
 And.intro by38 <|
 And.intro ha38 <|
 And.intro ze38 <|
 And.intro zn38 <|
 And.intro zv38 <|
 And.intro underlying40 <|
 And.intro eo40 <|
 And.intro underlying41 <|
 And.intro eo41 <|
 And.intro underlying42 <|
 And.intro eo42 <|
 And.intro underlying43 <|
 And.intro eo43 <|
 And.intro underlying45 <|
 And.intro eo45 <|
 And.intro underlying46 <|
 And.intro eo46 <|
 And.intro underlying47 <|
 And.intro eo47 <|
 And.intro underlying48 <|
 And.intro sz48 <|
 And.intro by48 <|
 And.intro ha48 <|
 And.intro ze48 <|
 And.intro zn48 <|
 And.intro zv48 <|
 And.intro underlying49 <|
 And.intro sz49 <|
 And.intro by49 <|
 And.intro ha49 <|
 And.intro ze49 <|
 And.intro zn49 <|
 And.intro zv49 <|
 And.intro underlying50 <|
 And.intro eo50 <|
 And.intro underlying51 <|
 And.intro eo51 <|
 And.intro underlying52 <|
 And.intro sz52 <|
 And.intro by52 <|
 And.intro ha52 <|
 And.intro ze52 <|
 And.intro zn52 <|
 And.intro zv52 <|
 And.intro underlying53 <|
 And.intro sz53 <|
 And.intro by53 <|
 And.intro ha53 <|
 And.intro ze53 <|
 And.intro zn53 <|
 And.intro zv53 <|
 And.intro underlying54 <|
 And.intro sz54 <|
 And.intro by54 <|
 And.intro ha54 <|
 And.intro ze54 <|
 And.intro zn54 <|
 And.intro zv54 <|
 And.intro underlying56 <|
 And.intro eo56 <|
 And.intro underlying57 <|
 And.intro eo57 <|
 And.intro underlying59 <|
 And.intro eo59 <|
 And.intro underlying61 <|
 And.intro eo61 <|
 And.intro underlying63 <|
 And.intro eo63 <|
 And.intro underlying65 <|
 And.intro eo65 <|
 And.intro underlying66 <|
 And.intro eo66 <|
 And.intro underlying67 <|
 And.intro sz67 <|
 And.intro by67 <|
 And.intro ha67 <|
 And.intro eo67 <|
 And.intro ze67 <|
 And.intro zn67 <|
 And.intro zv67 <|
 And.intro underlying68 <|
 And.intro eo68 <|
 And.intro underlying69 <|
 And.intro eo69 <|
 And.intro underlying70 <|
 And.intro sz70 <|
 And.intro by70 <|
 And.intro ha70 <|
 And.intro ze70 <|
 And.intro zn70 <|
 And.intro zv70 <|
 And.intro underlying71 <|
 And.intro sz71 <|
 And.intro by71 <|
 And.intro ha71 <|
 And.intro ze71 <|
 And.intro zn71 <|
 And.intro zv71 <|
 And.intro underlying73 <|
 And.intro eo73 <|
 And.intro underlying74 <|
 And.intro eo74 <|
 And.intro underlying75 <|
 And.intro eo75 <|
 And.intro underlying76 <|
 And.intro eo76 <|
 And.intro underlying77 <|
 And.intro sz77 <|
 And.intro by77 <|
 And.intro ha77 <|
 And.intro eo77 <|
 And.intro ze77 <|
 And.intro zn77 <|
 And.intro zv77 <|
 And.intro underlying78 <|
 And.intro sz78 <|
 And.intro by78 <|
 And.intro ha78 <|
 And.intro ze78 <|
 And.intro zn78 <|
 And.intro zv78 <|
 And.intro underlying79 <|
 And.intro sz79 <|
 And.intro by79 <|
 And.intro ha79 <|
 And.intro ze79 <|
 And.intro zn79 <|
 And.intro zv79 <|
 And.intro underlying80 <|
 And.intro sz80 <|
 And.intro by80 <|
 And.intro ha80 <|
 And.intro ze80 <|
 And.intro zn80 <|
 And.intro zv80 <|
 And.intro underlying81 <|
 And.intro sz81 <|
 And.intro by81 <|
 And.intro ha81 <|
 And.intro ze81 <|
 And.intro zn81 <|
 And.intro zv81 <|
 And.intro underlying82 <|
 And.intro sz82 <|
 And.intro by82 <|
 And.intro ha82 <|
 And.intro ze82 <|
 And.intro zn82 <|
 And.intro zv82 <|
 And.intro underlying83 <|
 And.intro eo83 <|
 And.intro underlying84 <|
 And.intro eo84 <|
 And.intro underlying86 <|
 And.intro sz86 <|
 And.intro by86 <|
 And.intro ha86 <|
 And.intro ze86 <|
 And.intro zn86 <|
 And.intro zv86 <|
 And.intro underlying87 <|
 And.intro eo87 <|
 And.intro underlying88 <|
 And.intro eo88 <|
 And.intro underlying89 <|
 And.intro eo89 <|
 And.intro underlying90 <|
 And.intro eo90 <|
 And.intro underlying91 <|
 And.intro sz91 <|
 And.intro by91 <|
 And.intro ha91 <|
 And.intro ze91 <|
 And.intro zn91 <|
 And.intro zv91 <|
 And.intro underlying92 <|
 And.intro eo92 <|
 And.intro underlying93 <|
 And.intro eo93 <|
 And.intro underlying94 <|
 And.intro eo94 <|
 And.intro underlying95 <|
 And.intro eo95 <|
 And.intro underlying96 <|
 And.intro sz96 <|
 And.intro by96 <|
 And.intro ha96 <|
 And.intro ze96 <|
 And.intro zn96 <|
 And.intro zv96 <|
 And.intro underlying97 <|
 And.intro sz97 <|
 And.intro by97 <|
 And.intro ha97 <|
 And.intro ze97 <|
 And.intro zn97 <|
 And.intro zv97 <|
 And.intro underlying98 <|
 And.intro sz98 <|
 And.intro by98 <|
 And.intro ha98 <|
 And.intro ze98 <|
 And.intro zn98 <|
 And.intro zv98 <|
 And.intro underlying99 <|
 And.intro eo99 <|
 And.intro underlying100 <|
 And.intro eo100 <|
 And.intro underlying101 <|
 And.intro eo101 <|
 And.intro underlying102 <|
 And.intro sz102 <|
 And.intro by102 <|
 And.intro ha102 <|
 And.intro ze102 <|
 And.intro zn102 <|
 And.intro zv102 <|
 And.intro underlying103 <|
 And.intro sz103 <|
 And.intro by103 <|
 And.intro ha103 <|
 And.intro ze103 <|
 And.intro zn103 <|
 And.intro zv103 <|
 And.intro underlying104 <|
 And.intro sz104 <|
 And.intro by104 <|
 And.intro ha104 <|
 And.intro ze104 <|
 And.intro zn104 <|
 And.intro zv104 <|
 And.intro underlying105 <|
 And.intro sz105 <|
 And.intro by105 <|
 And.intro ha105 <|
 And.intro ze105 <|
 And.intro zn105 <|
 And.intro zv105 <|
 And.intro underlying106 <|
 And.intro sz106 <|
 And.intro by106 <|
 And.intro ha106 <|
 And.intro ze106 <|
 And.intro zn106 <|
 And.intro zv106 <|
 And.intro underlying107 <|
 And.intro eo107 <|
 And.intro underlying108 <|
 And.intro eo108 <|
 And.intro underlying110 <|
 And.intro eo110 <|
 And.intro underlying112 <|
 And.intro eo112 <|
 And.intro underlying113 <|
 And.intro sz113 <|
 And.intro by113 <|
 And.intro ha113 <|
 And.intro ze113 <|
 And.intro zn113 <|
 And.intro zv113 <|
 And.intro underlying114 <|
 And.intro eo114 <|
 And.intro underlying115 <|
 And.intro eo115 <|
 And.intro underlying116 <|
 And.intro sz116 <|
 And.intro by116 <|
 And.intro ha116 <|
 And.intro ze116 <|
 And.intro zn116 <|
 And.intro zv116 <|
 And.intro underlying117 <|
 And.intro eo117 <|
 And.intro underlying118 <|
 And.intro sz118 <|
 And.intro by118 <|
 And.intro ha118 <|
 And.intro eo118 <|
 And.intro ze118 <|
 And.intro zn118 <|
 And.intro zv118 <|
 And.intro eq118 <|
 And.intro ck118 <|
 And.intro underlying119 <|
 And.intro eo119 <|
 And.intro underlying120 <|
 And.intro eo120 <|
 And.intro underlying121 <|
 And.intro eo121 <|
 And.intro underlying123 <|
 And.intro eo123 <|
 And.intro underlying125 <|
 And.intro eo125 <|
 And.intro underlying126 <|
 And.intro eo126 <|
 And.intro underlying127 <|
 And.intro eo127 <|
 And.intro underlying128 <|
 And.intro sz128 <|
 And.intro by128 <|
 And.intro ha128 <|
 And.intro eo128 <|
 And.intro ze128 <|
 And.intro zn128 <|
 And.intro zv128 <|
 And.intro eq128 <|
 And.intro ck128 <|
 And.intro underlying129 <|
 And.intro sz129 <|
 And.intro by129 <|
 And.intro ha129 <|
 And.intro eo129 <|
 And.intro ze129 <|
 And.intro zn129 <|
 And.intro zv129 <|
 And.intro underlying130 <|
 And.intro sz130 <|
 And.intro by130 <|
 And.intro ha130 <|
 And.intro eo130 <|
 And.intro ze130 <|
 And.intro zn130 <|
 And.intro zv130 <|
 And.intro underlying131 <|
 And.intro eo131 <|
 And.intro underlying137 <|
 And.intro sz137 <|
 And.intro by137 <|
 And.intro ha137 <|
 And.intro ze137 <|
 And.intro zn137 <|
 And.intro zv137 <|
 And.intro underlying141 <|
 And.intro sz141 <|
 And.intro by141 <|
 And.intro ha141 <|
 And.intro eo141 <|
 And.intro ze141 <|
 And.intro zn141 <|
 And.intro zv141 <|
 And.intro underlying147 <|
 And.intro eo147 <|
 And.intro underlying148 <|
 And.intro eo148 <|
 And.intro underlying149 <|
 And.intro eo149 <|
 And.intro underlying150 <|
 And.intro eo150 <|
 And.intro strTy <|
 And.intro ca3 <|
 And.intro ca4 <|
 And.intro ca5 <|
 And.intro ca6 <|
 And.intro ca7 <|
 And.intro ca8 <|
 And.intro ca9 <|
 And.intro ca10 <|
 And.intro ca11 <|
 And.intro ca12 <|
 And.intro ca13 <|
 And.intro ca14 <|
 And.intro ca15 <|
 And.intro ca16 <|
 And.intro ca17 <|
 And.intro ca18 <|
 And.intro ca19 <|
 And.intro ca20 <|
 And.intro ca21 <|
 And.intro ca22 <|
 And.intro ca23 <|
 And.intro ca24 <|
 And.intro ca25 <|
 And.intro ca26 <|
 And.intro ca27 <|
 And.intro ca28 <|
 And.intro ca29 <|
 And.intro ca30 <|
 And.intro ca31 <|
 And.intro ca32 <|
 And.intro ca33 <|
 And.intro ca34 <|
 And.intro ca35 <|
 And.intro ca36 <|
 And.intro ca37 <|
 And.intro ca38 <|
 And.intro ca39 <|
 And.intro ca40 <|
 And.intro ca41 <|
 And.intro ca42 <|
 And.intro ca43 <|
 And.intro ca44 <|
 And.intro ca45 <|
 And.intro ca46 <|
 And.intro ca47 <|
 And.intro ca48 <|
 And.intro ca49 <|
 And.intro ca50 <|
 And.intro ca51 <|
 And.intro ca52 <|
 And.intro ca53 <|
 And.intro ca54 <|
 And.intro ca55 <|
 And.intro ca56 <|
 And.intro ca57 <|
 And.intro ca58 <|
 And.intro ca59 <|
 And.intro ca60 <|
 And.intro ca61 <|
 And.intro ca62 <|
 And.intro ca63 <|
 And.intro ca64 <|
 And.intro ca65 <|
 And.intro ca66 <|
 And.intro ca67 <|
 And.intro ca68 <|
 And.intro ca69 <|
 And.intro ca70 <|
 And.intro ca71 <|
 And.intro ca72 <|
 And.intro ca73 <|
 And.intro ca74 <|
 And.intro ca75 <|
 And.intro ca76 <|
 And.intro ca77 <|
 And.intro ca78 <|
 And.intro ca79 <|
 And.intro ca80 <|
 And.intro ca81 <|
 And.intro ca82 <|
 And.intro ca83 <|
 And.intro ca84 <|
 And.intro ca85 <|
 And.intro ca86 <|
 And.intro ca87 <|
 And.intro ca88 <|
 And.intro ca89 <|
 And.intro ca90 <|
 And.intro ca91 <|
 And.intro ca92 <|
 And.intro ca108 <|
 And.intro ca109 <|
 And.intro ca110 <|
 And.intro ca111 <|
 And.intro ca112 <|
 And.intro ca113 <|
 And.intro ca114 <|
 And.intro ca115 <|
 And.intro ca116 <|
 And.intro ca117 <|
 And.intro ca119 <|
 And.intro ca120 <|
 And.intro co27 <|
 And.intro me27_Derive <|
 And.intro me27_Draw <|
 And.intro me27_Hash <|
 And.intro me27_Open <|
 And.intro me27_Public <|
 And.intro me27_Seal <|
 And.intro me27_Shared <|
 And.intro me27_Sign <|
 And.intro me27_Signer <| me27_Verify
end Go.Proofs.Try
