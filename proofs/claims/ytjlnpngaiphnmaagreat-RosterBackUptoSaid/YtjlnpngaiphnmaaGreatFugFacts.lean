/-
  Facts of the seat's program: sizes of types, functions that have bodies. By program.
  Conditions: none.
-/
import Derived.Test.YtjlnpngaiphnmaaGreatProg
import Derived.Test.YtjlnpngaiphnmaaGreatAbsG5
set_option linter.all false
set_option linter.unusedSimpArgs false
namespace Go.Proofs.Tryz
open Go Go.Abs
theorem mixed : prog.follows .mixedOrders = true := by kernel_rfl
theorem sz2 : ai prog 2 = 1 := by kernel_rfl
theorem by2 : ay prog 2 = 8 := by kernel_rfl
theorem ze2 : aq prog 2 = [.sc (.int .i64 0)] := by kernel_rfl
theorem zn2 : ap prog 2 = [.sc (.int .i64 0)] := by kernel_rfl
theorem ha2 : ax prog 2 = true := by kernel_rfl
theorem sz3 : ai prog 3 = 1 := by kernel_rfl
theorem by3 : ay prog 3 = 8 := by kernel_rfl
theorem ze3 : aq prog 3 = [.sc (.int .i64 0)] := by kernel_rfl
theorem zn3 : ap prog 3 = [.sc (.int .i64 0)] := by kernel_rfl
theorem ha3 : ax prog 3 = true := by kernel_rfl
theorem sz4 : ai prog 4 = 1 := by kernel_rfl
theorem by4 : ay prog 4 = 1 := by kernel_rfl
theorem ze4 : aq prog 4 = [.sc (.bool false)] := by kernel_rfl
theorem zn4 : ap prog 4 = [.sc (.bool false)] := by kernel_rfl
theorem ha4 : ax prog 4 = true := by kernel_rfl
theorem sz5 : ai prog 5 = 1 := by kernel_rfl
theorem by5 : ay prog 5 = 1 := by kernel_rfl
theorem ze5 : aq prog 5 = [.sc (.int .u8 0)] := by kernel_rfl
theorem zn5 : ap prog 5 = [.sc (.int .u8 0)] := by kernel_rfl
theorem ha5 : ax prog 5 = true := by kernel_rfl
theorem sz9 : ai prog 9 = 1 := by kernel_rfl
theorem by9 : ay prog 9 = 16 := by kernel_rfl
theorem ze9 : aq prog 9 = [.sc (.string ⟨#[]⟩)] := by kernel_rfl
theorem zn9 : ap prog 9 = [.sc (.string ⟨#[]⟩)] := by kernel_rfl
theorem ha9 : ax prog 9 = true := by kernel_rfl
theorem sz12 : ai prog 12 = 1 := by kernel_rfl
theorem by12 : ay prog 12 = 8 := by kernel_rfl
theorem ze12 : aq prog 12 = [.sc (.int .u64 0)] := by kernel_rfl
theorem zn12 : ap prog 12 = [.sc (.int .u64 0)] := by kernel_rfl
theorem ha12 : ax prog 12 = true := by kernel_rfl
theorem sz21 : ai prog 21 = 1 := by kernel_rfl
theorem by21 : ay prog 21 = 4 := by kernel_rfl
theorem ze21 : aq prog 21 = [.sc (.int .i32 0)] := by kernel_rfl
theorem zn21 : ap prog 21 = [.sc (.int .i32 0)] := by kernel_rfl
theorem ha21 : ax prog 21 = true := by kernel_rfl
theorem sz22 : ai prog 22 = 1 := by kernel_rfl
theorem by22 : ay prog 22 = 24 := by kernel_rfl
theorem ze22 : aq prog 22 = [.imm 0 [] 0] := by kernel_rfl
theorem zn22 : ap prog 22 = [.sc (.slice none 0 0)] := by kernel_rfl
theorem ha22 : ax prog 22 = true := by kernel_rfl
theorem sz23 : ai prog 23 = 1 := by kernel_rfl
theorem by23 : ay prog 23 = 24 := by kernel_rfl
theorem ze23 : aq prog 23 = [.imm 0 [] 0] := by kernel_rfl
theorem zn23 : ap prog 23 = [.sc (.slice none 0 0)] := by kernel_rfl
theorem ha23 : ax prog 23 = true := by kernel_rfl
theorem sz24 : ai prog 24 = 1 := by kernel_rfl
theorem by24 : ay prog 24 = 24 := by kernel_rfl
theorem ze24 : aq prog 24 = [.imm 0 [] 0] := by kernel_rfl
theorem zn24 : ap prog 24 = [.sc (.slice none 0 0)] := by kernel_rfl
theorem ha24 : ax prog 24 = true := by kernel_rfl
theorem sz25 : ai prog 25 = 1 := by kernel_rfl
theorem by25 : ay prog 25 = 24 := by kernel_rfl
theorem ze25 : aq prog 25 = [.imm 0 [] 0] := by kernel_rfl
theorem zn25 : ap prog 25 = [.sc (.slice none 0 0)] := by kernel_rfl
theorem ha25 : ax prog 25 = true := by kernel_rfl
theorem sz26 : ai prog 26 = 7 := by kernel_rfl
theorem by26 : ay prog 26 = 152 := by kernel_rfl
theorem ze26 : aq prog 26 = [.sc (.int .i64 0),.imm 0 [] 0,.imm 0 [] 0,.imm 0 [] 0,.imm 0 [] 0,.imm 0 [] 0,.imm 0 [] 0] := by kernel_rfl
theorem zn26 : ap prog 26 = [.sc (.int .i64 0),.sc (.slice none 0 0),.sc (.slice none 0 0),.sc (.slice none 0 0),.sc (.slice none 0 0),.sc (.slice none 0 0),.sc (.slice none 0 0)] := by kernel_rfl
theorem ha26 : ax prog 26 = true := by kernel_rfl
theorem sz27 : ai prog 27 = 7 := by kernel_rfl
theorem by27 : ay prog 27 = 152 := by kernel_rfl
theorem ze27 : aq prog 27 = [.sc (.int .i64 0),.imm 0 [] 0,.imm 0 [] 0,.imm 0 [] 0,.imm 0 [] 0,.imm 0 [] 0,.imm 0 [] 0] := by kernel_rfl
theorem zn27 : ap prog 27 = [.sc (.int .i64 0),.sc (.slice none 0 0),.sc (.slice none 0 0),.sc (.slice none 0 0),.sc (.slice none 0 0),.sc (.slice none 0 0),.sc (.slice none 0 0)] := by kernel_rfl
theorem ha27 : ax prog 27 = true := by kernel_rfl
theorem sz29 : ai prog 29 = 3 := by kernel_rfl
theorem by29 : ay prog 29 = 56 := by kernel_rfl
theorem ze29 : aq prog 29 = [.sc (.int .i64 0),.imm 0 [] 0,.imm 0 [] 0] := by kernel_rfl
theorem zn29 : ap prog 29 = [.sc (.int .i64 0),.sc (.slice none 0 0),.sc (.slice none 0 0)] := by kernel_rfl
theorem ha29 : ax prog 29 = true := by kernel_rfl
theorem sz30 : ai prog 30 = 3 := by kernel_rfl
theorem by30 : ay prog 30 = 56 := by kernel_rfl
theorem ze30 : aq prog 30 = [.sc (.int .i64 0),.imm 0 [] 0,.imm 0 [] 0] := by kernel_rfl
theorem zn30 : ap prog 30 = [.sc (.int .i64 0),.sc (.slice none 0 0),.sc (.slice none 0 0)] := by kernel_rfl
theorem ha30 : ax prog 30 = true := by kernel_rfl
theorem sz31 : ai prog 31 = 1 := by kernel_rfl
theorem by31 : ay prog 31 = 8 := by kernel_rfl
theorem ze31 : aq prog 31 = [.sc (.pointer none)] := by kernel_rfl
theorem zn31 : ap prog 31 = [.sc (.pointer none)] := by kernel_rfl
theorem ha31 : ax prog 31 = true := by kernel_rfl
theorem sz34 : ai prog 34 = 1 := by kernel_rfl
theorem by34 : ay prog 34 = 8 := by kernel_rfl
theorem ze34 : aq prog 34 = [.sc (.int .i64 0)] := by kernel_rfl
theorem zn34 : ap prog 34 = [.sc (.int .i64 0)] := by kernel_rfl
theorem ha34 : ax prog 34 = true := by kernel_rfl
theorem sz35 : ai prog 35 = 2 := by kernel_rfl
theorem by35 : ay prog 35 = 32 := by kernel_rfl
theorem ze35 : aq prog 35 = [.imm 0 [] 0,.sc (.int .i64 0)] := by kernel_rfl
theorem zn35 : ap prog 35 = [.sc (.slice none 0 0),.sc (.int .i64 0)] := by kernel_rfl
theorem ha35 : ax prog 35 = true := by kernel_rfl
theorem sz36 : ai prog 36 = 2 := by kernel_rfl
theorem by36 : ay prog 36 = 32 := by kernel_rfl
theorem ze36 : aq prog 36 = [.imm 0 [] 0,.sc (.int .i64 0)] := by kernel_rfl
theorem zn36 : ap prog 36 = [.sc (.slice none 0 0),.sc (.int .i64 0)] := by kernel_rfl
theorem ha36 : ax prog 36 = true := by kernel_rfl
theorem sz45 : ai prog 45 = 1 := by kernel_rfl
theorem by45 : ay prog 45 = 24 := by kernel_rfl
theorem ze45 : aq prog 45 = [.imm 0 [] 0] := by kernel_rfl
theorem zn45 : ap prog 45 = [.sc (.slice none 0 0)] := by kernel_rfl
theorem ha45 : ax prog 45 = true := by kernel_rfl
theorem sz47 : ai prog 47 = 1 := by kernel_rfl
theorem by47 : ay prog 47 = 8 := by kernel_rfl
theorem ze47 : aq prog 47 = [.sc (.pointer none)] := by kernel_rfl
theorem zn47 : ap prog 47 = [.sc (.pointer none)] := by kernel_rfl
theorem ha47 : ax prog 47 = true := by kernel_rfl
theorem sz48 : ai prog 48 = 1 := by kernel_rfl
theorem by48 : ay prog 48 = 8 := by kernel_rfl
theorem ze48 : aq prog 48 = [.sc (.pointer none)] := by kernel_rfl
theorem zn48 : ap prog 48 = [.sc (.pointer none)] := by kernel_rfl
theorem ha48 : ax prog 48 = true := by kernel_rfl
theorem sz49 : ai prog 49 = 1 := by kernel_rfl
theorem by49 : ay prog 49 = 24 := by kernel_rfl
theorem ze49 : aq prog 49 = [.imm 0 [] 0] := by kernel_rfl
theorem zn49 : ap prog 49 = [.sc (.slice none 0 0)] := by kernel_rfl
theorem ha49 : ax prog 49 = true := by kernel_rfl
theorem sz50 : ai prog 50 = 2 := by kernel_rfl
theorem by50 : ay prog 50 = 32 := by kernel_rfl
theorem ze50 : aq prog 50 = [.imm 0 [] 0,.sc (.int .i64 0)] := by kernel_rfl
theorem zn50 : ap prog 50 = [.sc (.slice none 0 0),.sc (.int .i64 0)] := by kernel_rfl
theorem ha50 : ax prog 50 = true := by kernel_rfl
theorem sz51 : ai prog 51 = 2 := by kernel_rfl
theorem by51 : ay prog 51 = 32 := by kernel_rfl
theorem ze51 : aq prog 51 = [.imm 0 [] 0,.sc (.int .i64 0)] := by kernel_rfl
theorem zn51 : ap prog 51 = [.sc (.slice none 0 0),.sc (.int .i64 0)] := by kernel_rfl
theorem ha51 : ax prog 51 = true := by kernel_rfl
theorem sz52 : ai prog 52 = 1 := by kernel_rfl
theorem by52 : ay prog 52 = 24 := by kernel_rfl
theorem ze52 : aq prog 52 = [.imm 0 [] 0] := by kernel_rfl
theorem zn52 : ap prog 52 = [.sc (.slice none 0 0)] := by kernel_rfl
theorem ha52 : ax prog 52 = true := by kernel_rfl
theorem sz53 : ai prog 53 = 3 := by kernel_rfl
theorem by53 : ay prog 53 = 72 := by kernel_rfl
theorem ze53 : aq prog 53 = [.imm 0 [] 0,.imm 0 [] 0,.imm 0 [] 0] := by kernel_rfl
theorem zn53 : ap prog 53 = [.sc (.slice none 0 0),.sc (.slice none 0 0),.sc (.slice none 0 0)] := by kernel_rfl
theorem ha53 : ax prog 53 = true := by kernel_rfl
theorem sz54 : ai prog 54 = 3 := by kernel_rfl
theorem by54 : ay prog 54 = 72 := by kernel_rfl
theorem ze54 : aq prog 54 = [.imm 0 [] 0,.imm 0 [] 0,.imm 0 [] 0] := by kernel_rfl
theorem zn54 : ap prog 54 = [.sc (.slice none 0 0),.sc (.slice none 0 0),.sc (.slice none 0 0)] := by kernel_rfl
theorem ha54 : ax prog 54 = true := by kernel_rfl
theorem sz55 : ai prog 55 = 11 := by kernel_rfl
theorem by55 : ay prog 55 = 216 := by kernel_rfl
theorem ze55 : aq prog 55 = [.sc (.pointer none),.sc (.pointer none),.imm 0 [] 0,.sc (.int .i64 0),.imm 0 [] 0,.imm 0 [] 0,.imm 0 [] 0,.imm 0 [] 0,.imm 0 [] 0,.imm 0 [] 0,.imm 0 [] 0] := by kernel_rfl
theorem zn55 : ap prog 55 = [.sc (.pointer none),.sc (.pointer none),.sc (.slice none 0 0),.sc (.int .i64 0),.sc (.slice none 0 0),.sc (.slice none 0 0),.sc (.slice none 0 0),.sc (.slice none 0 0),.sc (.slice none 0 0),.sc (.slice none 0 0),.sc (.slice none 0 0)] := by kernel_rfl
theorem ha55 : ax prog 55 = true := by kernel_rfl
theorem sz56 : ai prog 56 = 11 := by kernel_rfl
theorem by56 : ay prog 56 = 216 := by kernel_rfl
theorem ze56 : aq prog 56 = [.sc (.pointer none),.sc (.pointer none),.imm 0 [] 0,.sc (.int .i64 0),.imm 0 [] 0,.imm 0 [] 0,.imm 0 [] 0,.imm 0 [] 0,.imm 0 [] 0,.imm 0 [] 0,.imm 0 [] 0] := by kernel_rfl
theorem zn56 : ap prog 56 = [.sc (.pointer none),.sc (.pointer none),.sc (.slice none 0 0),.sc (.int .i64 0),.sc (.slice none 0 0),.sc (.slice none 0 0),.sc (.slice none 0 0),.sc (.slice none 0 0),.sc (.slice none 0 0),.sc (.slice none 0 0),.sc (.slice none 0 0)] := by kernel_rfl
theorem ha56 : ax prog 56 = true := by kernel_rfl
theorem sz59 : ai prog 59 = 8 := by kernel_rfl
theorem by59 : ay prog 59 = 56 := by kernel_rfl
theorem ze59 : aq prog 59 = [.sc (.int .u8 0),.sc (.bool false),.sc (.bool false),.imm 0 [] 0,.sc (.int .u8 0),.sc (.bool false),.sc (.int .i64 0),.sc (.int .u8 0)] := by kernel_rfl
theorem zn59 : ap prog 59 = [.sc (.int .u8 0),.sc (.bool false),.sc (.bool false),.sc (.slice none 0 0),.sc (.int .u8 0),.sc (.bool false),.sc (.int .i64 0),.sc (.int .u8 0)] := by kernel_rfl
theorem ha59 : ax prog 59 = true := by kernel_rfl
theorem sz60 : ai prog 60 = 8 := by kernel_rfl
theorem by60 : ay prog 60 = 56 := by kernel_rfl
theorem ze60 : aq prog 60 = [.sc (.int .u8 0),.sc (.bool false),.sc (.bool false),.imm 0 [] 0,.sc (.int .u8 0),.sc (.bool false),.sc (.int .i64 0),.sc (.int .u8 0)] := by kernel_rfl
theorem zn60 : ap prog 60 = [.sc (.int .u8 0),.sc (.bool false),.sc (.bool false),.sc (.slice none 0 0),.sc (.int .u8 0),.sc (.bool false),.sc (.int .i64 0),.sc (.int .u8 0)] := by kernel_rfl
theorem ha60 : ax prog 60 = true := by kernel_rfl
theorem sz75 : ai prog 75 = 4 := by kernel_rfl
theorem by75 : ay prog 75 = 48 := by kernel_rfl
theorem ze75 : aq prog 75 = [.imm 0 [] 0,.sc (.int .i64 0),.sc (.bool false),.sc (.int .i64 0)] := by kernel_rfl
theorem zn75 : ap prog 75 = [.sc (.slice none 0 0),.sc (.int .i64 0),.sc (.bool false),.sc (.int .i64 0)] := by kernel_rfl
theorem ha75 : ax prog 75 = true := by kernel_rfl
theorem sz76 : ai prog 76 = 4 := by kernel_rfl
theorem by76 : ay prog 76 = 48 := by kernel_rfl
theorem ze76 : aq prog 76 = [.imm 0 [] 0,.sc (.int .i64 0),.sc (.bool false),.sc (.int .i64 0)] := by kernel_rfl
theorem zn76 : ap prog 76 = [.sc (.slice none 0 0),.sc (.int .i64 0),.sc (.bool false),.sc (.int .i64 0)] := by kernel_rfl
theorem ha76 : ax prog 76 = true := by kernel_rfl
theorem sz77 : ai prog 77 = 4 := by kernel_rfl
theorem by77 : ay prog 77 = 48 := by kernel_rfl
theorem ze77 : aq prog 77 = [.imm 0 [] 0,.sc (.int .i64 0),.sc (.bool false),.sc (.int .i64 0)] := by kernel_rfl
theorem zn77 : ap prog 77 = [.sc (.slice none 0 0),.sc (.int .i64 0),.sc (.bool false),.sc (.int .i64 0)] := by kernel_rfl
theorem ha77 : ax prog 77 = true := by kernel_rfl
theorem sz78 : ai prog 78 = 4 := by kernel_rfl
theorem by78 : ay prog 78 = 48 := by kernel_rfl
theorem ze78 : aq prog 78 = [.imm 0 [] 0,.sc (.int .i64 0),.sc (.bool false),.sc (.int .i64 0)] := by kernel_rfl
theorem zn78 : ap prog 78 = [.sc (.slice none 0 0),.sc (.int .i64 0),.sc (.bool false),.sc (.int .i64 0)] := by kernel_rfl
theorem ha78 : ax prog 78 = true := by kernel_rfl
theorem sz83 : ai prog 83 = 2 := by kernel_rfl
theorem by83 : ay prog 83 = 16 := by kernel_rfl
theorem ze83 : aq prog 83 = [.sc (.int .i64 0),.sc (.int .i64 0)] := by kernel_rfl
theorem zn83 : ap prog 83 = [.sc (.int .i64 0),.sc (.int .i64 0)] := by kernel_rfl
theorem ha83 : ax prog 83 = true := by kernel_rfl
theorem sz84 : ai prog 84 = 2 := by kernel_rfl
theorem by84 : ay prog 84 = 16 := by kernel_rfl
theorem ze84 : aq prog 84 = [.sc (.int .i64 0),.sc (.int .i64 0)] := by kernel_rfl
theorem zn84 : ap prog 84 = [.sc (.int .i64 0),.sc (.int .i64 0)] := by kernel_rfl
theorem ha84 : ax prog 84 = true := by kernel_rfl
theorem sz96 : ai prog 96 = 3 := by kernel_rfl
theorem by96 : ay prog 96 = 72 := by kernel_rfl
theorem ze96 : aq prog 96 = [.imm 0 [] 0,.imm 0 [] 0,.imm 0 [] 0] := by kernel_rfl
theorem zn96 : ap prog 96 = [.sc (.slice none 0 0),.sc (.slice none 0 0),.sc (.slice none 0 0)] := by kernel_rfl
theorem ha96 : ax prog 96 = true := by kernel_rfl
theorem sz97 : ai prog 97 = 3 := by kernel_rfl
theorem by97 : ay prog 97 = 72 := by kernel_rfl
theorem ze97 : aq prog 97 = [.imm 0 [] 0,.imm 0 [] 0,.imm 0 [] 0] := by kernel_rfl
theorem zn97 : ap prog 97 = [.sc (.slice none 0 0),.sc (.slice none 0 0),.sc (.slice none 0 0)] := by kernel_rfl
theorem ha97 : ax prog 97 = true := by kernel_rfl
theorem sz98 : ai prog 98 = 1 := by kernel_rfl
theorem by98 : ay prog 98 = 24 := by kernel_rfl
theorem ze98 : aq prog 98 = [.imm 0 [] 0] := by kernel_rfl
theorem zn98 : ap prog 98 = [.sc (.slice none 0 0)] := by kernel_rfl
theorem ha98 : ax prog 98 = true := by kernel_rfl
theorem sz99 : ai prog 99 = 1 := by kernel_rfl
theorem by99 : ay prog 99 = 8 := by kernel_rfl
theorem ze99 : aq prog 99 = [.sc (.map none)] := by kernel_rfl
theorem zn99 : ap prog 99 = [.sc (.map none)] := by kernel_rfl
theorem ha99 : ax prog 99 = true := by kernel_rfl
theorem sz100 : ai prog 100 = 2 := by kernel_rfl
theorem by100 : ay prog 100 = 32 := by kernel_rfl
theorem ze100 : aq prog 100 = [.imm 0 [] 0,.sc (.map none)] := by kernel_rfl
theorem zn100 : ap prog 100 = [.sc (.slice none 0 0),.sc (.map none)] := by kernel_rfl
theorem ha100 : ax prog 100 = true := by kernel_rfl
theorem sz101 : ai prog 101 = 2 := by kernel_rfl
theorem by101 : ay prog 101 = 32 := by kernel_rfl
theorem ze101 : aq prog 101 = [.imm 0 [] 0,.sc (.map none)] := by kernel_rfl
theorem zn101 : ap prog 101 = [.sc (.slice none 0 0),.sc (.map none)] := by kernel_rfl
theorem ha101 : ax prog 101 = true := by kernel_rfl
theorem sz102 : ai prog 102 = 3 := by kernel_rfl
theorem by102 : ay prog 102 = 40 := by kernel_rfl
theorem ze102 : aq prog 102 = [.imm 0 [] 0,.sc (.map none),.sc (.int .i64 0)] := by kernel_rfl
theorem zn102 : ap prog 102 = [.sc (.slice none 0 0),.sc (.map none),.sc (.int .i64 0)] := by kernel_rfl
theorem ha102 : ax prog 102 = true := by kernel_rfl
theorem sz103 : ai prog 103 = 3 := by kernel_rfl
theorem by103 : ay prog 103 = 40 := by kernel_rfl
theorem ze103 : aq prog 103 = [.imm 0 [] 0,.sc (.map none),.sc (.int .i64 0)] := by kernel_rfl
theorem zn103 : ap prog 103 = [.sc (.slice none 0 0),.sc (.map none),.sc (.int .i64 0)] := by kernel_rfl
theorem ha103 : ax prog 103 = true := by kernel_rfl
theorem sz106 : ai prog 106 = 1 := by kernel_rfl
theorem by106 : ay prog 106 = 16 := by kernel_rfl
theorem ze106 : aq prog 106 = [.sc .nilIface] := by kernel_rfl
theorem zn106 : ap prog 106 = [.sc .nilIface] := by kernel_rfl
theorem ha106 : ax prog 106 = true := by kernel_rfl
theorem sz123 : ai prog 123 = 1 := by kernel_rfl
theorem by123 : ay prog 123 = 8 := by kernel_rfl
theorem ze123 : aq prog 123 = [.sc (.pointer none)] := by kernel_rfl
theorem zn123 : ap prog 123 = [.sc (.pointer none)] := by kernel_rfl
theorem ha123 : ax prog 123 = true := by kernel_rfl
theorem sz130 : ai prog 130 = 1 := by kernel_rfl
theorem by130 : ay prog 130 = 8 := by kernel_rfl
theorem ze130 : aq prog 130 = [.sc (.int .u64 0)] := by kernel_rfl
theorem zn130 : ap prog 130 = [.sc (.int .u64 0)] := by kernel_rfl
theorem ha130 : ax prog 130 = true := by kernel_rfl
theorem sz135 : ai prog 135 = 2 := by kernel_rfl
theorem by135 : ay prog 135 = 32 := by kernel_rfl
theorem ze135 : aq prog 135 = [.sc (.int .u8 0),.imm 0 [] 0] := by kernel_rfl
theorem zn135 : ap prog 135 = [.sc (.int .u8 0),.sc (.slice none 0 0)] := by kernel_rfl
theorem ha135 : ax prog 135 = true := by kernel_rfl
theorem sz136 : ai prog 136 = 2 := by kernel_rfl
theorem by136 : ay prog 136 = 32 := by kernel_rfl
theorem ze136 : aq prog 136 = [.sc (.int .u8 0),.imm 0 [] 0] := by kernel_rfl
theorem zn136 : ap prog 136 = [.sc (.int .u8 0),.sc (.slice none 0 0)] := by kernel_rfl
theorem ha136 : ax prog 136 = true := by kernel_rfl
theorem sz139 : ai prog 139 = 1 := by kernel_rfl
theorem by139 : ay prog 139 = 8 := by kernel_rfl
theorem ze139 : aq prog 139 = [.sc (.int .u64 0)] := by kernel_rfl
theorem zn139 : ap prog 139 = [.sc (.int .u64 0)] := by kernel_rfl
theorem ha139 : ax prog 139 = true := by kernel_rfl
theorem sz142 : ai prog 142 = 1 := by kernel_rfl
theorem by142 : ay prog 142 = 24 := by kernel_rfl
theorem ze142 : aq prog 142 = [.imm 0 [] 0] := by kernel_rfl
theorem zn142 : ap prog 142 = [.sc (.slice none 0 0)] := by kernel_rfl
theorem ha142 : ax prog 142 = true := by kernel_rfl
theorem sz145 : ai prog 145 = 2 := by kernel_rfl
theorem by145 : ay prog 145 = 32 := by kernel_rfl
theorem ze145 : aq prog 145 = [.sc (.int .u8 0),.imm 0 [] 0] := by kernel_rfl
theorem zn145 : ap prog 145 = [.sc (.int .u8 0),.sc (.slice none 0 0)] := by kernel_rfl
theorem ha145 : ax prog 145 = true := by kernel_rfl
theorem sz150 : ai prog 150 = 1 := by kernel_rfl
theorem by150 : ay prog 150 = 8 := by kernel_rfl
theorem ze150 : aq prog 150 = [.sc (.pointer none)] := by kernel_rfl
theorem zn150 : ap prog 150 = [.sc (.pointer none)] := by kernel_rfl
theorem ha150 : ax prog 150 = true := by kernel_rfl
theorem sz163 : ai prog 163 = 1 := by kernel_rfl
theorem by163 : ay prog 163 = 4 := by kernel_rfl
theorem ze163 : aq prog 163 = [.sc (.int .u32 0)] := by kernel_rfl
theorem zn163 : ap prog 163 = [.sc (.int .u32 0)] := by kernel_rfl
theorem ha163 : ax prog 163 = true := by kernel_rfl
theorem sz167 : ai prog 167 = 1 := by kernel_rfl
theorem by167 : ay prog 167 = 8 := by kernel_rfl
theorem ze167 : aq prog 167 = [.sc (.pointer none)] := by kernel_rfl
theorem zn167 : ap prog 167 = [.sc (.pointer none)] := by kernel_rfl
theorem ha167 : ax prog 167 = true := by kernel_rfl
theorem eq83 (a1 b1 : Int) (a2 b2 : Int) : eqG prog 6 83 (.agg [.sc (.int .i64 a1),.sc (.int .i64 a2)]) (.agg [.sc (.int .i64 b1),.sc (.int .i64 b2)]) = some ((a1 == b1) && ((a2 == b2) && true)) := by kernel_rfl
theorem ck83 (x0 x1 : AV) : cl prog 6 83 (.agg [x0,x1]) = true := by kernel_rfl
theorem eq84 (a1 b1 : Int) (a2 b2 : Int) : eqG prog 6 84 (.agg [.sc (.int .i64 a1),.sc (.int .i64 a2)]) (.agg [.sc (.int .i64 b1),.sc (.int .i64 b2)]) = some ((a1 == b1) && ((a2 == b2) && true)) := by kernel_rfl
theorem ck84 (x0 x1 : AV) : cl prog 6 84 (.agg [x0,x1]) = true := by kernel_rfl
theorem zv2 : ar prog 2 = .sc (.int .i64 0) := by kernel_rfl
theorem zv3 : ar prog 3 = .sc (.int .i64 0) := by kernel_rfl
theorem zv4 : ar prog 4 = .sc (.bool false) := by kernel_rfl
theorem zv5 : ar prog 5 = .sc (.int .u8 0) := by kernel_rfl
theorem zv9 : ar prog 9 = .sc (.string ⟨#[]⟩) := by kernel_rfl
theorem zv12 : ar prog 12 = .sc (.int .u64 0) := by kernel_rfl
theorem zv21 : ar prog 21 = .sc (.int .i32 0) := by kernel_rfl
theorem zv22 : ar prog 22 = .sc (.slice none 0 0) := by kernel_rfl
theorem zv23 : ar prog 23 = .sc (.slice none 0 0) := by kernel_rfl
theorem zv24 : ar prog 24 = .sc (.slice none 0 0) := by kernel_rfl
theorem zv25 : ar prog 25 = .sc (.slice none 0 0) := by kernel_rfl
theorem zv26 : ar prog 26 = .agg [.sc (.int .i64 0),.sc (.slice none 0 0),.sc (.slice none 0 0),.sc (.slice none 0 0),.sc (.slice none 0 0),.sc (.slice none 0 0),.sc (.slice none 0 0)] := by kernel_rfl
theorem zv27 : ar prog 27 = .agg [.sc (.int .i64 0),.sc (.slice none 0 0),.sc (.slice none 0 0),.sc (.slice none 0 0),.sc (.slice none 0 0),.sc (.slice none 0 0),.sc (.slice none 0 0)] := by kernel_rfl
theorem zv29 : ar prog 29 = .agg [.sc (.int .i64 0),.sc (.slice none 0 0),.sc (.slice none 0 0)] := by kernel_rfl
theorem zv30 : ar prog 30 = .agg [.sc (.int .i64 0),.sc (.slice none 0 0),.sc (.slice none 0 0)] := by kernel_rfl
theorem zv31 : ar prog 31 = .sc (.pointer none) := by kernel_rfl
theorem zv34 : ar prog 34 = .sc (.int .i64 0) := by kernel_rfl
theorem zv35 : ar prog 35 = .agg [.sc (.slice none 0 0),.sc (.int .i64 0)] := by kernel_rfl
theorem zv36 : ar prog 36 = .agg [.sc (.slice none 0 0),.sc (.int .i64 0)] := by kernel_rfl
theorem zv45 : ar prog 45 = .sc (.slice none 0 0) := by kernel_rfl
theorem zv47 : ar prog 47 = .sc (.pointer none) := by kernel_rfl
theorem zv48 : ar prog 48 = .sc (.pointer none) := by kernel_rfl
theorem zv49 : ar prog 49 = .sc (.slice none 0 0) := by kernel_rfl
theorem zv50 : ar prog 50 = .agg [.sc (.slice none 0 0),.sc (.int .i64 0)] := by kernel_rfl
theorem zv51 : ar prog 51 = .agg [.sc (.slice none 0 0),.sc (.int .i64 0)] := by kernel_rfl
theorem zv52 : ar prog 52 = .sc (.slice none 0 0) := by kernel_rfl
theorem zv53 : ar prog 53 = .agg [.sc (.slice none 0 0),.sc (.slice none 0 0),.sc (.slice none 0 0)] := by kernel_rfl
theorem zv54 : ar prog 54 = .agg [.sc (.slice none 0 0),.sc (.slice none 0 0),.sc (.slice none 0 0)] := by kernel_rfl
theorem zv55 : ar prog 55 = .agg [.sc (.pointer none),.sc (.pointer none),.sc (.slice none 0 0),.sc (.int .i64 0),.sc (.slice none 0 0),.sc (.slice none 0 0),.sc (.slice none 0 0),.sc (.slice none 0 0),.sc (.slice none 0 0),.sc (.slice none 0 0),.sc (.slice none 0 0)] := by kernel_rfl
theorem zv56 : ar prog 56 = .agg [.sc (.pointer none),.sc (.pointer none),.sc (.slice none 0 0),.sc (.int .i64 0),.sc (.slice none 0 0),.sc (.slice none 0 0),.sc (.slice none 0 0),.sc (.slice none 0 0),.sc (.slice none 0 0),.sc (.slice none 0 0),.sc (.slice none 0 0)] := by kernel_rfl
theorem zv59 : ar prog 59 = .agg [.sc (.int .u8 0),.sc (.bool false),.sc (.bool false),.sc (.slice none 0 0),.sc (.int .u8 0),.sc (.bool false),.sc (.int .i64 0),.sc (.int .u8 0)] := by kernel_rfl
theorem zv60 : ar prog 60 = .agg [.sc (.int .u8 0),.sc (.bool false),.sc (.bool false),.sc (.slice none 0 0),.sc (.int .u8 0),.sc (.bool false),.sc (.int .i64 0),.sc (.int .u8 0)] := by kernel_rfl
theorem zv75 : ar prog 75 = .agg [.sc (.slice none 0 0),.sc (.int .i64 0),.sc (.bool false),.sc (.int .i64 0)] := by kernel_rfl
theorem zv76 : ar prog 76 = .agg [.sc (.slice none 0 0),.sc (.int .i64 0),.sc (.bool false),.sc (.int .i64 0)] := by kernel_rfl
theorem zv77 : ar prog 77 = .agg [.sc (.slice none 0 0),.sc (.int .i64 0),.sc (.bool false),.sc (.int .i64 0)] := by kernel_rfl
theorem zv78 : ar prog 78 = .agg [.sc (.slice none 0 0),.sc (.int .i64 0),.sc (.bool false),.sc (.int .i64 0)] := by kernel_rfl
theorem zv83 : ar prog 83 = .agg [.sc (.int .i64 0),.sc (.int .i64 0)] := by kernel_rfl
theorem zv84 : ar prog 84 = .agg [.sc (.int .i64 0),.sc (.int .i64 0)] := by kernel_rfl
theorem zv96 : ar prog 96 = .agg [.sc (.slice none 0 0),.sc (.slice none 0 0),.sc (.slice none 0 0)] := by kernel_rfl
theorem zv97 : ar prog 97 = .agg [.sc (.slice none 0 0),.sc (.slice none 0 0),.sc (.slice none 0 0)] := by kernel_rfl
theorem zv98 : ar prog 98 = .sc (.slice none 0 0) := by kernel_rfl
theorem zv99 : ar prog 99 = .sc (.map none) := by kernel_rfl
theorem zv100 : ar prog 100 = .agg [.sc (.slice none 0 0),.sc (.map none)] := by kernel_rfl
theorem zv101 : ar prog 101 = .agg [.sc (.slice none 0 0),.sc (.map none)] := by kernel_rfl
theorem zv102 : ar prog 102 = .agg [.sc (.slice none 0 0),.sc (.map none),.sc (.int .i64 0)] := by kernel_rfl
theorem zv103 : ar prog 103 = .agg [.sc (.slice none 0 0),.sc (.map none),.sc (.int .i64 0)] := by kernel_rfl
theorem zv106 : ar prog 106 = .sc .nilIface := by kernel_rfl
theorem zv123 : ar prog 123 = .sc (.pointer none) := by kernel_rfl
theorem zv130 : ar prog 130 = .sc (.int .u64 0) := by kernel_rfl
theorem zv135 : ar prog 135 = .agg [.sc (.int .u8 0),.sc (.slice none 0 0)] := by kernel_rfl
theorem zv136 : ar prog 136 = .agg [.sc (.int .u8 0),.sc (.slice none 0 0)] := by kernel_rfl
theorem zv139 : ar prog 139 = .sc (.int .u64 0) := by kernel_rfl
theorem zv142 : ar prog 142 = .sc (.slice none 0 0) := by kernel_rfl
theorem zv145 : ar prog 145 = .agg [.sc (.int .u8 0),.sc (.slice none 0 0)] := by kernel_rfl
theorem zv150 : ar prog 150 = .sc (.pointer none) := by kernel_rfl
theorem zv163 : ar prog 163 = .sc (.int .u32 0) := by kernel_rfl
theorem zv167 : ar prog 167 = .sc (.pointer none) := by kernel_rfl
theorem eo1 : bB prog 1 = true := by kernel_rfl
theorem eo4 : bB prog 4 = true := by kernel_rfl
theorem eo28 : bB prog 28 = true := by kernel_rfl
theorem eo31 : bB prog 31 = true := by kernel_rfl
theorem eo32 : bB prog 32 = true := by kernel_rfl
theorem eo33 : bB prog 33 = true := by kernel_rfl
theorem eo38 : bB prog 38 = true := by kernel_rfl
theorem eo39 : bB prog 39 = true := by kernel_rfl
theorem eo40 : bB prog 40 = true := by kernel_rfl
theorem eo41 : bB prog 41 = true := by kernel_rfl
theorem eo42 : bB prog 42 = true := by kernel_rfl
theorem eo43 : bB prog 43 = true := by kernel_rfl
theorem eo44 : bB prog 44 = true := by kernel_rfl
theorem eo46 : bB prog 46 = true := by kernel_rfl
theorem eo47 : bB prog 47 = true := by kernel_rfl
theorem eo48 : bB prog 48 = true := by kernel_rfl
theorem eo58 : bB prog 58 = true := by kernel_rfl
theorem eo62 : bB prog 62 = true := by kernel_rfl
theorem eo63 : bB prog 63 = true := by kernel_rfl
theorem eo64 : bB prog 64 = true := by kernel_rfl
theorem eo66 : bB prog 66 = true := by kernel_rfl
theorem eo67 : bB prog 67 = true := by kernel_rfl
theorem eo68 : bB prog 68 = true := by kernel_rfl
theorem eo70 : bB prog 70 = true := by kernel_rfl
theorem eo72 : bB prog 72 = true := by kernel_rfl
theorem eo73 : bB prog 73 = true := by kernel_rfl
theorem eo74 : bB prog 74 = true := by kernel_rfl
theorem eo79 : bB prog 79 = true := by kernel_rfl
theorem eo80 : bB prog 80 = true := by kernel_rfl
theorem eo81 : bB prog 81 = true := by kernel_rfl
theorem eo82 : bB prog 82 = true := by kernel_rfl
theorem eo83 : bB prog 83 = true := by kernel_rfl
theorem eo84 : bB prog 84 = true := by kernel_rfl
theorem eo85 : bB prog 85 = true := by kernel_rfl
theorem eo86 : bB prog 86 = true := by kernel_rfl
theorem eo87 : bB prog 87 = true := by kernel_rfl
theorem eo89 : bB prog 89 = true := by kernel_rfl
theorem eo91 : bB prog 91 = true := by kernel_rfl
theorem eo92 : bB prog 92 = true := by kernel_rfl
theorem eo93 : bB prog 93 = true := by kernel_rfl
theorem eo94 : bB prog 94 = true := by kernel_rfl
theorem eo95 : bB prog 95 = true := by kernel_rfl
theorem eo99 : bB prog 99 = true := by kernel_rfl
theorem eo104 : bB prog 104 = true := by kernel_rfl
theorem eo107 : bB prog 107 = true := by kernel_rfl
theorem eo108 : bB prog 108 = true := by kernel_rfl
theorem eo109 : bB prog 109 = true := by kernel_rfl
theorem eo110 : bB prog 110 = true := by kernel_rfl
theorem eo111 : bB prog 111 = true := by kernel_rfl
theorem eo112 : bB prog 112 = true := by kernel_rfl
theorem eo113 : bB prog 113 = true := by kernel_rfl
theorem eo115 : bB prog 115 = true := by kernel_rfl
theorem eo116 : bB prog 116 = true := by kernel_rfl
theorem eo117 : bB prog 117 = true := by kernel_rfl
theorem eo118 : bB prog 118 = true := by kernel_rfl
theorem eo119 : bB prog 119 = true := by kernel_rfl
theorem eo120 : bB prog 120 = true := by kernel_rfl
theorem eo121 : bB prog 121 = true := by kernel_rfl
theorem eo122 : bB prog 122 = true := by kernel_rfl
theorem eo123 : bB prog 123 = true := by kernel_rfl
theorem eo124 : bB prog 124 = true := by kernel_rfl
theorem eo126 : bB prog 126 = true := by kernel_rfl
theorem eo127 : bB prog 127 = true := by kernel_rfl
theorem eo128 : bB prog 128 = true := by kernel_rfl
theorem eo129 : bB prog 129 = true := by kernel_rfl
theorem eo132 : bB prog 132 = true := by kernel_rfl
theorem eo134 : bB prog 134 = true := by kernel_rfl
theorem eo137 : bB prog 137 = true := by kernel_rfl
theorem eo138 : bB prog 138 = true := by kernel_rfl
theorem eo140 : bB prog 140 = true := by kernel_rfl
theorem eo141 : bB prog 141 = true := by kernel_rfl
theorem eo143 : bB prog 143 = true := by kernel_rfl
theorem eo144 : bB prog 144 = true := by kernel_rfl
theorem eo147 : bB prog 147 = true := by kernel_rfl
theorem eo148 : bB prog 148 = true := by kernel_rfl
theorem eo149 : bB prog 149 = true := by kernel_rfl
theorem eo150 : bB prog 150 = true := by kernel_rfl
theorem eo151 : bB prog 151 = true := by kernel_rfl
theorem eo152 : bB prog 152 = true := by kernel_rfl
theorem eo153 : bB prog 153 = true := by kernel_rfl
theorem eo154 : bB prog 154 = true := by kernel_rfl
theorem eo156 : bB prog 156 = true := by kernel_rfl
theorem eo157 : bB prog 157 = true := by kernel_rfl
theorem eo167 : bB prog 167 = true := by kernel_rfl
theorem eo173 : bB prog 173 = true := by kernel_rfl
theorem eo174 : bB prog 174 = true := by kernel_rfl
theorem strTy : strTy prog = some 9 := by kernel_rfl
theorem z8_5 : bk prog 5 = .int .u8 0 := by kernel_rfl
theorem ca3 : ak prog 3 = true := by kernel_rfl
theorem ca4 : ak prog 4 = true := by kernel_rfl
theorem ca5 : ak prog 5 = true := by kernel_rfl
theorem ca6 : ak prog 6 = true := by kernel_rfl
theorem ca7 : ak prog 7 = true := by kernel_rfl
theorem ca8 : ak prog 8 = true := by kernel_rfl
theorem ca9 : ak prog 9 = true := by kernel_rfl
theorem ca10 : ak prog 10 = true := by kernel_rfl
theorem ca11 : ak prog 11 = true := by kernel_rfl
theorem ca12 : ak prog 12 = true := by kernel_rfl
theorem ca13 : ak prog 13 = true := by kernel_rfl
theorem ca14 : ak prog 14 = true := by kernel_rfl
theorem ca15 : ak prog 15 = true := by kernel_rfl
theorem ca16 : ak prog 16 = true := by kernel_rfl
theorem ca17 : ak prog 17 = true := by kernel_rfl
theorem ca18 : ak prog 18 = true := by kernel_rfl
theorem ca19 : ak prog 19 = true := by kernel_rfl
theorem ca20 : ak prog 20 = true := by kernel_rfl
theorem ca21 : ak prog 21 = true := by kernel_rfl
theorem ca22 : ak prog 22 = true := by kernel_rfl
theorem ca23 : ak prog 23 = true := by kernel_rfl
theorem ca24 : ak prog 24 = true := by kernel_rfl
theorem ca25 : ak prog 25 = true := by kernel_rfl
theorem ca26 : ak prog 26 = true := by kernel_rfl
theorem ca27 : ak prog 27 = true := by kernel_rfl
theorem ca28 : ak prog 28 = true := by kernel_rfl
theorem ca29 : ak prog 29 = true := by kernel_rfl
theorem ca30 : ak prog 30 = true := by kernel_rfl
theorem ca31 : ak prog 31 = true := by kernel_rfl
theorem ca32 : ak prog 32 = true := by kernel_rfl
theorem ca33 : ak prog 33 = true := by kernel_rfl
theorem ca34 : ak prog 34 = true := by kernel_rfl
theorem ca35 : ak prog 35 = true := by kernel_rfl
theorem ca36 : ak prog 36 = true := by kernel_rfl
theorem ca37 : ak prog 37 = true := by kernel_rfl
theorem ca38 : ak prog 38 = true := by kernel_rfl
theorem ca39 : ak prog 39 = true := by kernel_rfl
theorem ca40 : ak prog 40 = true := by kernel_rfl
theorem ca41 : ak prog 41 = true := by kernel_rfl
theorem ca42 : ak prog 42 = true := by kernel_rfl
theorem ca43 : ak prog 43 = true := by kernel_rfl
theorem ca44 : ak prog 44 = true := by kernel_rfl
theorem ca45 : ak prog 45 = true := by kernel_rfl
theorem ca46 : ak prog 46 = true := by kernel_rfl
theorem ca47 : ak prog 47 = true := by kernel_rfl
theorem ca48 : ak prog 48 = true := by kernel_rfl
theorem ca49 : ak prog 49 = true := by kernel_rfl
theorem ca50 : ak prog 50 = true := by kernel_rfl
theorem ca51 : ak prog 51 = true := by kernel_rfl
theorem ca52 : ak prog 52 = true := by kernel_rfl
theorem ca53 : ak prog 53 = true := by kernel_rfl
theorem ca54 : ak prog 54 = true := by kernel_rfl
theorem ca55 : ak prog 55 = true := by kernel_rfl
theorem ca56 : ak prog 56 = true := by kernel_rfl
theorem ca57 : ak prog 57 = true := by kernel_rfl
theorem ca58 : ak prog 58 = true := by kernel_rfl
theorem ca59 : ak prog 59 = true := by kernel_rfl
theorem ca60 : ak prog 60 = true := by kernel_rfl
theorem ca61 : ak prog 61 = true := by kernel_rfl
theorem ca62 : ak prog 62 = true := by kernel_rfl
theorem ca63 : ak prog 63 = true := by kernel_rfl
theorem ca64 : ak prog 64 = true := by kernel_rfl
theorem ca65 : ak prog 65 = true := by kernel_rfl
theorem ca66 : ak prog 66 = true := by kernel_rfl
theorem ca67 : ak prog 67 = true := by kernel_rfl
theorem ca68 : ak prog 68 = true := by kernel_rfl
theorem ca69 : ak prog 69 = true := by kernel_rfl
theorem ca70 : ak prog 70 = true := by kernel_rfl
theorem ca71 : ak prog 71 = true := by kernel_rfl
theorem ca72 : ak prog 72 = true := by kernel_rfl
theorem ca73 : ak prog 73 = true := by kernel_rfl
theorem ca74 : ak prog 74 = true := by kernel_rfl
theorem ca75 : ak prog 75 = true := by kernel_rfl
theorem ca76 : ak prog 76 = true := by kernel_rfl
theorem ca77 : ak prog 77 = true := by kernel_rfl
theorem ca78 : ak prog 78 = true := by kernel_rfl
theorem ca79 : ak prog 79 = true := by kernel_rfl
theorem ca80 : ak prog 80 = true := by kernel_rfl
theorem ca81 : ak prog 81 = true := by kernel_rfl
theorem ca82 : ak prog 82 = true := by kernel_rfl
theorem ca83 : ak prog 83 = true := by kernel_rfl
theorem ca84 : ak prog 84 = true := by kernel_rfl
theorem ca85 : ak prog 85 = true := by kernel_rfl
theorem ca86 : ak prog 86 = true := by kernel_rfl
theorem ca87 : ak prog 87 = true := by kernel_rfl
theorem ca88 : ak prog 88 = true := by kernel_rfl
theorem ca89 : ak prog 89 = true := by kernel_rfl
theorem ca90 : ak prog 90 = true := by kernel_rfl
theorem ca91 : ak prog 91 = true := by kernel_rfl
theorem ca92 : ak prog 92 = true := by kernel_rfl
theorem ca93 : ak prog 93 = true := by kernel_rfl
theorem ca94 : ak prog 94 = true := by kernel_rfl
theorem ca95 : ak prog 95 = true := by kernel_rfl
theorem ca96 : ak prog 96 = true := by kernel_rfl
theorem ca97 : ak prog 97 = true := by kernel_rfl
theorem ca98 : ak prog 98 = true := by kernel_rfl
theorem ca99 : ak prog 99 = true := by kernel_rfl
theorem ca100 : ak prog 100 = true := by kernel_rfl
theorem ca101 : ak prog 101 = true := by kernel_rfl
theorem ca102 : ak prog 102 = true := by kernel_rfl
theorem ca103 : ak prog 103 = true := by kernel_rfl
theorem ca104 : ak prog 104 = true := by kernel_rfl
theorem ca105 : ak prog 105 = true := by kernel_rfl
theorem ca106 : ak prog 106 = true := by kernel_rfl
theorem ca124 : ak prog 124 = true := by kernel_rfl
theorem ca125 : ak prog 125 = true := by kernel_rfl
theorem ca127 : ak prog 127 = true := by kernel_rfl
theorem ca128 : ak prog 128 = true := by kernel_rfl
theorem ca129 : ak prog 129 = true := by kernel_rfl
theorem ca130 : ak prog 130 = true := by kernel_rfl
theorem ca131 : ak prog 131 = true := by kernel_rfl
theorem ca132 : ak prog 132 = true := by kernel_rfl
theorem ca133 : ak prog 133 = true := by kernel_rfl
theorem ca135 : ak prog 135 = true := by kernel_rfl
theorem co47 : prog.concrete 47 = true := by kernel_rfl
theorem me47_Derive : jT prog 47 "Derive" = some 124 := by kernel_rfl
theorem me47_Draw : jT prog 47 "Draw" = some 20 := by kernel_rfl
theorem me47_Hash : jT prog 47 "Hash" = some 125 := by kernel_rfl
theorem me47_Open : jT prog 47 "Open" = some 127 := by kernel_rfl
theorem me47_Public : jT prog 47 "Public" = some 75 := by kernel_rfl
theorem me47_Seal : jT prog 47 "Seal" = some 128 := by kernel_rfl
theorem me47_Shared : jT prog 47 "Shared" = some 129 := by kernel_rfl
theorem me47_Sign : jT prog 47 "Sign" = some 130 := by kernel_rfl
theorem me47_Signer : jT prog 47 "Signer" = some 76 := by kernel_rfl
theorem me47_Verify : jT prog 47 "Verify" = some 131 := by kernel_rfl
set_option maxRecDepth 100000 in
def facts := And.intro underlying1 <|
 And.intro eo1 <|
 And.intro underlying2 <|
 And.intro sz2 <|
 And.intro by2 <|
 And.intro ha2 <|
 And.intro ze2 <|
 And.intro zn2 <|
 And.intro zv2 <|
 And.intro underlying3 <|
 And.intro sz3 <|
 And.intro by3 <|
 And.intro ha3 <|
 And.intro ze3 <|
 And.intro zn3 <|
 And.intro zv3 <|
 And.intro underlying4 <|
 And.intro sz4 <|
 And.intro by4 <|
 And.intro ha4 <|
 And.intro eo4 <|
 And.intro ze4 <|
 And.intro zn4 <|
 And.intro zv4 <|
 And.intro underlying5 <|
 And.intro z8_5 <|
 And.intro sz5 <|
 And.intro by5 <|
 And.intro ha5 <|
 And.intro ze5 <|
 And.intro zn5 <|
 And.intro zv5 <|
 And.intro underlying9 <|
 And.intro sz9 <|
 And.intro by9 <|
 And.intro ha9 <|
 And.intro ze9 <|
 And.intro zn9 <|
 And.intro zv9 <|
 And.intro underlying12 <|
 And.intro sz12 <|
 And.intro by12 <|
 And.intro ha12 <|
 And.intro ze12 <|
 And.intro zn12 <|
 And.intro zv12 <|
 And.intro underlying21 <|
 And.intro sz21 <|
 And.intro by21 <|
 And.intro ha21 <|
 And.intro ze21 <|
 And.intro zn21 <|
 And.intro zv21 <|
 And.intro underlying22 <|
 And.intro sz22 <|
 And.intro by22 <|
 And.intro ha22 <|
 And.intro ze22 <|
 And.intro zn22 <|
 And.intro zv22 <|
 And.intro underlying23 <|
 And.intro sz23 <|
 And.intro by23 <|
 And.intro ha23 <|
 And.intro ze23 <|
 And.intro zn23 <|
 And.intro zv23 <|
 And.intro underlying24 <|
 And.intro sz24 <|
 And.intro by24 <|
 And.intro ha24 <|
 And.intro ze24 <|
 And.intro zn24 <|
 And.intro zv24 <|
 And.intro underlying25 <|
 And.intro sz25 <|
 And.intro by25 <|
 And.intro ha25 <|
 And.intro ze25 <|
 And.intro zn25 <|
 And.intro zv25 <|
 And.intro underlying26 <|
 And.intro sz26 <|
 And.intro by26 <|
 And.intro ha26 <|
 And.intro ze26 <|
 And.intro zn26 <|
 And.intro zv26 <|
 And.intro underlying27 <|
 And.intro sz27 <|
 And.intro by27 <|
 And.intro ha27 <|
 And.intro ze27 <|
 And.intro zn27 <|
 And.intro zv27 <|
 And.intro underlying28 <|
 And.intro eo28 <|
 And.intro underlying29 <|
 And.intro sz29 <|
 And.intro by29 <|
 And.intro ha29 <|
 And.intro ze29 <|
 And.intro zn29 <|
 And.intro zv29 <|
 And.intro underlying30 <|
 And.intro sz30 <|
 And.intro by30 <|
 And.intro ha30 <|
 And.intro ze30 <|
 And.intro zn30 <|
 And.intro zv30 <|
 And.intro underlying31 <|
 And.intro sz31 <|
 And.intro by31 <|
 And.intro ha31 <|
 And.intro eo31 <|
 And.intro ze31 <|
 And.intro zn31 <|
 And.intro zv31 <|
 And.intro underlying32 <|
 And.intro eo32 <|
 And.intro underlying33 <|
 And.intro eo33 <|
 And.intro underlying34 <|
 And.intro sz34 <|
 And.intro by34 <|
 And.intro ha34 <|
 And.intro ze34 <|
 And.intro zn34 <|
 And.intro zv34 <|
 And.intro underlying35 <|
 And.intro sz35 <|
 And.intro by35 <|
 And.intro ha35 <|
 And.intro ze35 <|
 And.intro zn35 <|
 And.intro zv35 <|
 And.intro underlying36 <|
 And.intro sz36 <|
 And.intro by36 <|
 And.intro ha36 <|
 And.intro ze36 <|
 And.intro zn36 <|
 And.intro zv36 <|
 And.intro underlying38 <|
 And.intro eo38 <|
 And.intro underlying39 <|
 And.intro eo39 <|
 And.intro underlying40 <|
 And.intro eo40 <|
 And.intro underlying41 <|
 And.intro eo41 <|
 And.intro underlying42 <|
 And.intro eo42 <|
 And.intro underlying43 <|
 And.intro eo43 <|
 And.intro underlying44 <|
 And.intro eo44 <|
 And.intro underlying45 <|
 And.intro sz45 <|
 And.intro by45 <|
 And.intro ha45 <|
 And.intro ze45 <|
 And.intro zn45 <|
 And.intro zv45 <|
 And.intro underlying46 <|
 And.intro eo46 <|
 And.intro underlying47 <|
 And.intro sz47 <|
 And.intro by47 <|
 And.intro ha47 <|
 And.intro eo47 <|
 And.intro ze47 <|
 And.intro zn47 <|
 And.intro zv47 <|
 And.intro underlying48 <|
 And.intro sz48 <|
 And.intro by48 <|
 And.intro ha48 <|
 And.intro eo48 <|
 And.intro ze48 <|
 And.intro zn48 <|
 And.intro zv48 <|
 And.intro underlying49 <|
 And.intro sz49 <|
 And.intro by49 <|
 And.intro ha49 <|
 And.intro ze49 <|
 And.intro zn49 <|
 And.intro zv49 <|
 And.intro underlying50 <|
 And.intro sz50 <|
 And.intro by50 <|
 And.intro ha50 <|
 And.intro ze50 <|
 And.intro zn50 <|
 And.intro zv50 <|
 And.intro underlying51 <|
 And.intro sz51 <|
 And.intro by51 <|
 And.intro ha51 <|
 And.intro ze51 <|
 And.intro zn51 <|
 And.intro zv51 <|
 And.intro underlying52 <|
 And.intro sz52 <|
 And.intro by52 <|
 And.intro ha52 <|
 And.intro ze52 <|
 And.intro zn52 <|
 And.intro zv52 <|
 And.intro underlying53 <|
 And.intro sz53 <|
 And.intro by53 <|
 And.intro ha53 <|
 And.intro ze53 <|
 And.intro zn53 <|
 And.intro zv53 <|
 And.intro underlying54 <|
 And.intro sz54 <|
 And.intro by54 <|
 And.intro ha54 <|
 And.intro ze54 <|
 And.intro zn54 <|
 And.intro zv54 <|
 And.intro underlying55 <|
 And.intro sz55 <|
 And.intro by55 <|
 And.intro ha55 <|
 And.intro ze55 <|
 And.intro zn55 <|
 And.intro zv55 <|
 And.intro underlying56 <|
 And.intro sz56 <|
 And.intro by56 <|
 And.intro ha56 <|
 And.intro ze56 <|
 And.intro zn56 <|
 And.intro zv56 <|
 And.intro underlying58 <|
 And.intro eo58 <|
 And.intro underlying59 <|
 And.intro sz59 <|
 And.intro by59 <|
 And.intro ha59 <|
 And.intro ze59 <|
 And.intro zn59 <|
 And.intro zv59 <|
 And.intro underlying60 <|
 And.intro sz60 <|
 And.intro by60 <|
 And.intro ha60 <|
 And.intro ze60 <|
 And.intro zn60 <|
 And.intro zv60 <|
 And.intro underlying62 <|
 And.intro eo62 <|
 And.intro underlying63 <|
 And.intro eo63 <|
 And.intro underlying64 <|
 And.intro eo64 <|
 And.intro underlying66 <|
 And.intro eo66 <|
 And.intro underlying67 <|
 And.intro eo67 <|
 And.intro underlying68 <|
 And.intro eo68 <|
 And.intro underlying70 <|
 And.intro eo70 <|
 And.intro underlying72 <|
 And.intro eo72 <|
 And.intro underlying73 <|
 And.intro eo73 <|
 And.intro underlying74 <|
 And.intro eo74 <|
 And.intro underlying75 <|
 And.intro sz75 <|
 And.intro by75 <|
 And.intro ha75 <|
 And.intro ze75 <|
 And.intro zn75 <|
 And.intro zv75 <|
 And.intro underlying76 <|
 And.intro sz76 <|
 And.intro by76 <|
 And.intro ha76 <|
 And.intro ze76 <|
 And.intro zn76 <|
 And.intro zv76 <|
 And.intro underlying77 <|
 And.intro sz77 <|
 And.intro by77 <|
 And.intro ha77 <|
 And.intro ze77 <|
 And.intro zn77 <|
 And.intro zv77 <|
 And.intro underlying78 <|
 And.intro sz78 <|
 And.intro by78 <|
 And.intro ha78 <|
 And.intro ze78 <|
 And.intro zn78 <|
 And.intro zv78 <|
 And.intro underlying79 <|
 And.intro eo79 <|
 And.intro underlying80 <|
 And.intro eo80 <|
 And.intro underlying81 <|
 And.intro eo81 <|
 And.intro underlying82 <|
 And.intro eo82 <|
 And.intro underlying83 <|
 And.intro sz83 <|
 And.intro by83 <|
 And.intro ha83 <|
 And.intro eo83 <|
 And.intro ze83 <|
 And.intro zn83 <|
 And.intro zv83 <|
 And.intro eq83 <|
 And.intro ck83 <|
 And.intro underlying84 <|
 And.intro sz84 <|
 And.intro by84 <|
 And.intro ha84 <|
 And.intro eo84 <|
 And.intro ze84 <|
 And.intro zn84 <|
 And.intro zv84 <|
 And.intro eq84 <|
 And.intro ck84 <|
 And.intro underlying85 <|
 And.intro eo85 <|
 And.intro underlying86 <|
 And.intro eo86 <|
 And.intro underlying87 <|
 And.intro eo87 <|
 And.intro underlying89 <|
 And.intro eo89 <|
 And.intro underlying91 <|
 And.intro eo91 <|
 And.intro underlying92 <|
 And.intro eo92 <|
 And.intro underlying93 <|
 And.intro eo93 <|
 And.intro underlying94 <|
 And.intro eo94 <|
 And.intro underlying95 <|
 And.intro eo95 <|
 And.intro underlying96 <|
 And.intro sz96 <|
 And.intro by96 <|
 And.intro ha96 <|
 And.intro ze96 <|
 And.intro zn96 <|
 And.intro zv96 <|
 And.intro underlying97 <|
 And.intro sz97 <|
 And.intro by97 <|
 And.intro ha97 <|
 And.intro ze97 <|
 And.intro zn97 <|
 And.intro zv97 <|
 And.intro underlying98 <|
 And.intro sz98 <|
 And.intro by98 <|
 And.intro ha98 <|
 And.intro ze98 <|
 And.intro zn98 <|
 And.intro zv98 <|
 And.intro underlying99 <|
 And.intro sz99 <|
 And.intro by99 <|
 And.intro ha99 <|
 And.intro eo99 <|
 And.intro ze99 <|
 And.intro zn99 <|
 And.intro zv99 <|
 And.intro underlying100 <|
 And.intro sz100 <|
 And.intro by100 <|
 And.intro ha100 <|
 And.intro ze100 <|
 And.intro zn100 <|
 And.intro zv100 <|
 And.intro underlying101 <|
 And.intro sz101 <|
 And.intro by101 <|
 And.intro ha101 <|
 And.intro ze101 <|
 And.intro zn101 <|
 And.intro zv101 <|
 And.intro underlying102 <|
 And.intro sz102 <|
 And.intro by102 <|
 And.intro ha102 <|
 And.intro ze102 <|
 And.intro zn102 <|
 And.intro zv102 <|
 And.intro underlying103 <|
 And.intro sz103 <|
 And.intro by103 <|
 And.intro ha103 <|
 And.intro ze103 <|
 And.intro zn103 <|
 And.intro zv103 <|
 And.intro underlying104 <|
 And.intro eo104 <|
 And.intro underlying106 <|
 And.intro sz106 <|
 And.intro by106 <|
 And.intro ha106 <|
 And.intro ze106 <|
 And.intro zn106 <|
 And.intro zv106 <|
 And.intro underlying107 <|
 And.intro eo107 <|
 And.intro underlying108 <|
 And.intro eo108 <|
 And.intro underlying109 <|
 And.intro eo109 <|
 And.intro underlying110 <|
 And.intro eo110 <|
 And.intro underlying111 <|
 And.intro eo111 <|
 And.intro underlying112 <|
 And.intro eo112 <|
 And.intro underlying113 <|
 And.intro eo113 <|
 And.intro underlying115 <|
 And.intro eo115 <|
 And.intro underlying116 <|
 And.intro eo116 <|
 And.intro underlying117 <|
 And.intro eo117 <|
 And.intro underlying118 <|
 And.intro eo118 <|
 And.intro underlying119 <|
 And.intro eo119 <|
 And.intro underlying120 <|
 And.intro eo120 <|
 And.intro underlying121 <|
 And.intro eo121 <|
 And.intro underlying122 <|
 And.intro eo122 <|
 And.intro underlying123 <|
 And.intro sz123 <|
 And.intro by123 <|
 And.intro ha123 <|
 And.intro eo123 <|
 And.intro ze123 <|
 And.intro zn123 <|
 And.intro zv123 <|
 And.intro underlying124 <|
 And.intro eo124 <|
 And.intro underlying126 <|
 And.intro eo126 <|
 And.intro underlying127 <|
 And.intro eo127 <|
 And.intro underlying128 <|
 And.intro eo128 <|
 And.intro underlying129 <|
 And.intro eo129 <|
 And.intro underlying130 <|
 And.intro sz130 <|
 And.intro by130 <|
 And.intro ha130 <|
 And.intro ze130 <|
 And.intro zn130 <|
 And.intro zv130 <|
 And.intro underlying132 <|
 And.intro eo132 <|
 And.intro underlying134 <|
 And.intro eo134 <|
 And.intro underlying135 <|
 And.intro sz135 <|
 And.intro by135 <|
 And.intro ha135 <|
 And.intro ze135 <|
 And.intro zn135 <|
 And.intro zv135 <|
 And.intro underlying136 <|
 And.intro sz136 <|
 And.intro by136 <|
 And.intro ha136 <|
 And.intro ze136 <|
 And.intro zn136 <|
 And.intro zv136 <|
 And.intro underlying137 <|
 And.intro eo137 <|
 And.intro underlying138 <|
 And.intro eo138 <|
 And.intro underlying139 <|
 And.intro sz139 <|
 And.intro by139 <|
 And.intro ha139 <|
 And.intro ze139 <|
 And.intro zn139 <|
 And.intro zv139 <|
 And.intro underlying140 <|
 And.intro eo140 <|
 And.intro underlying141 <|
 And.intro eo141 <|
 And.intro underlying142 <|
 And.intro sz142 <|
 And.intro by142 <|
 And.intro ha142 <|
 And.intro ze142 <|
 And.intro zn142 <|
 And.intro zv142 <|
 And.intro underlying143 <|
 And.intro eo143 <|
 And.intro underlying144 <|
 And.intro eo144 <|
 And.intro underlying145 <|
 And.intro sz145 <|
 And.intro by145 <|
 And.intro ha145 <|
 And.intro ze145 <|
 And.intro zn145 <|
 And.intro zv145 <|
 And.intro underlying147 <|
 And.intro eo147 <|
 And.intro underlying148 <|
 And.intro eo148 <|
 And.intro underlying149 <|
 And.intro eo149 <|
 And.intro underlying150 <|
 And.intro sz150 <|
 And.intro by150 <|
 And.intro ha150 <|
 And.intro eo150 <|
 And.intro ze150 <|
 And.intro zn150 <|
 And.intro zv150 <|
 And.intro underlying151 <|
 And.intro eo151 <|
 And.intro underlying152 <|
 And.intro eo152 <|
 And.intro underlying153 <|
 And.intro eo153 <|
 And.intro underlying154 <|
 And.intro eo154 <|
 And.intro underlying156 <|
 And.intro eo156 <|
 And.intro underlying157 <|
 And.intro eo157 <|
 And.intro underlying163 <|
 And.intro sz163 <|
 And.intro by163 <|
 And.intro ha163 <|
 And.intro ze163 <|
 And.intro zn163 <|
 And.intro zv163 <|
 And.intro underlying167 <|
 And.intro sz167 <|
 And.intro by167 <|
 And.intro ha167 <|
 And.intro eo167 <|
 And.intro ze167 <|
 And.intro zn167 <|
 And.intro zv167 <|
 And.intro underlying173 <|
 And.intro eo173 <|
 And.intro underlying174 <|
 And.intro eo174 <|
 And.intro strTy <|
 And.intro ca3 <|
 And.intro ca4 <|
 And.intro ca5 <|
 And.intro ca6 <|
 And.intro ca7 <|
 And.intro ca8 <|
 And.intro ca9 <|
 And.intro ca10 <|
 And.intro ca11 <|
 And.intro ca12 <|
 And.intro ca13 <|
 And.intro ca14 <|
 And.intro ca15 <|
 And.intro ca16 <|
 And.intro ca17 <|
 And.intro ca18 <|
 And.intro ca19 <|
 And.intro ca20 <|
 And.intro ca21 <|
 And.intro ca22 <|
 And.intro ca23 <|
 And.intro ca24 <|
 And.intro ca25 <|
 And.intro ca26 <|
 And.intro ca27 <|
 And.intro ca28 <|
 And.intro ca29 <|
 And.intro ca30 <|
 And.intro ca31 <|
 And.intro ca32 <|
 And.intro ca33 <|
 And.intro ca34 <|
 And.intro ca35 <|
 And.intro ca36 <|
 And.intro ca37 <|
 And.intro ca38 <|
 And.intro ca39 <|
 And.intro ca40 <|
 And.intro ca41 <|
 And.intro ca42 <|
 And.intro ca43 <|
 And.intro ca44 <|
 And.intro ca45 <|
 And.intro ca46 <|
 And.intro ca47 <|
 And.intro ca48 <|
 And.intro ca49 <|
 And.intro ca50 <|
 And.intro ca51 <|
 And.intro ca52 <|
 And.intro ca53 <|
 And.intro ca54 <|
 And.intro ca55 <|
 And.intro ca56 <|
 And.intro ca57 <|
 And.intro ca58 <|
 And.intro ca59 <|
 And.intro ca60 <|
 And.intro ca61 <|
 And.intro ca62 <|
 And.intro ca63 <|
 And.intro ca64 <|
 And.intro ca65 <|
 And.intro ca66 <|
 And.intro ca67 <|
 And.intro ca68 <|
 And.intro ca69 <|
 And.intro ca70 <|
 And.intro ca71 <|
 And.intro ca72 <|
 And.intro ca73 <|
 And.intro ca74 <|
 And.intro ca75 <|
 And.intro ca76 <|
 And.intro ca77 <|
 And.intro ca78 <|
 And.intro ca79 <|
 And.intro ca80 <|
 And.intro ca81 <|
 And.intro ca82 <|
 And.intro ca83 <|
 And.intro ca84 <|
 And.intro ca85 <|
 And.intro ca86 <|
 And.intro ca87 <|
 And.intro ca88 <|
 And.intro ca89 <|
 And.intro ca90 <|
 And.intro ca91 <|
 And.intro ca92 <|
 And.intro ca93 <|
 And.intro ca94 <|
 And.intro ca95 <|
 And.intro ca96 <|
 And.intro ca97 <|
 And.intro ca98 <|
 And.intro ca99 <|
 And.intro ca100 <|
 And.intro ca101 <|
 And.intro ca102 <|
 And.intro ca103 <|
 And.intro ca104 <|
 And.intro ca105 <|
 And.intro ca106 <|
 And.intro ca124 <|
 And.intro ca125 <|
 And.intro ca127 <|
 And.intro ca128 <|
 And.intro ca129 <|
 And.intro ca130 <|
 And.intro ca131 <|
 And.intro ca132 <|
 And.intro ca133 <|
 And.intro ca135 <|
 And.intro co47 <|
 And.intro me47_Derive <|
 And.intro me47_Draw <|
 And.intro me47_Hash <|
 And.intro me47_Open <|
 And.intro me47_Public <|
 And.intro me47_Seal <|
 And.intro me47_Shared <|
 And.intro me47_Sign <|
 And.intro me47_Signer <| me47_Verify
end Go.Proofs.Tryz
