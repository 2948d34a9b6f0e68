/-
  Facts of the seat's program: sizes of types, functions that have bodies. By program.
  Conditions: none.
-/
import Derived.Test.YtcgjlmopeblapaaGreatProg
import Derived.Test.YtcgjlmopeblapaaGreatAbsG5
set_option linter.all false
set_option linter.unusedSimpArgs false
namespace Go.Proofs.Tryz
open Go Go.Abs
theorem mixed : prog.follows .mixedOrders = true := by kernel_rfl
theorem sz2 : ai prog 2 = 1 := by kernel_rfl
theorem by2 : ay prog 2 = 8 := by kernel_rfl
theorem ze2 : aq prog 2 = [.sc (.int .i64 0)] := by kernel_rfl
theorem zn2 : ap prog 2 = [.sc (.int .i64 0)] := by kernel_rfl
theorem ha2 : ax prog 2 = true := by kernel_rfl
theorem sz3 : ai prog 3 = 1 := by kernel_rfl
theorem by3 : ay prog 3 = 8 := by kernel_rfl
theorem ze3 : aq prog 3 = [.sc (.int .i64 0)] := by kernel_rfl
theorem zn3 : ap prog 3 = [.sc (.int .i64 0)] := by kernel_rfl
theorem ha3 : ax prog 3 = true := by kernel_rfl
theorem sz4 : ai prog 4 = 1 := by kernel_rfl
theorem by4 : ay prog 4 = 1 := by kernel_rfl
theorem ze4 : aq prog 4 = [.sc (.bool false)] := by kernel_rfl
theorem zn4 : ap prog 4 = [.sc (.bool false)] := by kernel_rfl
theorem ha4 : ax prog 4 = true := by kernel_rfl
theorem sz5 : ai prog 5 = 1 := by kernel_rfl
theorem by5 : ay prog 5 = 1 := by kernel_rfl
theorem ze5 : aq prog 5 = [.sc (.int .u8 0)] := by kernel_rfl
theorem zn5 : ap prog 5 = [.sc (.int .u8 0)] := by kernel_rfl
theorem ha5 : ax prog 5 = true := by kernel_rfl
theorem sz9 : ai prog 9 = 1 := by kernel_rfl
theorem by9 : ay prog 9 = 16 := by kernel_rfl
theorem ze9 : aq prog 9 = [.sc (.string ⟨#[]⟩)] := by kernel_rfl
theorem zn9 : ap prog 9 = [.sc (.string ⟨#[]⟩)] := by kernel_rfl
theorem ha9 : ax prog 9 = true := by kernel_rfl
theorem sz12 : ai prog 12 = 1 := by kernel_rfl
theorem by12 : ay prog 12 = 8 := by kernel_rfl
theorem ze12 : aq prog 12 = [.sc (.int .u64 0)] := by kernel_rfl
theorem zn12 : ap prog 12 = [.sc (.int .u64 0)] := by kernel_rfl
theorem ha12 : ax prog 12 = true := by kernel_rfl
theorem sz21 : ai prog 21 = 1 := by kernel_rfl
theorem by21 : ay prog 21 = 4 := by kernel_rfl
theorem ze21 : aq prog 21 = [.sc (.int .i32 0)] := by kernel_rfl
theorem zn21 : ap prog 21 = [.sc (.int .i32 0)] := by kernel_rfl
theorem ha21 : ax prog 21 = true := by kernel_rfl
theorem sz22 : ai prog 22 = 1 := by kernel_rfl
theorem by22 : ay prog 22 = 24 := by kernel_rfl
theorem ze22 : aq prog 22 = [.imm 0 [] 0] := by kernel_rfl
theorem zn22 : ap prog 22 = [.sc (.slice none 0 0)] := by kernel_rfl
theorem ha22 : ax prog 22 = true := by kernel_rfl
theorem sz23 : ai prog 23 = 6 := by kernel_rfl
theorem by23 : ay prog 23 = 56 := by kernel_rfl
theorem ze23 : aq prog 23 = [.sc (.int .i64 0),.sc (.int .i64 0),.sc (.int .i64 0),.sc (.int .i64 0),.sc (.int .i64 0),.sc (.string ⟨#[]⟩)] := by kernel_rfl
theorem zn23 : ap prog 23 = [.sc (.int .i64 0),.sc (.int .i64 0),.sc (.int .i64 0),.sc (.int .i64 0),.sc (.int .i64 0),.sc (.string ⟨#[]⟩)] := by kernel_rfl
theorem ha23 : ax prog 23 = true := by kernel_rfl
theorem sz24 : ai prog 24 = 6 := by kernel_rfl
theorem by24 : ay prog 24 = 56 := by kernel_rfl
theorem ze24 : aq prog 24 = [.sc (.int .i64 0),.sc (.int .i64 0),.sc (.int .i64 0),.sc (.int .i64 0),.sc (.int .i64 0),.sc (.string ⟨#[]⟩)] := by kernel_rfl
theorem zn24 : ap prog 24 = [.sc (.int .i64 0),.sc (.int .i64 0),.sc (.int .i64 0),.sc (.int .i64 0),.sc (.int .i64 0),.sc (.string ⟨#[]⟩)] := by kernel_rfl
theorem ha24 : ax prog 24 = true := by kernel_rfl
theorem sz27 : ai prog 27 = 1 := by kernel_rfl
theorem by27 : ay prog 27 = 8 := by kernel_rfl
theorem ze27 : aq prog 27 = [.sc (.pointer none)] := by kernel_rfl
theorem zn27 : ap prog 27 = [.sc (.pointer none)] := by kernel_rfl
theorem ha27 : ax prog 27 = true := by kernel_rfl
theorem sz28 : ai prog 28 = 1 := by kernel_rfl
theorem by28 : ay prog 28 = 24 := by kernel_rfl
theorem ze28 : aq prog 28 = [.imm 0 [] 0] := by kernel_rfl
theorem zn28 : ap prog 28 = [.sc (.slice none 0 0)] := by kernel_rfl
theorem ha28 : ax prog 28 = true := by kernel_rfl
theorem sz29 : ai prog 29 = 1 := by kernel_rfl
theorem by29 : ay prog 29 = 24 := by kernel_rfl
theorem ze29 : aq prog 29 = [.imm 0 [] 0] := by kernel_rfl
theorem zn29 : ap prog 29 = [.sc (.slice none 0 0)] := by kernel_rfl
theorem ha29 : ax prog 29 = true := by kernel_rfl
theorem sz30 : ai prog 30 = 1 := by kernel_rfl
theorem by30 : ay prog 30 = 24 := by kernel_rfl
theorem ze30 : aq prog 30 = [.imm 0 [] 0] := by kernel_rfl
theorem zn30 : ap prog 30 = [.sc (.slice none 0 0)] := by kernel_rfl
theorem ha30 : ax prog 30 = true := by kernel_rfl
theorem sz33 : ai prog 33 = 1 := by kernel_rfl
theorem by33 : ay prog 33 = 8 := by kernel_rfl
theorem ze33 : aq prog 33 = [.sc (.int .i64 0)] := by kernel_rfl
theorem zn33 : ap prog 33 = [.sc (.int .i64 0)] := by kernel_rfl
theorem ha33 : ax prog 33 = true := by kernel_rfl
theorem sz46 : ai prog 46 = 1 := by kernel_rfl
theorem by46 : ay prog 46 = 24 := by kernel_rfl
theorem ze46 : aq prog 46 = [.imm 0 [] 0] := by kernel_rfl
theorem zn46 : ap prog 46 = [.sc (.slice none 0 0)] := by kernel_rfl
theorem ha46 : ax prog 46 = true := by kernel_rfl
theorem sz49 : ai prog 49 = 2 := by kernel_rfl
theorem by49 : ay prog 49 = 16 := by kernel_rfl
theorem ze49 : aq prog 49 = [.sc (.int .i64 0),.sc (.int .i64 0)] := by kernel_rfl
theorem zn49 : ap prog 49 = [.sc (.int .i64 0),.sc (.int .i64 0)] := by kernel_rfl
theorem ha49 : ax prog 49 = true := by kernel_rfl
theorem sz50 : ai prog 50 = 2 := by kernel_rfl
theorem by50 : ay prog 50 = 16 := by kernel_rfl
theorem ze50 : aq prog 50 = [.sc (.int .i64 0),.sc (.int .i64 0)] := by kernel_rfl
theorem zn50 : ap prog 50 = [.sc (.int .i64 0),.sc (.int .i64 0)] := by kernel_rfl
theorem ha50 : ax prog 50 = true := by kernel_rfl
theorem sz51 : ai prog 51 = 6 := by kernel_rfl
theorem by51 : ay prog 51 = 40 := by kernel_rfl
theorem ze51 : aq prog 51 = [.sc (.int .i64 0),.sc (.int .i64 0),.sc (.int .i64 0),.sc (.int .i64 0),.sc (.bool false),.sc (.int .i32 0)] := by kernel_rfl
theorem zn51 : ap prog 51 = [.sc (.int .i64 0),.sc (.int .i64 0),.sc (.int .i64 0),.sc (.int .i64 0),.sc (.bool false),.sc (.int .i32 0)] := by kernel_rfl
theorem ha51 : ax prog 51 = true := by kernel_rfl
theorem sz52 : ai prog 52 = 6 := by kernel_rfl
theorem by52 : ay prog 52 = 40 := by kernel_rfl
theorem ze52 : aq prog 52 = [.sc (.int .i64 0),.sc (.int .i64 0),.sc (.int .i64 0),.sc (.int .i64 0),.sc (.bool false),.sc (.int .i32 0)] := by kernel_rfl
theorem zn52 : ap prog 52 = [.sc (.int .i64 0),.sc (.int .i64 0),.sc (.int .i64 0),.sc (.int .i64 0),.sc (.bool false),.sc (.int .i32 0)] := by kernel_rfl
theorem ha52 : ax prog 52 = true := by kernel_rfl
theorem sz53 : ai prog 53 = 3 := by kernel_rfl
theorem by53 : ay prog 53 = 24 := by kernel_rfl
theorem ze53 : aq prog 53 = [.sc (.int .i64 0),.sc (.int .i64 0),.sc (.bool false)] := by kernel_rfl
theorem zn53 : ap prog 53 = [.sc (.int .i64 0),.sc (.int .i64 0),.sc (.bool false)] := by kernel_rfl
theorem ha53 : ax prog 53 = true := by kernel_rfl
theorem sz54 : ai prog 54 = 3 := by kernel_rfl
theorem by54 : ay prog 54 = 24 := by kernel_rfl
theorem ze54 : aq prog 54 = [.sc (.int .i64 0),.sc (.int .i64 0),.sc (.bool false)] := by kernel_rfl
theorem zn54 : ap prog 54 = [.sc (.int .i64 0),.sc (.int .i64 0),.sc (.bool false)] := by kernel_rfl
theorem ha54 : ax prog 54 = true := by kernel_rfl
theorem sz55 : ai prog 55 = 10 := by kernel_rfl
theorem by55 : ay prog 55 = 80 := by kernel_rfl
theorem ze55 : aq prog 55 = [.sc (.int .i64 0),.sc (.int .i64 0),.sc (.int .i64 0),.sc (.int .i64 0),.sc (.bool false),.sc (.int .i64 0),.sc (.int .i64 0),.sc (.bool false),.sc (.int .i64 0),.sc (.int .i64 0)] := by kernel_rfl
theorem zn55 : ap prog 55 = [.sc (.int .i64 0),.sc (.int .i64 0),.sc (.int .i64 0),.sc (.int .i64 0),.sc (.bool false),.sc (.int .i64 0),.sc (.int .i64 0),.sc (.bool false),.sc (.int .i64 0),.sc (.int .i64 0)] := by kernel_rfl
theorem ha55 : ax prog 55 = true := by kernel_rfl
theorem sz56 : ai prog 56 = 10 := by kernel_rfl
theorem by56 : ay prog 56 = 80 := by kernel_rfl
theorem ze56 : aq prog 56 = [.sc (.int .i64 0),.sc (.int .i64 0),.sc (.int .i64 0),.sc (.int .i64 0),.sc (.bool false),.sc (.int .i64 0),.sc (.int .i64 0),.sc (.bool false),.sc (.int .i64 0),.sc (.int .i64 0)] := by kernel_rfl
theorem zn56 : ap prog 56 = [.sc (.int .i64 0),.sc (.int .i64 0),.sc (.int .i64 0),.sc (.int .i64 0),.sc (.bool false),.sc (.int .i64 0),.sc (.int .i64 0),.sc (.bool false),.sc (.int .i64 0),.sc (.int .i64 0)] := by kernel_rfl
theorem ha56 : ax prog 56 = true := by kernel_rfl
theorem sz57 : ai prog 57 = 19 := by kernel_rfl
theorem by57 : ay prog 57 = 144 := by kernel_rfl
theorem ze57 : aq prog 57 = [.sc (.int .i64 0),.sc (.int .i64 0),.sc (.int .i64 0),.sc (.int .i64 0),.sc (.int .i64 0),.sc (.bool false),.sc (.int .i32 0),.sc (.int .i64 0),.sc (.int .i64 0),.sc (.int .i64 0),.sc (.int .i64 0),.sc (.int .i64 0),.sc (.int .i64 0),.sc (.bool false),.sc (.int .i64 0),.sc (.int .i64 0),.sc (.bool false),.sc (.int .i64 0),.sc (.int .i64 0)] := by kernel_rfl
theorem zn57 : ap prog 57 = [.sc (.int .i64 0),.sc (.int .i64 0),.sc (.int .i64 0),.sc (.int .i64 0),.sc (.int .i64 0),.sc (.bool false),.sc (.int .i32 0),.sc (.int .i64 0),.sc (.int .i64 0),.sc (.int .i64 0),.sc (.int .i64 0),.sc (.int .i64 0),.sc (.int .i64 0),.sc (.bool false),.sc (.int .i64 0),.sc (.int .i64 0),.sc (.bool false),.sc (.int .i64 0),.sc (.int .i64 0)] := by kernel_rfl
theorem ha57 : ax prog 57 = true := by kernel_rfl
theorem sz58 : ai prog 58 = 19 := by kernel_rfl
theorem by58 : ay prog 58 = 144 := by kernel_rfl
theorem ze58 : aq prog 58 = [.sc (.int .i64 0),.sc (.int .i64 0),.sc (.int .i64 0),.sc (.int .i64 0),.sc (.int .i64 0),.sc (.bool false),.sc (.int .i32 0),.sc (.int .i64 0),.sc (.int .i64 0),.sc (.int .i64 0),.sc (.int .i64 0),.sc (.int .i64 0),.sc (.int .i64 0),.sc (.bool false),.sc (.int .i64 0),.sc (.int .i64 0),.sc (.bool false),.sc (.int .i64 0),.sc (.int .i64 0)] := by kernel_rfl
theorem zn58 : ap prog 58 = [.sc (.int .i64 0),.sc (.int .i64 0),.sc (.int .i64 0),.sc (.int .i64 0),.sc (.int .i64 0),.sc (.bool false),.sc (.int .i32 0),.sc (.int .i64 0),.sc (.int .i64 0),.sc (.int .i64 0),.sc (.int .i64 0),.sc (.int .i64 0),.sc (.int .i64 0),.sc (.bool false),.sc (.int .i64 0),.sc (.int .i64 0),.sc (.bool false),.sc (.int .i64 0),.sc (.int .i64 0)] := by kernel_rfl
theorem ha58 : ax prog 58 = true := by kernel_rfl
theorem sz62 : ai prog 62 = 1 := by kernel_rfl
theorem by62 : ay prog 62 = 24 := by kernel_rfl
theorem ze62 : aq prog 62 = [.imm 0 [] 0] := by kernel_rfl
theorem zn62 : ap prog 62 = [.sc (.slice none 0 0)] := by kernel_rfl
theorem ha62 : ax prog 62 = true := by kernel_rfl
theorem sz64 : ai prog 64 = 1 := by kernel_rfl
theorem by64 : ay prog 64 = 8 := by kernel_rfl
theorem ze64 : aq prog 64 = [.sc (.map none)] := by kernel_rfl
theorem zn64 : ap prog 64 = [.sc (.map none)] := by kernel_rfl
theorem ha64 : ax prog 64 = true := by kernel_rfl
theorem sz65 : ai prog 65 = 1 := by kernel_rfl
theorem by65 : ay prog 65 = 8 := by kernel_rfl
theorem ze65 : aq prog 65 = [.sc (.map none)] := by kernel_rfl
theorem zn65 : ap prog 65 = [.sc (.map none)] := by kernel_rfl
theorem ha65 : ax prog 65 = true := by kernel_rfl
theorem sz66 : ai prog 66 = 1 := by kernel_rfl
theorem by66 : ay prog 66 = 24 := by kernel_rfl
theorem ze66 : aq prog 66 = [.imm 0 [] 0] := by kernel_rfl
theorem zn66 : ap prog 66 = [.sc (.slice none 0 0)] := by kernel_rfl
theorem ha66 : ax prog 66 = true := by kernel_rfl
theorem sz67 : ai prog 67 = 1 := by kernel_rfl
theorem by67 : ay prog 67 = 8 := by kernel_rfl
theorem ze67 : aq prog 67 = [.sc (.pointer none)] := by kernel_rfl
theorem zn67 : ap prog 67 = [.sc (.pointer none)] := by kernel_rfl
theorem ha67 : ax prog 67 = true := by kernel_rfl
theorem sz68 : ai prog 68 = 1 := by kernel_rfl
theorem by68 : ay prog 68 = 8 := by kernel_rfl
theorem ze68 : aq prog 68 = [.sc (.pointer none)] := by kernel_rfl
theorem zn68 : ap prog 68 = [.sc (.pointer none)] := by kernel_rfl
theorem ha68 : ax prog 68 = true := by kernel_rfl
theorem sz69 : ai prog 69 = 5 := by kernel_rfl
theorem by69 : ay prog 69 = 56 := by kernel_rfl
theorem ze69 : aq prog 69 = [.sc (.map none),.sc (.map none),.imm 0 [] 0,.sc (.pointer none),.sc (.pointer none)] := by kernel_rfl
theorem zn69 : ap prog 69 = [.sc (.map none),.sc (.map none),.sc (.slice none 0 0),.sc (.pointer none),.sc (.pointer none)] := by kernel_rfl
theorem ha69 : ax prog 69 = true := by kernel_rfl
theorem sz70 : ai prog 70 = 5 := by kernel_rfl
theorem by70 : ay prog 70 = 56 := by kernel_rfl
theorem ze70 : aq prog 70 = [.sc (.map none),.sc (.map none),.imm 0 [] 0,.sc (.pointer none),.sc (.pointer none)] := by kernel_rfl
theorem zn70 : ap prog 70 = [.sc (.map none),.sc (.map none),.sc (.slice none 0 0),.sc (.pointer none),.sc (.pointer none)] := by kernel_rfl
theorem ha70 : ax prog 70 = true := by kernel_rfl
theorem sz72 : ai prog 72 = 1 := by kernel_rfl
theorem by72 : ay prog 72 = 24 := by kernel_rfl
theorem ze72 : aq prog 72 = [.imm 0 [] 0] := by kernel_rfl
theorem zn72 : ap prog 72 = [.sc (.slice none 0 0)] := by kernel_rfl
theorem ha72 : ax prog 72 = true := by kernel_rfl
theorem sz73 : ai prog 73 = 2 := by kernel_rfl
theorem by73 : ay prog 73 = 48 := by kernel_rfl
theorem ze73 : aq prog 73 = [.imm 0 [] 0,.imm 0 [] 0] := by kernel_rfl
theorem zn73 : ap prog 73 = [.sc (.slice none 0 0),.sc (.slice none 0 0)] := by kernel_rfl
theorem ha73 : ax prog 73 = true := by kernel_rfl
theorem sz74 : ai prog 74 = 2 := by kernel_rfl
theorem by74 : ay prog 74 = 48 := by kernel_rfl
theorem ze74 : aq prog 74 = [.imm 0 [] 0,.imm 0 [] 0] := by kernel_rfl
theorem zn74 : ap prog 74 = [.sc (.slice none 0 0),.sc (.slice none 0 0)] := by kernel_rfl
theorem ha74 : ax prog 74 = true := by kernel_rfl
theorem sz79 : ai prog 79 = 1 := by kernel_rfl
theorem by79 : ay prog 79 = 24 := by kernel_rfl
theorem ze79 : aq prog 79 = [.imm 0 [] 0] := by kernel_rfl
theorem zn79 : ap prog 79 = [.sc (.slice none 0 0)] := by kernel_rfl
theorem ha79 : ax prog 79 = true := by kernel_rfl
theorem sz81 : ai prog 81 = 4 := by kernel_rfl
theorem by81 : ay prog 81 = 24 := by kernel_rfl
theorem ze81 : aq prog 81 = [.sc (.int .i64 0),.sc (.int .i64 0),.sc (.int .i32 0),.sc (.bool false)] := by kernel_rfl
theorem zn81 : ap prog 81 = [.sc (.int .i64 0),.sc (.int .i64 0),.sc (.int .i32 0),.sc (.bool false)] := by kernel_rfl
theorem ha81 : ax prog 81 = true := by kernel_rfl
theorem sz82 : ai prog 82 = 4 := by kernel_rfl
theorem by82 : ay prog 82 = 24 := by kernel_rfl
theorem ze82 : aq prog 82 = [.sc (.int .i64 0),.sc (.int .i64 0),.sc (.int .i32 0),.sc (.bool false)] := by kernel_rfl
theorem zn82 : ap prog 82 = [.sc (.int .i64 0),.sc (.int .i64 0),.sc (.int .i32 0),.sc (.bool false)] := by kernel_rfl
theorem ha82 : ax prog 82 = true := by kernel_rfl
theorem sz84 : ai prog 84 = 1 := by kernel_rfl
theorem by84 : ay prog 84 = 24 := by kernel_rfl
theorem ze84 : aq prog 84 = [.imm 0 [] 0] := by kernel_rfl
theorem zn84 : ap prog 84 = [.sc (.slice none 0 0)] := by kernel_rfl
theorem ha84 : ax prog 84 = true := by kernel_rfl
theorem sz90 : ai prog 90 = 1 := by kernel_rfl
theorem by90 : ay prog 90 = 8 := by kernel_rfl
theorem ze90 : aq prog 90 = [.sc (.map none)] := by kernel_rfl
theorem zn90 : ap prog 90 = [.sc (.map none)] := by kernel_rfl
theorem ha90 : ax prog 90 = true := by kernel_rfl
theorem sz93 : ai prog 93 = 3 := by kernel_rfl
theorem by93 : ay prog 93 = 24 := by kernel_rfl
theorem ze93 : aq prog 93 = [.sc (.int .i64 0),.sc (.int .i64 0),.sc (.int .i64 0)] := by kernel_rfl
theorem zn93 : ap prog 93 = [.sc (.int .i64 0),.sc (.int .i64 0),.sc (.int .i64 0)] := by kernel_rfl
theorem ha93 : ax prog 93 = true := by kernel_rfl
theorem sz96 : ai prog 96 = 5 := by kernel_rfl
theorem by96 : ay prog 96 = 40 := by kernel_rfl
theorem ze96 : aq prog 96 = [.sc (.int .i64 0),.sc (.int .i64 0),.sc (.int .i64 0),.sc (.int .i64 0),.sc (.int .i64 0)] := by kernel_rfl
theorem zn96 : ap prog 96 = [.sc (.int .i64 0),.sc (.int .i64 0),.sc (.int .i64 0),.sc (.int .i64 0),.sc (.int .i64 0)] := by kernel_rfl
theorem ha96 : ax prog 96 = true := by kernel_rfl
theorem sz97 : ai prog 97 = 5 := by kernel_rfl
theorem by97 : ay prog 97 = 40 := by kernel_rfl
theorem ze97 : aq prog 97 = [.sc (.int .i64 0),.sc (.int .i64 0),.sc (.int .i64 0),.sc (.int .i64 0),.sc (.int .i64 0)] := by kernel_rfl
theorem zn97 : ap prog 97 = [.sc (.int .i64 0),.sc (.int .i64 0),.sc (.int .i64 0),.sc (.int .i64 0),.sc (.int .i64 0)] := by kernel_rfl
theorem ha97 : ax prog 97 = true := by kernel_rfl
theorem sz98 : ai prog 98 = 6 := by kernel_rfl
theorem by98 : ay prog 98 = 56 := by kernel_rfl
theorem ze98 : aq prog 98 = [.sc (.string ⟨#[]⟩),.sc (.int .i64 0),.sc (.int .i64 0),.sc (.int .i64 0),.sc (.int .i64 0),.sc (.int .i64 0)] := by kernel_rfl
theorem zn98 : ap prog 98 = [.sc (.string ⟨#[]⟩),.sc (.int .i64 0),.sc (.int .i64 0),.sc (.int .i64 0),.sc (.int .i64 0),.sc (.int .i64 0)] := by kernel_rfl
theorem ha98 : ax prog 98 = true := by kernel_rfl
theorem sz99 : ai prog 99 = 6 := by kernel_rfl
theorem by99 : ay prog 99 = 56 := by kernel_rfl
theorem ze99 : aq prog 99 = [.sc (.string ⟨#[]⟩),.sc (.int .i64 0),.sc (.int .i64 0),.sc (.int .i64 0),.sc (.int .i64 0),.sc (.int .i64 0)] := by kernel_rfl
theorem zn99 : ap prog 99 = [.sc (.string ⟨#[]⟩),.sc (.int .i64 0),.sc (.int .i64 0),.sc (.int .i64 0),.sc (.int .i64 0),.sc (.int .i64 0)] := by kernel_rfl
theorem ha99 : ax prog 99 = true := by kernel_rfl
theorem sz105 : ai prog 105 = 2 := by kernel_rfl
theorem by105 : ay prog 105 = 48 := by kernel_rfl
theorem ze105 : aq prog 105 = [.imm 0 [] 0,.imm 0 [] 0] := by kernel_rfl
theorem zn105 : ap prog 105 = [.sc (.slice none 0 0),.sc (.slice none 0 0)] := by kernel_rfl
theorem ha105 : ax prog 105 = true := by kernel_rfl
theorem sz106 : ai prog 106 = 6 := by kernel_rfl
theorem by106 : ay prog 106 = 72 := by kernel_rfl
theorem ze106 : aq prog 106 = [.sc (.int .i64 0),.sc (.int .i64 0),.sc (.int .i32 0),.sc (.bool false),.imm 0 [] 0,.imm 0 [] 0] := by kernel_rfl
theorem zn106 : ap prog 106 = [.sc (.int .i64 0),.sc (.int .i64 0),.sc (.int .i32 0),.sc (.bool false),.sc (.slice none 0 0),.sc (.slice none 0 0)] := by kernel_rfl
theorem ha106 : ax prog 106 = true := by kernel_rfl
theorem sz107 : ai prog 107 = 6 := by kernel_rfl
theorem by107 : ay prog 107 = 72 := by kernel_rfl
theorem ze107 : aq prog 107 = [.sc (.int .i64 0),.sc (.int .i64 0),.sc (.int .i32 0),.sc (.bool false),.imm 0 [] 0,.imm 0 [] 0] := by kernel_rfl
theorem zn107 : ap prog 107 = [.sc (.int .i64 0),.sc (.int .i64 0),.sc (.int .i32 0),.sc (.bool false),.sc (.slice none 0 0),.sc (.slice none 0 0)] := by kernel_rfl
theorem ha107 : ax prog 107 = true := by kernel_rfl
theorem sz108 : ai prog 108 = 1 := by kernel_rfl
theorem by108 : ay prog 108 = 8 := by kernel_rfl
theorem ze108 : aq prog 108 = [.sc (.map none)] := by kernel_rfl
theorem zn108 : ap prog 108 = [.sc (.map none)] := by kernel_rfl
theorem ha108 : ax prog 108 = true := by kernel_rfl
theorem sz109 : ai prog 109 = 2 := by kernel_rfl
theorem by109 : ay prog 109 = 16 := by kernel_rfl
theorem ze109 : aq prog 109 = [.sc (.map none),.sc (.int .i64 0)] := by kernel_rfl
theorem zn109 : ap prog 109 = [.sc (.map none),.sc (.int .i64 0)] := by kernel_rfl
theorem ha109 : ax prog 109 = true := by kernel_rfl
theorem sz110 : ai prog 110 = 2 := by kernel_rfl
theorem by110 : ay prog 110 = 16 := by kernel_rfl
theorem ze110 : aq prog 110 = [.sc (.map none),.sc (.int .i64 0)] := by kernel_rfl
theorem zn110 : ap prog 110 = [.sc (.map none),.sc (.int .i64 0)] := by kernel_rfl
theorem ha110 : ax prog 110 = true := by kernel_rfl
theorem sz116 : ai prog 116 = 1 := by kernel_rfl
theorem by116 : ay prog 116 = 8 := by kernel_rfl
theorem ze116 : aq prog 116 = [.sc .nilFunc] := by kernel_rfl
theorem zn116 : ap prog 116 = [.sc .nilFunc] := by kernel_rfl
theorem ha116 : ax prog 116 = true := by kernel_rfl
theorem sz118 : ai prog 118 = 1 := by kernel_rfl
theorem by118 : ay prog 118 = 24 := by kernel_rfl
theorem ze118 : aq prog 118 = [.imm 0 [] 0] := by kernel_rfl
theorem zn118 : ap prog 118 = [.sc (.slice none 0 0)] := by kernel_rfl
theorem ha118 : ax prog 118 = true := by kernel_rfl
theorem sz119 : ai prog 119 = 1 := by kernel_rfl
theorem by119 : ay prog 119 = 24 := by kernel_rfl
theorem ze119 : aq prog 119 = [.imm 0 [] 0] := by kernel_rfl
theorem zn119 : ap prog 119 = [.sc (.slice none 0 0)] := by kernel_rfl
theorem ha119 : ax prog 119 = true := by kernel_rfl
theorem sz124 : ai prog 124 = 1 := by kernel_rfl
theorem by124 : ay prog 124 = 8 := by kernel_rfl
theorem ze124 : aq prog 124 = [.sc (.int .u64 0)] := by kernel_rfl
theorem zn124 : ap prog 124 = [.sc (.int .u64 0)] := by kernel_rfl
theorem ha124 : ax prog 124 = true := by kernel_rfl
theorem sz133 : ai prog 133 = 1 := by kernel_rfl
theorem by133 : ay prog 133 = 24 := by kernel_rfl
theorem ze133 : aq prog 133 = [.imm 0 [] 0] := by kernel_rfl
theorem zn133 : ap prog 133 = [.sc (.slice none 0 0)] := by kernel_rfl
theorem ha133 : ax prog 133 = true := by kernel_rfl
theorem sz139 : ai prog 139 = 4 := by kernel_rfl
theorem by139 : ay prog 139 = 32 := by kernel_rfl
theorem ze139 : aq prog 139 = [.sc (.int .i64 0),.sc (.int .i64 0),.sc (.int .i64 0),.sc (.int .i64 0)] := by kernel_rfl
theorem zn139 : ap prog 139 = [.sc (.int .i64 0),.sc (.int .i64 0),.sc (.int .i64 0),.sc (.int .i64 0)] := by kernel_rfl
theorem ha139 : ax prog 139 = true := by kernel_rfl
theorem sz140 : ai prog 140 = 4 := by kernel_rfl
theorem by140 : ay prog 140 = 32 := by kernel_rfl
theorem ze140 : aq prog 140 = [.sc (.int .i64 0),.sc (.int .i64 0),.sc (.int .i64 0),.sc (.int .i64 0)] := by kernel_rfl
theorem zn140 : ap prog 140 = [.sc (.int .i64 0),.sc (.int .i64 0),.sc (.int .i64 0),.sc (.int .i64 0)] := by kernel_rfl
theorem ha140 : ax prog 140 = true := by kernel_rfl
theorem sz141 : ai prog 141 = 1 := by kernel_rfl
theorem by141 : ay prog 141 = 24 := by kernel_rfl
theorem ze141 : aq prog 141 = [.imm 0 [] 0] := by kernel_rfl
theorem zn141 : ap prog 141 = [.sc (.slice none 0 0)] := by kernel_rfl
theorem ha141 : ax prog 141 = true := by kernel_rfl
theorem sz144 : ai prog 144 = 1 := by kernel_rfl
theorem by144 : ay prog 144 = 8 := by kernel_rfl
theorem ze144 : aq prog 144 = [.sc (.int .i64 0)] := by kernel_rfl
theorem zn144 : ap prog 144 = [.sc (.int .i64 0)] := by kernel_rfl
theorem ha144 : ax prog 144 = true := by kernel_rfl
theorem sz151 : ai prog 151 = 1 := by kernel_rfl
theorem by151 : ay prog 151 = 4 := by kernel_rfl
theorem ze151 : aq prog 151 = [.sc (.int .u32 0)] := by kernel_rfl
theorem zn151 : ap prog 151 = [.sc (.int .u32 0)] := by kernel_rfl
theorem ha151 : ax prog 151 = true := by kernel_rfl
theorem sz153 : ai prog 153 = 1 := by kernel_rfl
theorem by153 : ay prog 153 = 8 := by kernel_rfl
theorem ze153 : aq prog 153 = [.sc (.int .u64 0)] := by kernel_rfl
theorem zn153 : ap prog 153 = [.sc (.int .u64 0)] := by kernel_rfl
theorem ha153 : ax prog 153 = true := by kernel_rfl
theorem sz160 : ai prog 160 = 1 := by kernel_rfl
theorem by160 : ay prog 160 = 8 := by kernel_rfl
theorem ze160 : aq prog 160 = [.sc (.int .u64 0)] := by kernel_rfl
theorem zn160 : ap prog 160 = [.sc (.int .u64 0)] := by kernel_rfl
theorem ha160 : ax prog 160 = true := by kernel_rfl
theorem sz164 : ai prog 164 = 1 := by kernel_rfl
theorem by164 : ay prog 164 = 8 := by kernel_rfl
theorem ze164 : aq prog 164 = [.sc (.pointer none)] := by kernel_rfl
theorem zn164 : ap prog 164 = [.sc (.pointer none)] := by kernel_rfl
theorem ha164 : ax prog 164 = true := by kernel_rfl
theorem sz172 : ai prog 172 = 1 := by kernel_rfl
theorem by172 : ay prog 172 = 8 := by kernel_rfl
theorem ze172 : aq prog 172 = [.sc (.pointer none)] := by kernel_rfl
theorem zn172 : ap prog 172 = [.sc (.pointer none)] := by kernel_rfl
theorem ha172 : ax prog 172 = true := by kernel_rfl
theorem sz185 : ai prog 185 = 1 := by kernel_rfl
theorem by185 : ay prog 185 = 8 := by kernel_rfl
theorem ze185 : aq prog 185 = [.sc (.pointer none)] := by kernel_rfl
theorem zn185 : ap prog 185 = [.sc (.pointer none)] := by kernel_rfl
theorem ha185 : ax prog 185 = true := by kernel_rfl
theorem eq49 (a1 b1 : Int) (a2 b2 : Int) : eqG prog 6 49 (.agg [.sc (.int .i64 a1),.sc (.int .i64 a2)]) (.agg [.sc (.int .i64 b1),.sc (.int .i64 b2)]) = some ((a1 == b1) && ((a2 == b2) && true)) := by kernel_rfl
theorem ck49 (x0 x1 : AV) : cl prog 6 49 (.agg [x0,x1]) = true := by kernel_rfl
theorem eq50 (a1 b1 : Int) (a2 b2 : Int) : eqG prog 6 50 (.agg [.sc (.int .i64 a1),.sc (.int .i64 a2)]) (.agg [.sc (.int .i64 b1),.sc (.int .i64 b2)]) = some ((a1 == b1) && ((a2 == b2) && true)) := by kernel_rfl
theorem ck50 (x0 x1 : AV) : cl prog 6 50 (.agg [x0,x1]) = true := by kernel_rfl
theorem eq51 (a1 b1 : Int) (a2 b2 : Int) (a3 b3 : Int) (a4 b4 : Int) (a5 b5 : Bool) (a6 b6 : Int) : eqG prog 6 51 (.agg [.sc (.int .i64 a1),.sc (.int .i64 a2),.sc (.int .i64 a3),.sc (.int .i64 a4),.sc (.bool a5),.sc (.int .i32 a6)]) (.agg [.sc (.int .i64 b1),.sc (.int .i64 b2),.sc (.int .i64 b3),.sc (.int .i64 b4),.sc (.bool b5),.sc (.int .i32 b6)]) = some (((a1 == b1) && ((a2 == b2) && true)) && (((a3 == b3) && ((a4 == b4) && true)) && ((a5 == b5) && ((a6 == b6) && true)))) := by kernel_rfl
theorem ck51 (x0 x1 x2 x3 x4 x5 : AV) : cl prog 6 51 (.agg [x0,x1,x2,x3,x4,x5]) = true := by kernel_rfl
theorem eq52 (a1 b1 : Int) (a2 b2 : Int) (a3 b3 : Int) (a4 b4 : Int) (a5 b5 : Bool) (a6 b6 : Int) : eqG prog 6 52 (.agg [.sc (.int .i64 a1),.sc (.int .i64 a2),.sc (.int .i64 a3),.sc (.int .i64 a4),.sc (.bool a5),.sc (.int .i32 a6)]) (.agg [.sc (.int .i64 b1),.sc (.int .i64 b2),.sc (.int .i64 b3),.sc (.int .i64 b4),.sc (.bool b5),.sc (.int .i32 b6)]) = some (((a1 == b1) && ((a2 == b2) && true)) && (((a3 == b3) && ((a4 == b4) && true)) && ((a5 == b5) && ((a6 == b6) && true)))) := by kernel_rfl
theorem ck52 (x0 x1 x2 x3 x4 x5 : AV) : cl prog 6 52 (.agg [x0,x1,x2,x3,x4,x5]) = true := by kernel_rfl
theorem eq53 (a1 b1 : Int) (a2 b2 : Int) (a3 b3 : Bool) : eqG prog 6 53 (.agg [.sc (.int .i64 a1),.sc (.int .i64 a2),.sc (.bool a3)]) (.agg [.sc (.int .i64 b1),.sc (.int .i64 b2),.sc (.bool b3)]) = some (((a1 == b1) && ((a2 == b2) && true)) && ((a3 == b3) && true)) := by kernel_rfl
theorem ck53 (x0 x1 x2 : AV) : cl prog 6 53 (.agg [x0,x1,x2]) = true := by kernel_rfl
theorem eq54 (a1 b1 : Int) (a2 b2 : Int) (a3 b3 : Bool) : eqG prog 6 54 (.agg [.sc (.int .i64 a1),.sc (.int .i64 a2),.sc (.bool a3)]) (.agg [.sc (.int .i64 b1),.sc (.int .i64 b2),.sc (.bool b3)]) = some (((a1 == b1) && ((a2 == b2) && true)) && ((a3 == b3) && true)) := by kernel_rfl
theorem ck54 (x0 x1 x2 : AV) : cl prog 6 54 (.agg [x0,x1,x2]) = true := by kernel_rfl
theorem eq55 (a1 b1 : Int) (a2 b2 : Int) (a3 b3 : Int) (a4 b4 : Int) (a5 b5 : Bool) (a6 b6 : Int) (a7 b7 : Int) (a8 b8 : Bool) (a9 b9 : Int) (a10 b10 : Int) : eqG prog 6 55 (.agg [.sc (.int .i64 a1),.sc (.int .i64 a2),.sc (.int .i64 a3),.sc (.int .i64 a4),.sc (.bool a5),.sc (.int .i64 a6),.sc (.int .i64 a7),.sc (.bool a8),.sc (.int .i64 a9),.sc (.int .i64 a10)]) (.agg [.sc (.int .i64 b1),.sc (.int .i64 b2),.sc (.int .i64 b3),.sc (.int .i64 b4),.sc (.bool b5),.sc (.int .i64 b6),.sc (.int .i64 b7),.sc (.bool b8),.sc (.int .i64 b9),.sc (.int .i64 b10)]) = some ((a1 == b1) && ((a2 == b2) && ((((a3 == b3) && ((a4 == b4) && true)) && ((a5 == b5) && true)) && ((((a6 == b6) && ((a7 == b7) && true)) && ((a8 == b8) && true)) && ((a9 == b9) && ((a10 == b10) && true)))))) := by kernel_rfl
theorem ck55 (x0 x1 x2 x3 x4 x5 x6 x7 x8 x9 : AV) : cl prog 6 55 (.agg [x0,x1,x2,x3,x4,x5,x6,x7,x8,x9]) = true := by kernel_rfl
theorem eq56 (a1 b1 : Int) (a2 b2 : Int) (a3 b3 : Int) (a4 b4 : Int) (a5 b5 : Bool) (a6 b6 : Int) (a7 b7 : Int) (a8 b8 : Bool) (a9 b9 : Int) (a10 b10 : Int) : eqG prog 6 56 (.agg [.sc (.int .i64 a1),.sc (.int .i64 a2),.sc (.int .i64 a3),.sc (.int .i64 a4),.sc (.bool a5),.sc (.int .i64 a6),.sc (.int .i64 a7),.sc (.bool a8),.sc (.int .i64 a9),.sc (.int .i64 a10)]) (.agg [.sc (.int .i64 b1),.sc (.int .i64 b2),.sc (.int .i64 b3),.sc (.int .i64 b4),.sc (.bool b5),.sc (.int .i64 b6),.sc (.int .i64 b7),.sc (.bool b8),.sc (.int .i64 b9),.sc (.int .i64 b10)]) = some ((a1 == b1) && ((a2 == b2) && ((((a3 == b3) && ((a4 == b4) && true)) && ((a5 == b5) && true)) && ((((a6 == b6) && ((a7 == b7) && true)) && ((a8 == b8) && true)) && ((a9 == b9) && ((a10 == b10) && true)))))) := by kernel_rfl
theorem ck56 (x0 x1 x2 x3 x4 x5 x6 x7 x8 x9 : AV) : cl prog 6 56 (.agg [x0,x1,x2,x3,x4,x5,x6,x7,x8,x9]) = true := by kernel_rfl
theorem eq81 (a1 b1 : Int) (a2 b2 : Int) (a3 b3 : Int) (a4 b4 : Bool) : eqG prog 6 81 (.agg [.sc (.int .i64 a1),.sc (.int .i64 a2),.sc (.int .i32 a3),.sc (.bool a4)]) (.agg [.sc (.int .i64 b1),.sc (.int .i64 b2),.sc (.int .i32 b3),.sc (.bool b4)]) = some (((a1 == b1) && ((a2 == b2) && true)) && ((a3 == b3) && ((a4 == b4) && true))) := by kernel_rfl
theorem ck81 (x0 x1 x2 x3 : AV) : cl prog 6 81 (.agg [x0,x1,x2,x3]) = true := by kernel_rfl
theorem eq82 (a1 b1 : Int) (a2 b2 : Int) (a3 b3 : Int) (a4 b4 : Bool) : eqG prog 6 82 (.agg [.sc (.int .i64 a1),.sc (.int .i64 a2),.sc (.int .i32 a3),.sc (.bool a4)]) (.agg [.sc (.int .i64 b1),.sc (.int .i64 b2),.sc (.int .i32 b3),.sc (.bool b4)]) = some (((a1 == b1) && ((a2 == b2) && true)) && ((a3 == b3) && ((a4 == b4) && true))) := by kernel_rfl
theorem ck82 (x0 x1 x2 x3 : AV) : cl prog 6 82 (.agg [x0,x1,x2,x3]) = true := by kernel_rfl
theorem eq93 (a1 b1 : Int) (a2 b2 : Int) (a3 b3 : Int) : eqG prog 6 93 (.agg [.sc (.int .i64 a1),.sc (.int .i64 a2),.sc (.int .i64 a3)]) (.agg [.sc (.int .i64 b1),.sc (.int .i64 b2),.sc (.int .i64 b3)]) = some ((a1 == b1) && ((a2 == b2) && ((a3 == b3) && true))) := by kernel_rfl
theorem ck93 (x0 x1 x2 : AV) : cl prog 6 93 (.agg [x0,x1,x2]) = true := by kernel_rfl
theorem eq96 (a1 b1 : Int) (a2 b2 : Int) (a3 b3 : Int) (a4 b4 : Int) (a5 b5 : Int) : eqG prog 6 96 (.agg [.sc (.int .i64 a1),.sc (.int .i64 a2),.sc (.int .i64 a3),.sc (.int .i64 a4),.sc (.int .i64 a5)]) (.agg [.sc (.int .i64 b1),.sc (.int .i64 b2),.sc (.int .i64 b3),.sc (.int .i64 b4),.sc (.int .i64 b5)]) = some ((a1 == b1) && ((a2 == b2) && ((a3 == b3) && ((a4 == b4) && ((a5 == b5) && true))))) := by kernel_rfl
theorem ck96 (x0 x1 x2 x3 x4 : AV) : cl prog 6 96 (.agg [x0,x1,x2,x3,x4]) = true := by kernel_rfl
theorem eq97 (a1 b1 : Int) (a2 b2 : Int) (a3 b3 : Int) (a4 b4 : Int) (a5 b5 : Int) : eqG prog 6 97 (.agg [.sc (.int .i64 a1),.sc (.int .i64 a2),.sc (.int .i64 a3),.sc (.int .i64 a4),.sc (.int .i64 a5)]) (.agg [.sc (.int .i64 b1),.sc (.int .i64 b2),.sc (.int .i64 b3),.sc (.int .i64 b4),.sc (.int .i64 b5)]) = some ((a1 == b1) && ((a2 == b2) && ((a3 == b3) && ((a4 == b4) && ((a5 == b5) && true))))) := by kernel_rfl
theorem ck97 (x0 x1 x2 x3 x4 : AV) : cl prog 6 97 (.agg [x0,x1,x2,x3,x4]) = true := by kernel_rfl
theorem eq139 (a1 b1 : Int) (a2 b2 : Int) (a3 b3 : Int) (a4 b4 : Int) : eqG prog 6 139 (.agg [.sc (.int .i64 a1),.sc (.int .i64 a2),.sc (.int .i64 a3),.sc (.int .i64 a4)]) (.agg [.sc (.int .i64 b1),.sc (.int .i64 b2),.sc (.int .i64 b3),.sc (.int .i64 b4)]) = some (((a1 == b1) && ((a2 == b2) && true)) && ((a3 == b3) && ((a4 == b4) && true))) := by kernel_rfl
theorem ck139 (x0 x1 x2 x3 : AV) : cl prog 6 139 (.agg [x0,x1,x2,x3]) = true := by kernel_rfl
theorem eq140 (a1 b1 : Int) (a2 b2 : Int) (a3 b3 : Int) (a4 b4 : Int) : eqG prog 6 140 (.agg [.sc (.int .i64 a1),.sc (.int .i64 a2),.sc (.int .i64 a3),.sc (.int .i64 a4)]) (.agg [.sc (.int .i64 b1),.sc (.int .i64 b2),.sc (.int .i64 b3),.sc (.int .i64 b4)]) = some (((a1 == b1) && ((a2 == b2) && true)) && ((a3 == b3) && ((a4 == b4) && true))) := by kernel_rfl
theorem ck140 (x0 x1 x2 x3 : AV) : cl prog 6 140 (.agg [x0,x1,x2,x3]) = true := by kernel_rfl
theorem zv2 : ar prog 2 = .sc (.int .i64 0) := by kernel_rfl
theorem zv3 : ar prog 3 = .sc (.int .i64 0) := by kernel_rfl
theorem zv4 : ar prog 4 = .sc (.bool false) := by kernel_rfl
theorem zv5 : ar prog 5 = .sc (.int .u8 0) := by kernel_rfl
theorem zv9 : ar prog 9 = .sc (.string ⟨#[]⟩) := by kernel_rfl
theorem zv12 : ar prog 12 = .sc (.int .u64 0) := by kernel_rfl
theorem zv21 : ar prog 21 = .sc (.int .i32 0) := by kernel_rfl
theorem zv22 : ar prog 22 = .sc (.slice none 0 0) := by kernel_rfl
theorem zv23 : ar prog 23 = .agg [.sc (.int .i64 0),.sc (.int .i64 0),.sc (.int .i64 0),.sc (.int .i64 0),.sc (.int .i64 0),.sc (.string ⟨#[]⟩)] := by kernel_rfl
theorem zv24 : ar prog 24 = .agg [.sc (.int .i64 0),.sc (.int .i64 0),.sc (.int .i64 0),.sc (.int .i64 0),.sc (.int .i64 0),.sc (.string ⟨#[]⟩)] := by kernel_rfl
theorem zv27 : ar prog 27 = .sc (.pointer none) := by kernel_rfl
theorem zv28 : ar prog 28 = .sc (.slice none 0 0) := by kernel_rfl
theorem zv29 : ar prog 29 = .agg [.sc (.slice none 0 0)] := by kernel_rfl
theorem zv30 : ar prog 30 = .agg [.sc (.slice none 0 0)] := by kernel_rfl
theorem zv33 : ar prog 33 = .sc (.int .i64 0) := by kernel_rfl
theorem zv46 : ar prog 46 = .sc (.slice none 0 0) := by kernel_rfl
theorem zv49 : ar prog 49 = .agg [.sc (.int .i64 0),.sc (.int .i64 0)] := by kernel_rfl
theorem zv50 : ar prog 50 = .agg [.sc (.int .i64 0),.sc (.int .i64 0)] := by kernel_rfl
theorem zv51 : ar prog 51 = .agg [.sc (.int .i64 0),.sc (.int .i64 0),.sc (.int .i64 0),.sc (.int .i64 0),.sc (.bool false),.sc (.int .i32 0)] := by kernel_rfl
theorem zv52 : ar prog 52 = .agg [.sc (.int .i64 0),.sc (.int .i64 0),.sc (.int .i64 0),.sc (.int .i64 0),.sc (.bool false),.sc (.int .i32 0)] := by kernel_rfl
theorem zv53 : ar prog 53 = .agg [.sc (.int .i64 0),.sc (.int .i64 0),.sc (.bool false)] := by kernel_rfl
theorem zv54 : ar prog 54 = .agg [.sc (.int .i64 0),.sc (.int .i64 0),.sc (.bool false)] := by kernel_rfl
theorem zv55 : ar prog 55 = .agg [.sc (.int .i64 0),.sc (.int .i64 0),.sc (.int .i64 0),.sc (.int .i64 0),.sc (.bool false),.sc (.int .i64 0),.sc (.int .i64 0),.sc (.bool false),.sc (.int .i64 0),.sc (.int .i64 0)] := by kernel_rfl
theorem zv56 : ar prog 56 = .agg [.sc (.int .i64 0),.sc (.int .i64 0),.sc (.int .i64 0),.sc (.int .i64 0),.sc (.bool false),.sc (.int .i64 0),.sc (.int .i64 0),.sc (.bool false),.sc (.int .i64 0),.sc (.int .i64 0)] := by kernel_rfl
theorem zv62 : ar prog 62 = .sc (.slice none 0 0) := by kernel_rfl
theorem zv64 : ar prog 64 = .sc (.map none) := by kernel_rfl
theorem zv65 : ar prog 65 = .sc (.map none) := by kernel_rfl
theorem zv66 : ar prog 66 = .sc (.slice none 0 0) := by kernel_rfl
theorem zv67 : ar prog 67 = .sc (.pointer none) := by kernel_rfl
theorem zv68 : ar prog 68 = .sc (.pointer none) := by kernel_rfl
theorem zv69 : ar prog 69 = .agg [.sc (.map none),.sc (.map none),.sc (.slice none 0 0),.sc (.pointer none),.sc (.pointer none)] := by kernel_rfl
theorem zv70 : ar prog 70 = .agg [.sc (.map none),.sc (.map none),.sc (.slice none 0 0),.sc (.pointer none),.sc (.pointer none)] := by kernel_rfl
theorem zv72 : ar prog 72 = .sc (.slice none 0 0) := by kernel_rfl
theorem zv73 : ar prog 73 = .agg [.sc (.slice none 0 0),.sc (.slice none 0 0)] := by kernel_rfl
theorem zv74 : ar prog 74 = .agg [.sc (.slice none 0 0),.sc (.slice none 0 0)] := by kernel_rfl
theorem zv79 : ar prog 79 = .sc (.slice none 0 0) := by kernel_rfl
theorem zv81 : ar prog 81 = .agg [.sc (.int .i64 0),.sc (.int .i64 0),.sc (.int .i32 0),.sc (.bool false)] := by kernel_rfl
theorem zv82 : ar prog 82 = .agg [.sc (.int .i64 0),.sc (.int .i64 0),.sc (.int .i32 0),.sc (.bool false)] := by kernel_rfl
theorem zv84 : ar prog 84 = .sc (.slice none 0 0) := by kernel_rfl
theorem zv90 : ar prog 90 = .sc (.map none) := by kernel_rfl
theorem zv93 : ar prog 93 = .agg [.sc (.int .i64 0),.sc (.int .i64 0),.sc (.int .i64 0)] := by kernel_rfl
theorem zv96 : ar prog 96 = .agg [.sc (.int .i64 0),.sc (.int .i64 0),.sc (.int .i64 0),.sc (.int .i64 0),.sc (.int .i64 0)] := by kernel_rfl
theorem zv97 : ar prog 97 = .agg [.sc (.int .i64 0),.sc (.int .i64 0),.sc (.int .i64 0),.sc (.int .i64 0),.sc (.int .i64 0)] := by kernel_rfl
theorem zv98 : ar prog 98 = .agg [.sc (.string ⟨#[]⟩),.sc (.int .i64 0),.sc (.int .i64 0),.sc (.int .i64 0),.sc (.int .i64 0),.sc (.int .i64 0)] := by kernel_rfl
theorem zv99 : ar prog 99 = .agg [.sc (.string ⟨#[]⟩),.sc (.int .i64 0),.sc (.int .i64 0),.sc (.int .i64 0),.sc (.int .i64 0),.sc (.int .i64 0)] := by kernel_rfl
theorem zv105 : ar prog 105 = .agg [.sc (.slice none 0 0),.sc (.slice none 0 0)] := by kernel_rfl
theorem zv106 : ar prog 106 = .agg [.sc (.int .i64 0),.sc (.int .i64 0),.sc (.int .i32 0),.sc (.bool false),.sc (.slice none 0 0),.sc (.slice none 0 0)] := by kernel_rfl
theorem zv107 : ar prog 107 = .agg [.sc (.int .i64 0),.sc (.int .i64 0),.sc (.int .i32 0),.sc (.bool false),.sc (.slice none 0 0),.sc (.slice none 0 0)] := by kernel_rfl
theorem zv108 : ar prog 108 = .sc (.map none) := by kernel_rfl
theorem zv109 : ar prog 109 = .agg [.sc (.map none),.sc (.int .i64 0)] := by kernel_rfl
theorem zv110 : ar prog 110 = .agg [.sc (.map none),.sc (.int .i64 0)] := by kernel_rfl
theorem zv116 : ar prog 116 = .sc .nilFunc := by kernel_rfl
theorem zv118 : ar prog 118 = .agg [.sc (.slice none 0 0)] := by kernel_rfl
theorem zv119 : ar prog 119 = .agg [.sc (.slice none 0 0)] := by kernel_rfl
theorem zv124 : ar prog 124 = .sc (.int .u64 0) := by kernel_rfl
theorem zv133 : ar prog 133 = .sc (.slice none 0 0) := by kernel_rfl
theorem zv139 : ar prog 139 = .agg [.sc (.int .i64 0),.sc (.int .i64 0),.sc (.int .i64 0),.sc (.int .i64 0)] := by kernel_rfl
theorem zv140 : ar prog 140 = .agg [.sc (.int .i64 0),.sc (.int .i64 0),.sc (.int .i64 0),.sc (.int .i64 0)] := by kernel_rfl
theorem zv141 : ar prog 141 = .sc (.slice none 0 0) := by kernel_rfl
theorem zv144 : ar prog 144 = .sc (.int .i64 0) := by kernel_rfl
theorem zv151 : ar prog 151 = .sc (.int .u32 0) := by kernel_rfl
theorem zv153 : ar prog 153 = .sc (.int .u64 0) := by kernel_rfl
theorem zv160 : ar prog 160 = .sc (.int .u64 0) := by kernel_rfl
theorem zv164 : ar prog 164 = .sc (.pointer none) := by kernel_rfl
theorem zv172 : ar prog 172 = .sc (.pointer none) := by kernel_rfl
theorem zv185 : ar prog 185 = .sc (.pointer none) := by kernel_rfl
theorem eo1 : bB prog 1 = true := by kernel_rfl
theorem eo4 : bB prog 4 = true := by kernel_rfl
theorem eo23 : bB prog 23 = true := by kernel_rfl
theorem eo24 : bB prog 24 = true := by kernel_rfl
theorem eo25 : bB prog 25 = true := by kernel_rfl
theorem eo26 : bB prog 26 = true := by kernel_rfl
theorem eo27 : bB prog 27 = true := by kernel_rfl
theorem eo32 : bB prog 32 = true := by kernel_rfl
theorem eo35 : bB prog 35 = true := by kernel_rfl
theorem eo36 : bB prog 36 = true := by kernel_rfl
theorem eo37 : bB prog 37 = true := by kernel_rfl
theorem eo38 : bB prog 38 = true := by kernel_rfl
theorem eo39 : bB prog 39 = true := by kernel_rfl
theorem eo40 : bB prog 40 = true := by kernel_rfl
theorem eo41 : bB prog 41 = true := by kernel_rfl
theorem eo42 : bB prog 42 = true := by kernel_rfl
theorem eo44 : bB prog 44 = true := by kernel_rfl
theorem eo45 : bB prog 45 = true := by kernel_rfl
theorem eo47 : bB prog 47 = true := by kernel_rfl
theorem eo48 : bB prog 48 = true := by kernel_rfl
theorem eo49 : bB prog 49 = true := by kernel_rfl
theorem eo50 : bB prog 50 = true := by kernel_rfl
theorem eo51 : bB prog 51 = true := by kernel_rfl
theorem eo52 : bB prog 52 = true := by kernel_rfl
theorem eo53 : bB prog 53 = true := by kernel_rfl
theorem eo54 : bB prog 54 = true := by kernel_rfl
theorem eo55 : bB prog 55 = true := by kernel_rfl
theorem eo56 : bB prog 56 = true := by kernel_rfl
theorem eo57 : bB prog 57 = true := by kernel_rfl
theorem eo58 : bB prog 58 = true := by kernel_rfl
theorem eo59 : bB prog 59 = true := by kernel_rfl
theorem eo60 : bB prog 60 = true := by kernel_rfl
theorem eo61 : bB prog 61 = true := by kernel_rfl
theorem eo64 : bB prog 64 = true := by kernel_rfl
theorem eo65 : bB prog 65 = true := by kernel_rfl
theorem eo67 : bB prog 67 = true := by kernel_rfl
theorem eo68 : bB prog 68 = true := by kernel_rfl
theorem eo71 : bB prog 71 = true := by kernel_rfl
theorem eo75 : bB prog 75 = true := by kernel_rfl
theorem eo76 : bB prog 76 = true := by kernel_rfl
theorem eo78 : bB prog 78 = true := by kernel_rfl
theorem eo80 : bB prog 80 = true := by kernel_rfl
theorem eo81 : bB prog 81 = true := by kernel_rfl
theorem eo82 : bB prog 82 = true := by kernel_rfl
theorem eo83 : bB prog 83 = true := by kernel_rfl
theorem eo85 : bB prog 85 = true := by kernel_rfl
theorem eo86 : bB prog 86 = true := by kernel_rfl
theorem eo87 : bB prog 87 = true := by kernel_rfl
theorem eo88 : bB prog 88 = true := by kernel_rfl
theorem eo89 : bB prog 89 = true := by kernel_rfl
theorem eo90 : bB prog 90 = true := by kernel_rfl
theorem eo91 : bB prog 91 = true := by kernel_rfl
theorem eo93 : bB prog 93 = true := by kernel_rfl
theorem eo94 : bB prog 94 = true := by kernel_rfl
theorem eo95 : bB prog 95 = true := by kernel_rfl
theorem eo96 : bB prog 96 = true := by kernel_rfl
theorem eo97 : bB prog 97 = true := by kernel_rfl
theorem eo98 : bB prog 98 = true := by kernel_rfl
theorem eo99 : bB prog 99 = true := by kernel_rfl
theorem eo100 : bB prog 100 = true := by kernel_rfl
theorem eo101 : bB prog 101 = true := by kernel_rfl
theorem eo102 : bB prog 102 = true := by kernel_rfl
theorem eo103 : bB prog 103 = true := by kernel_rfl
theorem eo104 : bB prog 104 = true := by kernel_rfl
theorem eo108 : bB prog 108 = true := by kernel_rfl
theorem eo112 : bB prog 112 = true := by kernel_rfl
theorem eo113 : bB prog 113 = true := by kernel_rfl
theorem eo114 : bB prog 114 = true := by kernel_rfl
theorem eo115 : bB prog 115 = true := by kernel_rfl
theorem eo116 : bB prog 116 = true := by kernel_rfl
theorem eo117 : bB prog 117 = true := by kernel_rfl
theorem eo121 : bB prog 121 = true := by kernel_rfl
theorem eo122 : bB prog 122 = true := by kernel_rfl
theorem eo123 : bB prog 123 = true := by kernel_rfl
theorem eo125 : bB prog 125 = true := by kernel_rfl
theorem eo126 : bB prog 126 = true := by kernel_rfl
theorem eo127 : bB prog 127 = true := by kernel_rfl
theorem eo128 : bB prog 128 = true := by kernel_rfl
theorem eo130 : bB prog 130 = true := by kernel_rfl
theorem eo131 : bB prog 131 = true := by kernel_rfl
theorem eo132 : bB prog 132 = true := by kernel_rfl
theorem eo134 : bB prog 134 = true := by kernel_rfl
theorem eo135 : bB prog 135 = true := by kernel_rfl
theorem eo136 : bB prog 136 = true := by kernel_rfl
theorem eo138 : bB prog 138 = true := by kernel_rfl
theorem eo139 : bB prog 139 = true := by kernel_rfl
theorem eo140 : bB prog 140 = true := by kernel_rfl
theorem eo142 : bB prog 142 = true := by kernel_rfl
theorem eo143 : bB prog 143 = true := by kernel_rfl
theorem eo146 : bB prog 146 = true := by kernel_rfl
theorem eo147 : bB prog 147 = true := by kernel_rfl
theorem eo148 : bB prog 148 = true := by kernel_rfl
theorem eo149 : bB prog 149 = true := by kernel_rfl
theorem eo150 : bB prog 150 = true := by kernel_rfl
theorem eo152 : bB prog 152 = true := by kernel_rfl
theorem eo154 : bB prog 154 = true := by kernel_rfl
theorem eo155 : bB prog 155 = true := by kernel_rfl
theorem eo156 : bB prog 156 = true := by kernel_rfl
theorem eo157 : bB prog 157 = true := by kernel_rfl
theorem eo158 : bB prog 158 = true := by kernel_rfl
theorem eo159 : bB prog 159 = true := by kernel_rfl
theorem eo161 : bB prog 161 = true := by kernel_rfl
theorem eo162 : bB prog 162 = true := by kernel_rfl
theorem eo163 : bB prog 163 = true := by kernel_rfl
theorem eo164 : bB prog 164 = true := by kernel_rfl
theorem eo165 : bB prog 165 = true := by kernel_rfl
theorem eo166 : bB prog 166 = true := by kernel_rfl
theorem eo167 : bB prog 167 = true := by kernel_rfl
theorem eo168 : bB prog 168 = true := by kernel_rfl
theorem eo169 : bB prog 169 = true := by kernel_rfl
theorem eo170 : bB prog 170 = true := by kernel_rfl
theorem eo171 : bB prog 171 = true := by kernel_rfl
theorem eo172 : bB prog 172 = true := by kernel_rfl
theorem eo174 : bB prog 174 = true := by kernel_rfl
theorem eo175 : bB prog 175 = true := by kernel_rfl
theorem eo176 : bB prog 176 = true := by kernel_rfl
theorem eo185 : bB prog 185 = true := by kernel_rfl
theorem strTy : strTy prog = some 9 := by kernel_rfl
theorem z8_5 : bk prog 5 = .int .u8 0 := by kernel_rfl
theorem ca3 : ak prog 3 = true := by kernel_rfl
theorem ca4 : ak prog 4 = true := by kernel_rfl
theorem ca5 : ak prog 5 = true := by kernel_rfl
theorem ca6 : ak prog 6 = true := by kernel_rfl
theorem ca7 : ak prog 7 = true := by kernel_rfl
theorem ca8 : ak prog 8 = true := by kernel_rfl
theorem ca9 : ak prog 9 = true := by kernel_rfl
theorem ca10 : ak prog 10 = true := by kernel_rfl
theorem ca11 : ak prog 11 = true := by kernel_rfl
theorem ca12 : ak prog 12 = true := by kernel_rfl
theorem ca13 : ak prog 13 = true := by kernel_rfl
theorem ca14 : ak prog 14 = true := by kernel_rfl
theorem ca15 : ak prog 15 = true := by kernel_rfl
theorem ca16 : ak prog 16 = true := by kernel_rfl
theorem ca17 : ak prog 17 = true := by kernel_rfl
theorem ca18 : ak prog 18 = true := by kernel_rfl
theorem ca19 : ak prog 19 = true := by kernel_rfl
theorem ca20 : ak prog 20 = true := by kernel_rfl
theorem ca21 : ak prog 21 = true := by kernel_rfl
theorem ca22 : ak prog 22 = true := by kernel_rfl
theorem ca23 : ak prog 23 = true := by kernel_rfl
theorem ca24 : ak prog 24 = true := by kernel_rfl
theorem ca25 : ak prog 25 = true := by kernel_rfl
theorem ca26 : ak prog 26 = true := by kernel_rfl
theorem ca27 : ak prog 27 = true := by kernel_rfl
theorem ca28 : ak prog 28 = true := by kernel_rfl
theorem ca29 : ak prog 29 = true := by kernel_rfl
theorem ca30 : ak prog 30 = true := by kernel_rfl
theorem ca31 : ak prog 31 = true := by kernel_rfl
theorem ca32 : ak prog 32 = true := by kernel_rfl
theorem ca33 : ak prog 33 = true := by kernel_rfl
theorem ca34 : ak prog 34 = true := by kernel_rfl
theorem ca35 : ak prog 35 = true := by kernel_rfl
theorem ca36 : ak prog 36 = true := by kernel_rfl
theorem ca37 : ak prog 37 = true := by kernel_rfl
theorem ca38 : ak prog 38 = true := by kernel_rfl
theorem ca39 : ak prog 39 = true := by kernel_rfl
theorem ca40 : ak prog 40 = true := by kernel_rfl
theorem ca41 : ak prog 41 = true := by kernel_rfl
theorem ca42 : ak prog 42 = true := by kernel_rfl
theorem ca43 : ak prog 43 = true := by kernel_rfl
theorem ca44 : ak prog 44 = true := by kernel_rfl
theorem ca45 : ak prog 45 = true := by kernel_rfl
theorem ca46 : ak prog 46 = true := by kernel_rfl
theorem ca47 : ak prog 47 = true := by kernel_rfl
theorem ca48 : ak prog 48 = true := by kernel_rfl
theorem ca49 : ak prog 49 = true := by kernel_rfl
theorem ca50 : ak prog 50 = true := by kernel_rfl
theorem ca51 : ak prog 51 = true := by kernel_rfl
theorem ca52 : ak prog 52 = true := by kernel_rfl
theorem ca53 : ak prog 53 = true := by kernel_rfl
theorem ca54 : ak prog 54 = true := by kernel_rfl
theorem ca55 : ak prog 55 = true := by kernel_rfl
theorem ca56 : ak prog 56 = true := by kernel_rfl
theorem ca57 : ak prog 57 = true := by kernel_rfl
theorem ca58 : ak prog 58 = true := by kernel_rfl
theorem ca59 : ak prog 59 = true := by kernel_rfl
theorem ca60 : ak prog 60 = true := by kernel_rfl
theorem ca61 : ak prog 61 = true := by kernel_rfl
theorem ca62 : ak prog 62 = true := by kernel_rfl
theorem ca63 : ak prog 63 = true := by kernel_rfl
theorem ca64 : ak prog 64 = true := by kernel_rfl
theorem ca65 : ak prog 65 = true := by kernel_rfl
theorem ca66 : ak prog 66 = true := by kernel_rfl
theorem ca67 : ak prog 67 = true := by kernel_rfl
theorem ca68 : ak prog 68 = true := by kernel_rfl
theorem ca69 : ak prog 69 = true := by kernel_rfl
theorem ca70 : ak prog 70 = true := by kernel_rfl
theorem ca71 : ak prog 71 = true := by kernel_rfl
theorem ca72 : ak prog 72 = true := by kernel_rfl
theorem ca73 : ak prog 73 = true := by kernel_rfl
theorem ca74 : ak prog 74 = true := by kernel_rfl
theorem ca75 : ak prog 75 = true := by kernel_rfl
theorem ca76 : ak prog 76 = true := by kernel_rfl
theorem ca77 : ak prog 77 = true := by kernel_rfl
theorem ca78 : ak prog 78 = true := by kernel_rfl
theorem ca79 : ak prog 79 = true := by kernel_rfl
theorem ca80 : ak prog 80 = true := by kernel_rfl
theorem ca81 : ak prog 81 = true := by kernel_rfl
theorem ca82 : ak prog 82 = true := by kernel_rfl
theorem ca83 : ak prog 83 = true := by kernel_rfl
theorem ca84 : ak prog 84 = true := by kernel_rfl
theorem ca85 : ak prog 85 = true := by kernel_rfl
theorem ca86 : ak prog 86 = true := by kernel_rfl
theorem ca87 : ak prog 87 = true := by kernel_rfl
theorem ca88 : ak prog 88 = true := by kernel_rfl
theorem ca89 : ak prog 89 = true := by kernel_rfl
theorem ca90 : ak prog 90 = true := by kernel_rfl
theorem ca91 : ak prog 91 = true := by kernel_rfl
theorem ca92 : ak prog 92 = true := by kernel_rfl
theorem ca93 : ak prog 93 = true := by kernel_rfl
theorem ca94 : ak prog 94 = true := by kernel_rfl
theorem ca95 : ak prog 95 = true := by kernel_rfl
theorem ca96 : ak prog 96 = true := by kernel_rfl
theorem ca97 : ak prog 97 = true := by kernel_rfl
theorem ca98 : ak prog 98 = true := by kernel_rfl
theorem ca99 : ak prog 99 = true := by kernel_rfl
theorem ca100 : ak prog 100 = true := by kernel_rfl
theorem ca101 : ak prog 101 = true := by kernel_rfl
theorem ca102 : ak prog 102 = true := by kernel_rfl
theorem ca103 : ak prog 103 = true := by kernel_rfl
theorem ca104 : ak prog 104 = true := by kernel_rfl
theorem ca105 : ak prog 105 = true := by kernel_rfl
theorem ca106 : ak prog 106 = true := by kernel_rfl
theorem ca107 : ak prog 107 = true := by kernel_rfl
theorem ca108 : ak prog 108 = true := by kernel_rfl
theorem ca109 : ak prog 109 = true := by kernel_rfl
theorem ca110 : ak prog 110 = true := by kernel_rfl
theorem ca111 : ak prog 111 = true := by kernel_rfl
theorem ca113 : ak prog 113 = true := by kernel_rfl
theorem ca114 : ak prog 114 = true := by kernel_rfl
theorem ca115 : ak prog 115 = true := by kernel_rfl
theorem ca116 : ak prog 116 = true := by kernel_rfl
theorem ca117 : ak prog 117 = true := by kernel_rfl
theorem ca118 : ak prog 118 = true := by kernel_rfl
theorem ca119 : ak prog 119 = true := by kernel_rfl
theorem ca120 : ak prog 120 = true := by kernel_rfl
set_option maxRecDepth 100000 in
def facts := And.intro underlying1 <|
 And.intro eo1 <|
 And.intro underlying2 <|
 And.intro sz2 <|
 And.intro by2 <|
 And.intro ha2 <|
 And.intro ze2 <|
 And.intro zn2 <|
 And.intro zv2 <|
 And.intro underlying3 <|
 And.intro sz3 <|
 And.intro by3 <|
 And.intro ha3 <|
 And.intro ze3 <|
 And.intro zn3 <|
 And.intro zv3 <|
 And.intro underlying4 <|
 And.intro sz4 <|
 And.intro by4 <|
 And.intro ha4 <|
 And.intro eo4 <|
 And.intro ze4 <|
 And.intro zn4 <|
 And.intro zv4 <|
 And.intro underlying5 <|
 And.intro z8_5 <|
 And.intro sz5 <|
 And.intro by5 <|
 And.intro ha5 <|
 And.intro ze5 <|
 And.intro zn5 <|
 And.intro zv5 <|
 And.intro underlying9 <|
 And.intro sz9 <|
 And.intro by9 <|
 And.intro ha9 <|
 And.intro ze9 <|
 And.intro zn9 <|
 And.intro zv9 <|
 And.intro underlying12 <|
 And.intro sz12 <|
 And.intro by12 <|
 And.intro ha12 <|
 And.intro ze12 <|
 And.intro zn12 <|
 And.intro zv12 <|
 And.intro underlying21 <|
 And.intro sz21 <|
 And.intro by21 <|
 And.intro ha21 <|
 And.intro ze21 <|
 And.intro zn21 <|
 And.intro zv21 <|
 And.intro underlying22 <|
 And.intro sz22 <|
 And.intro by22 <|
 And.intro ha22 <|
 And.intro ze22 <|
 And.intro zn22 <|
 And.intro zv22 <|
 And.intro underlying23 <|
 And.intro sz23 <|
 And.intro by23 <|
 And.intro ha23 <|
 And.intro eo23 <|
 And.intro ze23 <|
 And.intro zn23 <|
 And.intro zv23 <|
 And.intro underlying24 <|
 And.intro sz24 <|
 And.intro by24 <|
 And.intro ha24 <|
 And.intro eo24 <|
 And.intro ze24 <|
 And.intro zn24 <|
 And.intro zv24 <|
 And.intro underlying25 <|
 And.intro eo25 <|
 And.intro underlying26 <|
 And.intro eo26 <|
 And.intro underlying27 <|
 And.intro sz27 <|
 And.intro by27 <|
 And.intro ha27 <|
 And.intro eo27 <|
 And.intro ze27 <|
 And.intro zn27 <|
 And.intro zv27 <|
 And.intro underlying28 <|
 And.intro sz28 <|
 And.intro by28 <|
 And.intro ha28 <|
 And.intro ze28 <|
 And.intro zn28 <|
 And.intro zv28 <|
 And.intro underlying29 <|
 And.intro sz29 <|
 And.intro by29 <|
 And.intro ha29 <|
 And.intro ze29 <|
 And.intro zn29 <|
 And.intro zv29 <|
 And.intro underlying30 <|
 And.intro sz30 <|
 And.intro by30 <|
 And.intro ha30 <|
 And.intro ze30 <|
 And.intro zn30 <|
 And.intro zv30 <|
 And.intro underlying32 <|
 And.intro eo32 <|
 And.intro underlying33 <|
 And.intro sz33 <|
 And.intro by33 <|
 And.intro ha33 <|
 And.intro ze33 <|
 And.intro zn33 <|
 And.intro zv33 <|
 And.intro underlying35 <|
 And.intro eo35 <|
 And.intro underlying36 <|
 And.intro eo36 <|
 And.intro underlying37 <|
 And.intro eo37 <|
 And.intro underlying38 <|
 And.intro eo38 <|
 And.intro underlying39 <|
 And.intro eo39 <|
 And.intro underlying40 <|
 And.intro eo40 <|
 And.intro underlying41 <|
 And.intro eo41 <|
 And.intro underlying42 <|
 And.intro eo42 <|
 And.intro underlying44 <|
 And.intro eo44 <|
 And.intro underlying45 <|
 And.intro eo45 <|
 And.intro underlying46 <|
 And.intro sz46 <|
 And.intro by46 <|
 And.intro ha46 <|
 And.intro ze46 <|
 And.intro zn46 <|
 And.intro zv46 <|
 And.intro underlying47 <|
 And.intro eo47 <|
 And.intro underlying48 <|
 And.intro eo48 <|
 And.intro underlying49 <|
 And.intro sz49 <|
 And.intro by49 <|
 And.intro ha49 <|
 And.intro eo49 <|
 And.intro ze49 <|
 And.intro zn49 <|
 And.intro zv49 <|
 And.intro eq49 <|
 And.intro ck49 <|
 And.intro underlying50 <|
 And.intro sz50 <|
 And.intro by50 <|
 And.intro ha50 <|
 And.intro eo50 <|
 And.intro ze50 <|
 And.intro zn50 <|
 And.intro zv50 <|
 And.intro eq50 <|
 And.intro ck50 <|
 And.intro underlying51 <|
 And.intro sz51 <|
 And.intro by51 <|
 And.intro ha51 <|
 And.intro eo51 <|
 And.intro ze51 <|
 And.intro zn51 <|
 And.intro zv51 <|
 And.intro eq51 <|
 And.intro ck51 <|
 And.intro underlying52 <|
 And.intro sz52 <|
 And.intro by52 <|
 And.intro ha52 <|
 And.intro eo52 <|
 And.intro ze52 <|
 And.intro zn52 <|
 And.intro zv52 <|
 And.intro eq52 <|
 And.intro ck52 <|
 And.intro underlying53 <|
 And.intro sz53 <|
 And.intro by53 <|
 And.intro ha53 <|
 And.intro eo53 <|
 And.intro ze53 <|
 And.intro zn53 <|
 And.intro zv53 <|
 And.intro eq53 <|
 And.intro ck53 <|
 And.intro underlying54 <|
 And.intro sz54 <|
 And.intro by54 <|
 And.intro ha54 <|
 And.intro eo54 <|
 And.intro ze54 <|
 And.intro zn54 <|
 And.intro zv54 <|
 And.intro eq54 <|
 And.intro ck54 <|
 And.intro underlying55 <|
 And.intro sz55 <|
 And.intro by55 <|
 And.intro ha55 <|
 And.intro eo55 <|
 And.intro ze55 <|
 And.intro zn55 <|
 And.intro zv55 <|
 And.intro eq55 <|
 And.intro ck55 <|
 And.intro underlying56 <|
 And.intro sz56 <|
 And.intro by56 <|
 And.intro ha56 <|
 And.intro eo56 <|
 And.intro ze56 <|
 And.intro zn56 <|
 And.intro zv56 <|
 And.intro eq56 <|
 And.intro ck56 <|
 And.intro underlying57 <|
 And.intro sz57 <|
 And.intro by57 <|
 And.intro ha57 <|
 And.intro eo57 <|
 And.intro ze57 <|
 And.intro zn57 <|
 And.intro underlying58 <|
 And.intro sz58 <|
 And.intro by58 <|
 And.intro ha58 <|
 And.intro eo58 <|
 And.intro ze58 <|
 And.intro zn58 <|
 And.intro underlying59 <|
 And.intro eo59 <|
 And.intro underlying60 <|
 And.intro eo60 <|
 And.intro underlying61 <|
 And.intro eo61 <|
 And.intro underlying62 <|
 And.intro sz62 <|
 And.intro by62 <|
 And.intro ha62 <|
 And.intro ze62 <|
 And.intro zn62 <|
 And.intro zv62 <|
 And.intro underlying64 <|
 And.intro sz64 <|
 And.intro by64 <|
 And.intro ha64 <|
 And.intro eo64 <|
 And.intro ze64 <|
 And.intro zn64 <|
 And.intro zv64 <|
 And.intro underlying65 <|
 And.intro sz65 <|
 And.intro by65 <|
 And.intro ha65 <|
 And.intro eo65 <|
 And.intro ze65 <|
 And.intro zn65 <|
 And.intro zv65 <|
 And.intro underlying66 <|
 And.intro sz66 <|
 And.intro by66 <|
 And.intro ha66 <|
 And.intro ze66 <|
 And.intro zn66 <|
 And.intro zv66 <|
 And.intro underlying67 <|
 And.intro sz67 <|
 And.intro by67 <|
 And.intro ha67 <|
 And.intro eo67 <|
 And.intro ze67 <|
 And.intro zn67 <|
 And.intro zv67 <|
 And.intro underlying68 <|
 And.intro sz68 <|
 And.intro by68 <|
 And.intro ha68 <|
 And.intro eo68 <|
 And.intro ze68 <|
 And.intro zn68 <|
 And.intro zv68 <|
 And.intro underlying69 <|
 And.intro sz69 <|
 And.intro by69 <|
 And.intro ha69 <|
 And.intro ze69 <|
 And.intro zn69 <|
 And.intro zv69 <|
 And.intro underlying70 <|
 And.intro sz70 <|
 And.intro by70 <|
 And.intro ha70 <|
 And.intro ze70 <|
 And.intro zn70 <|
 And.intro zv70 <|
 And.intro underlying71 <|
 And.intro eo71 <|
 And.intro underlying72 <|
 And.intro sz72 <|
 And.intro by72 <|
 And.intro ha72 <|
 And.intro ze72 <|
 And.intro zn72 <|
 And.intro zv72 <|
 And.intro underlying73 <|
 And.intro sz73 <|
 And.intro by73 <|
 And.intro ha73 <|
 And.intro ze73 <|
 And.intro zn73 <|
 And.intro zv73 <|
 And.intro underlying74 <|
 And.intro sz74 <|
 And.intro by74 <|
 And.intro ha74 <|
 And.intro ze74 <|
 And.intro zn74 <|
 And.intro zv74 <|
 And.intro underlying75 <|
 And.intro eo75 <|
 And.intro underlying76 <|
 And.intro eo76 <|
 And.intro underlying78 <|
 And.intro eo78 <|
 And.intro underlying79 <|
 And.intro sz79 <|
 And.intro by79 <|
 And.intro ha79 <|
 And.intro ze79 <|
 And.intro zn79 <|
 And.intro zv79 <|
 And.intro underlying80 <|
 And.intro eo80 <|
 And.intro underlying81 <|
 And.intro sz81 <|
 And.intro by81 <|
 And.intro ha81 <|
 And.intro eo81 <|
 And.intro ze81 <|
 And.intro zn81 <|
 And.intro zv81 <|
 And.intro eq81 <|
 And.intro ck81 <|
 And.intro underlying82 <|
 And.intro sz82 <|
 And.intro by82 <|
 And.intro ha82 <|
 And.intro eo82 <|
 And.intro ze82 <|
 And.intro zn82 <|
 And.intro zv82 <|
 And.intro eq82 <|
 And.intro ck82 <|
 And.intro underlying83 <|
 And.intro eo83 <|
 And.intro underlying84 <|
 And.intro sz84 <|
 And.intro by84 <|
 And.intro ha84 <|
 And.intro ze84 <|
 And.intro zn84 <|
 And.intro zv84 <|
 And.intro underlying85 <|
 And.intro eo85 <|
 And.intro underlying86 <|
 And.intro eo86 <|
 And.intro underlying87 <|
 And.intro eo87 <|
 And.intro underlying88 <|
 And.intro eo88 <|
 And.intro underlying89 <|
 And.intro eo89 <|
 And.intro underlying90 <|
 And.intro sz90 <|
 And.intro by90 <|
 And.intro ha90 <|
 And.intro eo90 <|
 And.intro ze90 <|
 And.intro zn90 <|
 And.intro zv90 <|
 And.intro underlying91 <|
 And.intro eo91 <|
 And.intro underlying93 <|
 And.intro sz93 <|
 And.intro by93 <|
 And.intro ha93 <|
 And.intro eo93 <|
 And.intro ze93 <|
 And.intro zn93 <|
 And.intro zv93 <|
 And.intro eq93 <|
 And.intro ck93 <|
 And.intro underlying94 <|
 And.intro eo94 <|
 And.intro underlying95 <|
 And.intro eo95 <|
 And.intro underlying96 <|
 And.intro sz96 <|
 And.intro by96 <|
 And.intro ha96 <|
 And.intro eo96 <|
 And.intro ze96 <|
 And.intro zn96 <|
 And.intro zv96 <|
 And.intro eq96 <|
 And.intro ck96 <|
 And.intro underlying97 <|
 And.intro sz97 <|
 And.intro by97 <|
 And.intro ha97 <|
 And.intro eo97 <|
 And.intro ze97 <|
 And.intro zn97 <|
 And.intro zv97 <|
 And.intro eq97 <|
 And.intro ck97 <|
 And.intro underlying98 <|
 And.intro sz98 <|
 And.intro by98 <|
 And.intro ha98 <|
 And.intro eo98 <|
 And.intro ze98 <|
 And.intro zn98 <|
 And.intro zv98 <|
 And.intro underlying99 <|
 And.intro sz99 <|
 And.intro by99 <|
 And.intro ha99 <|
 And.intro eo99 <|
 And.intro ze99 <|
 And.intro zn99 <|
 And.intro zv99 <|
 And.intro underlying100 <|
 And.intro eo100 <|
 And.intro underlying101 <|
 And.intro eo101 <|
 And.intro underlying102 <|
 And.intro eo102 <|
 And.intro underlying103 <|
 And.intro eo103 <|
 And.intro underlying104 <|
 And.intro eo104 <|
 And.intro underlying105 <|
 And.intro sz105 <|
 And.intro by105 <|
 And.intro ha105 <|
 And.intro ze105 <|
 And.intro zn105 <|
 And.intro zv105 <|
 And.intro underlying106 <|
 And.intro sz106 <|
 And.intro by106 <|
 And.intro ha106 <|
 And.intro ze106 <|
 And.intro zn106 <|
 And.intro zv106 <|
 And.intro underlying107 <|
 And.intro sz107 <|
 And.intro by107 <|
 And.intro ha107 <|
 And.intro ze107 <|
 And.intro zn107 <|
 And.intro zv107 <|
 And.intro underlying108 <|
 And.intro sz108 <|
 And.intro by108 <|
 And.intro ha108 <|
 And.intro eo108 <|
 And.intro ze108 <|
 And.intro zn108 <|
 And.intro zv108 <|
 And.intro underlying109 <|
 And.intro sz109 <|
 And.intro by109 <|
 And.intro ha109 <|
 And.intro ze109 <|
 And.intro zn109 <|
 And.intro zv109 <|
 And.intro underlying110 <|
 And.intro sz110 <|
 And.intro by110 <|
 And.intro ha110 <|
 And.intro ze110 <|
 And.intro zn110 <|
 And.intro zv110 <|
 And.intro underlying112 <|
 And.intro eo112 <|
 And.intro underlying113 <|
 And.intro eo113 <|
 And.intro underlying114 <|
 And.intro eo114 <|
 And.intro underlying115 <|
 And.intro eo115 <|
 And.intro underlying116 <|
 And.intro sz116 <|
 And.intro by116 <|
 And.intro ha116 <|
 And.intro eo116 <|
 And.intro ze116 <|
 And.intro zn116 <|
 And.intro zv116 <|
 And.intro underlying117 <|
 And.intro eo117 <|
 And.intro underlying118 <|
 And.intro sz118 <|
 And.intro by118 <|
 And.intro ha118 <|
 And.intro ze118 <|
 And.intro zn118 <|
 And.intro zv118 <|
 And.intro underlying119 <|
 And.intro sz119 <|
 And.intro by119 <|
 And.intro ha119 <|
 And.intro ze119 <|
 And.intro zn119 <|
 And.intro zv119 <|
 And.intro underlying121 <|
 And.intro eo121 <|
 And.intro underlying122 <|
 And.intro eo122 <|
 And.intro underlying123 <|
 And.intro eo123 <|
 And.intro underlying124 <|
 And.intro sz124 <|
 And.intro by124 <|
 And.intro ha124 <|
 And.intro ze124 <|
 And.intro zn124 <|
 And.intro zv124 <|
 And.intro underlying125 <|
 And.intro eo125 <|
 And.intro underlying126 <|
 And.intro eo126 <|
 And.intro underlying127 <|
 And.intro eo127 <|
 And.intro underlying128 <|
 And.intro eo128 <|
 And.intro underlying130 <|
 And.intro eo130 <|
 And.intro underlying131 <|
 And.intro eo131 <|
 And.intro underlying132 <|
 And.intro eo132 <|
 And.intro underlying133 <|
 And.intro sz133 <|
 And.intro by133 <|
 And.intro ha133 <|
 And.intro ze133 <|
 And.intro zn133 <|
 And.intro zv133 <|
 And.intro underlying134 <|
 And.intro eo134 <|
 And.intro underlying135 <|
 And.intro eo135 <|
 And.intro underlying136 <|
 And.intro eo136 <|
 And.intro underlying138 <|
 And.intro eo138 <|
 And.intro underlying139 <|
 And.intro sz139 <|
 And.intro by139 <|
 And.intro ha139 <|
 And.intro eo139 <|
 And.intro ze139 <|
 And.intro zn139 <|
 And.intro zv139 <|
 And.intro eq139 <|
 And.intro ck139 <|
 And.intro underlying140 <|
 And.intro sz140 <|
 And.intro by140 <|
 And.intro ha140 <|
 And.intro eo140 <|
 And.intro ze140 <|
 And.intro zn140 <|
 And.intro zv140 <|
 And.intro eq140 <|
 And.intro ck140 <|
 And.intro underlying141 <|
 And.intro sz141 <|
 And.intro by141 <|
 And.intro ha141 <|
 And.intro ze141 <|
 And.intro zn141 <|
 And.intro zv141 <|
 And.intro underlying142 <|
 And.intro eo142 <|
 And.intro underlying143 <|
 And.intro eo143 <|
 And.intro underlying144 <|
 And.intro sz144 <|
 And.intro by144 <|
 And.intro ha144 <|
 And.intro ze144 <|
 And.intro zn144 <|
 And.intro zv144 <|
 And.intro underlying146 <|
 And.intro eo146 <|
 And.intro underlying147 <|
 And.intro eo147 <|
 And.intro underlying148 <|
 And.intro eo148 <|
 And.intro underlying149 <|
 And.intro eo149 <|
 And.intro underlying150 <|
 And.intro eo150 <|
 And.intro underlying151 <|
 And.intro sz151 <|
 And.intro by151 <|
 And.intro ha151 <|
 And.intro ze151 <|
 And.intro zn151 <|
 And.intro zv151 <|
 And.intro underlying152 <|
 And.intro eo152 <|
 And.intro underlying153 <|
 And.intro sz153 <|
 And.intro by153 <|
 And.intro ha153 <|
 And.intro ze153 <|
 And.intro zn153 <|
 And.intro zv153 <|
 And.intro underlying154 <|
 And.intro eo154 <|
 And.intro underlying155 <|
 And.intro eo155 <|
 And.intro underlying156 <|
 And.intro eo156 <|
 And.intro underlying157 <|
 And.intro eo157 <|
 And.intro underlying158 <|
 And.intro eo158 <|
 And.intro underlying159 <|
 And.intro eo159 <|
 And.intro underlying160 <|
 And.intro sz160 <|
 And.intro by160 <|
 And.intro ha160 <|
 And.intro ze160 <|
 And.intro zn160 <|
 And.intro zv160 <|
 And.intro underlying161 <|
 And.intro eo161 <|
 And.intro underlying162 <|
 And.intro eo162 <|
 And.intro underlying163 <|
 And.intro eo163 <|
 And.intro underlying164 <|
 And.intro sz164 <|
 And.intro by164 <|
 And.intro ha164 <|
 And.intro eo164 <|
 And.intro ze164 <|
 And.intro zn164 <|
 And.intro zv164 <|
 And.intro underlying165 <|
 And.intro eo165 <|
 And.intro underlying166 <|
 And.intro eo166 <|
 And.intro underlying167 <|
 And.intro eo167 <|
 And.intro underlying168 <|
 And.intro eo168 <|
 And.intro underlying169 <|
 And.intro eo169 <|
 And.intro underlying170 <|
 And.intro eo170 <|
 And.intro underlying171 <|
 And.intro eo171 <|
 And.intro underlying172 <|
 And.intro sz172 <|
 And.intro by172 <|
 And.intro ha172 <|
 And.intro eo172 <|
 And.intro ze172 <|
 And.intro zn172 <|
 And.intro zv172 <|
 And.intro underlying174 <|
 And.intro eo174 <|
 And.intro underlying175 <|
 And.intro eo175 <|
 And.intro underlying176 <|
 And.intro eo176 <|
 And.intro underlying185 <|
 And.intro sz185 <|
 And.intro by185 <|
 And.intro ha185 <|
 And.intro eo185 <|
 And.intro ze185 <|
 And.intro zn185 <|
 And.intro zv185 <|
 And.intro strTy <|
 And.intro ca3 <|
 And.intro ca4 <|
 And.intro ca5 <|
 And.intro ca6 <|
 And.intro ca7 <|
 And.intro ca8 <|
 And.intro ca9 <|
 And.intro ca10 <|
 And.intro ca11 <|
 And.intro ca12 <|
 And.intro ca13 <|
 And.intro ca14 <|
 And.intro ca15 <|
 And.intro ca16 <|
 And.intro ca17 <|
 And.intro ca18 <|
 And.intro ca19 <|
 And.intro ca20 <|
 And.intro ca21 <|
 And.intro ca22 <|
 And.intro ca23 <|
 And.intro ca24 <|
 And.intro ca25 <|
 And.intro ca26 <|
 And.intro ca27 <|
 And.intro ca28 <|
 And.intro ca29 <|
 And.intro ca30 <|
 And.intro ca31 <|
 And.intro ca32 <|
 And.intro ca33 <|
 And.intro ca34 <|
 And.intro ca35 <|
 And.intro ca36 <|
 And.intro ca37 <|
 And.intro ca38 <|
 And.intro ca39 <|
 And.intro ca40 <|
 And.intro ca41 <|
 And.intro ca42 <|
 And.intro ca43 <|
 And.intro ca44 <|
 And.intro ca45 <|
 And.intro ca46 <|
 And.intro ca47 <|
 And.intro ca48 <|
 And.intro ca49 <|
 And.intro ca50 <|
 And.intro ca51 <|
 And.intro ca52 <|
 And.intro ca53 <|
 And.intro ca54 <|
 And.intro ca55 <|
 And.intro ca56 <|
 And.intro ca57 <|
 And.intro ca58 <|
 And.intro ca59 <|
 And.intro ca60 <|
 And.intro ca61 <|
 And.intro ca62 <|
 And.intro ca63 <|
 And.intro ca64 <|
 And.intro ca65 <|
 And.intro ca66 <|
 And.intro ca67 <|
 And.intro ca68 <|
 And.intro ca69 <|
 And.intro ca70 <|
 And.intro ca71 <|
 And.intro ca72 <|
 And.intro ca73 <|
 And.intro ca74 <|
 And.intro ca75 <|
 And.intro ca76 <|
 And.intro ca77 <|
 And.intro ca78 <|
 And.intro ca79 <|
 And.intro ca80 <|
 And.intro ca81 <|
 And.intro ca82 <|
 And.intro ca83 <|
 And.intro ca84 <|
 And.intro ca85 <|
 And.intro ca86 <|
 And.intro ca87 <|
 And.intro ca88 <|
 And.intro ca89 <|
 And.intro ca90 <|
 And.intro ca91 <|
 And.intro ca92 <|
 And.intro ca93 <|
 And.intro ca94 <|
 And.intro ca95 <|
 And.intro ca96 <|
 And.intro ca97 <|
 And.intro ca98 <|
 And.intro ca99 <|
 And.intro ca100 <|
 And.intro ca101 <|
 And.intro ca102 <|
 And.intro ca103 <|
 And.intro ca104 <|
 And.intro ca105 <|
 And.intro ca106 <|
 And.intro ca107 <|
 And.intro ca108 <|
 And.intro ca109 <|
 And.intro ca110 <|
 And.intro ca111 <|
 And.intro ca113 <|
 And.intro ca114 <|
 And.intro ca115 <|
 And.intro ca116 <|
 And.intro ca117 <|
 And.intro ca118 <|
 And.intro ca119 <| ca120
end Go.Proofs.Tryz
