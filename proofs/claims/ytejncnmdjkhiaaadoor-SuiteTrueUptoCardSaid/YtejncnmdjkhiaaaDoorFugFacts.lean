/-
  Facts of the seat's program: sizes of types, functions that have bodies. By program.
  Conditions: none.
-/
import Derived.Test.YtejncnmdjkhiaaaDoorProg
import Derived.Test.YtejncnmdjkhiaaaDoorAbsG5
set_option linter.all false
set_option linter.unusedSimpArgs false
namespace Go.Proofs.Tryd
open Go Go.Abs
theorem mixed : prog.follows .mixedOrders = true := by kernel_rfl
theorem sz2 : ai prog 2 = 1 := by kernel_rfl
theorem by2 : ay prog 2 = 8 := by kernel_rfl
theorem ze2 : aq prog 2 = [.sc (.int .i64 0)] := by kernel_rfl
theorem zn2 : ap prog 2 = [.sc (.int .i64 0)] := by kernel_rfl
theorem ha2 : ax prog 2 = true := by kernel_rfl
theorem sz3 : ai prog 3 = 1 := by kernel_rfl
theorem by3 : ay prog 3 = 8 := by kernel_rfl
theorem ze3 : aq prog 3 = [.sc (.int .i64 0)] := by kernel_rfl
theorem zn3 : ap prog 3 = [.sc (.int .i64 0)] := by kernel_rfl
theorem ha3 : ax prog 3 = true := by kernel_rfl
theorem sz4 : ai prog 4 = 1 := by kernel_rfl
theorem by4 : ay prog 4 = 1 := by kernel_rfl
theorem ze4 : aq prog 4 = [.sc (.bool false)] := by kernel_rfl
theorem zn4 : ap prog 4 = [.sc (.bool false)] := by kernel_rfl
theorem ha4 : ax prog 4 = true := by kernel_rfl
theorem sz5 : ai prog 5 = 1 := by kernel_rfl
theorem by5 : ay prog 5 = 1 := by kernel_rfl
theorem ze5 : aq prog 5 = [.sc (.int .u8 0)] := by kernel_rfl
theorem zn5 : ap prog 5 = [.sc (.int .u8 0)] := by kernel_rfl
theorem ha5 : ax prog 5 = true := by kernel_rfl
theorem sz9 : ai prog 9 = 1 := by kernel_rfl
theorem by9 : ay prog 9 = 16 := by kernel_rfl
theorem ze9 : aq prog 9 = [.sc (.string ⟨#[]⟩)] := by kernel_rfl
theorem zn9 : ap prog 9 = [.sc (.string ⟨#[]⟩)] := by kernel_rfl
theorem ha9 : ax prog 9 = true := by kernel_rfl
theorem sz12 : ai prog 12 = 1 := by kernel_rfl
theorem by12 : ay prog 12 = 8 := by kernel_rfl
theorem ze12 : aq prog 12 = [.sc (.int .u64 0)] := by kernel_rfl
theorem zn12 : ap prog 12 = [.sc (.int .u64 0)] := by kernel_rfl
theorem ha12 : ax prog 12 = true := by kernel_rfl
theorem sz21 : ai prog 21 = 1 := by kernel_rfl
theorem by21 : ay prog 21 = 4 := by kernel_rfl
theorem ze21 : aq prog 21 = [.sc (.int .i32 0)] := by kernel_rfl
theorem zn21 : ap prog 21 = [.sc (.int .i32 0)] := by kernel_rfl
theorem ha21 : ax prog 21 = true := by kernel_rfl
theorem sz22 : ai prog 22 = 1 := by kernel_rfl
theorem by22 : ay prog 22 = 24 := by kernel_rfl
theorem ze22 : aq prog 22 = [.imm 0 [] 0] := by kernel_rfl
theorem zn22 : ap prog 22 = [.sc (.slice none 0 0)] := by kernel_rfl
theorem ha22 : ax prog 22 = true := by kernel_rfl
theorem sz24 : ai prog 24 = 1 := by kernel_rfl
theorem by24 : ay prog 24 = 8 := by kernel_rfl
theorem ze24 : aq prog 24 = [.sc (.pointer none)] := by kernel_rfl
theorem zn24 : ap prog 24 = [.sc (.pointer none)] := by kernel_rfl
theorem ha24 : ax prog 24 = true := by kernel_rfl
theorem sz31 : ai prog 31 = 1 := by kernel_rfl
theorem by31 : ay prog 31 = 8 := by kernel_rfl
theorem ze31 : aq prog 31 = [.sc (.pointer none)] := by kernel_rfl
theorem zn31 : ap prog 31 = [.sc (.pointer none)] := by kernel_rfl
theorem ha31 : ax prog 31 = true := by kernel_rfl
theorem sz34 : ai prog 34 = 2 := by kernel_rfl
theorem by34 : ay prog 34 = 32 := by kernel_rfl
theorem ze34 : aq prog 34 = [.imm 0 [] 0,.sc (.int .i64 0)] := by kernel_rfl
theorem zn34 : ap prog 34 = [.sc (.slice none 0 0),.sc (.int .i64 0)] := by kernel_rfl
theorem ha34 : ax prog 34 = true := by kernel_rfl
theorem sz35 : ai prog 35 = 2 := by kernel_rfl
theorem by35 : ay prog 35 = 32 := by kernel_rfl
theorem ze35 : aq prog 35 = [.imm 0 [] 0,.sc (.int .i64 0)] := by kernel_rfl
theorem zn35 : ap prog 35 = [.sc (.slice none 0 0),.sc (.int .i64 0)] := by kernel_rfl
theorem ha35 : ax prog 35 = true := by kernel_rfl
theorem sz37 : ai prog 37 = 1 := by kernel_rfl
theorem by37 : ay prog 37 = 8 := by kernel_rfl
theorem ze37 : aq prog 37 = [.sc (.int .i64 0)] := by kernel_rfl
theorem zn37 : ap prog 37 = [.sc (.int .i64 0)] := by kernel_rfl
theorem ha37 : ax prog 37 = true := by kernel_rfl
theorem sz40 : ai prog 40 = 1 := by kernel_rfl
theorem by40 : ay prog 40 = 8 := by kernel_rfl
theorem ze40 : aq prog 40 = [.sc (.map none)] := by kernel_rfl
theorem zn40 : ap prog 40 = [.sc (.map none)] := by kernel_rfl
theorem ha40 : ax prog 40 = true := by kernel_rfl
theorem sz41 : ai prog 41 = 1 := by kernel_rfl
theorem by41 : ay prog 41 = 24 := by kernel_rfl
theorem ze41 : aq prog 41 = [.imm 0 [] 0] := by kernel_rfl
theorem zn41 : ap prog 41 = [.sc (.slice none 0 0)] := by kernel_rfl
theorem ha41 : ax prog 41 = true := by kernel_rfl
theorem sz42 : ai prog 42 = 2 := by kernel_rfl
theorem by42 : ay prog 42 = 32 := by kernel_rfl
theorem ze42 : aq prog 42 = [.imm 0 [] 0,.sc (.map none)] := by kernel_rfl
theorem zn42 : ap prog 42 = [.sc (.slice none 0 0),.sc (.map none)] := by kernel_rfl
theorem ha42 : ax prog 42 = true := by kernel_rfl
theorem sz43 : ai prog 43 = 2 := by kernel_rfl
theorem by43 : ay prog 43 = 32 := by kernel_rfl
theorem ze43 : aq prog 43 = [.imm 0 [] 0,.sc (.map none)] := by kernel_rfl
theorem zn43 : ap prog 43 = [.sc (.slice none 0 0),.sc (.map none)] := by kernel_rfl
theorem ha43 : ax prog 43 = true := by kernel_rfl
theorem sz44 : ai prog 44 = 3 := by kernel_rfl
theorem by44 : ay prog 44 = 40 := by kernel_rfl
theorem ze44 : aq prog 44 = [.imm 0 [] 0,.sc (.map none),.sc (.int .i64 0)] := by kernel_rfl
theorem zn44 : ap prog 44 = [.sc (.slice none 0 0),.sc (.map none),.sc (.int .i64 0)] := by kernel_rfl
theorem ha44 : ax prog 44 = true := by kernel_rfl
theorem sz45 : ai prog 45 = 3 := by kernel_rfl
theorem by45 : ay prog 45 = 40 := by kernel_rfl
theorem ze45 : aq prog 45 = [.imm 0 [] 0,.sc (.map none),.sc (.int .i64 0)] := by kernel_rfl
theorem zn45 : ap prog 45 = [.sc (.slice none 0 0),.sc (.map none),.sc (.int .i64 0)] := by kernel_rfl
theorem ha45 : ax prog 45 = true := by kernel_rfl
theorem sz47 : ai prog 47 = 1 := by kernel_rfl
theorem by47 : ay prog 47 = 8 := by kernel_rfl
theorem ze47 : aq prog 47 = [.sc (.int .u64 0)] := by kernel_rfl
theorem zn47 : ap prog 47 = [.sc (.int .u64 0)] := by kernel_rfl
theorem ha47 : ax prog 47 = true := by kernel_rfl
theorem sz50 : ai prog 50 = 1 := by kernel_rfl
theorem by50 : ay prog 50 = 8 := by kernel_rfl
theorem ze50 : aq prog 50 = [.sc (.pointer none)] := by kernel_rfl
theorem zn50 : ap prog 50 = [.sc (.pointer none)] := by kernel_rfl
theorem ha50 : ax prog 50 = true := by kernel_rfl
theorem sz53 : ai prog 53 = 3 := by kernel_rfl
theorem by53 : ay prog 53 = 24 := by kernel_rfl
theorem ze53 : aq prog 53 = [.sc (.int .i64 0),.sc (.int .i64 0),.sc (.int .i64 0)] := by kernel_rfl
theorem zn53 : ap prog 53 = [.sc (.int .i64 0),.sc (.int .i64 0),.sc (.int .i64 0)] := by kernel_rfl
theorem ha53 : ax prog 53 = true := by kernel_rfl
theorem sz54 : ai prog 54 = 1 := by kernel_rfl
theorem by54 : ay prog 54 = 24 := by kernel_rfl
theorem ze54 : aq prog 54 = [.imm 0 [] 0] := by kernel_rfl
theorem zn54 : ap prog 54 = [.sc (.slice none 0 0)] := by kernel_rfl
theorem ha54 : ax prog 54 = true := by kernel_rfl
theorem sz55 : ai prog 55 = 16 := by kernel_rfl
theorem by55 : ay prog 55 = 160 := by kernel_rfl
theorem ze55 : aq prog 55 = [.sc (.int .i64 0),.sc (.int .i64 0),.sc (.int .i64 0),.sc (.int .i64 0),.sc (.int .i64 0),.sc (.int .i64 0),.sc (.int .i64 0),.sc (.int .i64 0),.sc (.int .i64 0),.sc (.int .i64 0),.sc (.int .i64 0),.sc (.int .i64 0),.sc (.int .i64 0),.sc (.int .i64 0),.imm 0 [] 0,.imm 0 [] 0] := by kernel_rfl
theorem zn55 : ap prog 55 = [.sc (.int .i64 0),.sc (.int .i64 0),.sc (.int .i64 0),.sc (.int .i64 0),.sc (.int .i64 0),.sc (.int .i64 0),.sc (.int .i64 0),.sc (.int .i64 0),.sc (.int .i64 0),.sc (.int .i64 0),.sc (.int .i64 0),.sc (.int .i64 0),.sc (.int .i64 0),.sc (.int .i64 0),.sc (.slice none 0 0),.sc (.slice none 0 0)] := by kernel_rfl
theorem ha55 : ax prog 55 = true := by kernel_rfl
theorem sz56 : ai prog 56 = 16 := by kernel_rfl
theorem by56 : ay prog 56 = 160 := by kernel_rfl
theorem ze56 : aq prog 56 = [.sc (.int .i64 0),.sc (.int .i64 0),.sc (.int .i64 0),.sc (.int .i64 0),.sc (.int .i64 0),.sc (.int .i64 0),.sc (.int .i64 0),.sc (.int .i64 0),.sc (.int .i64 0),.sc (.int .i64 0),.sc (.int .i64 0),.sc (.int .i64 0),.sc (.int .i64 0),.sc (.int .i64 0),.imm 0 [] 0,.imm 0 [] 0] := by kernel_rfl
theorem zn56 : ap prog 56 = [.sc (.int .i64 0),.sc (.int .i64 0),.sc (.int .i64 0),.sc (.int .i64 0),.sc (.int .i64 0),.sc (.int .i64 0),.sc (.int .i64 0),.sc (.int .i64 0),.sc (.int .i64 0),.sc (.int .i64 0),.sc (.int .i64 0),.sc (.int .i64 0),.sc (.int .i64 0),.sc (.int .i64 0),.sc (.slice none 0 0),.sc (.slice none 0 0)] := by kernel_rfl
theorem ha56 : ax prog 56 = true := by kernel_rfl
theorem sz58 : ai prog 58 = 1 := by kernel_rfl
theorem by58 : ay prog 58 = 24 := by kernel_rfl
theorem ze58 : aq prog 58 = [.imm 0 [] 0] := by kernel_rfl
theorem zn58 : ap prog 58 = [.sc (.slice none 0 0)] := by kernel_rfl
theorem ha58 : ax prog 58 = true := by kernel_rfl
theorem sz59 : ai prog 59 = 2 := by kernel_rfl
theorem by59 : ay prog 59 = 32 := by kernel_rfl
theorem ze59 : aq prog 59 = [.sc (.int .u8 0),.imm 0 [] 0] := by kernel_rfl
theorem zn59 : ap prog 59 = [.sc (.int .u8 0),.sc (.slice none 0 0)] := by kernel_rfl
theorem ha59 : ax prog 59 = true := by kernel_rfl
theorem sz60 : ai prog 60 = 2 := by kernel_rfl
theorem by60 : ay prog 60 = 32 := by kernel_rfl
theorem ze60 : aq prog 60 = [.sc (.int .u8 0),.imm 0 [] 0] := by kernel_rfl
theorem zn60 : ap prog 60 = [.sc (.int .u8 0),.sc (.slice none 0 0)] := by kernel_rfl
theorem ha60 : ax prog 60 = true := by kernel_rfl
theorem sz64 : ai prog 64 = 1 := by kernel_rfl
theorem by64 : ay prog 64 = 4 := by kernel_rfl
theorem ze64 : aq prog 64 = [.sc (.int .u32 0)] := by kernel_rfl
theorem zn64 : ap prog 64 = [.sc (.int .u32 0)] := by kernel_rfl
theorem ha64 : ax prog 64 = true := by kernel_rfl
theorem sz65 : ai prog 65 = 8 := by kernel_rfl
theorem by65 : ay prog 65 = 32 := by kernel_rfl
theorem ze65 : aq prog 65 = [.sc (.int .u32 0),.sc (.int .u32 0),.sc (.int .u32 0),.sc (.int .u32 0),.sc (.int .u32 0),.sc (.int .u32 0),.sc (.int .u32 0),.sc (.int .u32 0)] := by kernel_rfl
theorem zn65 : ap prog 65 = [.sc (.int .u32 0),.sc (.int .u32 0),.sc (.int .u32 0),.sc (.int .u32 0),.sc (.int .u32 0),.sc (.int .u32 0),.sc (.int .u32 0),.sc (.int .u32 0)] := by kernel_rfl
theorem ha65 : ax prog 65 = true := by kernel_rfl
theorem sz67 : ai prog 67 = 10 := by kernel_rfl
theorem by67 : ay prog 67 = 64 := by kernel_rfl
theorem ze67 : aq prog 67 = [.sc (.int .u32 0),.sc (.int .u32 0),.sc (.int .u32 0),.sc (.int .u32 0),.sc (.int .u32 0),.sc (.int .u32 0),.sc (.int .u32 0),.sc (.int .u32 0),.imm 0 [] 0,.sc (.int .i64 0)] := by kernel_rfl
theorem zn67 : ap prog 67 = [.sc (.int .u32 0),.sc (.int .u32 0),.sc (.int .u32 0),.sc (.int .u32 0),.sc (.int .u32 0),.sc (.int .u32 0),.sc (.int .u32 0),.sc (.int .u32 0),.sc (.slice none 0 0),.sc (.int .i64 0)] := by kernel_rfl
theorem ha67 : ax prog 67 = true := by kernel_rfl
theorem sz68 : ai prog 68 = 10 := by kernel_rfl
theorem by68 : ay prog 68 = 64 := by kernel_rfl
theorem ze68 : aq prog 68 = [.sc (.int .u32 0),.sc (.int .u32 0),.sc (.int .u32 0),.sc (.int .u32 0),.sc (.int .u32 0),.sc (.int .u32 0),.sc (.int .u32 0),.sc (.int .u32 0),.imm 0 [] 0,.sc (.int .i64 0)] := by kernel_rfl
theorem zn68 : ap prog 68 = [.sc (.int .u32 0),.sc (.int .u32 0),.sc (.int .u32 0),.sc (.int .u32 0),.sc (.int .u32 0),.sc (.int .u32 0),.sc (.int .u32 0),.sc (.int .u32 0),.sc (.slice none 0 0),.sc (.int .i64 0)] := by kernel_rfl
theorem ha68 : ax prog 68 = true := by kernel_rfl
theorem sz70 : ai prog 70 = 14 := by kernel_rfl
theorem by70 : ay prog 70 = 112 := by kernel_rfl
theorem ze70 : aq prog 70 = [.sc (.int .i64 0),.sc (.int .i64 0),.sc (.int .i64 0),.sc (.int .i64 0),.sc (.int .i64 0),.sc (.int .i64 0),.sc (.int .i64 0),.sc (.int .i64 0),.sc (.int .i64 0),.sc (.int .i64 0),.sc (.int .i64 0),.sc (.int .i64 0),.sc (.int .i64 0),.sc (.int .i64 0)] := by kernel_rfl
theorem zn70 : ap prog 70 = [.sc (.int .i64 0),.sc (.int .i64 0),.sc (.int .i64 0),.sc (.int .i64 0),.sc (.int .i64 0),.sc (.int .i64 0),.sc (.int .i64 0),.sc (.int .i64 0),.sc (.int .i64 0),.sc (.int .i64 0),.sc (.int .i64 0),.sc (.int .i64 0),.sc (.int .i64 0),.sc (.int .i64 0)] := by kernel_rfl
theorem ha70 : ax prog 70 = true := by kernel_rfl
theorem sz71 : ai prog 71 = 14 := by kernel_rfl
theorem by71 : ay prog 71 = 112 := by kernel_rfl
theorem ze71 : aq prog 71 = [.sc (.int .i64 0),.sc (.int .i64 0),.sc (.int .i64 0),.sc (.int .i64 0),.sc (.int .i64 0),.sc (.int .i64 0),.sc (.int .i64 0),.sc (.int .i64 0),.sc (.int .i64 0),.sc (.int .i64 0),.sc (.int .i64 0),.sc (.int .i64 0),.sc (.int .i64 0),.sc (.int .i64 0)] := by kernel_rfl
theorem zn71 : ap prog 71 = [.sc (.int .i64 0),.sc (.int .i64 0),.sc (.int .i64 0),.sc (.int .i64 0),.sc (.int .i64 0),.sc (.int .i64 0),.sc (.int .i64 0),.sc (.int .i64 0),.sc (.int .i64 0),.sc (.int .i64 0),.sc (.int .i64 0),.sc (.int .i64 0),.sc (.int .i64 0),.sc (.int .i64 0)] := by kernel_rfl
theorem ha71 : ax prog 71 = true := by kernel_rfl
theorem sz78 : ai prog 78 = 1 := by kernel_rfl
theorem by78 : ay prog 78 = 8 := by kernel_rfl
theorem ze78 : aq prog 78 = [.sc (.pointer none)] := by kernel_rfl
theorem zn78 : ap prog 78 = [.sc (.pointer none)] := by kernel_rfl
theorem ha78 : ax prog 78 = true := by kernel_rfl
theorem sz81 : ai prog 81 = 16 := by kernel_rfl
theorem by81 : ay prog 81 = 64 := by kernel_rfl
theorem ze81 : aq prog 81 = [.sc (.int .u32 0),.sc (.int .u32 0),.sc (.int .u32 0),.sc (.int .u32 0),.sc (.int .u32 0),.sc (.int .u32 0),.sc (.int .u32 0),.sc (.int .u32 0),.sc (.int .u32 0),.sc (.int .u32 0),.sc (.int .u32 0),.sc (.int .u32 0),.sc (.int .u32 0),.sc (.int .u32 0),.sc (.int .u32 0),.sc (.int .u32 0)] := by kernel_rfl
theorem zn81 : ap prog 81 = [.sc (.int .u32 0),.sc (.int .u32 0),.sc (.int .u32 0),.sc (.int .u32 0),.sc (.int .u32 0),.sc (.int .u32 0),.sc (.int .u32 0),.sc (.int .u32 0),.sc (.int .u32 0),.sc (.int .u32 0),.sc (.int .u32 0),.sc (.int .u32 0),.sc (.int .u32 0),.sc (.int .u32 0),.sc (.int .u32 0),.sc (.int .u32 0)] := by kernel_rfl
theorem ha81 : ax prog 81 = true := by kernel_rfl
theorem sz82 : ai prog 82 = 1 := by kernel_rfl
theorem by82 : ay prog 82 = 8 := by kernel_rfl
theorem ze82 : aq prog 82 = [.sc (.int .u64 0)] := by kernel_rfl
theorem zn82 : ap prog 82 = [.sc (.int .u64 0)] := by kernel_rfl
theorem ha82 : ax prog 82 = true := by kernel_rfl
theorem sz84 : ai prog 84 = 64 := by kernel_rfl
theorem by84 : ay prog 84 = 256 := by kernel_rfl
theorem ze84 : aq prog 84 = [.sc (.int .u32 0),.sc (.int .u32 0),.sc (.int .u32 0),.sc (.int .u32 0),.sc (.int .u32 0),.sc (.int .u32 0),.sc (.int .u32 0),.sc (.int .u32 0),.sc (.int .u32 0),.sc (.int .u32 0),.sc (.int .u32 0),.sc (.int .u32 0),.sc (.int .u32 0),.sc (.int .u32 0),.sc (.int .u32 0),.sc (.int .u32 0),.sc (.int .u32 0),.sc (.int .u32 0),.sc (.int .u32 0),.sc (.int .u32 0),.sc (.int .u32 0),.sc (.int .u32 0),.sc (.int .u32 0),.sc (.int .u32 0),.sc (.int .u32 0),.sc (.int .u32 0),.sc (.int .u32 0),.sc (.int .u32 0),.sc (.int .u32 0),.sc (.int .u32 0),.sc (.int .u32 0),.sc (.int .u32 0),.sc (.int .u32 0),.sc (.int .u32 0),.sc (.int .u32 0),.sc (.int .u32 0),.sc (.int .u32 0),.sc (.int .u32 0),.sc (.int .u32 0),.sc (.int .u32 0),.sc (.int .u32 0),.sc (.int .u32 0),.sc (.int .u32 0),.sc (.int .u32 0),.sc (.int .u32 0),.sc (.int .u32 0),.sc (.int .u32 0),.sc (.int .u32 0),.sc (.int .u32 0),.sc (.int .u32 0),.sc (.int .u32 0),.sc (.int .u32 0),.sc (.int .u32 0),.sc (.int .u32 0),.sc (.int .u32 0),.sc (.int .u32 0),.sc (.int .u32 0),.sc (.int .u32 0),.sc (.int .u32 0),.sc (.int .u32 0),.sc (.int .u32 0),.sc (.int .u32 0),.sc (.int .u32 0),.sc (.int .u32 0)] := by kernel_rfl
theorem zn84 : ap prog 84 = [.sc (.int .u32 0),.sc (.int .u32 0),.sc (.int .u32 0),.sc (.int .u32 0),.sc (.int .u32 0),.sc (.int .u32 0),.sc (.int .u32 0),.sc (.int .u32 0),.sc (.int .u32 0),.sc (.int .u32 0),.sc (.int .u32 0),.sc (.int .u32 0),.sc (.int .u32 0),.sc (.int .u32 0),.sc (.int .u32 0),.sc (.int .u32 0),.sc (.int .u32 0),.sc (.int .u32 0),.sc (.int .u32 0),.sc (.int .u32 0),.sc (.int .u32 0),.sc (.int .u32 0),.sc (.int .u32 0),.sc (.int .u32 0),.sc (.int .u32 0),.sc (.int .u32 0),.sc (.int .u32 0),.sc (.int .u32 0),.sc (.int .u32 0),.sc (.int .u32 0),.sc (.int .u32 0),.sc (.int .u32 0),.sc (.int .u32 0),.sc (.int .u32 0),.sc (.int .u32 0),.sc (.int .u32 0),.sc (.int .u32 0),.sc (.int .u32 0),.sc (.int .u32 0),.sc (.int .u32 0),.sc (.int .u32 0),.sc (.int .u32 0),.sc (.int .u32 0),.sc (.int .u32 0),.sc (.int .u32 0),.sc (.int .u32 0),.sc (.int .u32 0),.sc (.int .u32 0),.sc (.int .u32 0),.sc (.int .u32 0),.sc (.int .u32 0),.sc (.int .u32 0),.sc (.int .u32 0),.sc (.int .u32 0),.sc (.int .u32 0),.sc (.int .u32 0),.sc (.int .u32 0),.sc (.int .u32 0),.sc (.int .u32 0),.sc (.int .u32 0),.sc (.int .u32 0),.sc (.int .u32 0),.sc (.int .u32 0),.sc (.int .u32 0)] := by kernel_rfl
theorem ha84 : ax prog 84 = true := by kernel_rfl
theorem sz85 : ai prog 85 = 1 := by kernel_rfl
theorem by85 : ay prog 85 = 24 := by kernel_rfl
theorem ze85 : aq prog 85 = [.imm 0 [] 0] := by kernel_rfl
theorem zn85 : ap prog 85 = [.sc (.slice none 0 0)] := by kernel_rfl
theorem ha85 : ax prog 85 = true := by kernel_rfl
theorem sz103 : ai prog 103 = 1 := by kernel_rfl
theorem by103 : ay prog 103 = 8 := by kernel_rfl
theorem ze103 : aq prog 103 = [.sc (.pointer none)] := by kernel_rfl
theorem zn103 : ap prog 103 = [.sc (.pointer none)] := by kernel_rfl
theorem ha103 : ax prog 103 = true := by kernel_rfl
theorem eq53 (a1 b1 : Int) (a2 b2 : Int) (a3 b3 : Int) : eqG prog 6 53 (.agg [.sc (.int .i64 a1),.sc (.int .i64 a2),.sc (.int .i64 a3)]) (.agg [.sc (.int .i64 b1),.sc (.int .i64 b2),.sc (.int .i64 b3)]) = some ((a1 == b1) && ((a2 == b2) && ((a3 == b3) && true))) := by kernel_rfl
theorem ck53 (x0 x1 x2 : AV) : cl prog 6 53 (.agg [x0,x1,x2]) = true := by kernel_rfl
theorem eq65 (a1 b1 : Int) (a2 b2 : Int) (a3 b3 : Int) (a4 b4 : Int) (a5 b5 : Int) (a6 b6 : Int) (a7 b7 : Int) (a8 b8 : Int) : eqG prog 6 65 (.agg [.sc (.int .u32 a1),.sc (.int .u32 a2),.sc (.int .u32 a3),.sc (.int .u32 a4),.sc (.int .u32 a5),.sc (.int .u32 a6),.sc (.int .u32 a7),.sc (.int .u32 a8)]) (.agg [.sc (.int .u32 b1),.sc (.int .u32 b2),.sc (.int .u32 b3),.sc (.int .u32 b4),.sc (.int .u32 b5),.sc (.int .u32 b6),.sc (.int .u32 b7),.sc (.int .u32 b8)]) = some ((a1 == b1) && ((a2 == b2) && ((a3 == b3) && ((a4 == b4) && ((a5 == b5) && ((a6 == b6) && ((a7 == b7) && ((a8 == b8) && true)))))))) := by kernel_rfl
theorem ck65 (x0 x1 x2 x3 x4 x5 x6 x7 : AV) : cl prog 6 65 (.agg [x0,x1,x2,x3,x4,x5,x6,x7]) = true := by kernel_rfl
theorem zv2 : ar prog 2 = .sc (.int .i64 0) := by kernel_rfl
theorem zv3 : ar prog 3 = .sc (.int .i64 0) := by kernel_rfl
theorem zv4 : ar prog 4 = .sc (.bool false) := by kernel_rfl
theorem zv5 : ar prog 5 = .sc (.int .u8 0) := by kernel_rfl
theorem zv9 : ar prog 9 = .sc (.string ⟨#[]⟩) := by kernel_rfl
theorem zv12 : ar prog 12 = .sc (.int .u64 0) := by kernel_rfl
theorem zv21 : ar prog 21 = .sc (.int .i32 0) := by kernel_rfl
theorem zv22 : ar prog 22 = .sc (.slice none 0 0) := by kernel_rfl
theorem zv24 : ar prog 24 = .sc (.pointer none) := by kernel_rfl
theorem zv31 : ar prog 31 = .sc (.pointer none) := by kernel_rfl
theorem zv34 : ar prog 34 = .agg [.sc (.slice none 0 0),.sc (.int .i64 0)] := by kernel_rfl
theorem zv35 : ar prog 35 = .agg [.sc (.slice none 0 0),.sc (.int .i64 0)] := by kernel_rfl
theorem zv37 : ar prog 37 = .sc (.int .i64 0) := by kernel_rfl
theorem zv40 : ar prog 40 = .sc (.map none) := by kernel_rfl
theorem zv41 : ar prog 41 = .sc (.slice none 0 0) := by kernel_rfl
theorem zv42 : ar prog 42 = .agg [.sc (.slice none 0 0),.sc (.map none)] := by kernel_rfl
theorem zv43 : ar prog 43 = .agg [.sc (.slice none 0 0),.sc (.map none)] := by kernel_rfl
theorem zv44 : ar prog 44 = .agg [.sc (.slice none 0 0),.sc (.map none),.sc (.int .i64 0)] := by kernel_rfl
theorem zv45 : ar prog 45 = .agg [.sc (.slice none 0 0),.sc (.map none),.sc (.int .i64 0)] := by kernel_rfl
theorem zv47 : ar prog 47 = .sc (.int .u64 0) := by kernel_rfl
theorem zv50 : ar prog 50 = .sc (.pointer none) := by kernel_rfl
theorem zv53 : ar prog 53 = .agg [.sc (.int .i64 0),.sc (.int .i64 0),.sc (.int .i64 0)] := by kernel_rfl
theorem zv54 : ar prog 54 = .sc (.slice none 0 0) := by kernel_rfl
theorem zv55 : ar prog 55 = .agg [.sc (.int .i64 0),.sc (.int .i64 0),.sc (.int .i64 0),.sc (.int .i64 0),.sc (.int .i64 0),.sc (.int .i64 0),.sc (.int .i64 0),.sc (.int .i64 0),.sc (.int .i64 0),.sc (.int .i64 0),.sc (.int .i64 0),.sc (.int .i64 0),.sc (.int .i64 0),.sc (.int .i64 0),.sc (.slice none 0 0),.sc (.slice none 0 0)] := by kernel_rfl
theorem zv56 : ar prog 56 = .agg [.sc (.int .i64 0),.sc (.int .i64 0),.sc (.int .i64 0),.sc (.int .i64 0),.sc (.int .i64 0),.sc (.int .i64 0),.sc (.int .i64 0),.sc (.int .i64 0),.sc (.int .i64 0),.sc (.int .i64 0),.sc (.int .i64 0),.sc (.int .i64 0),.sc (.int .i64 0),.sc (.int .i64 0),.sc (.slice none 0 0),.sc (.slice none 0 0)] := by kernel_rfl
theorem zv58 : ar prog 58 = .sc (.slice none 0 0) := by kernel_rfl
theorem zv59 : ar prog 59 = .agg [.sc (.int .u8 0),.sc (.slice none 0 0)] := by kernel_rfl
theorem zv60 : ar prog 60 = .agg [.sc (.int .u8 0),.sc (.slice none 0 0)] := by kernel_rfl
theorem zv64 : ar prog 64 = .sc (.int .u32 0) := by kernel_rfl
theorem zv65 : ar prog 65 = .agg [.sc (.int .u32 0),.sc (.int .u32 0),.sc (.int .u32 0),.sc (.int .u32 0),.sc (.int .u32 0),.sc (.int .u32 0),.sc (.int .u32 0),.sc (.int .u32 0)] := by kernel_rfl
theorem zv67 : ar prog 67 = .agg [.sc (.int .u32 0),.sc (.int .u32 0),.sc (.int .u32 0),.sc (.int .u32 0),.sc (.int .u32 0),.sc (.int .u32 0),.sc (.int .u32 0),.sc (.int .u32 0),.sc (.slice none 0 0),.sc (.int .i64 0)] := by kernel_rfl
theorem zv68 : ar prog 68 = .agg [.sc (.int .u32 0),.sc (.int .u32 0),.sc (.int .u32 0),.sc (.int .u32 0),.sc (.int .u32 0),.sc (.int .u32 0),.sc (.int .u32 0),.sc (.int .u32 0),.sc (.slice none 0 0),.sc (.int .i64 0)] := by kernel_rfl
theorem zv70 : ar prog 70 = .agg [.sc (.int .i64 0),.sc (.int .i64 0),.sc (.int .i64 0),.sc (.int .i64 0),.sc (.int .i64 0),.sc (.int .i64 0),.sc (.int .i64 0),.sc (.int .i64 0),.sc (.int .i64 0),.sc (.int .i64 0),.sc (.int .i64 0),.sc (.int .i64 0),.sc (.int .i64 0),.sc (.int .i64 0)] := by kernel_rfl
theorem zv71 : ar prog 71 = .agg [.sc (.int .i64 0),.sc (.int .i64 0),.sc (.int .i64 0),.sc (.int .i64 0),.sc (.int .i64 0),.sc (.int .i64 0),.sc (.int .i64 0),.sc (.int .i64 0),.sc (.int .i64 0),.sc (.int .i64 0),.sc (.int .i64 0),.sc (.int .i64 0),.sc (.int .i64 0),.sc (.int .i64 0)] := by kernel_rfl
theorem zv78 : ar prog 78 = .sc (.pointer none) := by kernel_rfl
theorem zv81 : ar prog 81 = .agg [.sc (.int .u32 0),.sc (.int .u32 0),.sc (.int .u32 0),.sc (.int .u32 0),.sc (.int .u32 0),.sc (.int .u32 0),.sc (.int .u32 0),.sc (.int .u32 0),.sc (.int .u32 0),.sc (.int .u32 0),.sc (.int .u32 0),.sc (.int .u32 0),.sc (.int .u32 0),.sc (.int .u32 0),.sc (.int .u32 0),.sc (.int .u32 0)] := by kernel_rfl
theorem zv82 : ar prog 82 = .sc (.int .u64 0) := by kernel_rfl
theorem zv85 : ar prog 85 = .sc (.slice none 0 0) := by kernel_rfl
theorem zv103 : ar prog 103 = .sc (.pointer none) := by kernel_rfl
theorem eo1 : bB prog 1 = true := by kernel_rfl
theorem eo4 : bB prog 4 = true := by kernel_rfl
theorem eo23 : bB prog 23 = true := by kernel_rfl
theorem eo24 : bB prog 24 = true := by kernel_rfl
theorem eo25 : bB prog 25 = true := by kernel_rfl
theorem eo26 : bB prog 26 = true := by kernel_rfl
theorem eo27 : bB prog 27 = true := by kernel_rfl
theorem eo28 : bB prog 28 = true := by kernel_rfl
theorem eo29 : bB prog 29 = true := by kernel_rfl
theorem eo30 : bB prog 30 = true := by kernel_rfl
theorem eo31 : bB prog 31 = true := by kernel_rfl
theorem eo32 : bB prog 32 = true := by kernel_rfl
theorem eo33 : bB prog 33 = true := by kernel_rfl
theorem eo36 : bB prog 36 = true := by kernel_rfl
theorem eo39 : bB prog 39 = true := by kernel_rfl
theorem eo40 : bB prog 40 = true := by kernel_rfl
theorem eo46 : bB prog 46 = true := by kernel_rfl
theorem eo48 : bB prog 48 = true := by kernel_rfl
theorem eo49 : bB prog 49 = true := by kernel_rfl
theorem eo50 : bB prog 50 = true := by kernel_rfl
theorem eo51 : bB prog 51 = true := by kernel_rfl
theorem eo52 : bB prog 52 = true := by kernel_rfl
theorem eo53 : bB prog 53 = true := by kernel_rfl
theorem eo57 : bB prog 57 = true := by kernel_rfl
theorem eo61 : bB prog 61 = true := by kernel_rfl
theorem eo62 : bB prog 62 = true := by kernel_rfl
theorem eo63 : bB prog 63 = true := by kernel_rfl
theorem eo65 : bB prog 65 = true := by kernel_rfl
theorem eo66 : bB prog 66 = true := by kernel_rfl
theorem eo69 : bB prog 69 = true := by kernel_rfl
theorem eo70 : bB prog 70 = true := by kernel_rfl
theorem eo71 : bB prog 71 = true := by kernel_rfl
theorem eo72 : bB prog 72 = true := by kernel_rfl
theorem eo73 : bB prog 73 = true := by kernel_rfl
theorem eo74 : bB prog 74 = true := by kernel_rfl
theorem eo75 : bB prog 75 = true := by kernel_rfl
theorem eo76 : bB prog 76 = true := by kernel_rfl
theorem eo77 : bB prog 77 = true := by kernel_rfl
theorem eo78 : bB prog 78 = true := by kernel_rfl
theorem eo79 : bB prog 79 = true := by kernel_rfl
theorem eo80 : bB prog 80 = true := by kernel_rfl
theorem eo83 : bB prog 83 = true := by kernel_rfl
theorem eo86 : bB prog 86 = true := by kernel_rfl
theorem eo87 : bB prog 87 = true := by kernel_rfl
theorem eo88 : bB prog 88 = true := by kernel_rfl
theorem eo89 : bB prog 89 = true := by kernel_rfl
theorem eo90 : bB prog 90 = true := by kernel_rfl
theorem eo91 : bB prog 91 = true := by kernel_rfl
theorem eo92 : bB prog 92 = true := by kernel_rfl
theorem eo93 : bB prog 93 = true := by kernel_rfl
theorem eo94 : bB prog 94 = true := by kernel_rfl
theorem eo103 : bB prog 103 = true := by kernel_rfl
theorem strTy : strTy prog = some 9 := by kernel_rfl
theorem z8_5 : bk prog 5 = .int .u8 0 := by kernel_rfl
theorem ca3 : ak prog 3 = true := by kernel_rfl
theorem ca4 : ak prog 4 = true := by kernel_rfl
theorem ca5 : ak prog 5 = true := by kernel_rfl
theorem ca6 : ak prog 6 = true := by kernel_rfl
theorem ca7 : ak prog 7 = true := by kernel_rfl
theorem ca8 : ak prog 8 = true := by kernel_rfl
theorem ca9 : ak prog 9 = true := by kernel_rfl
theorem ca10 : ak prog 10 = true := by kernel_rfl
theorem ca11 : ak prog 11 = true := by kernel_rfl
theorem ca12 : ak prog 12 = true := by kernel_rfl
theorem ca13 : ak prog 13 = true := by kernel_rfl
theorem ca14 : ak prog 14 = true := by kernel_rfl
theorem ca15 : ak prog 15 = true := by kernel_rfl
theorem ca16 : ak prog 16 = true := by kernel_rfl
theorem ca17 : ak prog 17 = true := by kernel_rfl
theorem ca18 : ak prog 18 = true := by kernel_rfl
theorem ca19 : ak prog 19 = true := by kernel_rfl
theorem ca20 : ak prog 20 = true := by kernel_rfl
theorem ca21 : ak prog 21 = true := by kernel_rfl
theorem ca22 : ak prog 22 = true := by kernel_rfl
theorem ca23 : ak prog 23 = true := by kernel_rfl
theorem ca24 : ak prog 24 = true := by kernel_rfl
theorem ca25 : ak prog 25 = true := by kernel_rfl
theorem ca26 : ak prog 26 = true := by kernel_rfl
theorem ca27 : ak prog 27 = true := by kernel_rfl
theorem ca28 : ak prog 28 = true := by kernel_rfl
theorem ca29 : ak prog 29 = true := by kernel_rfl
theorem ca30 : ak prog 30 = true := by kernel_rfl
theorem ca31 : ak prog 31 = true := by kernel_rfl
theorem ca32 : ak prog 32 = true := by kernel_rfl
theorem ca33 : ak prog 33 = true := by kernel_rfl
theorem ca34 : ak prog 34 = true := by kernel_rfl
theorem ca35 : ak prog 35 = true := by kernel_rfl
theorem ca36 : ak prog 36 = true := by kernel_rfl
theorem ca37 : ak prog 37 = true := by kernel_rfl
theorem ca38 : ak prog 38 = true := by kernel_rfl
theorem ca39 : ak prog 39 = true := by kernel_rfl
theorem ca40 : ak prog 40 = true := by kernel_rfl
theorem ca41 : ak prog 41 = true := by kernel_rfl
theorem ca42 : ak prog 42 = true := by kernel_rfl
theorem ca43 : ak prog 43 = true := by kernel_rfl
theorem ca44 : ak prog 44 = true := by kernel_rfl
theorem ca45 : ak prog 45 = true := by kernel_rfl
theorem ca46 : ak prog 46 = true := by kernel_rfl
theorem ca47 : ak prog 47 = true := by kernel_rfl
theorem ca48 : ak prog 48 = true := by kernel_rfl
theorem ca49 : ak prog 49 = true := by kernel_rfl
theorem ca50 : ak prog 50 = true := by kernel_rfl
theorem ca51 : ak prog 51 = true := by kernel_rfl
theorem ca52 : ak prog 52 = true := by kernel_rfl
theorem ca53 : ak prog 53 = true := by kernel_rfl
theorem ca54 : ak prog 54 = true := by kernel_rfl
theorem ca55 : ak prog 55 = true := by kernel_rfl
theorem ca56 : ak prog 56 = true := by kernel_rfl
theorem ca57 : ak prog 57 = true := by kernel_rfl
theorem ca58 : ak prog 58 = true := by kernel_rfl
theorem ca59 : ak prog 59 = true := by kernel_rfl
theorem ca60 : ak prog 60 = true := by kernel_rfl
theorem ca61 : ak prog 61 = true := by kernel_rfl
theorem ca62 : ak prog 62 = true := by kernel_rfl
theorem ca63 : ak prog 63 = true := by kernel_rfl
theorem ca64 : ak prog 64 = true := by kernel_rfl
theorem ca65 : ak prog 65 = true := by kernel_rfl
set_option maxRecDepth 100000 in
def facts := And.intro underlying1 <|
 And.intro eo1 <|
 And.intro underlying2 <|
 And.intro sz2 <|
 And.intro by2 <|
 And.intro ha2 <|
 And.intro ze2 <|
 And.intro zn2 <|
 And.intro zv2 <|
 And.intro underlying3 <|
 And.intro sz3 <|
 And.intro by3 <|
 And.intro ha3 <|
 And.intro ze3 <|
 And.intro zn3 <|
 And.intro zv3 <|
 And.intro underlying4 <|
 And.intro sz4 <|
 And.intro by4 <|
 And.intro ha4 <|
 And.intro eo4 <|
 And.intro ze4 <|
 And.intro zn4 <|
 And.intro zv4 <|
 And.intro underlying5 <|
 And.intro z8_5 <|
 And.intro sz5 <|
 And.intro by5 <|
 And.intro ha5 <|
 And.intro ze5 <|
 And.intro zn5 <|
 And.intro zv5 <|
 And.intro underlying9 <|
 And.intro sz9 <|
 And.intro by9 <|
 And.intro ha9 <|
 And.intro ze9 <|
 And.intro zn9 <|
 And.intro zv9 <|
 And.intro underlying12 <|
 And.intro sz12 <|
 And.intro by12 <|
 And.intro ha12 <|
 And.intro ze12 <|
 And.intro zn12 <|
 And.intro zv12 <|
 And.intro underlying21 <|
 And.intro sz21 <|
 And.intro by21 <|
 And.intro ha21 <|
 And.intro ze21 <|
 And.intro zn21 <|
 And.intro zv21 <|
 And.intro underlying22 <|
 And.intro sz22 <|
 And.intro by22 <|
 And.intro ha22 <|
 And.intro ze22 <|
 And.intro zn22 <|
 And.intro zv22 <|
 And.intro underlying23 <|
 And.intro eo23 <|
 And.intro underlying24 <|
 And.intro sz24 <|
 And.intro by24 <|
 And.intro ha24 <|
 And.intro eo24 <|
 And.intro ze24 <|
 And.intro zn24 <|
 And.intro zv24 <|
 And.intro underlying25 <|
 And.intro eo25 <|
 And.intro underlying26 <|
 And.intro eo26 <|
 And.intro underlying27 <|
 And.intro eo27 <|
 And.intro underlying28 <|
 And.intro eo28 <|
 And.intro underlying29 <|
 And.intro eo29 <|
 And.intro underlying30 <|
 And.intro eo30 <|
 And.intro underlying31 <|
 And.intro sz31 <|
 And.intro by31 <|
 And.intro ha31 <|
 And.intro eo31 <|
 And.intro ze31 <|
 And.intro zn31 <|
 And.intro zv31 <|
 And.intro underlying32 <|
 And.intro eo32 <|
 And.intro underlying33 <|
 And.intro eo33 <|
 And.intro underlying34 <|
 And.intro sz34 <|
 And.intro by34 <|
 And.intro ha34 <|
 And.intro ze34 <|
 And.intro zn34 <|
 And.intro zv34 <|
 And.intro underlying35 <|
 And.intro sz35 <|
 And.intro by35 <|
 And.intro ha35 <|
 And.intro ze35 <|
 And.intro zn35 <|
 And.intro zv35 <|
 And.intro underlying36 <|
 And.intro eo36 <|
 And.intro underlying37 <|
 And.intro sz37 <|
 And.intro by37 <|
 And.intro ha37 <|
 And.intro ze37 <|
 And.intro zn37 <|
 And.intro zv37 <|
 And.intro underlying39 <|
 And.intro eo39 <|
 And.intro underlying40 <|
 And.intro sz40 <|
 And.intro by40 <|
 And.intro ha40 <|
 And.intro eo40 <|
 And.intro ze40 <|
 And.intro zn40 <|
 And.intro zv40 <|
 And.intro underlying41 <|
 And.intro sz41 <|
 And.intro by41 <|
 And.intro ha41 <|
 And.intro ze41 <|
 And.intro zn41 <|
 And.intro zv41 <|
 And.intro underlying42 <|
 And.intro sz42 <|
 And.intro by42 <|
 And.intro ha42 <|
 And.intro ze42 <|
 And.intro zn42 <|
 And.intro zv42 <|
 And.intro underlying43 <|
 And.intro sz43 <|
 And.intro by43 <|
 And.intro ha43 <|
 And.intro ze43 <|
 And.intro zn43 <|
 And.intro zv43 <|
 And.intro underlying44 <|
 And.intro sz44 <|
 And.intro by44 <|
 And.intro ha44 <|
 And.intro ze44 <|
 And.intro zn44 <|
 And.intro zv44 <|
 And.intro underlying45 <|
 And.intro sz45 <|
 And.intro by45 <|
 And.intro ha45 <|
 And.intro ze45 <|
 And.intro zn45 <|
 And.intro zv45 <|
 And.intro underlying46 <|
 And.intro eo46 <|
 And.intro underlying47 <|
 And.intro sz47 <|
 And.intro by47 <|
 And.intro ha47 <|
 And.intro ze47 <|
 And.intro zn47 <|
 And.intro zv47 <|
 And.intro underlying48 <|
 And.intro eo48 <|
 And.intro underlying49 <|
 And.intro eo49 <|
 And.intro underlying50 <|
 And.intro sz50 <|
 And.intro by50 <|
 And.intro ha50 <|
 And.intro eo50 <|
 And.intro ze50 <|
 And.intro zn50 <|
 And.intro zv50 <|
 And.intro underlying51 <|
 And.intro eo51 <|
 And.intro underlying52 <|
 And.intro eo52 <|
 And.intro underlying53 <|
 And.intro sz53 <|
 And.intro by53 <|
 And.intro ha53 <|
 And.intro eo53 <|
 And.intro ze53 <|
 And.intro zn53 <|
 And.intro zv53 <|
 And.intro eq53 <|
 And.intro ck53 <|
 And.intro underlying54 <|
 And.intro sz54 <|
 And.intro by54 <|
 And.intro ha54 <|
 And.intro ze54 <|
 And.intro zn54 <|
 And.intro zv54 <|
 And.intro underlying55 <|
 And.intro sz55 <|
 And.intro by55 <|
 And.intro ha55 <|
 And.intro ze55 <|
 And.intro zn55 <|
 And.intro zv55 <|
 And.intro underlying56 <|
 And.intro sz56 <|
 And.intro by56 <|
 And.intro ha56 <|
 And.intro ze56 <|
 And.intro zn56 <|
 And.intro zv56 <|
 And.intro underlying57 <|
 And.intro eo57 <|
 And.intro underlying58 <|
 And.intro sz58 <|
 And.intro by58 <|
 And.intro ha58 <|
 And.intro ze58 <|
 And.intro zn58 <|
 And.intro zv58 <|
 And.intro underlying59 <|
 And.intro sz59 <|
 And.intro by59 <|
 And.intro ha59 <|
 And.intro ze59 <|
 And.intro zn59 <|
 And.intro zv59 <|
 And.intro underlying60 <|
 And.intro sz60 <|
 And.intro by60 <|
 And.intro ha60 <|
 And.intro ze60 <|
 And.intro zn60 <|
 And.intro zv60 <|
 And.intro underlying61 <|
 And.intro eo61 <|
 And.intro underlying62 <|
 And.intro eo62 <|
 And.intro underlying63 <|
 And.intro eo63 <|
 And.intro underlying64 <|
 And.intro sz64 <|
 And.intro by64 <|
 And.intro ha64 <|
 And.intro ze64 <|
 And.intro zn64 <|
 And.intro zv64 <|
 And.intro underlying65 <|
 And.intro sz65 <|
 And.intro by65 <|
 And.intro ha65 <|
 And.intro eo65 <|
 And.intro ze65 <|
 And.intro zn65 <|
 And.intro zv65 <|
 And.intro eq65 <|
 And.intro ck65 <|
 And.intro underlying66 <|
 And.intro eo66 <|
 And.intro underlying67 <|
 And.intro sz67 <|
 And.intro by67 <|
 And.intro ha67 <|
 And.intro ze67 <|
 And.intro zn67 <|
 And.intro zv67 <|
 And.intro underlying68 <|
 And.intro sz68 <|
 And.intro by68 <|
 And.intro ha68 <|
 And.intro ze68 <|
 And.intro zn68 <|
 And.intro zv68 <|
 And.intro underlying69 <|
 And.intro eo69 <|
 And.intro underlying70 <|
 And.intro sz70 <|
 And.intro by70 <|
 And.intro ha70 <|
 And.intro eo70 <|
 And.intro ze70 <|
 And.intro zn70 <|
 And.intro zv70 <|
 And.intro underlying71 <|
 And.intro sz71 <|
 And.intro by71 <|
 And.intro ha71 <|
 And.intro eo71 <|
 And.intro ze71 <|
 And.intro zn71 <|
 And.intro zv71 <|
 And.intro underlying72 <|
 And.intro eo72 <|
 And.intro underlying73 <|
 And.intro eo73 <|
 And.intro underlying74 <|
 And.intro eo74 <|
 And.intro underlying75 <|
 And.intro eo75 <|
 And.intro underlying76 <|
 And.intro eo76 <|
 And.intro underlying77 <|
 And.intro eo77 <|
 And.intro underlying78 <|
 And.intro sz78 <|
 And.intro by78 <|
 And.intro ha78 <|
 And.intro eo78 <|
 And.intro ze78 <|
 And.intro zn78 <|
 And.intro zv78 <|
 And.intro underlying79 <|
 And.intro eo79 <|
 And.intro underlying80 <|
 And.intro eo80 <|
 And.intro underlying81 <|
 And.intro sz81 <|
 And.intro by81 <|
 And.intro ha81 <|
 And.intro ze81 <|
 And.intro zn81 <|
 And.intro zv81 <|
 And.intro underlying82 <|
 And.intro sz82 <|
 And.intro by82 <|
 And.intro ha82 <|
 And.intro ze82 <|
 And.intro zn82 <|
 And.intro zv82 <|
 And.intro underlying83 <|
 And.intro eo83 <|
 And.intro underlying84 <|
 And.intro sz84 <|
 And.intro by84 <|
 And.intro ha84 <|
 And.intro ze84 <|
 And.intro zn84 <|
 And.intro underlying85 <|
 And.intro sz85 <|
 And.intro by85 <|
 And.intro ha85 <|
 And.intro ze85 <|
 And.intro zn85 <|
 And.intro zv85 <|
 And.intro underlying86 <|
 And.intro eo86 <|
 And.intro underlying87 <|
 And.intro eo87 <|
 And.intro underlying88 <|
 And.intro eo88 <|
 And.intro underlying89 <|
 And.intro eo89 <|
 And.intro underlying90 <|
 And.intro eo90 <|
 And.intro underlying91 <|
 And.intro eo91 <|
 And.intro underlying92 <|
 And.intro eo92 <|
 And.intro underlying93 <|
 And.intro eo93 <|
 And.intro underlying94 <|
 And.intro eo94 <|
 And.intro underlying103 <|
 And.intro sz103 <|
 And.intro by103 <|
 And.intro ha103 <|
 And.intro eo103 <|
 And.intro ze103 <|
 And.intro zn103 <|
 And.intro zv103 <|
 And.intro strTy <|
 And.intro ca3 <|
 And.intro ca4 <|
 And.intro ca5 <|
 And.intro ca6 <|
 And.intro ca7 <|
 And.intro ca8 <|
 And.intro ca9 <|
 And.intro ca10 <|
 And.intro ca11 <|
 And.intro ca12 <|
 And.intro ca13 <|
 And.intro ca14 <|
 And.intro ca15 <|
 And.intro ca16 <|
 And.intro ca17 <|
 And.intro ca18 <|
 And.intro ca19 <|
 And.intro ca20 <|
 And.intro ca21 <|
 And.intro ca22 <|
 And.intro ca23 <|
 And.intro ca24 <|
 And.intro ca25 <|
 And.intro ca26 <|
 And.intro ca27 <|
 And.intro ca28 <|
 And.intro ca29 <|
 And.intro ca30 <|
 And.intro ca31 <|
 And.intro ca32 <|
 And.intro ca33 <|
 And.intro ca34 <|
 And.intro ca35 <|
 And.intro ca36 <|
 And.intro ca37 <|
 And.intro ca38 <|
 And.intro ca39 <|
 And.intro ca40 <|
 And.intro ca41 <|
 And.intro ca42 <|
 And.intro ca43 <|
 And.intro ca44 <|
 And.intro ca45 <|
 And.intro ca46 <|
 And.intro ca47 <|
 And.intro ca48 <|
 And.intro ca49 <|
 And.intro ca50 <|
 And.intro ca51 <|
 And.intro ca52 <|
 And.intro ca53 <|
 And.intro ca54 <|
 And.intro ca55 <|
 And.intro ca56 <|
 And.intro ca57 <|
 And.intro ca58 <|
 And.intro ca59 <|
 And.intro ca60 <|
 And.intro ca61 <|
 And.intro ca62 <|
 And.intro ca63 <|
 And.intro ca64 <| ca65
end Go.Proofs.Tryd
