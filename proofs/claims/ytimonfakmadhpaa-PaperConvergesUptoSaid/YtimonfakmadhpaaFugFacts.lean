/-
  Facts of the seat's program: sizes of types, functions that have bodies. By program.
  Conditions: none.
-/
import Derived.Test.YtimonfakmadhpaaProg
import Derived.Test.YtimonfakmadhpaaAbsG5
set_option linter.all false
set_option linter.unusedSimpArgs false
namespace Go.Proofs.Try
open Go Go.Abs
theorem mixed : prog.follows .mixedOrders = true := by kernel_rfl
theorem sz2 : ai prog 2 = 1 := by kernel_rfl
theorem by2 : ay prog 2 = 8 := by kernel_rfl
theorem ze2 : aq prog 2 = [.sc (.int .i64 0)] := by kernel_rfl
theorem zn2 : ap prog 2 = [.sc (.int .i64 0)] := by kernel_rfl
theorem ha2 : ax prog 2 = true := by kernel_rfl
theorem sz3 : ai prog 3 = 1 := by kernel_rfl
theorem by3 : ay prog 3 = 8 := by kernel_rfl
theorem ze3 : aq prog 3 = [.sc (.int .i64 0)] := by kernel_rfl
theorem zn3 : ap prog 3 = [.sc (.int .i64 0)] := by kernel_rfl
theorem ha3 : ax prog 3 = true := by kernel_rfl
theorem sz4 : ai prog 4 = 1 := by kernel_rfl
theorem by4 : ay prog 4 = 1 := by kernel_rfl
theorem ze4 : aq prog 4 = [.sc (.bool false)] := by kernel_rfl
theorem zn4 : ap prog 4 = [.sc (.bool false)] := by kernel_rfl
theorem ha4 : ax prog 4 = true := by kernel_rfl
theorem sz5 : ai prog 5 = 1 := by kernel_rfl
theorem by5 : ay prog 5 = 1 := by kernel_rfl
theorem ze5 : aq prog 5 = [.sc (.int .u8 0)] := by kernel_rfl
theorem zn5 : ap prog 5 = [.sc (.int .u8 0)] := by kernel_rfl
theorem ha5 : ax prog 5 = true := by kernel_rfl
theorem sz9 : ai prog 9 = 1 := by kernel_rfl
theorem by9 : ay prog 9 = 16 := by kernel_rfl
theorem ze9 : aq prog 9 = [.sc (.string ⟨#[]⟩)] := by kernel_rfl
theorem zn9 : ap prog 9 = [.sc (.string ⟨#[]⟩)] := by kernel_rfl
theorem ha9 : ax prog 9 = true := by kernel_rfl
theorem sz12 : ai prog 12 = 1 := by kernel_rfl
theorem by12 : ay prog 12 = 8 := by kernel_rfl
theorem ze12 : aq prog 12 = [.sc (.int .u64 0)] := by kernel_rfl
theorem zn12 : ap prog 12 = [.sc (.int .u64 0)] := by kernel_rfl
theorem ha12 : ax prog 12 = true := by kernel_rfl
theorem sz21 : ai prog 21 = 1 := by kernel_rfl
theorem by21 : ay prog 21 = 4 := by kernel_rfl
theorem ze21 : aq prog 21 = [.sc (.int .i32 0)] := by kernel_rfl
theorem zn21 : ap prog 21 = [.sc (.int .i32 0)] := by kernel_rfl
theorem ha21 : ax prog 21 = true := by kernel_rfl
theorem sz22 : ai prog 22 = 1 := by kernel_rfl
theorem by22 : ay prog 22 = 24 := by kernel_rfl
theorem ze22 : aq prog 22 = [.imm 0 [] 0] := by kernel_rfl
theorem zn22 : ap prog 22 = [.sc (.slice none 0 0)] := by kernel_rfl
theorem ha22 : ax prog 22 = true := by kernel_rfl
theorem sz23 : ai prog 23 = 6 := by kernel_rfl
theorem by23 : ay prog 23 = 56 := by kernel_rfl
theorem ze23 : aq prog 23 = [.sc (.int .i64 0),.sc (.int .i64 0),.sc (.int .i64 0),.sc (.int .i64 0),.sc (.int .i64 0),.sc (.string ⟨#[]⟩)] := by kernel_rfl
theorem zn23 : ap prog 23 = [.sc (.int .i64 0),.sc (.int .i64 0),.sc (.int .i64 0),.sc (.int .i64 0),.sc (.int .i64 0),.sc (.string ⟨#[]⟩)] := by kernel_rfl
theorem ha23 : ax prog 23 = true := by kernel_rfl
theorem sz24 : ai prog 24 = 6 := by kernel_rfl
theorem by24 : ay prog 24 = 56 := by kernel_rfl
theorem ze24 : aq prog 24 = [.sc (.int .i64 0),.sc (.int .i64 0),.sc (.int .i64 0),.sc (.int .i64 0),.sc (.int .i64 0),.sc (.string ⟨#[]⟩)] := by kernel_rfl
theorem zn24 : ap prog 24 = [.sc (.int .i64 0),.sc (.int .i64 0),.sc (.int .i64 0),.sc (.int .i64 0),.sc (.int .i64 0),.sc (.string ⟨#[]⟩)] := by kernel_rfl
theorem ha24 : ax prog 24 = true := by kernel_rfl
theorem sz27 : ai prog 27 = 1 := by kernel_rfl
theorem by27 : ay prog 27 = 8 := by kernel_rfl
theorem ze27 : aq prog 27 = [.sc (.pointer none)] := by kernel_rfl
theorem zn27 : ap prog 27 = [.sc (.pointer none)] := by kernel_rfl
theorem ha27 : ax prog 27 = true := by kernel_rfl
theorem sz28 : ai prog 28 = 1 := by kernel_rfl
theorem by28 : ay prog 28 = 24 := by kernel_rfl
theorem ze28 : aq prog 28 = [.imm 0 [] 0] := by kernel_rfl
theorem zn28 : ap prog 28 = [.sc (.slice none 0 0)] := by kernel_rfl
theorem ha28 : ax prog 28 = true := by kernel_rfl
theorem sz29 : ai prog 29 = 1 := by kernel_rfl
theorem by29 : ay prog 29 = 24 := by kernel_rfl
theorem ze29 : aq prog 29 = [.imm 0 [] 0] := by kernel_rfl
theorem zn29 : ap prog 29 = [.sc (.slice none 0 0)] := by kernel_rfl
theorem ha29 : ax prog 29 = true := by kernel_rfl
theorem sz30 : ai prog 30 = 1 := by kernel_rfl
theorem by30 : ay prog 30 = 24 := by kernel_rfl
theorem ze30 : aq prog 30 = [.imm 0 [] 0] := by kernel_rfl
theorem zn30 : ap prog 30 = [.sc (.slice none 0 0)] := by kernel_rfl
theorem ha30 : ax prog 30 = true := by kernel_rfl
theorem sz34 : ai prog 34 = 1 := by kernel_rfl
theorem by34 : ay prog 34 = 24 := by kernel_rfl
theorem ze34 : aq prog 34 = [.imm 0 [] 0] := by kernel_rfl
theorem zn34 : ap prog 34 = [.sc (.slice none 0 0)] := by kernel_rfl
theorem ha34 : ax prog 34 = true := by kernel_rfl
theorem sz37 : ai prog 37 = 1 := by kernel_rfl
theorem by37 : ay prog 37 = 8 := by kernel_rfl
theorem ze37 : aq prog 37 = [.sc (.int .i64 0)] := by kernel_rfl
theorem zn37 : ap prog 37 = [.sc (.int .i64 0)] := by kernel_rfl
theorem ha37 : ax prog 37 = true := by kernel_rfl
theorem sz47 : ai prog 47 = 1 := by kernel_rfl
theorem by47 : ay prog 47 = 24 := by kernel_rfl
theorem ze47 : aq prog 47 = [.imm 0 [] 0] := by kernel_rfl
theorem zn47 : ap prog 47 = [.sc (.slice none 0 0)] := by kernel_rfl
theorem ha47 : ax prog 47 = true := by kernel_rfl
theorem sz48 : ai prog 48 = 1 := by kernel_rfl
theorem by48 : ay prog 48 = 24 := by kernel_rfl
theorem ze48 : aq prog 48 = [.imm 0 [] 0] := by kernel_rfl
theorem zn48 : ap prog 48 = [.sc (.slice none 0 0)] := by kernel_rfl
theorem ha48 : ax prog 48 = true := by kernel_rfl
theorem sz49 : ai prog 49 = 2 := by kernel_rfl
theorem by49 : ay prog 49 = 48 := by kernel_rfl
theorem ze49 : aq prog 49 = [.imm 0 [] 0,.imm 0 [] 0] := by kernel_rfl
theorem zn49 : ap prog 49 = [.sc (.slice none 0 0),.sc (.slice none 0 0)] := by kernel_rfl
theorem ha49 : ax prog 49 = true := by kernel_rfl
theorem sz50 : ai prog 50 = 2 := by kernel_rfl
theorem by50 : ay prog 50 = 48 := by kernel_rfl
theorem ze50 : aq prog 50 = [.imm 0 [] 0,.imm 0 [] 0] := by kernel_rfl
theorem zn50 : ap prog 50 = [.sc (.slice none 0 0),.sc (.slice none 0 0)] := by kernel_rfl
theorem ha50 : ax prog 50 = true := by kernel_rfl
theorem sz52 : ai prog 52 = 1 := by kernel_rfl
theorem by52 : ay prog 52 = 24 := by kernel_rfl
theorem ze52 : aq prog 52 = [.imm 0 [] 0] := by kernel_rfl
theorem zn52 : ap prog 52 = [.sc (.slice none 0 0)] := by kernel_rfl
theorem ha52 : ax prog 52 = true := by kernel_rfl
theorem sz55 : ai prog 55 = 1 := by kernel_rfl
theorem by55 : ay prog 55 = 24 := by kernel_rfl
theorem ze55 : aq prog 55 = [.imm 0 [] 0] := by kernel_rfl
theorem zn55 : ap prog 55 = [.sc (.slice none 0 0)] := by kernel_rfl
theorem ha55 : ax prog 55 = true := by kernel_rfl
theorem sz57 : ai prog 57 = 1 := by kernel_rfl
theorem by57 : ay prog 57 = 24 := by kernel_rfl
theorem ze57 : aq prog 57 = [.imm 0 [] 0] := by kernel_rfl
theorem zn57 : ap prog 57 = [.sc (.slice none 0 0)] := by kernel_rfl
theorem ha57 : ax prog 57 = true := by kernel_rfl
theorem sz60 : ai prog 60 = 5 := by kernel_rfl
theorem by60 : ay prog 60 = 40 := by kernel_rfl
theorem ze60 : aq prog 60 = [.sc (.int .i64 0),.sc (.int .i64 0),.sc (.int .i64 0),.sc (.int .i64 0),.sc (.int .i64 0)] := by kernel_rfl
theorem zn60 : ap prog 60 = [.sc (.int .i64 0),.sc (.int .i64 0),.sc (.int .i64 0),.sc (.int .i64 0),.sc (.int .i64 0)] := by kernel_rfl
theorem ha60 : ax prog 60 = true := by kernel_rfl
theorem sz61 : ai prog 61 = 5 := by kernel_rfl
theorem by61 : ay prog 61 = 40 := by kernel_rfl
theorem ze61 : aq prog 61 = [.sc (.int .i64 0),.sc (.int .i64 0),.sc (.int .i64 0),.sc (.int .i64 0),.sc (.int .i64 0)] := by kernel_rfl
theorem zn61 : ap prog 61 = [.sc (.int .i64 0),.sc (.int .i64 0),.sc (.int .i64 0),.sc (.int .i64 0),.sc (.int .i64 0)] := by kernel_rfl
theorem ha61 : ax prog 61 = true := by kernel_rfl
theorem sz62 : ai prog 62 = 1 := by kernel_rfl
theorem by62 : ay prog 62 = 24 := by kernel_rfl
theorem ze62 : aq prog 62 = [.imm 0 [] 0] := by kernel_rfl
theorem zn62 : ap prog 62 = [.sc (.slice none 0 0)] := by kernel_rfl
theorem ha62 : ax prog 62 = true := by kernel_rfl
theorem sz63 : ai prog 63 = 1 := by kernel_rfl
theorem by63 : ay prog 63 = 8 := by kernel_rfl
theorem ze63 : aq prog 63 = [.sc (.pointer none)] := by kernel_rfl
theorem zn63 : ap prog 63 = [.sc (.pointer none)] := by kernel_rfl
theorem ha63 : ax prog 63 = true := by kernel_rfl
theorem sz66 : ai prog 66 = 2 := by kernel_rfl
theorem by66 : ay prog 66 = 32 := by kernel_rfl
theorem ze66 : aq prog 66 = [.imm 0 [] 0,.sc (.int .i64 0)] := by kernel_rfl
theorem zn66 : ap prog 66 = [.sc (.slice none 0 0),.sc (.int .i64 0)] := by kernel_rfl
theorem ha66 : ax prog 66 = true := by kernel_rfl
theorem sz67 : ai prog 67 = 2 := by kernel_rfl
theorem by67 : ay prog 67 = 32 := by kernel_rfl
theorem ze67 : aq prog 67 = [.imm 0 [] 0,.sc (.int .i64 0)] := by kernel_rfl
theorem zn67 : ap prog 67 = [.sc (.slice none 0 0),.sc (.int .i64 0)] := by kernel_rfl
theorem ha67 : ax prog 67 = true := by kernel_rfl
theorem sz75 : ai prog 75 = 2 := by kernel_rfl
theorem by75 : ay prog 75 = 16 := by kernel_rfl
theorem ze75 : aq prog 75 = [.sc (.int .i64 0),.sc (.int .i64 0)] := by kernel_rfl
theorem zn75 : ap prog 75 = [.sc (.int .i64 0),.sc (.int .i64 0)] := by kernel_rfl
theorem ha75 : ax prog 75 = true := by kernel_rfl
theorem sz76 : ai prog 76 = 2 := by kernel_rfl
theorem by76 : ay prog 76 = 16 := by kernel_rfl
theorem ze76 : aq prog 76 = [.sc (.int .i64 0),.sc (.int .i64 0)] := by kernel_rfl
theorem zn76 : ap prog 76 = [.sc (.int .i64 0),.sc (.int .i64 0)] := by kernel_rfl
theorem ha76 : ax prog 76 = true := by kernel_rfl
theorem sz77 : ai prog 77 = 6 := by kernel_rfl
theorem by77 : ay prog 77 = 40 := by kernel_rfl
theorem ze77 : aq prog 77 = [.sc (.int .i64 0),.sc (.int .i64 0),.sc (.int .i64 0),.sc (.int .i64 0),.sc (.bool false),.sc (.int .i32 0)] := by kernel_rfl
theorem zn77 : ap prog 77 = [.sc (.int .i64 0),.sc (.int .i64 0),.sc (.int .i64 0),.sc (.int .i64 0),.sc (.bool false),.sc (.int .i32 0)] := by kernel_rfl
theorem ha77 : ax prog 77 = true := by kernel_rfl
theorem sz78 : ai prog 78 = 6 := by kernel_rfl
theorem by78 : ay prog 78 = 40 := by kernel_rfl
theorem ze78 : aq prog 78 = [.sc (.int .i64 0),.sc (.int .i64 0),.sc (.int .i64 0),.sc (.int .i64 0),.sc (.bool false),.sc (.int .i32 0)] := by kernel_rfl
theorem zn78 : ap prog 78 = [.sc (.int .i64 0),.sc (.int .i64 0),.sc (.int .i64 0),.sc (.int .i64 0),.sc (.bool false),.sc (.int .i32 0)] := by kernel_rfl
theorem ha78 : ax prog 78 = true := by kernel_rfl
theorem sz79 : ai prog 79 = 3 := by kernel_rfl
theorem by79 : ay prog 79 = 24 := by kernel_rfl
theorem ze79 : aq prog 79 = [.sc (.int .i64 0),.sc (.int .i64 0),.sc (.bool false)] := by kernel_rfl
theorem zn79 : ap prog 79 = [.sc (.int .i64 0),.sc (.int .i64 0),.sc (.bool false)] := by kernel_rfl
theorem ha79 : ax prog 79 = true := by kernel_rfl
theorem sz80 : ai prog 80 = 3 := by kernel_rfl
theorem by80 : ay prog 80 = 24 := by kernel_rfl
theorem ze80 : aq prog 80 = [.sc (.int .i64 0),.sc (.int .i64 0),.sc (.bool false)] := by kernel_rfl
theorem zn80 : ap prog 80 = [.sc (.int .i64 0),.sc (.int .i64 0),.sc (.bool false)] := by kernel_rfl
theorem ha80 : ax prog 80 = true := by kernel_rfl
theorem sz81 : ai prog 81 = 10 := by kernel_rfl
theorem by81 : ay prog 81 = 80 := by kernel_rfl
theorem ze81 : aq prog 81 = [.sc (.int .i64 0),.sc (.int .i64 0),.sc (.int .i64 0),.sc (.int .i64 0),.sc (.bool false),.sc (.int .i64 0),.sc (.int .i64 0),.sc (.bool false),.sc (.int .i64 0),.sc (.int .i64 0)] := by kernel_rfl
theorem zn81 : ap prog 81 = [.sc (.int .i64 0),.sc (.int .i64 0),.sc (.int .i64 0),.sc (.int .i64 0),.sc (.bool false),.sc (.int .i64 0),.sc (.int .i64 0),.sc (.bool false),.sc (.int .i64 0),.sc (.int .i64 0)] := by kernel_rfl
theorem ha81 : ax prog 81 = true := by kernel_rfl
theorem sz82 : ai prog 82 = 10 := by kernel_rfl
theorem by82 : ay prog 82 = 80 := by kernel_rfl
theorem ze82 : aq prog 82 = [.sc (.int .i64 0),.sc (.int .i64 0),.sc (.int .i64 0),.sc (.int .i64 0),.sc (.bool false),.sc (.int .i64 0),.sc (.int .i64 0),.sc (.bool false),.sc (.int .i64 0),.sc (.int .i64 0)] := by kernel_rfl
theorem zn82 : ap prog 82 = [.sc (.int .i64 0),.sc (.int .i64 0),.sc (.int .i64 0),.sc (.int .i64 0),.sc (.bool false),.sc (.int .i64 0),.sc (.int .i64 0),.sc (.bool false),.sc (.int .i64 0),.sc (.int .i64 0)] := by kernel_rfl
theorem ha82 : ax prog 82 = true := by kernel_rfl
theorem sz83 : ai prog 83 = 19 := by kernel_rfl
theorem by83 : ay prog 83 = 144 := by kernel_rfl
theorem ze83 : aq prog 83 = [.sc (.int .i64 0),.sc (.int .i64 0),.sc (.int .i64 0),.sc (.int .i64 0),.sc (.int .i64 0),.sc (.bool false),.sc (.int .i32 0),.sc (.int .i64 0),.sc (.int .i64 0),.sc (.int .i64 0),.sc (.int .i64 0),.sc (.int .i64 0),.sc (.int .i64 0),.sc (.bool false),.sc (.int .i64 0),.sc (.int .i64 0),.sc (.bool false),.sc (.int .i64 0),.sc (.int .i64 0)] := by kernel_rfl
theorem zn83 : ap prog 83 = [.sc (.int .i64 0),.sc (.int .i64 0),.sc (.int .i64 0),.sc (.int .i64 0),.sc (.int .i64 0),.sc (.bool false),.sc (.int .i32 0),.sc (.int .i64 0),.sc (.int .i64 0),.sc (.int .i64 0),.sc (.int .i64 0),.sc (.int .i64 0),.sc (.int .i64 0),.sc (.bool false),.sc (.int .i64 0),.sc (.int .i64 0),.sc (.bool false),.sc (.int .i64 0),.sc (.int .i64 0)] := by kernel_rfl
theorem ha83 : ax prog 83 = true := by kernel_rfl
theorem sz84 : ai prog 84 = 19 := by kernel_rfl
theorem by84 : ay prog 84 = 144 := by kernel_rfl
theorem ze84 : aq prog 84 = [.sc (.int .i64 0),.sc (.int .i64 0),.sc (.int .i64 0),.sc (.int .i64 0),.sc (.int .i64 0),.sc (.bool false),.sc (.int .i32 0),.sc (.int .i64 0),.sc (.int .i64 0),.sc (.int .i64 0),.sc (.int .i64 0),.sc (.int .i64 0),.sc (.int .i64 0),.sc (.bool false),.sc (.int .i64 0),.sc (.int .i64 0),.sc (.bool false),.sc (.int .i64 0),.sc (.int .i64 0)] := by kernel_rfl
theorem zn84 : ap prog 84 = [.sc (.int .i64 0),.sc (.int .i64 0),.sc (.int .i64 0),.sc (.int .i64 0),.sc (.int .i64 0),.sc (.bool false),.sc (.int .i32 0),.sc (.int .i64 0),.sc (.int .i64 0),.sc (.int .i64 0),.sc (.int .i64 0),.sc (.int .i64 0),.sc (.int .i64 0),.sc (.bool false),.sc (.int .i64 0),.sc (.int .i64 0),.sc (.bool false),.sc (.int .i64 0),.sc (.int .i64 0)] := by kernel_rfl
theorem ha84 : ax prog 84 = true := by kernel_rfl
theorem sz90 : ai prog 90 = 1 := by kernel_rfl
theorem by90 : ay prog 90 = 24 := by kernel_rfl
theorem ze90 : aq prog 90 = [.imm 0 [] 0] := by kernel_rfl
theorem zn90 : ap prog 90 = [.sc (.slice none 0 0)] := by kernel_rfl
theorem ha90 : ax prog 90 = true := by kernel_rfl
theorem sz92 : ai prog 92 = 1 := by kernel_rfl
theorem by92 : ay prog 92 = 8 := by kernel_rfl
theorem ze92 : aq prog 92 = [.sc (.int .u64 0)] := by kernel_rfl
theorem zn92 : ap prog 92 = [.sc (.int .u64 0)] := by kernel_rfl
theorem ha92 : ax prog 92 = true := by kernel_rfl
theorem sz95 : ai prog 95 = 1 := by kernel_rfl
theorem by95 : ay prog 95 = 8 := by kernel_rfl
theorem ze95 : aq prog 95 = [.sc (.map none)] := by kernel_rfl
theorem zn95 : ap prog 95 = [.sc (.map none)] := by kernel_rfl
theorem ha95 : ax prog 95 = true := by kernel_rfl
theorem sz96 : ai prog 96 = 1 := by kernel_rfl
theorem by96 : ay prog 96 = 8 := by kernel_rfl
theorem ze96 : aq prog 96 = [.sc (.map none)] := by kernel_rfl
theorem zn96 : ap prog 96 = [.sc (.map none)] := by kernel_rfl
theorem ha96 : ax prog 96 = true := by kernel_rfl
theorem sz97 : ai prog 97 = 1 := by kernel_rfl
theorem by97 : ay prog 97 = 8 := by kernel_rfl
theorem ze97 : aq prog 97 = [.sc (.pointer none)] := by kernel_rfl
theorem zn97 : ap prog 97 = [.sc (.pointer none)] := by kernel_rfl
theorem ha97 : ax prog 97 = true := by kernel_rfl
theorem sz98 : ai prog 98 = 1 := by kernel_rfl
theorem by98 : ay prog 98 = 8 := by kernel_rfl
theorem ze98 : aq prog 98 = [.sc (.pointer none)] := by kernel_rfl
theorem zn98 : ap prog 98 = [.sc (.pointer none)] := by kernel_rfl
theorem ha98 : ax prog 98 = true := by kernel_rfl
theorem sz99 : ai prog 99 = 5 := by kernel_rfl
theorem by99 : ay prog 99 = 56 := by kernel_rfl
theorem ze99 : aq prog 99 = [.sc (.map none),.sc (.map none),.imm 0 [] 0,.sc (.pointer none),.sc (.pointer none)] := by kernel_rfl
theorem zn99 : ap prog 99 = [.sc (.map none),.sc (.map none),.sc (.slice none 0 0),.sc (.pointer none),.sc (.pointer none)] := by kernel_rfl
theorem ha99 : ax prog 99 = true := by kernel_rfl
theorem sz100 : ai prog 100 = 5 := by kernel_rfl
theorem by100 : ay prog 100 = 56 := by kernel_rfl
theorem ze100 : aq prog 100 = [.sc (.map none),.sc (.map none),.imm 0 [] 0,.sc (.pointer none),.sc (.pointer none)] := by kernel_rfl
theorem zn100 : ap prog 100 = [.sc (.map none),.sc (.map none),.sc (.slice none 0 0),.sc (.pointer none),.sc (.pointer none)] := by kernel_rfl
theorem ha100 : ax prog 100 = true := by kernel_rfl
theorem sz104 : ai prog 104 = 1 := by kernel_rfl
theorem by104 : ay prog 104 = 8 := by kernel_rfl
theorem ze104 : aq prog 104 = [.sc (.map none)] := by kernel_rfl
theorem zn104 : ap prog 104 = [.sc (.map none)] := by kernel_rfl
theorem ha104 : ax prog 104 = true := by kernel_rfl
theorem sz105 : ai prog 105 = 1 := by kernel_rfl
theorem by105 : ay prog 105 = 24 := by kernel_rfl
theorem ze105 : aq prog 105 = [.imm 0 [] 0] := by kernel_rfl
theorem zn105 : ap prog 105 = [.sc (.slice none 0 0)] := by kernel_rfl
theorem ha105 : ax prog 105 = true := by kernel_rfl
theorem sz108 : ai prog 108 = 3 := by kernel_rfl
theorem by108 : ay prog 108 = 24 := by kernel_rfl
theorem ze108 : aq prog 108 = [.sc (.int .i64 0),.sc (.int .i64 0),.sc (.int .i64 0)] := by kernel_rfl
theorem zn108 : ap prog 108 = [.sc (.int .i64 0),.sc (.int .i64 0),.sc (.int .i64 0)] := by kernel_rfl
theorem ha108 : ax prog 108 = true := by kernel_rfl
theorem sz119 : ai prog 119 = 4 := by kernel_rfl
theorem by119 : ay prog 119 = 24 := by kernel_rfl
theorem ze119 : aq prog 119 = [.sc (.int .i64 0),.sc (.int .i64 0),.sc (.int .i32 0),.sc (.bool false)] := by kernel_rfl
theorem zn119 : ap prog 119 = [.sc (.int .i64 0),.sc (.int .i64 0),.sc (.int .i32 0),.sc (.bool false)] := by kernel_rfl
theorem ha119 : ax prog 119 = true := by kernel_rfl
theorem sz120 : ai prog 120 = 4 := by kernel_rfl
theorem by120 : ay prog 120 = 24 := by kernel_rfl
theorem ze120 : aq prog 120 = [.sc (.int .i64 0),.sc (.int .i64 0),.sc (.int .i32 0),.sc (.bool false)] := by kernel_rfl
theorem zn120 : ap prog 120 = [.sc (.int .i64 0),.sc (.int .i64 0),.sc (.int .i32 0),.sc (.bool false)] := by kernel_rfl
theorem ha120 : ax prog 120 = true := by kernel_rfl
theorem sz121 : ai prog 121 = 6 := by kernel_rfl
theorem by121 : ay prog 121 = 56 := by kernel_rfl
theorem ze121 : aq prog 121 = [.sc (.string ⟨#[]⟩),.sc (.int .i64 0),.sc (.int .i64 0),.sc (.int .i64 0),.sc (.int .i64 0),.sc (.int .i64 0)] := by kernel_rfl
theorem zn121 : ap prog 121 = [.sc (.string ⟨#[]⟩),.sc (.int .i64 0),.sc (.int .i64 0),.sc (.int .i64 0),.sc (.int .i64 0),.sc (.int .i64 0)] := by kernel_rfl
theorem ha121 : ax prog 121 = true := by kernel_rfl
theorem sz122 : ai prog 122 = 6 := by kernel_rfl
theorem by122 : ay prog 122 = 56 := by kernel_rfl
theorem ze122 : aq prog 122 = [.sc (.string ⟨#[]⟩),.sc (.int .i64 0),.sc (.int .i64 0),.sc (.int .i64 0),.sc (.int .i64 0),.sc (.int .i64 0)] := by kernel_rfl
theorem zn122 : ap prog 122 = [.sc (.string ⟨#[]⟩),.sc (.int .i64 0),.sc (.int .i64 0),.sc (.int .i64 0),.sc (.int .i64 0),.sc (.int .i64 0)] := by kernel_rfl
theorem ha122 : ax prog 122 = true := by kernel_rfl
theorem sz126 : ai prog 126 = 4 := by kernel_rfl
theorem by126 : ay prog 126 = 48 := by kernel_rfl
theorem ze126 : aq prog 126 = [.imm 0 [] 0,.sc (.int .i64 0),.sc (.bool false),.sc (.int .i64 0)] := by kernel_rfl
theorem zn126 : ap prog 126 = [.sc (.slice none 0 0),.sc (.int .i64 0),.sc (.bool false),.sc (.int .i64 0)] := by kernel_rfl
theorem ha126 : ax prog 126 = true := by kernel_rfl
theorem sz127 : ai prog 127 = 4 := by kernel_rfl
theorem by127 : ay prog 127 = 48 := by kernel_rfl
theorem ze127 : aq prog 127 = [.imm 0 [] 0,.sc (.int .i64 0),.sc (.bool false),.sc (.int .i64 0)] := by kernel_rfl
theorem zn127 : ap prog 127 = [.sc (.slice none 0 0),.sc (.int .i64 0),.sc (.bool false),.sc (.int .i64 0)] := by kernel_rfl
theorem ha127 : ax prog 127 = true := by kernel_rfl
theorem sz128 : ai prog 128 = 4 := by kernel_rfl
theorem by128 : ay prog 128 = 48 := by kernel_rfl
theorem ze128 : aq prog 128 = [.imm 0 [] 0,.sc (.int .i64 0),.sc (.bool false),.sc (.int .i64 0)] := by kernel_rfl
theorem zn128 : ap prog 128 = [.sc (.slice none 0 0),.sc (.int .i64 0),.sc (.bool false),.sc (.int .i64 0)] := by kernel_rfl
theorem ha128 : ax prog 128 = true := by kernel_rfl
theorem sz129 : ai prog 129 = 4 := by kernel_rfl
theorem by129 : ay prog 129 = 48 := by kernel_rfl
theorem ze129 : aq prog 129 = [.imm 0 [] 0,.sc (.int .i64 0),.sc (.bool false),.sc (.int .i64 0)] := by kernel_rfl
theorem zn129 : ap prog 129 = [.sc (.slice none 0 0),.sc (.int .i64 0),.sc (.bool false),.sc (.int .i64 0)] := by kernel_rfl
theorem ha129 : ax prog 129 = true := by kernel_rfl
theorem sz146 : ai prog 146 = 2 := by kernel_rfl
theorem by146 : ay prog 146 = 48 := by kernel_rfl
theorem ze146 : aq prog 146 = [.imm 0 [] 0,.imm 0 [] 0] := by kernel_rfl
theorem zn146 : ap prog 146 = [.sc (.slice none 0 0),.sc (.slice none 0 0)] := by kernel_rfl
theorem ha146 : ax prog 146 = true := by kernel_rfl
theorem sz147 : ai prog 147 = 6 := by kernel_rfl
theorem by147 : ay prog 147 = 72 := by kernel_rfl
theorem ze147 : aq prog 147 = [.sc (.int .i64 0),.sc (.int .i64 0),.sc (.int .i32 0),.sc (.bool false),.imm 0 [] 0,.imm 0 [] 0] := by kernel_rfl
theorem zn147 : ap prog 147 = [.sc (.int .i64 0),.sc (.int .i64 0),.sc (.int .i32 0),.sc (.bool false),.sc (.slice none 0 0),.sc (.slice none 0 0)] := by kernel_rfl
theorem ha147 : ax prog 147 = true := by kernel_rfl
theorem sz148 : ai prog 148 = 6 := by kernel_rfl
theorem by148 : ay prog 148 = 72 := by kernel_rfl
theorem ze148 : aq prog 148 = [.sc (.int .i64 0),.sc (.int .i64 0),.sc (.int .i32 0),.sc (.bool false),.imm 0 [] 0,.imm 0 [] 0] := by kernel_rfl
theorem zn148 : ap prog 148 = [.sc (.int .i64 0),.sc (.int .i64 0),.sc (.int .i32 0),.sc (.bool false),.sc (.slice none 0 0),.sc (.slice none 0 0)] := by kernel_rfl
theorem ha148 : ax prog 148 = true := by kernel_rfl
theorem sz150 : ai prog 150 = 1 := by kernel_rfl
theorem by150 : ay prog 150 = 8 := by kernel_rfl
theorem ze150 : aq prog 150 = [.sc (.map none)] := by kernel_rfl
theorem zn150 : ap prog 150 = [.sc (.map none)] := by kernel_rfl
theorem ha150 : ax prog 150 = true := by kernel_rfl
theorem sz151 : ai prog 151 = 2 := by kernel_rfl
theorem by151 : ay prog 151 = 16 := by kernel_rfl
theorem ze151 : aq prog 151 = [.sc (.map none),.sc (.int .i64 0)] := by kernel_rfl
theorem zn151 : ap prog 151 = [.sc (.map none),.sc (.int .i64 0)] := by kernel_rfl
theorem ha151 : ax prog 151 = true := by kernel_rfl
theorem sz152 : ai prog 152 = 2 := by kernel_rfl
theorem by152 : ay prog 152 = 16 := by kernel_rfl
theorem ze152 : aq prog 152 = [.sc (.map none),.sc (.int .i64 0)] := by kernel_rfl
theorem zn152 : ap prog 152 = [.sc (.map none),.sc (.int .i64 0)] := by kernel_rfl
theorem ha152 : ax prog 152 = true := by kernel_rfl
theorem sz154 : ai prog 154 = 1 := by kernel_rfl
theorem by154 : ay prog 154 = 8 := by kernel_rfl
theorem ze154 : aq prog 154 = [.sc .nilFunc] := by kernel_rfl
theorem zn154 : ap prog 154 = [.sc .nilFunc] := by kernel_rfl
theorem ha154 : ax prog 154 = true := by kernel_rfl
theorem sz157 : ai prog 157 = 1 := by kernel_rfl
theorem by157 : ay prog 157 = 24 := by kernel_rfl
theorem ze157 : aq prog 157 = [.imm 0 [] 0] := by kernel_rfl
theorem zn157 : ap prog 157 = [.sc (.slice none 0 0)] := by kernel_rfl
theorem ha157 : ax prog 157 = true := by kernel_rfl
theorem sz158 : ai prog 158 = 1 := by kernel_rfl
theorem by158 : ay prog 158 = 24 := by kernel_rfl
theorem ze158 : aq prog 158 = [.imm 0 [] 0] := by kernel_rfl
theorem zn158 : ap prog 158 = [.sc (.slice none 0 0)] := by kernel_rfl
theorem ha158 : ax prog 158 = true := by kernel_rfl
theorem sz180 : ai prog 180 = 1 := by kernel_rfl
theorem by180 : ay prog 180 = 8 := by kernel_rfl
theorem ze180 : aq prog 180 = [.sc (.pointer none)] := by kernel_rfl
theorem zn180 : ap prog 180 = [.sc (.pointer none)] := by kernel_rfl
theorem ha180 : ax prog 180 = true := by kernel_rfl
theorem sz187 : ai prog 187 = 4 := by kernel_rfl
theorem by187 : ay prog 187 = 32 := by kernel_rfl
theorem ze187 : aq prog 187 = [.sc (.int .i64 0),.sc (.int .i64 0),.sc (.int .i64 0),.sc (.int .i64 0)] := by kernel_rfl
theorem zn187 : ap prog 187 = [.sc (.int .i64 0),.sc (.int .i64 0),.sc (.int .i64 0),.sc (.int .i64 0)] := by kernel_rfl
theorem ha187 : ax prog 187 = true := by kernel_rfl
theorem sz188 : ai prog 188 = 4 := by kernel_rfl
theorem by188 : ay prog 188 = 32 := by kernel_rfl
theorem ze188 : aq prog 188 = [.sc (.int .i64 0),.sc (.int .i64 0),.sc (.int .i64 0),.sc (.int .i64 0)] := by kernel_rfl
theorem zn188 : ap prog 188 = [.sc (.int .i64 0),.sc (.int .i64 0),.sc (.int .i64 0),.sc (.int .i64 0)] := by kernel_rfl
theorem ha188 : ax prog 188 = true := by kernel_rfl
theorem sz189 : ai prog 189 = 1 := by kernel_rfl
theorem by189 : ay prog 189 = 24 := by kernel_rfl
theorem ze189 : aq prog 189 = [.imm 0 [] 0] := by kernel_rfl
theorem zn189 : ap prog 189 = [.sc (.slice none 0 0)] := by kernel_rfl
theorem ha189 : ax prog 189 = true := by kernel_rfl
theorem sz199 : ai prog 199 = 1 := by kernel_rfl
theorem by199 : ay prog 199 = 8 := by kernel_rfl
theorem ze199 : aq prog 199 = [.sc (.int .i64 0)] := by kernel_rfl
theorem zn199 : ap prog 199 = [.sc (.int .i64 0)] := by kernel_rfl
theorem ha199 : ax prog 199 = true := by kernel_rfl
theorem sz206 : ai prog 206 = 1 := by kernel_rfl
theorem by206 : ay prog 206 = 4 := by kernel_rfl
theorem ze206 : aq prog 206 = [.sc (.int .u32 0)] := by kernel_rfl
theorem zn206 : ap prog 206 = [.sc (.int .u32 0)] := by kernel_rfl
theorem ha206 : ax prog 206 = true := by kernel_rfl
theorem sz208 : ai prog 208 = 1 := by kernel_rfl
theorem by208 : ay prog 208 = 8 := by kernel_rfl
theorem ze208 : aq prog 208 = [.sc (.int .u64 0)] := by kernel_rfl
theorem zn208 : ap prog 208 = [.sc (.int .u64 0)] := by kernel_rfl
theorem ha208 : ax prog 208 = true := by kernel_rfl
theorem sz215 : ai prog 215 = 1 := by kernel_rfl
theorem by215 : ay prog 215 = 8 := by kernel_rfl
theorem ze215 : aq prog 215 = [.sc (.int .u64 0)] := by kernel_rfl
theorem zn215 : ap prog 215 = [.sc (.int .u64 0)] := by kernel_rfl
theorem ha215 : ax prog 215 = true := by kernel_rfl
theorem sz219 : ai prog 219 = 1 := by kernel_rfl
theorem by219 : ay prog 219 = 8 := by kernel_rfl
theorem ze219 : aq prog 219 = [.sc (.pointer none)] := by kernel_rfl
theorem zn219 : ap prog 219 = [.sc (.pointer none)] := by kernel_rfl
theorem ha219 : ax prog 219 = true := by kernel_rfl
theorem sz222 : ai prog 222 = 1 := by kernel_rfl
theorem by222 : ay prog 222 = 8 := by kernel_rfl
theorem ze222 : aq prog 222 = [.sc (.pointer none)] := by kernel_rfl
theorem zn222 : ap prog 222 = [.sc (.pointer none)] := by kernel_rfl
theorem ha222 : ax prog 222 = true := by kernel_rfl
theorem sz234 : ai prog 234 = 1 := by kernel_rfl
theorem by234 : ay prog 234 = 8 := by kernel_rfl
theorem ze234 : aq prog 234 = [.sc (.pointer none)] := by kernel_rfl
theorem zn234 : ap prog 234 = [.sc (.pointer none)] := by kernel_rfl
theorem ha234 : ax prog 234 = true := by kernel_rfl
theorem eq60 (a1 b1 : Int) (a2 b2 : Int) (a3 b3 : Int) (a4 b4 : Int) (a5 b5 : Int) : eqG prog 6 60 (.agg [.sc (.int .i64 a1),.sc (.int .i64 a2),.sc (.int .i64 a3),.sc (.int .i64 a4),.sc (.int .i64 a5)]) (.agg [.sc (.int .i64 b1),.sc (.int .i64 b2),.sc (.int .i64 b3),.sc (.int .i64 b4),.sc (.int .i64 b5)]) = some ((a1 == b1) && ((a2 == b2) && ((a3 == b3) && ((a4 == b4) && ((a5 == b5) && true))))) := by kernel_rfl
theorem ck60 (x0 x1 x2 x3 x4 : AV) : cl prog 6 60 (.agg [x0,x1,x2,x3,x4]) = true := by kernel_rfl
theorem eq61 (a1 b1 : Int) (a2 b2 : Int) (a3 b3 : Int) (a4 b4 : Int) (a5 b5 : Int) : eqG prog 6 61 (.agg [.sc (.int .i64 a1),.sc (.int .i64 a2),.sc (.int .i64 a3),.sc (.int .i64 a4),.sc (.int .i64 a5)]) (.agg [.sc (.int .i64 b1),.sc (.int .i64 b2),.sc (.int .i64 b3),.sc (.int .i64 b4),.sc (.int .i64 b5)]) = some ((a1 == b1) && ((a2 == b2) && ((a3 == b3) && ((a4 == b4) && ((a5 == b5) && true))))) := by kernel_rfl
theorem ck61 (x0 x1 x2 x3 x4 : AV) : cl prog 6 61 (.agg [x0,x1,x2,x3,x4]) = true := by kernel_rfl
theorem eq75 (a1 b1 : Int) (a2 b2 : Int) : eqG prog 6 75 (.agg [.sc (.int .i64 a1),.sc (.int .i64 a2)]) (.agg [.sc (.int .i64 b1),.sc (.int .i64 b2)]) = some ((a1 == b1) && ((a2 == b2) && true)) := by kernel_rfl
theorem ck75 (x0 x1 : AV) : cl prog 6 75 (.agg [x0,x1]) = true := by kernel_rfl
theorem eq76 (a1 b1 : Int) (a2 b2 : Int) : eqG prog 6 76 (.agg [.sc (.int .i64 a1),.sc (.int .i64 a2)]) (.agg [.sc (.int .i64 b1),.sc (.int .i64 b2)]) = some ((a1 == b1) && ((a2 == b2) && true)) := by kernel_rfl
theorem ck76 (x0 x1 : AV) : cl prog 6 76 (.agg [x0,x1]) = true := by kernel_rfl
theorem eq77 (a1 b1 : Int) (a2 b2 : Int) (a3 b3 : Int) (a4 b4 : Int) (a5 b5 : Bool) (a6 b6 : Int) : eqG prog 6 77 (.agg [.sc (.int .i64 a1),.sc (.int .i64 a2),.sc (.int .i64 a3),.sc (.int .i64 a4),.sc (.bool a5),.sc (.int .i32 a6)]) (.agg [.sc (.int .i64 b1),.sc (.int .i64 b2),.sc (.int .i64 b3),.sc (.int .i64 b4),.sc (.bool b5),.sc (.int .i32 b6)]) = some (((a1 == b1) && ((a2 == b2) && true)) && (((a3 == b3) && ((a4 == b4) && true)) && ((a5 == b5) && ((a6 == b6) && true)))) := by kernel_rfl
theorem ck77 (x0 x1 x2 x3 x4 x5 : AV) : cl prog 6 77 (.agg [x0,x1,x2,x3,x4,x5]) = true := by kernel_rfl
theorem eq78 (a1 b1 : Int) (a2 b2 : Int) (a3 b3 : Int) (a4 b4 : Int) (a5 b5 : Bool) (a6 b6 : Int) : eqG prog 6 78 (.agg [.sc (.int .i64 a1),.sc (.int .i64 a2),.sc (.int .i64 a3),.sc (.int .i64 a4),.sc (.bool a5),.sc (.int .i32 a6)]) (.agg [.sc (.int .i64 b1),.sc (.int .i64 b2),.sc (.int .i64 b3),.sc (.int .i64 b4),.sc (.bool b5),.sc (.int .i32 b6)]) = some (((a1 == b1) && ((a2 == b2) && true)) && (((a3 == b3) && ((a4 == b4) && true)) && ((a5 == b5) && ((a6 == b6) && true)))) := by kernel_rfl
theorem ck78 (x0 x1 x2 x3 x4 x5 : AV) : cl prog 6 78 (.agg [x0,x1,x2,x3,x4,x5]) = true := by kernel_rfl
theorem eq79 (a1 b1 : Int) (a2 b2 : Int) (a3 b3 : Bool) : eqG prog 6 79 (.agg [.sc (.int .i64 a1),.sc (.int .i64 a2),.sc (.bool a3)]) (.agg [.sc (.int .i64 b1),.sc (.int .i64 b2),.sc (.bool b3)]) = some (((a1 == b1) && ((a2 == b2) && true)) && ((a3 == b3) && true)) := by kernel_rfl
theorem ck79 (x0 x1 x2 : AV) : cl prog 6 79 (.agg [x0,x1,x2]) = true := by kernel_rfl
theorem eq80 (a1 b1 : Int) (a2 b2 : Int) (a3 b3 : Bool) : eqG prog 6 80 (.agg [.sc (.int .i64 a1),.sc (.int .i64 a2),.sc (.bool a3)]) (.agg [.sc (.int .i64 b1),.sc (.int .i64 b2),.sc (.bool b3)]) = some (((a1 == b1) && ((a2 == b2) && true)) && ((a3 == b3) && true)) := by kernel_rfl
theorem ck80 (x0 x1 x2 : AV) : cl prog 6 80 (.agg [x0,x1,x2]) = true := by kernel_rfl
theorem eq81 (a1 b1 : Int) (a2 b2 : Int) (a3 b3 : Int) (a4 b4 : Int) (a5 b5 : Bool) (a6 b6 : Int) (a7 b7 : Int) (a8 b8 : Bool) (a9 b9 : Int) (a10 b10 : Int) : eqG prog 6 81 (.agg [.sc (.int .i64 a1),.sc (.int .i64 a2),.sc (.int .i64 a3),.sc (.int .i64 a4),.sc (.bool a5),.sc (.int .i64 a6),.sc (.int .i64 a7),.sc (.bool a8),.sc (.int .i64 a9),.sc (.int .i64 a10)]) (.agg [.sc (.int .i64 b1),.sc (.int .i64 b2),.sc (.int .i64 b3),.sc (.int .i64 b4),.sc (.bool b5),.sc (.int .i64 b6),.sc (.int .i64 b7),.sc (.bool b8),.sc (.int .i64 b9),.sc (.int .i64 b10)]) = some ((a1 == b1) && ((a2 == b2) && ((((a3 == b3) && ((a4 == b4) && true)) && ((a5 == b5) && true)) && ((((a6 == b6) && ((a7 == b7) && true)) && ((a8 == b8) && true)) && ((a9 == b9) && ((a10 == b10) && true)))))) := by kernel_rfl
theorem ck81 (x0 x1 x2 x3 x4 x5 x6 x7 x8 x9 : AV) : cl prog 6 81 (.agg [x0,x1,x2,x3,x4,x5,x6,x7,x8,x9]) = true := by kernel_rfl
theorem eq82 (a1 b1 : Int) (a2 b2 : Int) (a3 b3 : Int) (a4 b4 : Int) (a5 b5 : Bool) (a6 b6 : Int) (a7 b7 : Int) (a8 b8 : Bool) (a9 b9 : Int) (a10 b10 : Int) : eqG prog 6 82 (.agg [.sc (.int .i64 a1),.sc (.int .i64 a2),.sc (.int .i64 a3),.sc (.int .i64 a4),.sc (.bool a5),.sc (.int .i64 a6),.sc (.int .i64 a7),.sc (.bool a8),.sc (.int .i64 a9),.sc (.int .i64 a10)]) (.agg [.sc (.int .i64 b1),.sc (.int .i64 b2),.sc (.int .i64 b3),.sc (.int .i64 b4),.sc (.bool b5),.sc (.int .i64 b6),.sc (.int .i64 b7),.sc (.bool b8),.sc (.int .i64 b9),.sc (.int .i64 b10)]) = some ((a1 == b1) && ((a2 == b2) && ((((a3 == b3) && ((a4 == b4) && true)) && ((a5 == b5) && true)) && ((((a6 == b6) && ((a7 == b7) && true)) && ((a8 == b8) && true)) && ((a9 == b9) && ((a10 == b10) && true)))))) := by kernel_rfl
theorem ck82 (x0 x1 x2 x3 x4 x5 x6 x7 x8 x9 : AV) : cl prog 6 82 (.agg [x0,x1,x2,x3,x4,x5,x6,x7,x8,x9]) = true := by kernel_rfl
theorem eq108 (a1 b1 : Int) (a2 b2 : Int) (a3 b3 : Int) : eqG prog 6 108 (.agg [.sc (.int .i64 a1),.sc (.int .i64 a2),.sc (.int .i64 a3)]) (.agg [.sc (.int .i64 b1),.sc (.int .i64 b2),.sc (.int .i64 b3)]) = some ((a1 == b1) && ((a2 == b2) && ((a3 == b3) && true))) := by kernel_rfl
theorem ck108 (x0 x1 x2 : AV) : cl prog 6 108 (.agg [x0,x1,x2]) = true := by kernel_rfl
theorem eq119 (a1 b1 : Int) (a2 b2 : Int) (a3 b3 : Int) (a4 b4 : Bool) : eqG prog 6 119 (.agg [.sc (.int .i64 a1),.sc (.int .i64 a2),.sc (.int .i32 a3),.sc (.bool a4)]) (.agg [.sc (.int .i64 b1),.sc (.int .i64 b2),.sc (.int .i32 b3),.sc (.bool b4)]) = some (((a1 == b1) && ((a2 == b2) && true)) && ((a3 == b3) && ((a4 == b4) && true))) := by kernel_rfl
theorem ck119 (x0 x1 x2 x3 : AV) : cl prog 6 119 (.agg [x0,x1,x2,x3]) = true := by kernel_rfl
theorem eq120 (a1 b1 : Int) (a2 b2 : Int) (a3 b3 : Int) (a4 b4 : Bool) : eqG prog 6 120 (.agg [.sc (.int .i64 a1),.sc (.int .i64 a2),.sc (.int .i32 a3),.sc (.bool a4)]) (.agg [.sc (.int .i64 b1),.sc (.int .i64 b2),.sc (.int .i32 b3),.sc (.bool b4)]) = some (((a1 == b1) && ((a2 == b2) && true)) && ((a3 == b3) && ((a4 == b4) && true))) := by kernel_rfl
theorem ck120 (x0 x1 x2 x3 : AV) : cl prog 6 120 (.agg [x0,x1,x2,x3]) = true := by kernel_rfl
theorem eq187 (a1 b1 : Int) (a2 b2 : Int) (a3 b3 : Int) (a4 b4 : Int) : eqG prog 6 187 (.agg [.sc (.int .i64 a1),.sc (.int .i64 a2),.sc (.int .i64 a3),.sc (.int .i64 a4)]) (.agg [.sc (.int .i64 b1),.sc (.int .i64 b2),.sc (.int .i64 b3),.sc (.int .i64 b4)]) = some (((a1 == b1) && ((a2 == b2) && true)) && ((a3 == b3) && ((a4 == b4) && true))) := by kernel_rfl
theorem ck187 (x0 x1 x2 x3 : AV) : cl prog 6 187 (.agg [x0,x1,x2,x3]) = true := by kernel_rfl
theorem eq188 (a1 b1 : Int) (a2 b2 : Int) (a3 b3 : Int) (a4 b4 : Int) : eqG prog 6 188 (.agg [.sc (.int .i64 a1),.sc (.int .i64 a2),.sc (.int .i64 a3),.sc (.int .i64 a4)]) (.agg [.sc (.int .i64 b1),.sc (.int .i64 b2),.sc (.int .i64 b3),.sc (.int .i64 b4)]) = some (((a1 == b1) && ((a2 == b2) && true)) && ((a3 == b3) && ((a4 == b4) && true))) := by kernel_rfl
theorem ck188 (x0 x1 x2 x3 : AV) : cl prog 6 188 (.agg [x0,x1,x2,x3]) = true := by kernel_rfl
theorem zv2 : ar prog 2 = .sc (.int .i64 0) := by kernel_rfl
theorem zv3 : ar prog 3 = .sc (.int .i64 0) := by kernel_rfl
theorem zv4 : ar prog 4 = .sc (.bool false) := by kernel_rfl
theorem zv5 : ar prog 5 = .sc (.int .u8 0) := by kernel_rfl
theorem zv9 : ar prog 9 = .sc (.string ⟨#[]⟩) := by kernel_rfl
theorem zv12 : ar prog 12 = .sc (.int .u64 0) := by kernel_rfl
theorem zv21 : ar prog 21 = .sc (.int .i32 0) := by kernel_rfl
theorem zv22 : ar prog 22 = .sc (.slice none 0 0) := by kernel_rfl
theorem zv23 : ar prog 23 = .agg [.sc (.int .i64 0),.sc (.int .i64 0),.sc (.int .i64 0),.sc (.int .i64 0),.sc (.int .i64 0),.sc (.string ⟨#[]⟩)] := by kernel_rfl
theorem zv24 : ar prog 24 = .agg [.sc (.int .i64 0),.sc (.int .i64 0),.sc (.int .i64 0),.sc (.int .i64 0),.sc (.int .i64 0),.sc (.string ⟨#[]⟩)] := by kernel_rfl
theorem zv27 : ar prog 27 = .sc (.pointer none) := by kernel_rfl
theorem zv28 : ar prog 28 = .sc (.slice none 0 0) := by kernel_rfl
theorem zv29 : ar prog 29 = .agg [.sc (.slice none 0 0)] := by kernel_rfl
theorem zv30 : ar prog 30 = .agg [.sc (.slice none 0 0)] := by kernel_rfl
theorem zv34 : ar prog 34 = .sc (.slice none 0 0) := by kernel_rfl
theorem zv37 : ar prog 37 = .sc (.int .i64 0) := by kernel_rfl
theorem zv47 : ar prog 47 = .sc (.slice none 0 0) := by kernel_rfl
theorem zv48 : ar prog 48 = .sc (.slice none 0 0) := by kernel_rfl
theorem zv49 : ar prog 49 = .agg [.sc (.slice none 0 0),.sc (.slice none 0 0)] := by kernel_rfl
theorem zv50 : ar prog 50 = .agg [.sc (.slice none 0 0),.sc (.slice none 0 0)] := by kernel_rfl
theorem zv52 : ar prog 52 = .sc (.slice none 0 0) := by kernel_rfl
theorem zv55 : ar prog 55 = .sc (.slice none 0 0) := by kernel_rfl
theorem zv57 : ar prog 57 = .sc (.slice none 0 0) := by kernel_rfl
theorem zv60 : ar prog 60 = .agg [.sc (.int .i64 0),.sc (.int .i64 0),.sc (.int .i64 0),.sc (.int .i64 0),.sc (.int .i64 0)] := by kernel_rfl
theorem zv61 : ar prog 61 = .agg [.sc (.int .i64 0),.sc (.int .i64 0),.sc (.int .i64 0),.sc (.int .i64 0),.sc (.int .i64 0)] := by kernel_rfl
theorem zv62 : ar prog 62 = .sc (.slice none 0 0) := by kernel_rfl
theorem zv63 : ar prog 63 = .sc (.pointer none) := by kernel_rfl
theorem zv66 : ar prog 66 = .agg [.sc (.slice none 0 0),.sc (.int .i64 0)] := by kernel_rfl
theorem zv67 : ar prog 67 = .agg [.sc (.slice none 0 0),.sc (.int .i64 0)] := by kernel_rfl
theorem zv75 : ar prog 75 = .agg [.sc (.int .i64 0),.sc (.int .i64 0)] := by kernel_rfl
theorem zv76 : ar prog 76 = .agg [.sc (.int .i64 0),.sc (.int .i64 0)] := by kernel_rfl
theorem zv77 : ar prog 77 = .agg [.sc (.int .i64 0),.sc (.int .i64 0),.sc (.int .i64 0),.sc (.int .i64 0),.sc (.bool false),.sc (.int .i32 0)] := by kernel_rfl
theorem zv78 : ar prog 78 = .agg [.sc (.int .i64 0),.sc (.int .i64 0),.sc (.int .i64 0),.sc (.int .i64 0),.sc (.bool false),.sc (.int .i32 0)] := by kernel_rfl
theorem zv79 : ar prog 79 = .agg [.sc (.int .i64 0),.sc (.int .i64 0),.sc (.bool false)] := by kernel_rfl
theorem zv80 : ar prog 80 = .agg [.sc (.int .i64 0),.sc (.int .i64 0),.sc (.bool false)] := by kernel_rfl
theorem zv81 : ar prog 81 = .agg [.sc (.int .i64 0),.sc (.int .i64 0),.sc (.int .i64 0),.sc (.int .i64 0),.sc (.bool false),.sc (.int .i64 0),.sc (.int .i64 0),.sc (.bool false),.sc (.int .i64 0),.sc (.int .i64 0)] := by kernel_rfl
theorem zv82 : ar prog 82 = .agg [.sc (.int .i64 0),.sc (.int .i64 0),.sc (.int .i64 0),.sc (.int .i64 0),.sc (.bool false),.sc (.int .i64 0),.sc (.int .i64 0),.sc (.bool false),.sc (.int .i64 0),.sc (.int .i64 0)] := by kernel_rfl
theorem zv90 : ar prog 90 = .sc (.slice none 0 0) := by kernel_rfl
theorem zv92 : ar prog 92 = .sc (.int .u64 0) := by kernel_rfl
theorem zv95 : ar prog 95 = .sc (.map none) := by kernel_rfl
theorem zv96 : ar prog 96 = .sc (.map none) := by kernel_rfl
theorem zv97 : ar prog 97 = .sc (.pointer none) := by kernel_rfl
theorem zv98 : ar prog 98 = .sc (.pointer none) := by kernel_rfl
theorem zv99 : ar prog 99 = .agg [.sc (.map none),.sc (.map none),.sc (.slice none 0 0),.sc (.pointer none),.sc (.pointer none)] := by kernel_rfl
theorem zv100 : ar prog 100 = .agg [.sc (.map none),.sc (.map none),.sc (.slice none 0 0),.sc (.pointer none),.sc (.pointer none)] := by kernel_rfl
theorem zv104 : ar prog 104 = .sc (.map none) := by kernel_rfl
theorem zv105 : ar prog 105 = .sc (.slice none 0 0) := by kernel_rfl
theorem zv108 : ar prog 108 = .agg [.sc (.int .i64 0),.sc (.int .i64 0),.sc (.int .i64 0)] := by kernel_rfl
theorem zv119 : ar prog 119 = .agg [.sc (.int .i64 0),.sc (.int .i64 0),.sc (.int .i32 0),.sc (.bool false)] := by kernel_rfl
theorem zv120 : ar prog 120 = .agg [.sc (.int .i64 0),.sc (.int .i64 0),.sc (.int .i32 0),.sc (.bool false)] := by kernel_rfl
theorem zv121 : ar prog 121 = .agg [.sc (.string ⟨#[]⟩),.sc (.int .i64 0),.sc (.int .i64 0),.sc (.int .i64 0),.sc (.int .i64 0),.sc (.int .i64 0)] := by kernel_rfl
theorem zv122 : ar prog 122 = .agg [.sc (.string ⟨#[]⟩),.sc (.int .i64 0),.sc (.int .i64 0),.sc (.int .i64 0),.sc (.int .i64 0),.sc (.int .i64 0)] := by kernel_rfl
theorem zv126 : ar prog 126 = .agg [.sc (.slice none 0 0),.sc (.int .i64 0),.sc (.bool false),.sc (.int .i64 0)] := by kernel_rfl
theorem zv127 : ar prog 127 = .agg [.sc (.slice none 0 0),.sc (.int .i64 0),.sc (.bool false),.sc (.int .i64 0)] := by kernel_rfl
theorem zv128 : ar prog 128 = .agg [.sc (.slice none 0 0),.sc (.int .i64 0),.sc (.bool false),.sc (.int .i64 0)] := by kernel_rfl
theorem zv129 : ar prog 129 = .agg [.sc (.slice none 0 0),.sc (.int .i64 0),.sc (.bool false),.sc (.int .i64 0)] := by kernel_rfl
theorem zv146 : ar prog 146 = .agg [.sc (.slice none 0 0),.sc (.slice none 0 0)] := by kernel_rfl
theorem zv147 : ar prog 147 = .agg [.sc (.int .i64 0),.sc (.int .i64 0),.sc (.int .i32 0),.sc (.bool false),.sc (.slice none 0 0),.sc (.slice none 0 0)] := by kernel_rfl
theorem zv148 : ar prog 148 = .agg [.sc (.int .i64 0),.sc (.int .i64 0),.sc (.int .i32 0),.sc (.bool false),.sc (.slice none 0 0),.sc (.slice none 0 0)] := by kernel_rfl
theorem zv150 : ar prog 150 = .sc (.map none) := by kernel_rfl
theorem zv151 : ar prog 151 = .agg [.sc (.map none),.sc (.int .i64 0)] := by kernel_rfl
theorem zv152 : ar prog 152 = .agg [.sc (.map none),.sc (.int .i64 0)] := by kernel_rfl
theorem zv154 : ar prog 154 = .sc .nilFunc := by kernel_rfl
theorem zv157 : ar prog 157 = .agg [.sc (.slice none 0 0)] := by kernel_rfl
theorem zv158 : ar prog 158 = .agg [.sc (.slice none 0 0)] := by kernel_rfl
theorem zv180 : ar prog 180 = .sc (.pointer none) := by kernel_rfl
theorem zv187 : ar prog 187 = .agg [.sc (.int .i64 0),.sc (.int .i64 0),.sc (.int .i64 0),.sc (.int .i64 0)] := by kernel_rfl
theorem zv188 : ar prog 188 = .agg [.sc (.int .i64 0),.sc (.int .i64 0),.sc (.int .i64 0),.sc (.int .i64 0)] := by kernel_rfl
theorem zv189 : ar prog 189 = .sc (.slice none 0 0) := by kernel_rfl
theorem zv199 : ar prog 199 = .sc (.int .i64 0) := by kernel_rfl
theorem zv206 : ar prog 206 = .sc (.int .u32 0) := by kernel_rfl
theorem zv208 : ar prog 208 = .sc (.int .u64 0) := by kernel_rfl
theorem zv215 : ar prog 215 = .sc (.int .u64 0) := by kernel_rfl
theorem zv219 : ar prog 219 = .sc (.pointer none) := by kernel_rfl
theorem zv222 : ar prog 222 = .sc (.pointer none) := by kernel_rfl
theorem zv234 : ar prog 234 = .sc (.pointer none) := by kernel_rfl
theorem eo1 : bB prog 1 = true := by kernel_rfl
theorem eo4 : bB prog 4 = true := by kernel_rfl
theorem eo23 : bB prog 23 = true := by kernel_rfl
theorem eo24 : bB prog 24 = true := by kernel_rfl
theorem eo25 : bB prog 25 = true := by kernel_rfl
theorem eo26 : bB prog 26 = true := by kernel_rfl
theorem eo27 : bB prog 27 = true := by kernel_rfl
theorem eo32 : bB prog 32 = true := by kernel_rfl
theorem eo33 : bB prog 33 = true := by kernel_rfl
theorem eo35 : bB prog 35 = true := by kernel_rfl
theorem eo36 : bB prog 36 = true := by kernel_rfl
theorem eo39 : bB prog 39 = true := by kernel_rfl
theorem eo40 : bB prog 40 = true := by kernel_rfl
theorem eo41 : bB prog 41 = true := by kernel_rfl
theorem eo42 : bB prog 42 = true := by kernel_rfl
theorem eo43 : bB prog 43 = true := by kernel_rfl
theorem eo44 : bB prog 44 = true := by kernel_rfl
theorem eo46 : bB prog 46 = true := by kernel_rfl
theorem eo51 : bB prog 51 = true := by kernel_rfl
theorem eo53 : bB prog 53 = true := by kernel_rfl
theorem eo54 : bB prog 54 = true := by kernel_rfl
theorem eo56 : bB prog 56 = true := by kernel_rfl
theorem eo58 : bB prog 58 = true := by kernel_rfl
theorem eo59 : bB prog 59 = true := by kernel_rfl
theorem eo60 : bB prog 60 = true := by kernel_rfl
theorem eo61 : bB prog 61 = true := by kernel_rfl
theorem eo63 : bB prog 63 = true := by kernel_rfl
theorem eo64 : bB prog 64 = true := by kernel_rfl
theorem eo65 : bB prog 65 = true := by kernel_rfl
theorem eo69 : bB prog 69 = true := by kernel_rfl
theorem eo70 : bB prog 70 = true := by kernel_rfl
theorem eo71 : bB prog 71 = true := by kernel_rfl
theorem eo72 : bB prog 72 = true := by kernel_rfl
theorem eo73 : bB prog 73 = true := by kernel_rfl
theorem eo74 : bB prog 74 = true := by kernel_rfl
theorem eo75 : bB prog 75 = true := by kernel_rfl
theorem eo76 : bB prog 76 = true := by kernel_rfl
theorem eo77 : bB prog 77 = true := by kernel_rfl
theorem eo78 : bB prog 78 = true := by kernel_rfl
theorem eo79 : bB prog 79 = true := by kernel_rfl
theorem eo80 : bB prog 80 = true := by kernel_rfl
theorem eo81 : bB prog 81 = true := by kernel_rfl
theorem eo82 : bB prog 82 = true := by kernel_rfl
theorem eo83 : bB prog 83 = true := by kernel_rfl
theorem eo84 : bB prog 84 = true := by kernel_rfl
theorem eo85 : bB prog 85 = true := by kernel_rfl
theorem eo86 : bB prog 86 = true := by kernel_rfl
theorem eo87 : bB prog 87 = true := by kernel_rfl
theorem eo88 : bB prog 88 = true := by kernel_rfl
theorem eo89 : bB prog 89 = true := by kernel_rfl
theorem eo91 : bB prog 91 = true := by kernel_rfl
theorem eo93 : bB prog 93 = true := by kernel_rfl
theorem eo94 : bB prog 94 = true := by kernel_rfl
theorem eo95 : bB prog 95 = true := by kernel_rfl
theorem eo96 : bB prog 96 = true := by kernel_rfl
theorem eo97 : bB prog 97 = true := by kernel_rfl
theorem eo98 : bB prog 98 = true := by kernel_rfl
theorem eo101 : bB prog 101 = true := by kernel_rfl
theorem eo103 : bB prog 103 = true := by kernel_rfl
theorem eo104 : bB prog 104 = true := by kernel_rfl
theorem eo106 : bB prog 106 = true := by kernel_rfl
theorem eo108 : bB prog 108 = true := by kernel_rfl
theorem eo109 : bB prog 109 = true := by kernel_rfl
theorem eo110 : bB prog 110 = true := by kernel_rfl
theorem eo111 : bB prog 111 = true := by kernel_rfl
theorem eo113 : bB prog 113 = true := by kernel_rfl
theorem eo114 : bB prog 114 = true := by kernel_rfl
theorem eo115 : bB prog 115 = true := by kernel_rfl
theorem eo117 : bB prog 117 = true := by kernel_rfl
theorem eo118 : bB prog 118 = true := by kernel_rfl
theorem eo119 : bB prog 119 = true := by kernel_rfl
theorem eo120 : bB prog 120 = true := by kernel_rfl
theorem eo121 : bB prog 121 = true := by kernel_rfl
theorem eo122 : bB prog 122 = true := by kernel_rfl
theorem eo123 : bB prog 123 = true := by kernel_rfl
theorem eo124 : bB prog 124 = true := by kernel_rfl
theorem eo125 : bB prog 125 = true := by kernel_rfl
theorem eo130 : bB prog 130 = true := by kernel_rfl
theorem eo131 : bB prog 131 = true := by kernel_rfl
theorem eo133 : bB prog 133 = true := by kernel_rfl
theorem eo135 : bB prog 135 = true := by kernel_rfl
theorem eo136 : bB prog 136 = true := by kernel_rfl
theorem eo137 : bB prog 137 = true := by kernel_rfl
theorem eo138 : bB prog 138 = true := by kernel_rfl
theorem eo139 : bB prog 139 = true := by kernel_rfl
theorem eo140 : bB prog 140 = true := by kernel_rfl
theorem eo141 : bB prog 141 = true := by kernel_rfl
theorem eo142 : bB prog 142 = true := by kernel_rfl
theorem eo143 : bB prog 143 = true := by kernel_rfl
theorem eo144 : bB prog 144 = true := by kernel_rfl
theorem eo150 : bB prog 150 = true := by kernel_rfl
theorem eo153 : bB prog 153 = true := by kernel_rfl
theorem eo154 : bB prog 154 = true := by kernel_rfl
theorem eo155 : bB prog 155 = true := by kernel_rfl
theorem eo156 : bB prog 156 = true := by kernel_rfl
theorem eo159 : bB prog 159 = true := by kernel_rfl
theorem eo160 : bB prog 160 = true := by kernel_rfl
theorem eo161 : bB prog 161 = true := by kernel_rfl
theorem eo162 : bB prog 162 = true := by kernel_rfl
theorem eo163 : bB prog 163 = true := by kernel_rfl
theorem eo164 : bB prog 164 = true := by kernel_rfl
theorem eo166 : bB prog 166 = true := by kernel_rfl
theorem eo168 : bB prog 168 = true := by kernel_rfl
theorem eo169 : bB prog 169 = true := by kernel_rfl
theorem eo170 : bB prog 170 = true := by kernel_rfl
theorem eo171 : bB prog 171 = true := by kernel_rfl
theorem eo172 : bB prog 172 = true := by kernel_rfl
theorem eo173 : bB prog 173 = true := by kernel_rfl
theorem eo175 : bB prog 175 = true := by kernel_rfl
theorem eo177 : bB prog 177 = true := by kernel_rfl
theorem eo179 : bB prog 179 = true := by kernel_rfl
theorem eo180 : bB prog 180 = true := by kernel_rfl
theorem eo181 : bB prog 181 = true := by kernel_rfl
theorem eo182 : bB prog 182 = true := by kernel_rfl
theorem eo183 : bB prog 183 = true := by kernel_rfl
theorem eo184 : bB prog 184 = true := by kernel_rfl
theorem eo185 : bB prog 185 = true := by kernel_rfl
theorem eo186 : bB prog 186 = true := by kernel_rfl
theorem eo187 : bB prog 187 = true := by kernel_rfl
theorem eo188 : bB prog 188 = true := by kernel_rfl
theorem eo190 : bB prog 190 = true := by kernel_rfl
theorem eo191 : bB prog 191 = true := by kernel_rfl
theorem eo192 : bB prog 192 = true := by kernel_rfl
theorem eo193 : bB prog 193 = true := by kernel_rfl
theorem eo194 : bB prog 194 = true := by kernel_rfl
theorem eo195 : bB prog 195 = true := by kernel_rfl
theorem eo196 : bB prog 196 = true := by kernel_rfl
theorem eo197 : bB prog 197 = true := by kernel_rfl
theorem eo198 : bB prog 198 = true := by kernel_rfl
theorem eo201 : bB prog 201 = true := by kernel_rfl
theorem eo202 : bB prog 202 = true := by kernel_rfl
theorem eo203 : bB prog 203 = true := by kernel_rfl
theorem eo204 : bB prog 204 = true := by kernel_rfl
theorem eo205 : bB prog 205 = true := by kernel_rfl
theorem eo207 : bB prog 207 = true := by kernel_rfl
theorem eo209 : bB prog 209 = true := by kernel_rfl
theorem eo210 : bB prog 210 = true := by kernel_rfl
theorem eo211 : bB prog 211 = true := by kernel_rfl
theorem eo212 : bB prog 212 = true := by kernel_rfl
theorem eo213 : bB prog 213 = true := by kernel_rfl
theorem eo214 : bB prog 214 = true := by kernel_rfl
theorem eo216 : bB prog 216 = true := by kernel_rfl
theorem eo217 : bB prog 217 = true := by kernel_rfl
theorem eo218 : bB prog 218 = true := by kernel_rfl
theorem eo219 : bB prog 219 = true := by kernel_rfl
theorem eo220 : bB prog 220 = true := by kernel_rfl
theorem eo221 : bB prog 221 = true := by kernel_rfl
theorem eo222 : bB prog 222 = true := by kernel_rfl
theorem eo224 : bB prog 224 = true := by kernel_rfl
theorem eo225 : bB prog 225 = true := by kernel_rfl
theorem eo234 : bB prog 234 = true := by kernel_rfl
theorem strTy : strTy prog = some 9 := by kernel_rfl
theorem z8_5 : bk prog 5 = .int .u8 0 := by kernel_rfl
theorem ca3 : ak prog 3 = true := by kernel_rfl
theorem ca4 : ak prog 4 = true := by kernel_rfl
theorem ca5 : ak prog 5 = true := by kernel_rfl
theorem ca6 : ak prog 6 = true := by kernel_rfl
theorem ca7 : ak prog 7 = true := by kernel_rfl
theorem ca8 : ak prog 8 = true := by kernel_rfl
theorem ca9 : ak prog 9 = true := by kernel_rfl
theorem ca10 : ak prog 10 = true := by kernel_rfl
theorem ca11 : ak prog 11 = true := by kernel_rfl
theorem ca12 : ak prog 12 = true := by kernel_rfl
theorem ca13 : ak prog 13 = true := by kernel_rfl
theorem ca14 : ak prog 14 = true := by kernel_rfl
theorem ca15 : ak prog 15 = true := by kernel_rfl
theorem ca16 : ak prog 16 = true := by kernel_rfl
theorem ca17 : ak prog 17 = true := by kernel_rfl
theorem ca18 : ak prog 18 = true := by kernel_rfl
theorem ca19 : ak prog 19 = true := by kernel_rfl
theorem ca20 : ak prog 20 = true := by kernel_rfl
theorem ca21 : ak prog 21 = true := by kernel_rfl
theorem ca22 : ak prog 22 = true := by kernel_rfl
theorem ca23 : ak prog 23 = true := by kernel_rfl
theorem ca24 : ak prog 24 = true := by kernel_rfl
theorem ca25 : ak prog 25 = true := by kernel_rfl
theorem ca26 : ak prog 26 = true := by kernel_rfl
theorem ca27 : ak prog 27 = true := by kernel_rfl
theorem ca28 : ak prog 28 = true := by kernel_rfl
theorem ca29 : ak prog 29 = true := by kernel_rfl
theorem ca30 : ak prog 30 = true := by kernel_rfl
theorem ca31 : ak prog 31 = true := by kernel_rfl
theorem ca32 : ak prog 32 = true := by kernel_rfl
theorem ca33 : ak prog 33 = true := by kernel_rfl
theorem ca34 : ak prog 34 = true := by kernel_rfl
theorem ca35 : ak prog 35 = true := by kernel_rfl
theorem ca36 : ak prog 36 = true := by kernel_rfl
theorem ca37 : ak prog 37 = true := by kernel_rfl
theorem ca38 : ak prog 38 = true := by kernel_rfl
theorem ca39 : ak prog 39 = true := by kernel_rfl
theorem ca40 : ak prog 40 = true := by kernel_rfl
theorem ca41 : ak prog 41 = true := by kernel_rfl
theorem ca42 : ak prog 42 = true := by kernel_rfl
theorem ca43 : ak prog 43 = true := by kernel_rfl
theorem ca44 : ak prog 44 = true := by kernel_rfl
theorem ca45 : ak prog 45 = true := by kernel_rfl
theorem ca46 : ak prog 46 = true := by kernel_rfl
theorem ca47 : ak prog 47 = true := by kernel_rfl
theorem ca48 : ak prog 48 = true := by kernel_rfl
theorem ca49 : ak prog 49 = true := by kernel_rfl
theorem ca50 : ak prog 50 = true := by kernel_rfl
theorem ca51 : ak prog 51 = true := by kernel_rfl
theorem ca52 : ak prog 52 = true := by kernel_rfl
theorem ca53 : ak prog 53 = true := by kernel_rfl
theorem ca54 : ak prog 54 = true := by kernel_rfl
theorem ca55 : ak prog 55 = true := by kernel_rfl
theorem ca56 : ak prog 56 = true := by kernel_rfl
theorem ca57 : ak prog 57 = true := by kernel_rfl
theorem ca58 : ak prog 58 = true := by kernel_rfl
theorem ca59 : ak prog 59 = true := by kernel_rfl
theorem ca60 : ak prog 60 = true := by kernel_rfl
theorem ca61 : ak prog 61 = true := by kernel_rfl
theorem ca62 : ak prog 62 = true := by kernel_rfl
theorem ca63 : ak prog 63 = true := by kernel_rfl
theorem ca64 : ak prog 64 = true := by kernel_rfl
theorem ca65 : ak prog 65 = true := by kernel_rfl
theorem ca66 : ak prog 66 = true := by kernel_rfl
theorem ca67 : ak prog 67 = true := by kernel_rfl
theorem ca68 : ak prog 68 = true := by kernel_rfl
theorem ca69 : ak prog 69 = true := by kernel_rfl
theorem ca70 : ak prog 70 = true := by kernel_rfl
theorem ca71 : ak prog 71 = true := by kernel_rfl
theorem ca72 : ak prog 72 = true := by kernel_rfl
theorem ca73 : ak prog 73 = true := by kernel_rfl
theorem ca74 : ak prog 74 = true := by kernel_rfl
theorem ca75 : ak prog 75 = true := by kernel_rfl
theorem ca76 : ak prog 76 = true := by kernel_rfl
theorem ca77 : ak prog 77 = true := by kernel_rfl
theorem ca78 : ak prog 78 = true := by kernel_rfl
theorem ca79 : ak prog 79 = true := by kernel_rfl
theorem ca80 : ak prog 80 = true := by kernel_rfl
theorem ca81 : ak prog 81 = true := by kernel_rfl
theorem ca82 : ak prog 82 = true := by kernel_rfl
theorem ca83 : ak prog 83 = true := by kernel_rfl
theorem ca84 : ak prog 84 = true := by kernel_rfl
theorem ca85 : ak prog 85 = true := by kernel_rfl
theorem ca86 : ak prog 86 = true := by kernel_rfl
theorem ca87 : ak prog 87 = true := by kernel_rfl
theorem ca88 : ak prog 88 = true := by kernel_rfl
theorem ca89 : ak prog 89 = true := by kernel_rfl
theorem ca90 : ak prog 90 = true := by kernel_rfl
theorem ca91 : ak prog 91 = true := by kernel_rfl
theorem ca92 : ak prog 92 = true := by kernel_rfl
theorem ca93 : ak prog 93 = true := by kernel_rfl
theorem ca94 : ak prog 94 = true := by kernel_rfl
theorem ca95 : ak prog 95 = true := by kernel_rfl
theorem ca96 : ak prog 96 = true := by kernel_rfl
theorem ca97 : ak prog 97 = true := by kernel_rfl
theorem ca98 : ak prog 98 = true := by kernel_rfl
theorem ca99 : ak prog 99 = true := by kernel_rfl
theorem ca100 : ak prog 100 = true := by kernel_rfl
theorem ca101 : ak prog 101 = true := by kernel_rfl
theorem ca102 : ak prog 102 = true := by kernel_rfl
theorem ca103 : ak prog 103 = true := by kernel_rfl
theorem ca104 : ak prog 104 = true := by kernel_rfl
theorem ca105 : ak prog 105 = true := by kernel_rfl
theorem ca106 : ak prog 106 = true := by kernel_rfl
theorem ca107 : ak prog 107 = true := by kernel_rfl
theorem ca108 : ak prog 108 = true := by kernel_rfl
theorem ca109 : ak prog 109 = true := by kernel_rfl
theorem ca110 : ak prog 110 = true := by kernel_rfl
theorem ca111 : ak prog 111 = true := by kernel_rfl
theorem ca112 : ak prog 112 = true := by kernel_rfl
theorem ca113 : ak prog 113 = true := by kernel_rfl
theorem ca114 : ak prog 114 = true := by kernel_rfl
theorem ca115 : ak prog 115 = true := by kernel_rfl
theorem ca116 : ak prog 116 = true := by kernel_rfl
theorem ca117 : ak prog 117 = true := by kernel_rfl
theorem ca118 : ak prog 118 = true := by kernel_rfl
theorem ca119 : ak prog 119 = true := by kernel_rfl
theorem ca120 : ak prog 120 = true := by kernel_rfl
theorem ca121 : ak prog 121 = true := by kernel_rfl
theorem ca122 : ak prog 122 = true := by kernel_rfl
theorem ca123 : ak prog 123 = true := by kernel_rfl
theorem ca124 : ak prog 124 = true := by kernel_rfl
theorem ca125 : ak prog 125 = true := by kernel_rfl
theorem ca126 : ak prog 126 = true := by kernel_rfl
theorem ca127 : ak prog 127 = true := by kernel_rfl
theorem ca128 : ak prog 128 = true := by kernel_rfl
theorem ca129 : ak prog 129 = true := by kernel_rfl
theorem ca130 : ak prog 130 = true := by kernel_rfl
theorem ca131 : ak prog 131 = true := by kernel_rfl
theorem ca132 : ak prog 132 = true := by kernel_rfl
theorem ca133 : ak prog 133 = true := by kernel_rfl
theorem ca134 : ak prog 134 = true := by kernel_rfl
theorem ca135 : ak prog 135 = true := by kernel_rfl
theorem ca136 : ak prog 136 = true := by kernel_rfl
theorem ca137 : ak prog 137 = true := by kernel_rfl
theorem ca138 : ak prog 138 = true := by kernel_rfl
theorem ca139 : ak prog 139 = true := by kernel_rfl
theorem ca140 : ak prog 140 = true := by kernel_rfl
theorem ca141 : ak prog 141 = true := by kernel_rfl
theorem ca142 : ak prog 142 = true := by kernel_rfl
theorem ca143 : ak prog 143 = true := by kernel_rfl
theorem ca144 : ak prog 144 = true := by kernel_rfl
theorem ca145 : ak prog 145 = true := by kernel_rfl
theorem ca146 : ak prog 146 = true := by kernel_rfl
theorem ca147 : ak prog 147 = true := by kernel_rfl
theorem ca148 : ak prog 148 = true := by kernel_rfl
theorem ca150 : ak prog 150 = true := by kernel_rfl
theorem ca151 : ak prog 151 = true := by kernel_rfl
theorem ca152 : ak prog 152 = true := by kernel_rfl
theorem ca153 : ak prog 153 = true := by kernel_rfl
theorem ca154 : ak prog 154 = true := by kernel_rfl
theorem ca155 : ak prog 155 = true := by kernel_rfl
theorem ca156 : ak prog 156 = true := by kernel_rfl
theorem ca157 : ak prog 157 = true := by kernel_rfl
theorem ca158 : ak prog 158 = true := by kernel_rfl
theorem ca159 : ak prog 159 = true := by kernel_rfl
theorem ca160 : ak prog 160 = true := by kernel_rfl
theorem ca161 : ak prog 161 = true := by kernel_rfl
theorem ca162 : ak prog 162 = true := by kernel_rfl
set_option maxRecDepth 100000 in
def facts := And.intro underlying1 <|
 And.intro eo1 <|
 And.intro underlying2 <|
 And.intro sz2 <|
 And.intro by2 <|
 And.intro ha2 <|
 And.intro ze2 <|
 And.intro zn2 <|
 And.intro zv2 <|
 And.intro underlying3 <|
 And.intro sz3 <|
 And.intro by3 <|
 And.intro ha3 <|
 And.intro ze3 <|
 And.intro zn3 <|
 And.intro zv3 <|
 And.intro underlying4 <|
 And.intro sz4 <|
 And.intro by4 <|
 And.intro ha4 <|
 And.intro eo4 <|
 And.intro ze4 <|
 And.intro zn4 <|
 And.intro zv4 <|
 And.intro underlying5 <|
 And.intro z8_5 <|
 And.intro sz5 <|
 And.intro by5 <|
 And.intro ha5 <|
 And.intro ze5 <|
 And.intro zn5 <|
 And.intro zv5 <|
 And.intro underlying9 <|
 And.intro sz9 <|
 And.intro by9 <|
 And.intro ha9 <|
 And.intro ze9 <|
 And.intro zn9 <|
 And.intro zv9 <|
 And.intro underlying12 <|
 And.intro sz12 <|
 And.intro by12 <|
 And.intro ha12 <|
 And.intro ze12 <|
 And.intro zn12 <|
 And.intro zv12 <|
 And.intro underlying21 <|
 And.intro sz21 <|
 And.intro by21 <|
 And.intro ha21 <|
 And.intro ze21 <|
 And.intro zn21 <|
 And.intro zv21 <|
 And.intro underlying22 <|
 And.intro sz22 <|
 And.intro by22 <|
 And.intro ha22 <|
 And.intro ze22 <|
 And.intro zn22 <|
 And.intro zv22 <|
 And.intro underlying23 <|
 And.intro sz23 <|
 And.intro by23 <|
 And.intro ha23 <|
 And.intro eo23 <|
 And.intro ze23 <|
 And.intro zn23 <|
 And.intro zv23 <|
 And.intro underlying24 <|
 And.intro sz24 <|
 And.intro by24 <|
 And.intro ha24 <|
 And.intro eo24 <|
 And.intro ze24 <|
 And.intro zn24 <|
 And.intro zv24 <|
 And.intro underlying25 <|
 And.intro eo25 <|
 And.intro underlying26 <|
 And.intro eo26 <|
 And.intro underlying27 <|
 And.intro sz27 <|
 And.intro by27 <|
 And.intro ha27 <|
 And.intro eo27 <|
 And.intro ze27 <|
 And.intro zn27 <|
 And.intro zv27 <|
 And.intro underlying28 <|
 And.intro sz28 <|
 And.intro by28 <|
 And.intro ha28 <|
 And.intro ze28 <|
 And.intro zn28 <|
 And.intro zv28 <|
 And.intro underlying29 <|
 And.intro sz29 <|
 And.intro by29 <|
 And.intro ha29 <|
 And.intro ze29 <|
 And.intro zn29 <|
 And.intro zv29 <|
 And.intro underlying30 <|
 And.intro sz30 <|
 And.intro by30 <|
 And.intro ha30 <|
 And.intro ze30 <|
 And.intro zn30 <|
 And.intro zv30 <|
 And.intro underlying32 <|
 And.intro eo32 <|
 And.intro underlying33 <|
 And.intro eo33 <|
 And.intro underlying34 <|
 And.intro sz34 <|
 And.intro by34 <|
 And.intro ha34 <|
 And.intro ze34 <|
 And.intro zn34 <|
 And.intro zv34 <|
 And.intro underlying35 <|
 And.intro eo35 <|
 And.intro underlying36 <|
 And.intro eo36 <|
 And.intro underlying37 <|
 And.intro sz37 <|
 And.intro by37 <|
 And.intro ha37 <|
 And.intro ze37 <|
 And.intro zn37 <|
 And.intro zv37 <|
 And.intro underlying39 <|
 And.intro eo39 <|
 And.intro underlying40 <|
 And.intro eo40 <|
 And.intro underlying41 <|
 And.intro eo41 <|
 And.intro underlying42 <|
 And.intro eo42 <|
 And.intro underlying43 <|
 And.intro eo43 <|
 And.intro underlying44 <|
 And.intro eo44 <|
 And.intro underlying46 <|
 And.intro eo46 <|
 And.intro underlying47 <|
 And.intro sz47 <|
 And.intro by47 <|
 And.intro ha47 <|
 And.intro ze47 <|
 And.intro zn47 <|
 And.intro zv47 <|
 And.intro underlying48 <|
 And.intro sz48 <|
 And.intro by48 <|
 And.intro ha48 <|
 And.intro ze48 <|
 And.intro zn48 <|
 And.intro zv48 <|
 And.intro underlying49 <|
 And.intro sz49 <|
 And.intro by49 <|
 And.intro ha49 <|
 And.intro ze49 <|
 And.intro zn49 <|
 And.intro zv49 <|
 And.intro underlying50 <|
 And.intro sz50 <|
 And.intro by50 <|
 And.intro ha50 <|
 And.intro ze50 <|
 And.intro zn50 <|
 And.intro zv50 <|
 And.intro underlying51 <|
 And.intro eo51 <|
 And.intro underlying52 <|
 And.intro sz52 <|
 And.intro by52 <|
 And.intro ha52 <|
 And.intro ze52 <|
 And.intro zn52 <|
 And.intro zv52 <|
 And.intro underlying53 <|
 And.intro eo53 <|
 And.intro underlying54 <|
 And.intro eo54 <|
 And.intro underlying55 <|
 And.intro sz55 <|
 And.intro by55 <|
 And.intro ha55 <|
 And.intro ze55 <|
 And.intro zn55 <|
 And.intro zv55 <|
 And.intro underlying56 <|
 And.intro eo56 <|
 And.intro underlying57 <|
 And.intro sz57 <|
 And.intro by57 <|
 And.intro ha57 <|
 And.intro ze57 <|
 And.intro zn57 <|
 And.intro zv57 <|
 And.intro underlying58 <|
 And.intro eo58 <|
 And.intro underlying59 <|
 And.intro eo59 <|
 And.intro underlying60 <|
 And.intro sz60 <|
 And.intro by60 <|
 And.intro ha60 <|
 And.intro eo60 <|
 And.intro ze60 <|
 And.intro zn60 <|
 And.intro zv60 <|
 And.intro eq60 <|
 And.intro ck60 <|
 And.intro underlying61 <|
 And.intro sz61 <|
 And.intro by61 <|
 And.intro ha61 <|
 And.intro eo61 <|
 And.intro ze61 <|
 And.intro zn61 <|
 And.intro zv61 <|
 And.intro eq61 <|
 And.intro ck61 <|
 And.intro underlying62 <|
 And.intro sz62 <|
 And.intro by62 <|
 And.intro ha62 <|
 And.intro ze62 <|
 And.intro zn62 <|
 And.intro zv62 <|
 And.intro underlying63 <|
 And.intro sz63 <|
 And.intro by63 <|
 And.intro ha63 <|
 And.intro eo63 <|
 And.intro ze63 <|
 And.intro zn63 <|
 And.intro zv63 <|
 And.intro underlying64 <|
 And.intro eo64 <|
 And.intro underlying65 <|
 And.intro eo65 <|
 And.intro underlying66 <|
 And.intro sz66 <|
 And.intro by66 <|
 And.intro ha66 <|
 And.intro ze66 <|
 And.intro zn66 <|
 And.intro zv66 <|
 And.intro underlying67 <|
 And.intro sz67 <|
 And.intro by67 <|
 And.intro ha67 <|
 And.intro ze67 <|
 And.intro zn67 <|
 And.intro zv67 <|
 And.intro underlying69 <|
 And.intro eo69 <|
 And.intro underlying70 <|
 And.intro eo70 <|
 And.intro underlying71 <|
 And.intro eo71 <|
 And.intro underlying72 <|
 And.intro eo72 <|
 And.intro underlying73 <|
 And.intro eo73 <|
 And.intro underlying74 <|
 And.intro eo74 <|
 And.intro underlying75 <|
 And.intro sz75 <|
 And.intro by75 <|
 And.intro ha75 <|
 And.intro eo75 <|
 And.intro ze75 <|
 And.intro zn75 <|
 And.intro zv75 <|
 And.intro eq75 <|
 And.intro ck75 <|
 And.intro underlying76 <|
 And.intro sz76 <|
 And.intro by76 <|
 And.intro ha76 <|
 And.intro eo76 <|
 And.intro ze76 <|
 And.intro zn76 <|
 And.intro zv76 <|
 And.intro eq76 <|
 And.intro ck76 <|
 And.intro underlying77 <|
 And.intro sz77 <|
 And.intro by77 <|
 And.intro ha77 <|
 And.intro eo77 <|
 And.intro ze77 <|
 And.intro zn77 <|
 And.intro zv77 <|
 And.intro eq77 <|
 And.intro ck77 <|
 And.intro underlying78 <|
 And.intro sz78 <|
 And.intro by78 <|
 And.intro ha78 <|
 And.intro eo78 <|
 And.intro ze78 <|
 And.intro zn78 <|
 And.intro zv78 <|
 And.intro eq78 <|
 And.intro ck78 <|
 And.intro underlying79 <|
 And.intro sz79 <|
 And.intro by79 <|
 And.intro ha79 <|
 And.intro eo79 <|
 And.intro ze79 <|
 And.intro zn79 <|
 And.intro zv79 <|
 And.intro eq79 <|
 And.intro ck79 <|
 And.intro underlying80 <|
 And.intro sz80 <|
 And.intro by80 <|
 And.intro ha80 <|
 And.intro eo80 <|
 And.intro ze80 <|
 And.intro zn80 <|
 And.intro zv80 <|
 And.intro eq80 <|
 And.intro ck80 <|
 And.intro underlying81 <|
 And.intro sz81 <|
 And.intro by81 <|
 And.intro ha81 <|
 And.intro eo81 <|
 And.intro ze81 <|
 And.intro zn81 <|
 And.intro zv81 <|
 And.intro eq81 <|
 And.intro ck81 <|
 And.intro underlying82 <|
 And.intro sz82 <|
 And.intro by82 <|
 And.intro ha82 <|
 And.intro eo82 <|
 And.intro ze82 <|
 And.intro zn82 <|
 And.intro zv82 <|
 And.intro eq82 <|
 And.intro ck82 <|
 And.intro underlying83 <|
 And.intro sz83 <|
 And.intro by83 <|
 And.intro ha83 <|
 And.intro eo83 <|
 And.intro ze83 <|
 And.intro zn83 <|
 And.intro underlying84 <|
 And.intro sz84 <|
 And.intro by84 <|
 And.intro ha84 <|
 And.intro eo84 <|
 And.intro ze84 <|
 And.intro zn84 <|
 And.intro underlying85 <|
 And.intro eo85 <|
 And.intro underlying86 <|
 And.intro eo86 <|
 And.intro underlying87 <|
 And.intro eo87 <|
 And.intro underlying88 <|
 And.intro eo88 <|
 And.intro underlying89 <|
 And.intro eo89 <|
 And.intro underlying90 <|
 And.intro sz90 <|
 And.intro by90 <|
 And.intro ha90 <|
 And.intro ze90 <|
 And.intro zn90 <|
 And.intro zv90 <|
 And.intro underlying91 <|
 And.intro eo91 <|
 And.intro underlying92 <|
 And.intro sz92 <|
 And.intro by92 <|
 And.intro ha92 <|
 And.intro ze92 <|
 And.intro zn92 <|
 And.intro zv92 <|
 And.intro underlying93 <|
 And.intro eo93 <|
 And.intro underlying94 <|
 And.intro eo94 <|
 And.intro underlying95 <|
 And.intro sz95 <|
 And.intro by95 <|
 And.intro ha95 <|
 And.intro eo95 <|
 And.intro ze95 <|
 And.intro zn95 <|
 And.intro zv95 <|
 And.intro underlying96 <|
 And.intro sz96 <|
 And.intro by96 <|
 And.intro ha96 <|
 And.intro eo96 <|
 And.intro ze96 <|
 And.intro zn96 <|
 And.intro zv96 <|
 And.intro underlying97 <|
 And.intro sz97 <|
 And.intro by97 <|
 And.intro ha97 <|
 And.intro eo97 <|
 And.intro ze97 <|
 And.intro zn97 <|
 And.intro zv97 <|
 And.intro underlying98 <|
 And.intro sz98 <|
 And.intro by98 <|
 And.intro ha98 <|
 And.intro eo98 <|
 And.intro ze98 <|
 And.intro zn98 <|
 And.intro zv98 <|
 And.intro underlying99 <|
 And.intro sz99 <|
 And.intro by99 <|
 And.intro ha99 <|
 And.intro ze99 <|
 And.intro zn99 <|
 And.intro zv99 <|
 And.intro underlying100 <|
 And.intro sz100 <|
 And.intro by100 <|
 And.intro ha100 <|
 And.intro ze100 <|
 And.intro zn100 <|
 And.intro zv100 <|
 And.intro underlying101 <|
 And.intro eo101 <|
 And.intro underlying103 <|
 And.intro eo103 <|
 And.intro underlying104 <|
 And.intro sz104 <|
 And.intro by104 <|
 And.intro ha104 <|
 And.intro eo104 <|
 And.intro ze104 <|
 And.intro zn104 <|
 And.intro zv104 <|
 And.intro underlying105 <|
 And.intro sz105 <|
 And.intro by105 <|
 And.intro ha105 <|
 And.intro ze105 <|
 And.intro zn105 <|
 And.intro zv105 <|
 And.intro underlying106 <|
 And.intro eo106 <|
 And.intro underlying108 <|
 And.intro sz108 <|
 And.intro by108 <|
 And.intro ha108 <|
 And.intro eo108 <|
 And.intro ze108 <|
 And.intro zn108 <|
 And.intro zv108 <|
 And.intro eq108 <|
 And.intro ck108 <|
 And.intro underlying109 <|
 And.intro eo109 <|
 And.intro underlying110 <|
 And.intro eo110 <|
 And.intro underlying111 <|
 And.intro eo111 <|
 And.intro underlying113 <|
 And.intro eo113 <|
 And.intro underlying114 <|
 And.intro eo114 <|
 And.intro underlying115 <|
 And.intro eo115 <|
 And.intro underlying117 <|
 And.intro eo117 <|
 And.intro underlying118 <|
 And.intro eo118 <|
 And.intro underlying119 <|
 And.intro sz119 <|
 And.intro by119 <|
 And.intro ha119 <|
 And.intro eo119 <|
 And.intro ze119 <|
 And.intro zn119 <|
 And.intro zv119 <|
 And.intro eq119 <|
 And.intro ck119 <|
 And.intro underlying120 <|
 And.intro sz120 <|
 And.intro by120 <|
 And.intro ha120 <|
 And.intro eo120 <|
 And.intro ze120 <|
 And.intro zn120 <|
 And.intro zv120 <|
 And.intro eq120 <|
 And.intro ck120 <|
 And.intro underlying121 <|
 And.intro sz121 <|
 And.intro by121 <|
 And.intro ha121 <|
 And.intro eo121 <|
 And.intro ze121 <|
 And.intro zn121 <|
 And.intro zv121 <|
 And.intro underlying122 <|
 And.intro sz122 <|
 And.intro by122 <|
 And.intro ha122 <|
 And.intro eo122 <|
 And.intro ze122 <|
 And.intro zn122 <|
 And.intro zv122 <|
 And.intro underlying123 <|
 And.intro eo123 <|
 And.intro underlying124 <|
 And.intro eo124 <|
 And.intro underlying125 <|
 And.intro eo125 <|
 And.intro underlying126 <|
 And.intro sz126 <|
 And.intro by126 <|
 And.intro ha126 <|
 And.intro ze126 <|
 And.intro zn126 <|
 And.intro zv126 <|
 And.intro underlying127 <|
 And.intro sz127 <|
 And.intro by127 <|
 And.intro ha127 <|
 And.intro ze127 <|
 And.intro zn127 <|
 And.intro zv127 <|
 And.intro underlying128 <|
 And.intro sz128 <|
 And.intro by128 <|
 And.intro ha128 <|
 And.intro ze128 <|
 And.intro zn128 <|
 And.intro zv128 <|
 And.intro underlying129 <|
 And.intro sz129 <|
 And.intro by129 <|
 And.intro ha129 <|
 And.intro ze129 <|
 And.intro zn129 <|
 And.intro zv129 <|
 And.intro underlying130 <|
 And.intro eo130 <|
 And.intro underlying131 <|
 And.intro eo131 <|
 And.intro underlying133 <|
 And.intro eo133 <|
 And.intro underlying135 <|
 And.intro eo135 <|
 And.intro underlying136 <|
 And.intro eo136 <|
 And.intro underlying137 <|
 And.intro eo137 <|
 And.intro underlying138 <|
 And.intro eo138 <|
 And.intro underlying139 <|
 And.intro eo139 <|
 And.intro underlying140 <|
 And.intro eo140 <|
 And.intro underlying141 <|
 And.intro eo141 <|
 And.intro underlying142 <|
 And.intro eo142 <|
 And.intro underlying143 <|
 And.intro eo143 <|
 And.intro underlying144 <|
 And.intro eo144 <|
 And.intro underlying146 <|
 And.intro sz146 <|
 And.intro by146 <|
 And.intro ha146 <|
 And.intro ze146 <|
 And.intro zn146 <|
 And.intro zv146 <|
 And.intro underlying147 <|
 And.intro sz147 <|
 And.intro by147 <|
 And.intro ha147 <|
 And.intro ze147 <|
 And.intro zn147 <|
 And.intro zv147 <|
 And.intro underlying148 <|
 And.intro sz148 <|
 And.intro by148 <|
 And.intro ha148 <|
 And.intro ze148 <|
 And.intro zn148 <|
 And.intro zv148 <|
 And.intro underlying150 <|
 And.intro sz150 <|
 And.intro by150 <|
 And.intro ha150 <|
 And.intro eo150 <|
 And.intro ze150 <|
 And.intro zn150 <|
 And.intro zv150 <|
 And.intro underlying151 <|
 And.intro sz151 <|
 And.intro by151 <|
 And.intro ha151 <|
 And.intro ze151 <|
 And.intro zn151 <|
 And.intro zv151 <|
 And.intro underlying152 <|
 And.intro sz152 <|
 And.intro by152 <|
 And.intro ha152 <|
 And.intro ze152 <|
 And.intro zn152 <|
 And.intro zv152 <|
 And.intro underlying153 <|
 And.intro eo153 <|
 And.intro underlying154 <|
 And.intro sz154 <|
 And.intro by154 <|
 And.intro ha154 <|
 And.intro eo154 <|
 And.intro ze154 <|
 And.intro zn154 <|
 And.intro zv154 <|
 And.intro underlying155 <|
 And.intro eo155 <|
 And.intro underlying156 <|
 And.intro eo156 <|
 And.intro underlying157 <|
 And.intro sz157 <|
 And.intro by157 <|
 And.intro ha157 <|
 And.intro ze157 <|
 And.intro zn157 <|
 And.intro zv157 <|
 And.intro underlying158 <|
 And.intro sz158 <|
 And.intro by158 <|
 And.intro ha158 <|
 And.intro ze158 <|
 And.intro zn158 <|
 And.intro zv158 <|
 And.intro underlying159 <|
 And.intro eo159 <|
 And.intro underlying160 <|
 And.intro eo160 <|
 And.intro underlying161 <|
 And.intro eo161 <|
 And.intro underlying162 <|
 And.intro eo162 <|
 And.intro underlying163 <|
 And.intro eo163 <|
 And.intro underlying164 <|
 And.intro eo164 <|
 And.intro underlying166 <|
 And.intro eo166 <|
 And.intro underlying168 <|
 And.intro eo168 <|
 And.intro underlying169 <|
 And.intro eo169 <|
 And.intro underlying170 <|
 And.intro eo170 <|
 And.intro underlying171 <|
 And.intro eo171 <|
 And.intro underlying172 <|
 And.intro eo172 <|
 And.intro underlying173 <|
 And.intro eo173 <|
 And.intro underlying175 <|
 And.intro eo175 <|
 And.intro underlying177 <|
 And.intro eo177 <|
 And.intro underlying179 <|
 And.intro eo179 <|
 And.intro underlying180 <|
 And.intro sz180 <|
 And.intro by180 <|
 And.intro ha180 <|
 And.intro eo180 <|
 And.intro ze180 <|
 And.intro zn180 <|
 And.intro zv180 <|
 And.intro underlying181 <|
 And.intro eo181 <|
 And.intro underlying182 <|
 And.intro eo182 <|
 And.intro underlying183 <|
 And.intro eo183 <|
 And.intro underlying184 <|
 And.intro eo184 <|
 And.intro underlying185 <|
 And.intro eo185 <|
 And.intro underlying186 <|
 And.intro eo186 <|
 And.intro underlying187 <|
 And.intro sz187 <|
 And.intro by187 <|
 And.intro ha187 <|
 And.intro eo187 <|
 And.intro ze187 <|
 And.intro zn187 <|
 And.intro zv187 <|
 And.intro eq187 <|
 And.intro ck187 <|
 And.intro underlying188 <|
 And.intro sz188 <|
 And.intro by188 <|
 And.intro ha188 <|
 And.intro eo188 <|
 And.intro ze188 <|
 And.intro zn188 <|
 And.intro zv188 <|
 And.intro eq188 <|
 And.intro ck188 <|
 And.intro underlying189 <|
 And.intro sz189 <|
 And.intro by189 <|
 And.intro ha189 <|
 And.intro ze189 <|
 And.intro zn189 <|
 And.intro zv189 <|
 And.intro underlying190 <|
 And.intro eo190 <|
 And.intro underlying191 <|
 And.intro eo191 <|
 And.intro underlying192 <|
 And.intro eo192 <|
 And.intro underlying193 <|
 And.intro eo193 <|
 And.intro underlying194 <|
 And.intro eo194 <|
 And.intro underlying195 <|
 And.intro eo195 <|
 And.intro underlying196 <|
 And.intro eo196 <|
 And.intro underlying197 <|
 And.intro eo197 <|
 And.intro underlying198 <|
 And.intro eo198 <|
 And.intro underlying199 <|
 And.intro sz199 <|
 And.intro by199 <|
 And.intro ha199 <|
 And.intro ze199 <|
 And.intro zn199 <|
 And.intro zv199 <|
 And.intro underlying201 <|
 And.intro eo201 <|
 And.intro underlying202 <|
 And.intro eo202 <|
 And.intro underlying203 <|
 And.intro eo203 <|
 And.intro underlying204 <|
 And.intro eo204 <|
 And.intro underlying205 <|
 And.intro eo205 <|
 And.intro underlying206 <|
 And.intro sz206 <|
 And.intro by206 <|
 And.intro ha206 <|
 And.intro ze206 <|
 And.intro zn206 <|
 And.intro zv206 <|
 And.intro underlying207 <|
 And.intro eo207 <|
 And.intro underlying208 <|
 And.intro sz208 <|
 And.intro by208 <|
 And.intro ha208 <|
 And.intro ze208 <|
 And.intro zn208 <|
 And.intro zv208 <|
 And.intro underlying209 <|
 And.intro eo209 <|
 And.intro underlying210 <|
 And.intro eo210 <|
 And.intro underlying211 <|
 And.intro eo211 <|
 And.intro underlying212 <|
 And.intro eo212 <|
 And.intro underlying213 <|
 And.intro eo213 <|
 And.intro underlying214 <|
 And.intro eo214 <|
 And.intro underlying215 <|
 And.intro sz215 <|
 And.intro by215 <|
 And.intro ha215 <|
 And.intro ze215 <|
 And.intro zn215 <|
 And.intro zv215 <|
 And.intro underlying216 <|
 And.intro eo216 <|
 And.intro underlying217 <|
 And.intro eo217 <|
 And.intro underlying218 <|
 And.intro eo218 <|
 And.intro underlying219 <|
 And.intro sz219 <|
 And.intro by219 <|
 And.intro ha219 <|
 And.intro eo219 <|
 And.intro ze219 <|
 And.intro zn219 <|
 And.intro zv219 <|
 And.intro underlying220 <|
 And.intro eo220 <|
 And.intro underlying221 <|
 And.intro eo221 <|
 And.intro underlying222 <|
 And.intro sz222 <|
 And.intro by222 <|
 And.intro ha222 <|
 And.intro eo222 <|
 And.intro ze222 <|
 And.intro zn222 <|
 And.intro zv222 <|
 And.intro underlying224 <|
 And.intro eo224 <|
 And.intro underlying225 <|
 And.intro eo225 <|
 And.intro underlying234 <|
 And.intro sz234 <|
 And.intro by234 <|
 And.intro ha234 <|
 And.intro eo234 <|
 And.intro ze234 <|
 And.intro zn234 <|
 And.intro zv234 <|
 And.intro strTy <|
 And.intro ca3 <|
 And.intro ca4 <|
 And.intro ca5 <|
 And.intro ca6 <|
 And.intro ca7 <|
 And.intro ca8 <|
 And.intro ca9 <|
 And.intro ca10 <|
 And.intro ca11 <|
 And.intro ca12 <|
 And.intro ca13 <|
 And.intro ca14 <|
 And.intro ca15 <|
 And.intro ca16 <|
 And.intro ca17 <|
 And.intro ca18 <|
 And.intro ca19 <|
 And.intro ca20 <|
 And.intro ca21 <|
 And.intro ca22 <|
 And.intro ca23 <|
 And.intro ca24 <|
 And.intro ca25 <|
 And.intro ca26 <|
 And.intro ca27 <|
 And.intro ca28 <|
 And.intro ca29 <|
 And.intro ca30 <|
 And.intro ca31 <|
 And.intro ca32 <|
 And.intro ca33 <|
 And.intro ca34 <|
 And.intro ca35 <|
 And.intro ca36 <|
 And.intro ca37 <|
 And.intro ca38 <|
 And.intro ca39 <|
 And.intro ca40 <|
 And.intro ca41 <|
 And.intro ca42 <|
 And.intro ca43 <|
 And.intro ca44 <|
 And.intro ca45 <|
 And.intro ca46 <|
 And.intro ca47 <|
 And.intro ca48 <|
 And.intro ca49 <|
 And.intro ca50 <|
 And.intro ca51 <|
 And.intro ca52 <|
 And.intro ca53 <|
 And.intro ca54 <|
 And.intro ca55 <|
 And.intro ca56 <|
 And.intro ca57 <|
 And.intro ca58 <|
 And.intro ca59 <|
 And.intro ca60 <|
 And.intro ca61 <|
 And.intro ca62 <|
 And.intro ca63 <|
 And.intro ca64 <|
 And.intro ca65 <|
 And.intro ca66 <|
 And.intro ca67 <|
 And.intro ca68 <|
 And.intro ca69 <|
 And.intro ca70 <|
 And.intro ca71 <|
 And.intro ca72 <|
 And.intro ca73 <|
 And.intro ca74 <|
 And.intro ca75 <|
 And.intro ca76 <|
 And.intro ca77 <|
 And.intro ca78 <|
 And.intro ca79 <|
 And.intro ca80 <|
 And.intro ca81 <|
 And.intro ca82 <|
 And.intro ca83 <|
 And.intro ca84 <|
 And.intro ca85 <|
 And.intro ca86 <|
 And.intro ca87 <|
 And.intro ca88 <|
 And.intro ca89 <|
 And.intro ca90 <|
 And.intro ca91 <|
 And.intro ca92 <|
 And.intro ca93 <|
 And.intro ca94 <|
 And.intro ca95 <|
 And.intro ca96 <|
 And.intro ca97 <|
 And.intro ca98 <|
 And.intro ca99 <|
 And.intro ca100 <|
 And.intro ca101 <|
 And.intro ca102 <|
 And.intro ca103 <|
 And.intro ca104 <|
 And.intro ca105 <|
 And.intro ca106 <|
 And.intro ca107 <|
 And.intro ca108 <|
 And.intro ca109 <|
 And.intro ca110 <|
 And.intro ca111 <|
 And.intro ca112 <|
 And.intro ca113 <|
 And.intro ca114 <|
 And.intro ca115 <|
 And.intro ca116 <|
 And.intro ca117 <|
 And.intro ca118 <|
 And.intro ca119 <|
 And.intro ca120 <|
 And.intro ca121 <|
 And.intro ca122 <|
 And.intro ca123 <|
 And.intro ca124 <|
 And.intro ca125 <|
 And.intro ca126 <|
 And.intro ca127 <|
 And.intro ca128 <|
 And.intro ca129 <|
 And.intro ca130 <|
 And.intro ca131 <|
 And.intro ca132 <|
 And.intro ca133 <|
 And.intro ca134 <|
 And.intro ca135 <|
 And.intro ca136 <|
 And.intro ca137 <|
 And.intro ca138 <|
 And.intro ca139 <|
 And.intro ca140 <|
 And.intro ca141 <|
 And.intro ca142 <|
 And.intro ca143 <|
 And.intro ca144 <|
 And.intro ca145 <|
 And.intro ca146 <|
 And.intro ca147 <|
 And.intro ca148 <|
 And.intro ca150 <|
 And.intro ca151 <|
 And.intro ca152 <|
 And.intro ca153 <|
 And.intro ca154 <|
 And.intro ca155 <|
 And.intro ca156 <|
 And.intro ca157 <|
 And.intro ca158 <|
 And.intro ca159 <|
 And.intro ca160 <|
 And.intro ca161 <| ca162
end Go.Proofs.Try
