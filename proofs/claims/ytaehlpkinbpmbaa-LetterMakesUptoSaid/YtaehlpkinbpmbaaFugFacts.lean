/-
  Facts of the seat's program: sizes of types, functions that have bodies. By program.
  Conditions: none.
-/
import Derived.Test.YtaehlpkinbpmbaaProg
import Derived.Test.YtaehlpkinbpmbaaAbsG5
set_option linter.all false
set_option linter.unusedSimpArgs false
namespace Go.Proofs.Try
open Go Go.Abs
theorem mixed : prog.follows .mixedOrders = true := by kernel_rfl
theorem sz0 : ai prog 0 = 1 := by kernel_rfl
theorem by0 : ay prog 0 = 0 := by kernel_rfl
theorem sz1 : ai prog 1 = 1 := by kernel_rfl
theorem by1 : ay prog 1 = 8 := by kernel_rfl
theorem ze1 : aq prog 1 = [.sc .nilFunc] := by kernel_rfl
theorem zn1 : ap prog 1 = [.sc .nilFunc] := by kernel_rfl
theorem ha1 : ax prog 1 = true := by kernel_rfl
theorem sz2 : ai prog 2 = 1 := by kernel_rfl
theorem by2 : ay prog 2 = 8 := by kernel_rfl
theorem ze2 : aq prog 2 = [.sc (.int .i64 0)] := by kernel_rfl
theorem zn2 : ap prog 2 = [.sc (.int .i64 0)] := by kernel_rfl
theorem ha2 : ax prog 2 = true := by kernel_rfl
theorem sz3 : ai prog 3 = 1 := by kernel_rfl
theorem by3 : ay prog 3 = 8 := by kernel_rfl
theorem ze3 : aq prog 3 = [.sc (.int .i64 0)] := by kernel_rfl
theorem zn3 : ap prog 3 = [.sc (.int .i64 0)] := by kernel_rfl
theorem ha3 : ax prog 3 = true := by kernel_rfl
theorem sz4 : ai prog 4 = 1 := by kernel_rfl
theorem by4 : ay prog 4 = 1 := by kernel_rfl
theorem ze4 : aq prog 4 = [.sc (.bool false)] := by kernel_rfl
theorem zn4 : ap prog 4 = [.sc (.bool false)] := by kernel_rfl
theorem ha4 : ax prog 4 = true := by kernel_rfl
theorem sz5 : ai prog 5 = 1 := by kernel_rfl
theorem by5 : ay prog 5 = 1 := by kernel_rfl
theorem ze5 : aq prog 5 = [.sc (.int .u8 0)] := by kernel_rfl
theorem zn5 : ap prog 5 = [.sc (.int .u8 0)] := by kernel_rfl
theorem ha5 : ax prog 5 = true := by kernel_rfl
theorem sz6 : ai prog 6 = 1 := by kernel_rfl
theorem by6 : ay prog 6 = 1 := by kernel_rfl
theorem ze6 : aq prog 6 = [.sc (.int .u8 0)] := by kernel_rfl
theorem zn6 : ap prog 6 = [.sc (.int .u8 0)] := by kernel_rfl
theorem ha6 : ax prog 6 = true := by kernel_rfl
theorem sz7 : ai prog 7 = 4 := by kernel_rfl
theorem by7 : ay prog 7 = 24 := by kernel_rfl
theorem ze7 : aq prog 7 = [.sc (.int .i64 0),.sc (.int .i64 0),.sc (.bool false),.sc (.int .u8 0)] := by kernel_rfl
theorem zn7 : ap prog 7 = [.sc (.int .i64 0),.sc (.int .i64 0),.sc (.bool false),.sc (.int .u8 0)] := by kernel_rfl
theorem ha7 : ax prog 7 = true := by kernel_rfl
theorem sz8 : ai prog 8 = 4 := by kernel_rfl
theorem by8 : ay prog 8 = 24 := by kernel_rfl
theorem ze8 : aq prog 8 = [.sc (.int .i64 0),.sc (.int .i64 0),.sc (.bool false),.sc (.int .u8 0)] := by kernel_rfl
theorem zn8 : ap prog 8 = [.sc (.int .i64 0),.sc (.int .i64 0),.sc (.bool false),.sc (.int .u8 0)] := by kernel_rfl
theorem ha8 : ax prog 8 = true := by kernel_rfl
theorem sz9 : ai prog 9 = 1 := by kernel_rfl
theorem by9 : ay prog 9 = 16 := by kernel_rfl
theorem ze9 : aq prog 9 = [.sc (.string ⟨#[]⟩)] := by kernel_rfl
theorem zn9 : ap prog 9 = [.sc (.string ⟨#[]⟩)] := by kernel_rfl
theorem ha9 : ax prog 9 = true := by kernel_rfl
theorem sz10 : ai prog 10 = 1 := by kernel_rfl
theorem by10 : ay prog 10 = 16 := by kernel_rfl
theorem ze10 : aq prog 10 = [.sc (.string ⟨#[]⟩)] := by kernel_rfl
theorem zn10 : ap prog 10 = [.sc (.string ⟨#[]⟩)] := by kernel_rfl
theorem ha10 : ax prog 10 = true := by kernel_rfl
theorem sz11 : ai prog 11 = 1 := by kernel_rfl
theorem by11 : ay prog 11 = 16 := by kernel_rfl
theorem ze11 : aq prog 11 = [.sc (.string ⟨#[]⟩)] := by kernel_rfl
theorem zn11 : ap prog 11 = [.sc (.string ⟨#[]⟩)] := by kernel_rfl
theorem ha11 : ax prog 11 = true := by kernel_rfl
theorem sz12 : ai prog 12 = 1 := by kernel_rfl
theorem by12 : ay prog 12 = 8 := by kernel_rfl
theorem ze12 : aq prog 12 = [.sc (.int .u64 0)] := by kernel_rfl
theorem zn12 : ap prog 12 = [.sc (.int .u64 0)] := by kernel_rfl
theorem ha12 : ax prog 12 = true := by kernel_rfl
theorem sz13 : ai prog 13 = 2 := by kernel_rfl
theorem by13 : ay prog 13 = 24 := by kernel_rfl
theorem ze13 : aq prog 13 = [.sc (.string ⟨#[]⟩),.sc (.int .u64 0)] := by kernel_rfl
theorem zn13 : ap prog 13 = [.sc (.string ⟨#[]⟩),.sc (.int .u64 0)] := by kernel_rfl
theorem ha13 : ax prog 13 = true := by kernel_rfl
theorem sz14 : ai prog 14 = 2 := by kernel_rfl
theorem by14 : ay prog 14 = 24 := by kernel_rfl
theorem ze14 : aq prog 14 = [.sc (.string ⟨#[]⟩),.sc (.int .u64 0)] := by kernel_rfl
theorem zn14 : ap prog 14 = [.sc (.string ⟨#[]⟩),.sc (.int .u64 0)] := by kernel_rfl
theorem ha14 : ax prog 14 = true := by kernel_rfl
theorem sz15 : ai prog 15 = 1 := by kernel_rfl
theorem by15 : ay prog 15 = 8 := by kernel_rfl
theorem ze15 : aq prog 15 = [.sc (.pointer none)] := by kernel_rfl
theorem zn15 : ap prog 15 = [.sc (.pointer none)] := by kernel_rfl
theorem ha15 : ax prog 15 = true := by kernel_rfl
theorem sz16 : ai prog 16 = 1 := by kernel_rfl
theorem by16 : ay prog 16 = 8 := by kernel_rfl
theorem ze16 : aq prog 16 = [.sc (.pointer none)] := by kernel_rfl
theorem zn16 : ap prog 16 = [.sc (.pointer none)] := by kernel_rfl
theorem ha16 : ax prog 16 = true := by kernel_rfl
theorem sz17 : ai prog 17 = 1 := by kernel_rfl
theorem by17 : ay prog 17 = 8 := by kernel_rfl
theorem ze17 : aq prog 17 = [.sc (.pointer none)] := by kernel_rfl
theorem zn17 : ap prog 17 = [.sc (.pointer none)] := by kernel_rfl
theorem ha17 : ax prog 17 = true := by kernel_rfl
theorem sz18 : ai prog 18 = 1 := by kernel_rfl
theorem by18 : ay prog 18 = 8 := by kernel_rfl
theorem ze18 : aq prog 18 = [.sc (.pointer none)] := by kernel_rfl
theorem zn18 : ap prog 18 = [.sc (.pointer none)] := by kernel_rfl
theorem ha18 : ax prog 18 = true := by kernel_rfl
theorem sz19 : ai prog 19 = 1 := by kernel_rfl
theorem by19 : ay prog 19 = 8 := by kernel_rfl
theorem ze19 : aq prog 19 = [.sc (.pointer none)] := by kernel_rfl
theorem zn19 : ap prog 19 = [.sc (.pointer none)] := by kernel_rfl
theorem ha19 : ax prog 19 = true := by kernel_rfl
theorem sz20 : ai prog 20 = 1 := by kernel_rfl
theorem by20 : ay prog 20 = 16 := by kernel_rfl
theorem ze20 : aq prog 20 = [.sc .nilIface] := by kernel_rfl
theorem zn20 : ap prog 20 = [.sc .nilIface] := by kernel_rfl
theorem ha20 : ax prog 20 = true := by kernel_rfl
theorem sz21 : ai prog 21 = 1 := by kernel_rfl
theorem by21 : ay prog 21 = 4 := by kernel_rfl
theorem ze21 : aq prog 21 = [.sc (.int .i32 0)] := by kernel_rfl
theorem zn21 : ap prog 21 = [.sc (.int .i32 0)] := by kernel_rfl
theorem ha21 : ax prog 21 = true := by kernel_rfl
theorem sz22 : ai prog 22 = 1 := by kernel_rfl
theorem by22 : ay prog 22 = 24 := by kernel_rfl
theorem ze22 : aq prog 22 = [.imm 0 [] 0] := by kernel_rfl
theorem zn22 : ap prog 22 = [.sc (.slice none 0 0)] := by kernel_rfl
theorem ha22 : ax prog 22 = true := by kernel_rfl
theorem sz23 : ai prog 23 = 7 := by kernel_rfl
theorem by23 : ay prog 23 = 104 := by kernel_rfl
theorem ze23 : aq prog 23 = [.sc (.int .i64 0),.sc (.int .i64 0),.sc (.int .i64 0),.sc (.int .i64 0),.imm 0 [] 0,.imm 0 [] 0,.imm 0 [] 0] := by kernel_rfl
theorem zn23 : ap prog 23 = [.sc (.int .i64 0),.sc (.int .i64 0),.sc (.int .i64 0),.sc (.int .i64 0),.sc (.slice none 0 0),.sc (.slice none 0 0),.sc (.slice none 0 0)] := by kernel_rfl
theorem ha23 : ax prog 23 = true := by kernel_rfl
theorem sz24 : ai prog 24 = 7 := by kernel_rfl
theorem by24 : ay prog 24 = 104 := by kernel_rfl
theorem ze24 : aq prog 24 = [.sc (.int .i64 0),.sc (.int .i64 0),.sc (.int .i64 0),.sc (.int .i64 0),.imm 0 [] 0,.imm 0 [] 0,.imm 0 [] 0] := by kernel_rfl
theorem zn24 : ap prog 24 = [.sc (.int .i64 0),.sc (.int .i64 0),.sc (.int .i64 0),.sc (.int .i64 0),.sc (.slice none 0 0),.sc (.slice none 0 0),.sc (.slice none 0 0)] := by kernel_rfl
theorem ha24 : ax prog 24 = true := by kernel_rfl
theorem sz25 : ai prog 25 = 11 := by kernel_rfl
theorem by25 : ay prog 25 = 144 := by kernel_rfl
theorem ze25 : aq prog 25 = [.sc (.int .i64 0),.sc (.int .i64 0),.sc (.int .i64 0),.sc (.int .i64 0),.imm 0 [] 0,.imm 0 [] 0,.imm 0 [] 0,.imm 0 [] 0,.sc (.bool false),.sc (.int .u8 0),.sc (.int .i64 0)] := by kernel_rfl
theorem zn25 : ap prog 25 = [.sc (.int .i64 0),.sc (.int .i64 0),.sc (.int .i64 0),.sc (.int .i64 0),.sc (.slice none 0 0),.sc (.slice none 0 0),.sc (.slice none 0 0),.sc (.slice none 0 0),.sc (.bool false),.sc (.int .u8 0),.sc (.int .i64 0)] := by kernel_rfl
theorem ha25 : ax prog 25 = true := by kernel_rfl
theorem sz26 : ai prog 26 = 11 := by kernel_rfl
theorem by26 : ay prog 26 = 144 := by kernel_rfl
theorem ze26 : aq prog 26 = [.sc (.int .i64 0),.sc (.int .i64 0),.sc (.int .i64 0),.sc (.int .i64 0),.imm 0 [] 0,.imm 0 [] 0,.imm 0 [] 0,.imm 0 [] 0,.sc (.bool false),.sc (.int .u8 0),.sc (.int .i64 0)] := by kernel_rfl
theorem zn26 : ap prog 26 = [.sc (.int .i64 0),.sc (.int .i64 0),.sc (.int .i64 0),.sc (.int .i64 0),.sc (.slice none 0 0),.sc (.slice none 0 0),.sc (.slice none 0 0),.sc (.slice none 0 0),.sc (.bool false),.sc (.int .u8 0),.sc (.int .i64 0)] := by kernel_rfl
theorem ha26 : ax prog 26 = true := by kernel_rfl
theorem sz27 : ai prog 27 = 1 := by kernel_rfl
theorem by27 : ay prog 27 = 8 := by kernel_rfl
theorem ze27 : aq prog 27 = [.sc (.pointer none)] := by kernel_rfl
theorem zn27 : ap prog 27 = [.sc (.pointer none)] := by kernel_rfl
theorem ha27 : ax prog 27 = true := by kernel_rfl
theorem sz28 : ai prog 28 = 1 := by kernel_rfl
theorem by28 : ay prog 28 = 8 := by kernel_rfl
theorem ze28 : aq prog 28 = [.sc .nilFunc] := by kernel_rfl
theorem zn28 : ap prog 28 = [.sc .nilFunc] := by kernel_rfl
theorem ha28 : ax prog 28 = true := by kernel_rfl
theorem sz29 : ai prog 29 = 1 := by kernel_rfl
theorem by29 : ay prog 29 = 8 := by kernel_rfl
theorem ze29 : aq prog 29 = [.sc .nilFunc] := by kernel_rfl
theorem zn29 : ap prog 29 = [.sc .nilFunc] := by kernel_rfl
theorem ha29 : ax prog 29 = true := by kernel_rfl
theorem sz30 : ai prog 30 = 1 := by kernel_rfl
theorem by30 : ay prog 30 = 8 := by kernel_rfl
theorem ze30 : aq prog 30 = [.sc (.int .i64 0)] := by kernel_rfl
theorem zn30 : ap prog 30 = [.sc (.int .i64 0)] := by kernel_rfl
theorem ha30 : ax prog 30 = true := by kernel_rfl
theorem sz31 : ai prog 31 = 1 := by kernel_rfl
theorem by31 : ay prog 31 = 0 := by kernel_rfl
theorem sz32 : ai prog 32 = 1 := by kernel_rfl
theorem by32 : ay prog 32 = 8 := by kernel_rfl
theorem ze32 : aq prog 32 = [.sc .nilFunc] := by kernel_rfl
theorem zn32 : ap prog 32 = [.sc .nilFunc] := by kernel_rfl
theorem ha32 : ax prog 32 = true := by kernel_rfl
theorem sz33 : ai prog 33 = 1 := by kernel_rfl
theorem by33 : ay prog 33 = 8 := by kernel_rfl
theorem ze33 : aq prog 33 = [.sc .nilFunc] := by kernel_rfl
theorem zn33 : ap prog 33 = [.sc .nilFunc] := by kernel_rfl
theorem ha33 : ax prog 33 = true := by kernel_rfl
theorem sz34 : ai prog 34 = 1 := by kernel_rfl
theorem by34 : ay prog 34 = 8 := by kernel_rfl
theorem ze34 : aq prog 34 = [.sc .nilFunc] := by kernel_rfl
theorem zn34 : ap prog 34 = [.sc .nilFunc] := by kernel_rfl
theorem ha34 : ax prog 34 = true := by kernel_rfl
theorem sz35 : ai prog 35 = 1 := by kernel_rfl
theorem by35 : ay prog 35 = 8 := by kernel_rfl
theorem ze35 : aq prog 35 = [.sc .nilFunc] := by kernel_rfl
theorem zn35 : ap prog 35 = [.sc .nilFunc] := by kernel_rfl
theorem ha35 : ax prog 35 = true := by kernel_rfl
theorem sz36 : ai prog 36 = 1 := by kernel_rfl
theorem by36 : ay prog 36 = 8 := by kernel_rfl
theorem ze36 : aq prog 36 = [.sc .nilFunc] := by kernel_rfl
theorem zn36 : ap prog 36 = [.sc .nilFunc] := by kernel_rfl
theorem ha36 : ax prog 36 = true := by kernel_rfl
theorem sz37 : ai prog 37 = 5 := by kernel_rfl
theorem by37 : ay prog 37 = 72 := by kernel_rfl
theorem ze37 : aq prog 37 = [.sc (.int .i64 0),.sc (.int .i64 0),.sc (.int .i64 0),.imm 0 [] 0,.imm 0 [] 0] := by kernel_rfl
theorem zn37 : ap prog 37 = [.sc (.int .i64 0),.sc (.int .i64 0),.sc (.int .i64 0),.sc (.slice none 0 0),.sc (.slice none 0 0)] := by kernel_rfl
theorem ha37 : ax prog 37 = true := by kernel_rfl
theorem sz38 : ai prog 38 = 5 := by kernel_rfl
theorem by38 : ay prog 38 = 72 := by kernel_rfl
theorem ze38 : aq prog 38 = [.sc (.int .i64 0),.sc (.int .i64 0),.sc (.int .i64 0),.imm 0 [] 0,.imm 0 [] 0] := by kernel_rfl
theorem zn38 : ap prog 38 = [.sc (.int .i64 0),.sc (.int .i64 0),.sc (.int .i64 0),.sc (.slice none 0 0),.sc (.slice none 0 0)] := by kernel_rfl
theorem ha38 : ax prog 38 = true := by kernel_rfl
theorem sz39 : ai prog 39 = 1 := by kernel_rfl
theorem by39 : ay prog 39 = 0 := by kernel_rfl
theorem sz40 : ai prog 40 = 1 := by kernel_rfl
theorem by40 : ay prog 40 = 8 := by kernel_rfl
theorem ze40 : aq prog 40 = [.sc .nilFunc] := by kernel_rfl
theorem zn40 : ap prog 40 = [.sc .nilFunc] := by kernel_rfl
theorem ha40 : ax prog 40 = true := by kernel_rfl
theorem sz41 : ai prog 41 = 1 := by kernel_rfl
theorem by41 : ay prog 41 = 8 := by kernel_rfl
theorem ze41 : aq prog 41 = [.sc .nilFunc] := by kernel_rfl
theorem zn41 : ap prog 41 = [.sc .nilFunc] := by kernel_rfl
theorem ha41 : ax prog 41 = true := by kernel_rfl
theorem sz42 : ai prog 42 = 1 := by kernel_rfl
theorem by42 : ay prog 42 = 8 := by kernel_rfl
theorem ze42 : aq prog 42 = [.sc .nilFunc] := by kernel_rfl
theorem zn42 : ap prog 42 = [.sc .nilFunc] := by kernel_rfl
theorem ha42 : ax prog 42 = true := by kernel_rfl
theorem sz43 : ai prog 43 = 1 := by kernel_rfl
theorem by43 : ay prog 43 = 8 := by kernel_rfl
theorem ze43 : aq prog 43 = [.sc .nilFunc] := by kernel_rfl
theorem zn43 : ap prog 43 = [.sc .nilFunc] := by kernel_rfl
theorem ha43 : ax prog 43 = true := by kernel_rfl
theorem sz44 : ai prog 44 = 1 := by kernel_rfl
theorem by44 : ay prog 44 = 0 := by kernel_rfl
theorem sz45 : ai prog 45 = 1 := by kernel_rfl
theorem by45 : ay prog 45 = 8 := by kernel_rfl
theorem ze45 : aq prog 45 = [.sc .nilFunc] := by kernel_rfl
theorem zn45 : ap prog 45 = [.sc .nilFunc] := by kernel_rfl
theorem ha45 : ax prog 45 = true := by kernel_rfl
theorem sz46 : ai prog 46 = 1 := by kernel_rfl
theorem by46 : ay prog 46 = 8 := by kernel_rfl
theorem ze46 : aq prog 46 = [.sc .nilFunc] := by kernel_rfl
theorem zn46 : ap prog 46 = [.sc .nilFunc] := by kernel_rfl
theorem ha46 : ax prog 46 = true := by kernel_rfl
theorem sz47 : ai prog 47 = 1 := by kernel_rfl
theorem by47 : ay prog 47 = 8 := by kernel_rfl
theorem ze47 : aq prog 47 = [.sc .nilFunc] := by kernel_rfl
theorem zn47 : ap prog 47 = [.sc .nilFunc] := by kernel_rfl
theorem ha47 : ax prog 47 = true := by kernel_rfl
theorem sz48 : ai prog 48 = 4 := by kernel_rfl
theorem by48 : ay prog 48 = 80 := by kernel_rfl
theorem ze48 : aq prog 48 = [.imm 0 [] 0,.imm 0 [] 0,.imm 0 [] 0,.sc (.int .i64 0)] := by kernel_rfl
theorem zn48 : ap prog 48 = [.sc (.slice none 0 0),.sc (.slice none 0 0),.sc (.slice none 0 0),.sc (.int .i64 0)] := by kernel_rfl
theorem ha48 : ax prog 48 = true := by kernel_rfl
theorem sz49 : ai prog 49 = 4 := by kernel_rfl
theorem by49 : ay prog 49 = 80 := by kernel_rfl
theorem ze49 : aq prog 49 = [.imm 0 [] 0,.imm 0 [] 0,.imm 0 [] 0,.sc (.int .i64 0)] := by kernel_rfl
theorem zn49 : ap prog 49 = [.sc (.slice none 0 0),.sc (.slice none 0 0),.sc (.slice none 0 0),.sc (.int .i64 0)] := by kernel_rfl
theorem ha49 : ax prog 49 = true := by kernel_rfl
theorem sz50 : ai prog 50 = 1 := by kernel_rfl
theorem by50 : ay prog 50 = 8 := by kernel_rfl
theorem ze50 : aq prog 50 = [.sc .nilFunc] := by kernel_rfl
theorem zn50 : ap prog 50 = [.sc .nilFunc] := by kernel_rfl
theorem ha50 : ax prog 50 = true := by kernel_rfl
theorem sz51 : ai prog 51 = 1 := by kernel_rfl
theorem by51 : ay prog 51 = 8 := by kernel_rfl
theorem ze51 : aq prog 51 = [.sc .nilFunc] := by kernel_rfl
theorem zn51 : ap prog 51 = [.sc .nilFunc] := by kernel_rfl
theorem ha51 : ax prog 51 = true := by kernel_rfl
theorem sz52 : ai prog 52 = 1 := by kernel_rfl
theorem by52 : ay prog 52 = 24 := by kernel_rfl
theorem ze52 : aq prog 52 = [.imm 0 [] 0] := by kernel_rfl
theorem zn52 : ap prog 52 = [.sc (.slice none 0 0)] := by kernel_rfl
theorem ha52 : ax prog 52 = true := by kernel_rfl
theorem sz53 : ai prog 53 = 2 := by kernel_rfl
theorem by53 : ay prog 53 = 32 := by kernel_rfl
theorem ze53 : aq prog 53 = [.imm 0 [] 0,.sc (.int .i64 0)] := by kernel_rfl
theorem zn53 : ap prog 53 = [.sc (.slice none 0 0),.sc (.int .i64 0)] := by kernel_rfl
theorem ha53 : ax prog 53 = true := by kernel_rfl
theorem sz54 : ai prog 54 = 2 := by kernel_rfl
theorem by54 : ay prog 54 = 32 := by kernel_rfl
theorem ze54 : aq prog 54 = [.imm 0 [] 0,.sc (.int .i64 0)] := by kernel_rfl
theorem zn54 : ap prog 54 = [.sc (.slice none 0 0),.sc (.int .i64 0)] := by kernel_rfl
theorem ha54 : ax prog 54 = true := by kernel_rfl
theorem sz55 : ai prog 55 = 1 := by kernel_rfl
theorem by55 : ay prog 55 = 0 := by kernel_rfl
theorem sz56 : ai prog 56 = 1 := by kernel_rfl
theorem by56 : ay prog 56 = 8 := by kernel_rfl
theorem ze56 : aq prog 56 = [.sc .nilFunc] := by kernel_rfl
theorem zn56 : ap prog 56 = [.sc .nilFunc] := by kernel_rfl
theorem ha56 : ax prog 56 = true := by kernel_rfl
theorem sz57 : ai prog 57 = 1 := by kernel_rfl
theorem by57 : ay prog 57 = 8 := by kernel_rfl
theorem ze57 : aq prog 57 = [.sc .nilFunc] := by kernel_rfl
theorem zn57 : ap prog 57 = [.sc .nilFunc] := by kernel_rfl
theorem ha57 : ax prog 57 = true := by kernel_rfl
theorem sz58 : ai prog 58 = 1 := by kernel_rfl
theorem by58 : ay prog 58 = 0 := by kernel_rfl
theorem sz59 : ai prog 59 = 1 := by kernel_rfl
theorem by59 : ay prog 59 = 8 := by kernel_rfl
theorem ze59 : aq prog 59 = [.sc .nilFunc] := by kernel_rfl
theorem zn59 : ap prog 59 = [.sc .nilFunc] := by kernel_rfl
theorem ha59 : ax prog 59 = true := by kernel_rfl
theorem sz60 : ai prog 60 = 1 := by kernel_rfl
theorem by60 : ay prog 60 = 0 := by kernel_rfl
theorem sz61 : ai prog 61 = 1 := by kernel_rfl
theorem by61 : ay prog 61 = 8 := by kernel_rfl
theorem ze61 : aq prog 61 = [.sc .nilFunc] := by kernel_rfl
theorem zn61 : ap prog 61 = [.sc .nilFunc] := by kernel_rfl
theorem ha61 : ax prog 61 = true := by kernel_rfl
theorem sz62 : ai prog 62 = 1 := by kernel_rfl
theorem by62 : ay prog 62 = 0 := by kernel_rfl
theorem sz63 : ai prog 63 = 1 := by kernel_rfl
theorem by63 : ay prog 63 = 8 := by kernel_rfl
theorem ze63 : aq prog 63 = [.sc .nilFunc] := by kernel_rfl
theorem zn63 : ap prog 63 = [.sc .nilFunc] := by kernel_rfl
theorem ha63 : ax prog 63 = true := by kernel_rfl
theorem sz64 : ai prog 64 = 1 := by kernel_rfl
theorem by64 : ay prog 64 = 0 := by kernel_rfl
theorem sz65 : ai prog 65 = 1 := by kernel_rfl
theorem by65 : ay prog 65 = 8 := by kernel_rfl
theorem ze65 : aq prog 65 = [.sc .nilFunc] := by kernel_rfl
theorem zn65 : ap prog 65 = [.sc .nilFunc] := by kernel_rfl
theorem ha65 : ax prog 65 = true := by kernel_rfl
theorem sz66 : ai prog 66 = 1 := by kernel_rfl
theorem by66 : ay prog 66 = 8 := by kernel_rfl
theorem ze66 : aq prog 66 = [.sc .nilFunc] := by kernel_rfl
theorem zn66 : ap prog 66 = [.sc .nilFunc] := by kernel_rfl
theorem ha66 : ax prog 66 = true := by kernel_rfl
theorem sz67 : ai prog 67 = 1 := by kernel_rfl
theorem by67 : ay prog 67 = 8 := by kernel_rfl
theorem ze67 : aq prog 67 = [.sc (.pointer none)] := by kernel_rfl
theorem zn67 : ap prog 67 = [.sc (.pointer none)] := by kernel_rfl
theorem ha67 : ax prog 67 = true := by kernel_rfl
theorem sz68 : ai prog 68 = 1 := by kernel_rfl
theorem by68 : ay prog 68 = 8 := by kernel_rfl
theorem ze68 : aq prog 68 = [.sc .nilFunc] := by kernel_rfl
theorem zn68 : ap prog 68 = [.sc .nilFunc] := by kernel_rfl
theorem ha68 : ax prog 68 = true := by kernel_rfl
theorem sz69 : ai prog 69 = 1 := by kernel_rfl
theorem by69 : ay prog 69 = 8 := by kernel_rfl
theorem ze69 : aq prog 69 = [.sc .nilFunc] := by kernel_rfl
theorem zn69 : ap prog 69 = [.sc .nilFunc] := by kernel_rfl
theorem ha69 : ax prog 69 = true := by kernel_rfl
theorem sz70 : ai prog 70 = 2 := by kernel_rfl
theorem by70 : ay prog 70 = 32 := by kernel_rfl
theorem ze70 : aq prog 70 = [.imm 0 [] 0,.sc (.int .i64 0)] := by kernel_rfl
theorem zn70 : ap prog 70 = [.sc (.slice none 0 0),.sc (.int .i64 0)] := by kernel_rfl
theorem ha70 : ax prog 70 = true := by kernel_rfl
theorem sz71 : ai prog 71 = 2 := by kernel_rfl
theorem by71 : ay prog 71 = 32 := by kernel_rfl
theorem ze71 : aq prog 71 = [.imm 0 [] 0,.sc (.int .i64 0)] := by kernel_rfl
theorem zn71 : ap prog 71 = [.sc (.slice none 0 0),.sc (.int .i64 0)] := by kernel_rfl
theorem ha71 : ax prog 71 = true := by kernel_rfl
theorem sz72 : ai prog 72 = 1 := by kernel_rfl
theorem by72 : ay prog 72 = 0 := by kernel_rfl
theorem sz73 : ai prog 73 = 1 := by kernel_rfl
theorem by73 : ay prog 73 = 8 := by kernel_rfl
theorem ze73 : aq prog 73 = [.sc .nilFunc] := by kernel_rfl
theorem zn73 : ap prog 73 = [.sc .nilFunc] := by kernel_rfl
theorem ha73 : ax prog 73 = true := by kernel_rfl
theorem sz74 : ai prog 74 = 1 := by kernel_rfl
theorem by74 : ay prog 74 = 8 := by kernel_rfl
theorem ze74 : aq prog 74 = [.sc .nilFunc] := by kernel_rfl
theorem zn74 : ap prog 74 = [.sc .nilFunc] := by kernel_rfl
theorem ha74 : ax prog 74 = true := by kernel_rfl
theorem sz75 : ai prog 75 = 1 := by kernel_rfl
theorem by75 : ay prog 75 = 8 := by kernel_rfl
theorem ze75 : aq prog 75 = [.sc .nilFunc] := by kernel_rfl
theorem zn75 : ap prog 75 = [.sc .nilFunc] := by kernel_rfl
theorem ha75 : ax prog 75 = true := by kernel_rfl
theorem sz76 : ai prog 76 = 1 := by kernel_rfl
theorem by76 : ay prog 76 = 8 := by kernel_rfl
theorem ze76 : aq prog 76 = [.sc .nilFunc] := by kernel_rfl
theorem zn76 : ap prog 76 = [.sc .nilFunc] := by kernel_rfl
theorem ha76 : ax prog 76 = true := by kernel_rfl
theorem sz77 : ai prog 77 = 1 := by kernel_rfl
theorem by77 : ay prog 77 = 8 := by kernel_rfl
theorem ze77 : aq prog 77 = [.sc (.map none)] := by kernel_rfl
theorem zn77 : ap prog 77 = [.sc (.map none)] := by kernel_rfl
theorem ha77 : ax prog 77 = true := by kernel_rfl
theorem sz78 : ai prog 78 = 1 := by kernel_rfl
theorem by78 : ay prog 78 = 24 := by kernel_rfl
theorem ze78 : aq prog 78 = [.imm 0 [] 0] := by kernel_rfl
theorem zn78 : ap prog 78 = [.sc (.slice none 0 0)] := by kernel_rfl
theorem ha78 : ax prog 78 = true := by kernel_rfl
theorem sz79 : ai prog 79 = 2 := by kernel_rfl
theorem by79 : ay prog 79 = 32 := by kernel_rfl
theorem ze79 : aq prog 79 = [.imm 0 [] 0,.sc (.map none)] := by kernel_rfl
theorem zn79 : ap prog 79 = [.sc (.slice none 0 0),.sc (.map none)] := by kernel_rfl
theorem ha79 : ax prog 79 = true := by kernel_rfl
theorem sz80 : ai prog 80 = 2 := by kernel_rfl
theorem by80 : ay prog 80 = 32 := by kernel_rfl
theorem ze80 : aq prog 80 = [.imm 0 [] 0,.sc (.map none)] := by kernel_rfl
theorem zn80 : ap prog 80 = [.sc (.slice none 0 0),.sc (.map none)] := by kernel_rfl
theorem ha80 : ax prog 80 = true := by kernel_rfl
theorem sz81 : ai prog 81 = 3 := by kernel_rfl
theorem by81 : ay prog 81 = 40 := by kernel_rfl
theorem ze81 : aq prog 81 = [.imm 0 [] 0,.sc (.map none),.sc (.int .i64 0)] := by kernel_rfl
theorem zn81 : ap prog 81 = [.sc (.slice none 0 0),.sc (.map none),.sc (.int .i64 0)] := by kernel_rfl
theorem ha81 : ax prog 81 = true := by kernel_rfl
theorem sz82 : ai prog 82 = 3 := by kernel_rfl
theorem by82 : ay prog 82 = 40 := by kernel_rfl
theorem ze82 : aq prog 82 = [.imm 0 [] 0,.sc (.map none),.sc (.int .i64 0)] := by kernel_rfl
theorem zn82 : ap prog 82 = [.sc (.slice none 0 0),.sc (.map none),.sc (.int .i64 0)] := by kernel_rfl
theorem ha82 : ax prog 82 = true := by kernel_rfl
theorem sz83 : ai prog 83 = 1 := by kernel_rfl
theorem by83 : ay prog 83 = 8 := by kernel_rfl
theorem ze83 : aq prog 83 = [.sc .nilFunc] := by kernel_rfl
theorem zn83 : ap prog 83 = [.sc .nilFunc] := by kernel_rfl
theorem ha83 : ax prog 83 = true := by kernel_rfl
theorem sz84 : ai prog 84 = 1 := by kernel_rfl
theorem by84 : ay prog 84 = 8 := by kernel_rfl
theorem ze84 : aq prog 84 = [.sc .nilFunc] := by kernel_rfl
theorem zn84 : ap prog 84 = [.sc .nilFunc] := by kernel_rfl
theorem ha84 : ax prog 84 = true := by kernel_rfl
theorem sz85 : ai prog 85 = 1 := by kernel_rfl
theorem by85 : ay prog 85 = 16 := by kernel_rfl
theorem ze85 : aq prog 85 = [.sc .nilIface] := by kernel_rfl
theorem zn85 : ap prog 85 = [.sc .nilIface] := by kernel_rfl
theorem ha85 : ax prog 85 = true := by kernel_rfl
theorem sz86 : ai prog 86 = 1 := by kernel_rfl
theorem by86 : ay prog 86 = 16 := by kernel_rfl
theorem ze86 : aq prog 86 = [.sc .nilIface] := by kernel_rfl
theorem zn86 : ap prog 86 = [.sc .nilIface] := by kernel_rfl
theorem ha86 : ax prog 86 = true := by kernel_rfl
theorem sz87 : ai prog 87 = 1 := by kernel_rfl
theorem by87 : ay prog 87 = 8 := by kernel_rfl
theorem ze87 : aq prog 87 = [.sc .nilFunc] := by kernel_rfl
theorem zn87 : ap prog 87 = [.sc .nilFunc] := by kernel_rfl
theorem ha87 : ax prog 87 = true := by kernel_rfl
theorem sz88 : ai prog 88 = 1 := by kernel_rfl
theorem by88 : ay prog 88 = 8 := by kernel_rfl
theorem ze88 : aq prog 88 = [.sc .nilFunc] := by kernel_rfl
theorem zn88 : ap prog 88 = [.sc .nilFunc] := by kernel_rfl
theorem ha88 : ax prog 88 = true := by kernel_rfl
theorem sz89 : ai prog 89 = 1 := by kernel_rfl
theorem by89 : ay prog 89 = 8 := by kernel_rfl
theorem ze89 : aq prog 89 = [.sc .nilFunc] := by kernel_rfl
theorem zn89 : ap prog 89 = [.sc .nilFunc] := by kernel_rfl
theorem ha89 : ax prog 89 = true := by kernel_rfl
theorem sz90 : ai prog 90 = 1 := by kernel_rfl
theorem by90 : ay prog 90 = 8 := by kernel_rfl
theorem ze90 : aq prog 90 = [.sc .nilFunc] := by kernel_rfl
theorem zn90 : ap prog 90 = [.sc .nilFunc] := by kernel_rfl
theorem ha90 : ax prog 90 = true := by kernel_rfl
theorem sz91 : ai prog 91 = 1 := by kernel_rfl
theorem by91 : ay prog 91 = 8 := by kernel_rfl
theorem ze91 : aq prog 91 = [.sc (.int .u64 0)] := by kernel_rfl
theorem zn91 : ap prog 91 = [.sc (.int .u64 0)] := by kernel_rfl
theorem ha91 : ax prog 91 = true := by kernel_rfl
theorem sz92 : ai prog 92 = 1 := by kernel_rfl
theorem by92 : ay prog 92 = 8 := by kernel_rfl
theorem ze92 : aq prog 92 = [.sc .nilFunc] := by kernel_rfl
theorem zn92 : ap prog 92 = [.sc .nilFunc] := by kernel_rfl
theorem ha92 : ax prog 92 = true := by kernel_rfl
theorem sz93 : ai prog 93 = 1 := by kernel_rfl
theorem by93 : ay prog 93 = 8 := by kernel_rfl
theorem ze93 : aq prog 93 = [.sc .nilFunc] := by kernel_rfl
theorem zn93 : ap prog 93 = [.sc .nilFunc] := by kernel_rfl
theorem ha93 : ax prog 93 = true := by kernel_rfl
theorem sz94 : ai prog 94 = 1 := by kernel_rfl
theorem by94 : ay prog 94 = 8 := by kernel_rfl
theorem ze94 : aq prog 94 = [.sc .nilFunc] := by kernel_rfl
theorem zn94 : ap prog 94 = [.sc .nilFunc] := by kernel_rfl
theorem ha94 : ax prog 94 = true := by kernel_rfl
theorem sz95 : ai prog 95 = 1 := by kernel_rfl
theorem by95 : ay prog 95 = 8 := by kernel_rfl
theorem ze95 : aq prog 95 = [.sc .nilFunc] := by kernel_rfl
theorem zn95 : ap prog 95 = [.sc .nilFunc] := by kernel_rfl
theorem ha95 : ax prog 95 = true := by kernel_rfl
theorem sz96 : ai prog 96 = 1 := by kernel_rfl
theorem by96 : ay prog 96 = 24 := by kernel_rfl
theorem ze96 : aq prog 96 = [.imm 0 [] 0] := by kernel_rfl
theorem zn96 : ap prog 96 = [.sc (.slice none 0 0)] := by kernel_rfl
theorem ha96 : ax prog 96 = true := by kernel_rfl
theorem sz97 : ai prog 97 = 2 := by kernel_rfl
theorem by97 : ay prog 97 = 32 := by kernel_rfl
theorem ze97 : aq prog 97 = [.sc (.int .u8 0),.imm 0 [] 0] := by kernel_rfl
theorem zn97 : ap prog 97 = [.sc (.int .u8 0),.sc (.slice none 0 0)] := by kernel_rfl
theorem ha97 : ax prog 97 = true := by kernel_rfl
theorem sz98 : ai prog 98 = 2 := by kernel_rfl
theorem by98 : ay prog 98 = 32 := by kernel_rfl
theorem ze98 : aq prog 98 = [.sc (.int .u8 0),.imm 0 [] 0] := by kernel_rfl
theorem zn98 : ap prog 98 = [.sc (.int .u8 0),.sc (.slice none 0 0)] := by kernel_rfl
theorem ha98 : ax prog 98 = true := by kernel_rfl
theorem sz99 : ai prog 99 = 1 := by kernel_rfl
theorem by99 : ay prog 99 = 8 := by kernel_rfl
theorem ze99 : aq prog 99 = [.sc .nilFunc] := by kernel_rfl
theorem zn99 : ap prog 99 = [.sc .nilFunc] := by kernel_rfl
theorem ha99 : ax prog 99 = true := by kernel_rfl
theorem sz100 : ai prog 100 = 1 := by kernel_rfl
theorem by100 : ay prog 100 = 8 := by kernel_rfl
theorem ze100 : aq prog 100 = [.sc .nilFunc] := by kernel_rfl
theorem zn100 : ap prog 100 = [.sc .nilFunc] := by kernel_rfl
theorem ha100 : ax prog 100 = true := by kernel_rfl
theorem sz101 : ai prog 101 = 1 := by kernel_rfl
theorem by101 : ay prog 101 = 8 := by kernel_rfl
theorem ze101 : aq prog 101 = [.sc .nilFunc] := by kernel_rfl
theorem zn101 : ap prog 101 = [.sc .nilFunc] := by kernel_rfl
theorem ha101 : ax prog 101 = true := by kernel_rfl
theorem sz102 : ai prog 102 = 2 := by kernel_rfl
theorem by102 : ay prog 102 = 16 := by kernel_rfl
theorem ze102 : aq prog 102 = [.sc .nilFunc,.sc .nilFunc] := by kernel_rfl
theorem zn102 : ap prog 102 = [.sc .nilFunc,.sc .nilFunc] := by kernel_rfl
theorem ha102 : ax prog 102 = true := by kernel_rfl
theorem sz103 : ai prog 103 = 4 := by kernel_rfl
theorem by103 : ay prog 103 = 48 := by kernel_rfl
theorem ze103 : aq prog 103 = [.imm 0 [] 0,.sc (.int .i64 0),.sc (.bool false),.sc (.int .i64 0)] := by kernel_rfl
theorem zn103 : ap prog 103 = [.sc (.slice none 0 0),.sc (.int .i64 0),.sc (.bool false),.sc (.int .i64 0)] := by kernel_rfl
theorem ha103 : ax prog 103 = true := by kernel_rfl
theorem sz104 : ai prog 104 = 4 := by kernel_rfl
theorem by104 : ay prog 104 = 48 := by kernel_rfl
theorem ze104 : aq prog 104 = [.imm 0 [] 0,.sc (.int .i64 0),.sc (.bool false),.sc (.int .i64 0)] := by kernel_rfl
theorem zn104 : ap prog 104 = [.sc (.slice none 0 0),.sc (.int .i64 0),.sc (.bool false),.sc (.int .i64 0)] := by kernel_rfl
theorem ha104 : ax prog 104 = true := by kernel_rfl
theorem sz105 : ai prog 105 = 4 := by kernel_rfl
theorem by105 : ay prog 105 = 48 := by kernel_rfl
theorem ze105 : aq prog 105 = [.imm 0 [] 0,.sc (.int .i64 0),.sc (.bool false),.sc (.int .i64 0)] := by kernel_rfl
theorem zn105 : ap prog 105 = [.sc (.slice none 0 0),.sc (.int .i64 0),.sc (.bool false),.sc (.int .i64 0)] := by kernel_rfl
theorem ha105 : ax prog 105 = true := by kernel_rfl
theorem sz106 : ai prog 106 = 4 := by kernel_rfl
theorem by106 : ay prog 106 = 48 := by kernel_rfl
theorem ze106 : aq prog 106 = [.imm 0 [] 0,.sc (.int .i64 0),.sc (.bool false),.sc (.int .i64 0)] := by kernel_rfl
theorem zn106 : ap prog 106 = [.sc (.slice none 0 0),.sc (.int .i64 0),.sc (.bool false),.sc (.int .i64 0)] := by kernel_rfl
theorem ha106 : ax prog 106 = true := by kernel_rfl
theorem sz107 : ai prog 107 = 1 := by kernel_rfl
theorem by107 : ay prog 107 = 8 := by kernel_rfl
theorem ze107 : aq prog 107 = [.sc .nilFunc] := by kernel_rfl
theorem zn107 : ap prog 107 = [.sc .nilFunc] := by kernel_rfl
theorem ha107 : ax prog 107 = true := by kernel_rfl
theorem sz108 : ai prog 108 = 1 := by kernel_rfl
theorem by108 : ay prog 108 = 8 := by kernel_rfl
theorem ze108 : aq prog 108 = [.sc .nilFunc] := by kernel_rfl
theorem zn108 : ap prog 108 = [.sc .nilFunc] := by kernel_rfl
theorem ha108 : ax prog 108 = true := by kernel_rfl
theorem sz109 : ai prog 109 = 1 := by kernel_rfl
theorem by109 : ay prog 109 = 0 := by kernel_rfl
theorem sz110 : ai prog 110 = 1 := by kernel_rfl
theorem by110 : ay prog 110 = 8 := by kernel_rfl
theorem ze110 : aq prog 110 = [.sc .nilFunc] := by kernel_rfl
theorem zn110 : ap prog 110 = [.sc .nilFunc] := by kernel_rfl
theorem ha110 : ax prog 110 = true := by kernel_rfl
theorem sz111 : ai prog 111 = 1 := by kernel_rfl
theorem by111 : ay prog 111 = 0 := by kernel_rfl
theorem sz112 : ai prog 112 = 1 := by kernel_rfl
theorem by112 : ay prog 112 = 8 := by kernel_rfl
theorem ze112 : aq prog 112 = [.sc .nilFunc] := by kernel_rfl
theorem zn112 : ap prog 112 = [.sc .nilFunc] := by kernel_rfl
theorem ha112 : ax prog 112 = true := by kernel_rfl
theorem sz113 : ai prog 113 = 2 := by kernel_rfl
theorem by113 : ay prog 113 = 32 := by kernel_rfl
theorem ze113 : aq prog 113 = [.sc (.int .u8 0),.imm 0 [] 0] := by kernel_rfl
theorem zn113 : ap prog 113 = [.sc (.int .u8 0),.sc (.slice none 0 0)] := by kernel_rfl
theorem ha113 : ax prog 113 = true := by kernel_rfl
theorem sz114 : ai prog 114 = 1 := by kernel_rfl
theorem by114 : ay prog 114 = 8 := by kernel_rfl
theorem ze114 : aq prog 114 = [.sc .nilFunc] := by kernel_rfl
theorem zn114 : ap prog 114 = [.sc .nilFunc] := by kernel_rfl
theorem ha114 : ax prog 114 = true := by kernel_rfl
theorem sz115 : ai prog 115 = 1 := by kernel_rfl
theorem by115 : ay prog 115 = 8 := by kernel_rfl
theorem ze115 : aq prog 115 = [.sc .nilFunc] := by kernel_rfl
theorem zn115 : ap prog 115 = [.sc .nilFunc] := by kernel_rfl
theorem ha115 : ax prog 115 = true := by kernel_rfl
theorem sz116 : ai prog 116 = 1 := by kernel_rfl
theorem by116 : ay prog 116 = 8 := by kernel_rfl
theorem ze116 : aq prog 116 = [.sc (.int .u64 0)] := by kernel_rfl
theorem zn116 : ap prog 116 = [.sc (.int .u64 0)] := by kernel_rfl
theorem ha116 : ax prog 116 = true := by kernel_rfl
theorem sz117 : ai prog 117 = 1 := by kernel_rfl
theorem by117 : ay prog 117 = 8 := by kernel_rfl
theorem ze117 : aq prog 117 = [.sc .nilFunc] := by kernel_rfl
theorem zn117 : ap prog 117 = [.sc .nilFunc] := by kernel_rfl
theorem ha117 : ax prog 117 = true := by kernel_rfl
theorem sz118 : ai prog 118 = 4 := by kernel_rfl
theorem by118 : ay prog 118 = 32 := by kernel_rfl
theorem ze118 : aq prog 118 = [.sc (.int .i64 0),.sc (.int .i64 0),.sc (.int .i64 0),.sc (.int .i64 0)] := by kernel_rfl
theorem zn118 : ap prog 118 = [.sc (.int .i64 0),.sc (.int .i64 0),.sc (.int .i64 0),.sc (.int .i64 0)] := by kernel_rfl
theorem ha118 : ax prog 118 = true := by kernel_rfl
theorem sz119 : ai prog 119 = 1 := by kernel_rfl
theorem by119 : ay prog 119 = 8 := by kernel_rfl
theorem ze119 : aq prog 119 = [.sc .nilFunc] := by kernel_rfl
theorem zn119 : ap prog 119 = [.sc .nilFunc] := by kernel_rfl
theorem ha119 : ax prog 119 = true := by kernel_rfl
theorem sz120 : ai prog 120 = 1 := by kernel_rfl
theorem by120 : ay prog 120 = 8 := by kernel_rfl
theorem ze120 : aq prog 120 = [.sc .nilFunc] := by kernel_rfl
theorem zn120 : ap prog 120 = [.sc .nilFunc] := by kernel_rfl
theorem ha120 : ax prog 120 = true := by kernel_rfl
theorem sz121 : ai prog 121 = 1 := by kernel_rfl
theorem by121 : ay prog 121 = 8 := by kernel_rfl
theorem ze121 : aq prog 121 = [.sc .nilFunc] := by kernel_rfl
theorem zn121 : ap prog 121 = [.sc .nilFunc] := by kernel_rfl
theorem ha121 : ax prog 121 = true := by kernel_rfl
theorem sz122 : ai prog 122 = 1 := by kernel_rfl
theorem by122 : ay prog 122 = 0 := by kernel_rfl
theorem sz123 : ai prog 123 = 1 := by kernel_rfl
theorem by123 : ay prog 123 = 8 := by kernel_rfl
theorem ze123 : aq prog 123 = [.sc .nilFunc] := by kernel_rfl
theorem zn123 : ap prog 123 = [.sc .nilFunc] := by kernel_rfl
theorem ha123 : ax prog 123 = true := by kernel_rfl
theorem sz124 : ai prog 124 = 1 := by kernel_rfl
theorem by124 : ay prog 124 = 0 := by kernel_rfl
theorem sz125 : ai prog 125 = 1 := by kernel_rfl
theorem by125 : ay prog 125 = 8 := by kernel_rfl
theorem ze125 : aq prog 125 = [.sc .nilFunc] := by kernel_rfl
theorem zn125 : ap prog 125 = [.sc .nilFunc] := by kernel_rfl
theorem ha125 : ax prog 125 = true := by kernel_rfl
theorem sz126 : ai prog 126 = 1 := by kernel_rfl
theorem by126 : ay prog 126 = 8 := by kernel_rfl
theorem ze126 : aq prog 126 = [.sc .nilFunc] := by kernel_rfl
theorem zn126 : ap prog 126 = [.sc .nilFunc] := by kernel_rfl
theorem ha126 : ax prog 126 = true := by kernel_rfl
theorem sz127 : ai prog 127 = 1 := by kernel_rfl
theorem by127 : ay prog 127 = 8 := by kernel_rfl
theorem ze127 : aq prog 127 = [.sc .nilFunc] := by kernel_rfl
theorem zn127 : ap prog 127 = [.sc .nilFunc] := by kernel_rfl
theorem ha127 : ax prog 127 = true := by kernel_rfl
theorem sz128 : ai prog 128 = 7 := by kernel_rfl
theorem by128 : ay prog 128 = 56 := by kernel_rfl
theorem ze128 : aq prog 128 = [.sc (.int .i64 0),.sc (.int .i64 0),.sc (.int .i64 0),.sc (.int .i64 0),.sc (.int .i64 0),.sc (.int .i64 0),.sc (.int .i64 0)] := by kernel_rfl
theorem zn128 : ap prog 128 = [.sc (.int .i64 0),.sc (.int .i64 0),.sc (.int .i64 0),.sc (.int .i64 0),.sc (.int .i64 0),.sc (.int .i64 0),.sc (.int .i64 0)] := by kernel_rfl
theorem ha128 : ax prog 128 = true := by kernel_rfl
theorem sz129 : ai prog 129 = 1 := by kernel_rfl
theorem by129 : ay prog 129 = 8 := by kernel_rfl
theorem ze129 : aq prog 129 = [.sc (.pointer none)] := by kernel_rfl
theorem zn129 : ap prog 129 = [.sc (.pointer none)] := by kernel_rfl
theorem ha129 : ax prog 129 = true := by kernel_rfl
theorem sz130 : ai prog 130 = 1 := by kernel_rfl
theorem by130 : ay prog 130 = 8 := by kernel_rfl
theorem ze130 : aq prog 130 = [.sc (.pointer none)] := by kernel_rfl
theorem zn130 : ap prog 130 = [.sc (.pointer none)] := by kernel_rfl
theorem ha130 : ax prog 130 = true := by kernel_rfl
theorem sz131 : ai prog 131 = 1 := by kernel_rfl
theorem by131 : ay prog 131 = 8 := by kernel_rfl
theorem ze131 : aq prog 131 = [.sc .nilFunc] := by kernel_rfl
theorem zn131 : ap prog 131 = [.sc .nilFunc] := by kernel_rfl
theorem ha131 : ax prog 131 = true := by kernel_rfl
theorem sz132 : ai prog 132 = 4 := by kernel_rfl
theorem by132 : ay prog 132 = 40 := by kernel_rfl
theorem ze132 : aq prog 132 = [.sc (.pointer none),.sc (.pointer none),.sc (.pointer none),.sc (.string ⟨#[]⟩)] := by kernel_rfl
theorem zn132 : ap prog 132 = [.sc (.pointer none),.sc (.pointer none),.sc (.pointer none),.sc (.string ⟨#[]⟩)] := by kernel_rfl
theorem ha132 : ax prog 132 = true := by kernel_rfl
theorem sz133 : ai prog 133 = 4 := by kernel_rfl
theorem by133 : ay prog 133 = 40 := by kernel_rfl
theorem ze133 : aq prog 133 = [.sc (.pointer none),.sc (.pointer none),.sc (.pointer none),.sc (.string ⟨#[]⟩)] := by kernel_rfl
theorem zn133 : ap prog 133 = [.sc (.pointer none),.sc (.pointer none),.sc (.pointer none),.sc (.string ⟨#[]⟩)] := by kernel_rfl
theorem ha133 : ax prog 133 = true := by kernel_rfl
theorem sz134 : ai prog 134 = 0 := by kernel_rfl
theorem by134 : ay prog 134 = 0 := by kernel_rfl
theorem ze134 : aq prog 134 = [] := by kernel_rfl
theorem zn134 : ap prog 134 = [] := by kernel_rfl
theorem ha134 : ax prog 134 = true := by kernel_rfl
theorem sz135 : ai prog 135 = 0 := by kernel_rfl
theorem by135 : ay prog 135 = 0 := by kernel_rfl
theorem ze135 : aq prog 135 = [] := by kernel_rfl
theorem zn135 : ap prog 135 = [] := by kernel_rfl
theorem ha135 : ax prog 135 = true := by kernel_rfl
theorem sz136 : ai prog 136 = 0 := by kernel_rfl
theorem by136 : ay prog 136 = 0 := by kernel_rfl
theorem ze136 : aq prog 136 = [] := by kernel_rfl
theorem zn136 : ap prog 136 = [] := by kernel_rfl
theorem ha136 : ax prog 136 = true := by kernel_rfl
theorem sz137 : ai prog 137 = 1 := by kernel_rfl
theorem by137 : ay prog 137 = 4 := by kernel_rfl
theorem ze137 : aq prog 137 = [.sc (.int .u32 0)] := by kernel_rfl
theorem zn137 : ap prog 137 = [.sc (.int .u32 0)] := by kernel_rfl
theorem ha137 : ax prog 137 = true := by kernel_rfl
theorem sz138 : ai prog 138 = 1 := by kernel_rfl
theorem by138 : ay prog 138 = 1 := by kernel_rfl
theorem ze138 : aq prog 138 = [.sc (.int .u8 0)] := by kernel_rfl
theorem zn138 : ap prog 138 = [.sc (.int .u8 0)] := by kernel_rfl
theorem ha138 : ax prog 138 = true := by kernel_rfl
theorem sz139 : ai prog 139 = 1 := by kernel_rfl
theorem by139 : ay prog 139 = 1 := by kernel_rfl
theorem ze139 : aq prog 139 = [.sc (.int .u8 0)] := by kernel_rfl
theorem zn139 : ap prog 139 = [.sc (.int .u8 0)] := by kernel_rfl
theorem ha139 : ax prog 139 = true := by kernel_rfl
theorem sz140 : ai prog 140 = 1 := by kernel_rfl
theorem by140 : ay prog 140 = 8 := by kernel_rfl
theorem ze140 : aq prog 140 = [.sc .nilFunc] := by kernel_rfl
theorem zn140 : ap prog 140 = [.sc .nilFunc] := by kernel_rfl
theorem ha140 : ax prog 140 = true := by kernel_rfl
theorem sz141 : ai prog 141 = 1 := by kernel_rfl
theorem by141 : ay prog 141 = 8 := by kernel_rfl
theorem ze141 : aq prog 141 = [.sc (.pointer none)] := by kernel_rfl
theorem zn141 : ap prog 141 = [.sc (.pointer none)] := by kernel_rfl
theorem ha141 : ax prog 141 = true := by kernel_rfl
theorem sz142 : ai prog 142 = 1 := by kernel_rfl
theorem by142 : ay prog 142 = 4 := by kernel_rfl
theorem ze142 : aq prog 142 = [.sc (.int .i32 0)] := by kernel_rfl
theorem zn142 : ap prog 142 = [.sc (.int .i32 0)] := by kernel_rfl
theorem ha142 : ax prog 142 = true := by kernel_rfl
theorem sz143 : ai prog 143 = 1 := by kernel_rfl
theorem by143 : ay prog 143 = 4 := by kernel_rfl
theorem ze143 : aq prog 143 = [.sc (.int .i32 0)] := by kernel_rfl
theorem zn143 : ap prog 143 = [.sc (.int .i32 0)] := by kernel_rfl
theorem ha143 : ax prog 143 = true := by kernel_rfl
theorem sz144 : ai prog 144 = 11 := by kernel_rfl
theorem by144 : ay prog 144 = 48 := by kernel_rfl
theorem ze144 : aq prog 144 = [.sc (.int .u64 0),.sc (.int .u64 0),.sc (.int .u32 0),.sc (.int .u8 0),.sc (.int .u8 0),.sc (.int .u8 0),.sc (.int .u8 0),.sc .nilFunc,.sc (.pointer none),.sc (.int .i32 0),.sc (.int .i32 0)] := by kernel_rfl
theorem zn144 : ap prog 144 = [.sc (.int .u64 0),.sc (.int .u64 0),.sc (.int .u32 0),.sc (.int .u8 0),.sc (.int .u8 0),.sc (.int .u8 0),.sc (.int .u8 0),.sc .nilFunc,.sc (.pointer none),.sc (.int .i32 0),.sc (.int .i32 0)] := by kernel_rfl
theorem ha144 : ax prog 144 = true := by kernel_rfl
theorem sz145 : ai prog 145 = 11 := by kernel_rfl
theorem by145 : ay prog 145 = 48 := by kernel_rfl
theorem ze145 : aq prog 145 = [.sc (.int .u64 0),.sc (.int .u64 0),.sc (.int .u32 0),.sc (.int .u8 0),.sc (.int .u8 0),.sc (.int .u8 0),.sc (.int .u8 0),.sc .nilFunc,.sc (.pointer none),.sc (.int .i32 0),.sc (.int .i32 0)] := by kernel_rfl
theorem zn145 : ap prog 145 = [.sc (.int .u64 0),.sc (.int .u64 0),.sc (.int .u32 0),.sc (.int .u8 0),.sc (.int .u8 0),.sc (.int .u8 0),.sc (.int .u8 0),.sc .nilFunc,.sc (.pointer none),.sc (.int .i32 0),.sc (.int .i32 0)] := by kernel_rfl
theorem ha145 : ax prog 145 = true := by kernel_rfl
theorem sz146 : ai prog 146 = 1 := by kernel_rfl
theorem by146 : ay prog 146 = 0 := by kernel_rfl
theorem sz147 : ai prog 147 = 1 := by kernel_rfl
theorem by147 : ay prog 147 = 8 := by kernel_rfl
theorem ze147 : aq prog 147 = [.sc .nilFunc] := by kernel_rfl
theorem zn147 : ap prog 147 = [.sc .nilFunc] := by kernel_rfl
theorem ha147 : ax prog 147 = true := by kernel_rfl
theorem sz148 : ai prog 148 = 1 := by kernel_rfl
theorem by148 : ay prog 148 = 8 := by kernel_rfl
theorem ze148 : aq prog 148 = [.sc .nilFunc] := by kernel_rfl
theorem zn148 : ap prog 148 = [.sc .nilFunc] := by kernel_rfl
theorem ha148 : ax prog 148 = true := by kernel_rfl
theorem sz149 : ai prog 149 = 1 := by kernel_rfl
theorem by149 : ay prog 149 = 8 := by kernel_rfl
theorem ze149 : aq prog 149 = [.sc .nilFunc] := by kernel_rfl
theorem zn149 : ap prog 149 = [.sc .nilFunc] := by kernel_rfl
theorem ha149 : ax prog 149 = true := by kernel_rfl
theorem sz150 : ai prog 150 = 1 := by kernel_rfl
theorem by150 : ay prog 150 = 8 := by kernel_rfl
theorem ze150 : aq prog 150 = [.sc .nilFunc] := by kernel_rfl
theorem zn150 : ap prog 150 = [.sc .nilFunc] := by kernel_rfl
theorem ha150 : ax prog 150 = true := by kernel_rfl
theorem sz151 : ai prog 151 = 1 := by kernel_rfl
theorem by151 : ay prog 151 = 8 := by kernel_rfl
theorem ze151 : aq prog 151 = [.sc (.pointer none)] := by kernel_rfl
theorem zn151 : ap prog 151 = [.sc (.pointer none)] := by kernel_rfl
theorem ha151 : ax prog 151 = true := by kernel_rfl
theorem eq7 (a1 b1 : Int) (a2 b2 : Int) (a3 b3 : Bool) (a4 b4 : Int) : eqG prog 6 7 (.agg [.sc (.int .i64 a1),.sc (.int .i64 a2),.sc (.bool a3),.sc (.int .u8 a4)]) (.agg [.sc (.int .i64 b1),.sc (.int .i64 b2),.sc (.bool b3),.sc (.int .u8 b4)]) = some ((a1 == b1) && ((a2 == b2) && ((a3 == b3) && ((a4 == b4) && true)))) := by kernel_rfl
theorem ck7 (x0 x1 x2 x3 : AV) : cl prog 6 7 (.agg [x0,x1,x2,x3]) = true := by kernel_rfl
theorem eq8 (a1 b1 : Int) (a2 b2 : Int) (a3 b3 : Bool) (a4 b4 : Int) : eqG prog 6 8 (.agg [.sc (.int .i64 a1),.sc (.int .i64 a2),.sc (.bool a3),.sc (.int .u8 a4)]) (.agg [.sc (.int .i64 b1),.sc (.int .i64 b2),.sc (.bool b3),.sc (.int .u8 b4)]) = some ((a1 == b1) && ((a2 == b2) && ((a3 == b3) && ((a4 == b4) && true)))) := by kernel_rfl
theorem ck8 (x0 x1 x2 x3 : AV) : cl prog 6 8 (.agg [x0,x1,x2,x3]) = true := by kernel_rfl
theorem eq118 (a1 b1 : Int) (a2 b2 : Int) (a3 b3 : Int) (a4 b4 : Int) : eqG prog 6 118 (.agg [.sc (.int .i64 a1),.sc (.int .i64 a2),.sc (.int .i64 a3),.sc (.int .i64 a4)]) (.agg [.sc (.int .i64 b1),.sc (.int .i64 b2),.sc (.int .i64 b3),.sc (.int .i64 b4)]) = some ((a1 == b1) && ((a2 == b2) && ((a3 == b3) && ((a4 == b4) && true)))) := by kernel_rfl
theorem ck118 (x0 x1 x2 x3 : AV) : cl prog 6 118 (.agg [x0,x1,x2,x3]) = true := by kernel_rfl
theorem eq128 (a1 b1 : Int) (a2 b2 : Int) (a3 b3 : Int) (a4 b4 : Int) (a5 b5 : Int) (a6 b6 : Int) (a7 b7 : Int) : eqG prog 6 128 (.agg [.sc (.int .i64 a1),.sc (.int .i64 a2),.sc (.int .i64 a3),.sc (.int .i64 a4),.sc (.int .i64 a5),.sc (.int .i64 a6),.sc (.int .i64 a7)]) (.agg [.sc (.int .i64 b1),.sc (.int .i64 b2),.sc (.int .i64 b3),.sc (.int .i64 b4),.sc (.int .i64 b5),.sc (.int .i64 b6),.sc (.int .i64 b7)]) = some ((a1 == b1) && ((a2 == b2) && ((a3 == b3) && ((a4 == b4) && ((a5 == b5) && ((a6 == b6) && ((a7 == b7) && true))))))) := by kernel_rfl
theorem ck128 (x0 x1 x2 x3 x4 x5 x6 : AV) : cl prog 6 128 (.agg [x0,x1,x2,x3,x4,x5,x6]) = true := by kernel_rfl
theorem zv1 : ar prog 1 = .sc .nilFunc := by kernel_rfl
theorem zv2 : ar prog 2 = .sc (.int .i64 0) := by kernel_rfl
theorem zv3 : ar prog 3 = .sc (.int .i64 0) := by kernel_rfl
theorem zv4 : ar prog 4 = .sc (.bool false) := by kernel_rfl
theorem zv5 : ar prog 5 = .sc (.int .u8 0) := by kernel_rfl
theorem zv6 : ar prog 6 = .sc (.int .u8 0) := by kernel_rfl
theorem zv7 : ar prog 7 = .agg [.sc (.int .i64 0),.sc (.int .i64 0),.sc (.bool false),.sc (.int .u8 0)] := by kernel_rfl
theorem zv8 : ar prog 8 = .agg [.sc (.int .i64 0),.sc (.int .i64 0),.sc (.bool false),.sc (.int .u8 0)] := by kernel_rfl
theorem zv9 : ar prog 9 = .sc (.string ⟨#[]⟩) := by kernel_rfl
theorem zv10 : ar prog 10 = .sc (.string ⟨#[]⟩) := by kernel_rfl
theorem zv11 : ar prog 11 = .sc (.string ⟨#[]⟩) := by kernel_rfl
theorem zv12 : ar prog 12 = .sc (.int .u64 0) := by kernel_rfl
theorem zv13 : ar prog 13 = .agg [.sc (.string ⟨#[]⟩),.sc (.int .u64 0)] := by kernel_rfl
theorem zv14 : ar prog 14 = .agg [.sc (.string ⟨#[]⟩),.sc (.int .u64 0)] := by kernel_rfl
theorem zv15 : ar prog 15 = .sc (.pointer none) := by kernel_rfl
theorem zv16 : ar prog 16 = .sc (.pointer none) := by kernel_rfl
theorem zv17 : ar prog 17 = .sc (.pointer none) := by kernel_rfl
theorem zv18 : ar prog 18 = .agg [.sc (.pointer none)] := by kernel_rfl
theorem zv19 : ar prog 19 = .agg [.sc (.pointer none)] := by kernel_rfl
theorem zv20 : ar prog 20 = .sc .nilIface := by kernel_rfl
theorem zv21 : ar prog 21 = .sc (.int .i32 0) := by kernel_rfl
theorem zv22 : ar prog 22 = .sc (.slice none 0 0) := by kernel_rfl
theorem zv23 : ar prog 23 = .agg [.sc (.int .i64 0),.sc (.int .i64 0),.sc (.int .i64 0),.sc (.int .i64 0),.sc (.slice none 0 0),.sc (.slice none 0 0),.sc (.slice none 0 0)] := by kernel_rfl
theorem zv24 : ar prog 24 = .agg [.sc (.int .i64 0),.sc (.int .i64 0),.sc (.int .i64 0),.sc (.int .i64 0),.sc (.slice none 0 0),.sc (.slice none 0 0),.sc (.slice none 0 0)] := by kernel_rfl
theorem zv25 : ar prog 25 = .agg [.sc (.int .i64 0),.sc (.int .i64 0),.sc (.int .i64 0),.sc (.int .i64 0),.sc (.slice none 0 0),.sc (.slice none 0 0),.sc (.slice none 0 0),.sc (.slice none 0 0),.sc (.bool false),.sc (.int .u8 0),.sc (.int .i64 0)] := by kernel_rfl
theorem zv26 : ar prog 26 = .agg [.sc (.int .i64 0),.sc (.int .i64 0),.sc (.int .i64 0),.sc (.int .i64 0),.sc (.slice none 0 0),.sc (.slice none 0 0),.sc (.slice none 0 0),.sc (.slice none 0 0),.sc (.bool false),.sc (.int .u8 0),.sc (.int .i64 0)] := by kernel_rfl
theorem zv27 : ar prog 27 = .sc (.pointer none) := by kernel_rfl
theorem zv28 : ar prog 28 = .sc .nilFunc := by kernel_rfl
theorem zv29 : ar prog 29 = .sc .nilFunc := by kernel_rfl
theorem zv30 : ar prog 30 = .sc (.int .i64 0) := by kernel_rfl
theorem zv32 : ar prog 32 = .sc .nilFunc := by kernel_rfl
theorem zv33 : ar prog 33 = .sc .nilFunc := by kernel_rfl
theorem zv34 : ar prog 34 = .sc .nilFunc := by kernel_rfl
theorem zv35 : ar prog 35 = .sc .nilFunc := by kernel_rfl
theorem zv36 : ar prog 36 = .sc .nilFunc := by kernel_rfl
theorem zv37 : ar prog 37 = .agg [.sc (.int .i64 0),.sc (.int .i64 0),.sc (.int .i64 0),.sc (.slice none 0 0),.sc (.slice none 0 0)] := by kernel_rfl
theorem zv38 : ar prog 38 = .agg [.sc (.int .i64 0),.sc (.int .i64 0),.sc (.int .i64 0),.sc (.slice none 0 0),.sc (.slice none 0 0)] := by kernel_rfl
theorem zv40 : ar prog 40 = .sc .nilFunc := by kernel_rfl
theorem zv41 : ar prog 41 = .sc .nilFunc := by kernel_rfl
theorem zv42 : ar prog 42 = .sc .nilFunc := by kernel_rfl
theorem zv43 : ar prog 43 = .sc .nilFunc := by kernel_rfl
theorem zv45 : ar prog 45 = .sc .nilFunc := by kernel_rfl
theorem zv46 : ar prog 46 = .sc .nilFunc := by kernel_rfl
theorem zv47 : ar prog 47 = .sc .nilFunc := by kernel_rfl
theorem zv48 : ar prog 48 = .agg [.sc (.slice none 0 0),.sc (.slice none 0 0),.sc (.slice none 0 0),.sc (.int .i64 0)] := by kernel_rfl
theorem zv49 : ar prog 49 = .agg [.sc (.slice none 0 0),.sc (.slice none 0 0),.sc (.slice none 0 0),.sc (.int .i64 0)] := by kernel_rfl
theorem zv50 : ar prog 50 = .sc .nilFunc := by kernel_rfl
theorem zv51 : ar prog 51 = .sc .nilFunc := by kernel_rfl
theorem zv52 : ar prog 52 = .sc (.slice none 0 0) := by kernel_rfl
theorem zv53 : ar prog 53 = .agg [.sc (.slice none 0 0),.sc (.int .i64 0)] := by kernel_rfl
theorem zv54 : ar prog 54 = .agg [.sc (.slice none 0 0),.sc (.int .i64 0)] := by kernel_rfl
theorem zv56 : ar prog 56 = .sc .nilFunc := by kernel_rfl
theorem zv57 : ar prog 57 = .sc .nilFunc := by kernel_rfl
theorem zv59 : ar prog 59 = .sc .nilFunc := by kernel_rfl
theorem zv61 : ar prog 61 = .sc .nilFunc := by kernel_rfl
theorem zv63 : ar prog 63 = .sc .nilFunc := by kernel_rfl
theorem zv65 : ar prog 65 = .sc .nilFunc := by kernel_rfl
theorem zv66 : ar prog 66 = .sc .nilFunc := by kernel_rfl
theorem zv67 : ar prog 67 = .sc (.pointer none) := by kernel_rfl
theorem zv68 : ar prog 68 = .sc .nilFunc := by kernel_rfl
theorem zv69 : ar prog 69 = .sc .nilFunc := by kernel_rfl
theorem zv70 : ar prog 70 = .agg [.sc (.slice none 0 0),.sc (.int .i64 0)] := by kernel_rfl
theorem zv71 : ar prog 71 = .agg [.sc (.slice none 0 0),.sc (.int .i64 0)] := by kernel_rfl
theorem zv73 : ar prog 73 = .sc .nilFunc := by kernel_rfl
theorem zv74 : ar prog 74 = .sc .nilFunc := by kernel_rfl
theorem zv75 : ar prog 75 = .sc .nilFunc := by kernel_rfl
theorem zv76 : ar prog 76 = .sc .nilFunc := by kernel_rfl
theorem zv77 : ar prog 77 = .sc (.map none) := by kernel_rfl
theorem zv78 : ar prog 78 = .sc (.slice none 0 0) := by kernel_rfl
theorem zv79 : ar prog 79 = .agg [.sc (.slice none 0 0),.sc (.map none)] := by kernel_rfl
theorem zv80 : ar prog 80 = .agg [.sc (.slice none 0 0),.sc (.map none)] := by kernel_rfl
theorem zv81 : ar prog 81 = .agg [.sc (.slice none 0 0),.sc (.map none),.sc (.int .i64 0)] := by kernel_rfl
theorem zv82 : ar prog 82 = .agg [.sc (.slice none 0 0),.sc (.map none),.sc (.int .i64 0)] := by kernel_rfl
theorem zv83 : ar prog 83 = .sc .nilFunc := by kernel_rfl
theorem zv84 : ar prog 84 = .sc .nilFunc := by kernel_rfl
theorem zv85 : ar prog 85 = .sc .nilIface := by kernel_rfl
theorem zv86 : ar prog 86 = .sc .nilIface := by kernel_rfl
theorem zv87 : ar prog 87 = .sc .nilFunc := by kernel_rfl
theorem zv88 : ar prog 88 = .sc .nilFunc := by kernel_rfl
theorem zv89 : ar prog 89 = .sc .nilFunc := by kernel_rfl
theorem zv90 : ar prog 90 = .sc .nilFunc := by kernel_rfl
theorem zv91 : ar prog 91 = .sc (.int .u64 0) := by kernel_rfl
theorem zv92 : ar prog 92 = .sc .nilFunc := by kernel_rfl
theorem zv93 : ar prog 93 = .sc .nilFunc := by kernel_rfl
theorem zv94 : ar prog 94 = .sc .nilFunc := by kernel_rfl
theorem zv95 : ar prog 95 = .sc .nilFunc := by kernel_rfl
theorem zv96 : ar prog 96 = .sc (.slice none 0 0) := by kernel_rfl
theorem zv97 : ar prog 97 = .agg [.sc (.int .u8 0),.sc (.slice none 0 0)] := by kernel_rfl
theorem zv98 : ar prog 98 = .agg [.sc (.int .u8 0),.sc (.slice none 0 0)] := by kernel_rfl
theorem zv99 : ar prog 99 = .sc .nilFunc := by kernel_rfl
theorem zv100 : ar prog 100 = .sc .nilFunc := by kernel_rfl
theorem zv101 : ar prog 101 = .sc .nilFunc := by kernel_rfl
theorem zv102 : ar prog 102 = .agg [.sc .nilFunc,.sc .nilFunc] := by kernel_rfl
theorem zv103 : ar prog 103 = .agg [.sc (.slice none 0 0),.sc (.int .i64 0),.sc (.bool false),.sc (.int .i64 0)] := by kernel_rfl
theorem zv104 : ar prog 104 = .agg [.sc (.slice none 0 0),.sc (.int .i64 0),.sc (.bool false),.sc (.int .i64 0)] := by kernel_rfl
theorem zv105 : ar prog 105 = .agg [.sc (.slice none 0 0),.sc (.int .i64 0),.sc (.bool false),.sc (.int .i64 0)] := by kernel_rfl
theorem zv106 : ar prog 106 = .agg [.sc (.slice none 0 0),.sc (.int .i64 0),.sc (.bool false),.sc (.int .i64 0)] := by kernel_rfl
theorem zv107 : ar prog 107 = .sc .nilFunc := by kernel_rfl
theorem zv108 : ar prog 108 = .sc .nilFunc := by kernel_rfl
theorem zv110 : ar prog 110 = .sc .nilFunc := by kernel_rfl
theorem zv112 : ar prog 112 = .sc .nilFunc := by kernel_rfl
theorem zv113 : ar prog 113 = .agg [.sc (.int .u8 0),.sc (.slice none 0 0)] := by kernel_rfl
theorem zv114 : ar prog 114 = .sc .nilFunc := by kernel_rfl
theorem zv115 : ar prog 115 = .sc .nilFunc := by kernel_rfl
theorem zv116 : ar prog 116 = .sc (.int .u64 0) := by kernel_rfl
theorem zv117 : ar prog 117 = .sc .nilFunc := by kernel_rfl
theorem zv118 : ar prog 118 = .agg [.sc (.int .i64 0),.sc (.int .i64 0),.sc (.int .i64 0),.sc (.int .i64 0)] := by kernel_rfl
theorem zv119 : ar prog 119 = .sc .nilFunc := by kernel_rfl
theorem zv120 : ar prog 120 = .sc .nilFunc := by kernel_rfl
theorem zv121 : ar prog 121 = .sc .nilFunc := by kernel_rfl
theorem zv123 : ar prog 123 = .sc .nilFunc := by kernel_rfl
theorem zv125 : ar prog 125 = .sc .nilFunc := by kernel_rfl
theorem zv126 : ar prog 126 = .sc .nilFunc := by kernel_rfl
theorem zv127 : ar prog 127 = .sc .nilFunc := by kernel_rfl
theorem zv128 : ar prog 128 = .agg [.sc (.int .i64 0),.sc (.int .i64 0),.sc (.int .i64 0),.sc (.int .i64 0),.sc (.int .i64 0),.sc (.int .i64 0),.sc (.int .i64 0)] := by kernel_rfl
theorem zv129 : ar prog 129 = .sc (.pointer none) := by kernel_rfl
theorem zv130 : ar prog 130 = .sc (.pointer none) := by kernel_rfl
theorem zv131 : ar prog 131 = .sc .nilFunc := by kernel_rfl
theorem zv132 : ar prog 132 = .agg [.sc (.pointer none),.sc (.pointer none),.sc (.pointer none),.sc (.string ⟨#[]⟩)] := by kernel_rfl
theorem zv133 : ar prog 133 = .agg [.sc (.pointer none),.sc (.pointer none),.sc (.pointer none),.sc (.string ⟨#[]⟩)] := by kernel_rfl
theorem zv137 : ar prog 137 = .sc (.int .u32 0) := by kernel_rfl
theorem zv138 : ar prog 138 = .sc (.int .u8 0) := by kernel_rfl
theorem zv139 : ar prog 139 = .sc (.int .u8 0) := by kernel_rfl
theorem zv140 : ar prog 140 = .sc .nilFunc := by kernel_rfl
theorem zv141 : ar prog 141 = .sc (.pointer none) := by kernel_rfl
theorem zv142 : ar prog 142 = .sc (.int .i32 0) := by kernel_rfl
theorem zv143 : ar prog 143 = .sc (.int .i32 0) := by kernel_rfl
theorem zv144 : ar prog 144 = .agg [.sc (.int .u64 0),.sc (.int .u64 0),.sc (.int .u32 0),.sc (.int .u8 0),.sc (.int .u8 0),.sc (.int .u8 0),.sc (.int .u8 0),.sc .nilFunc,.sc (.pointer none),.sc (.int .i32 0),.sc (.int .i32 0)] := by kernel_rfl
theorem zv145 : ar prog 145 = .agg [.sc (.int .u64 0),.sc (.int .u64 0),.sc (.int .u32 0),.sc (.int .u8 0),.sc (.int .u8 0),.sc (.int .u8 0),.sc (.int .u8 0),.sc .nilFunc,.sc (.pointer none),.sc (.int .i32 0),.sc (.int .i32 0)] := by kernel_rfl
theorem zv147 : ar prog 147 = .sc .nilFunc := by kernel_rfl
theorem zv148 : ar prog 148 = .sc .nilFunc := by kernel_rfl
theorem zv149 : ar prog 149 = .sc .nilFunc := by kernel_rfl
theorem zv150 : ar prog 150 = .sc .nilFunc := by kernel_rfl
theorem zv151 : ar prog 151 = .sc (.pointer none) := by kernel_rfl
theorem eo1 : bB prog 1 = true := by kernel_rfl
theorem eo4 : bB prog 4 = true := by kernel_rfl
theorem eo7 : bB prog 7 = true := by kernel_rfl
theorem eo8 : bB prog 8 = true := by kernel_rfl
theorem eo13 : bB prog 13 = true := by kernel_rfl
theorem eo14 : bB prog 14 = true := by kernel_rfl
theorem eo15 : bB prog 15 = true := by kernel_rfl
theorem eo16 : bB prog 16 = true := by kernel_rfl
theorem eo17 : bB prog 17 = true := by kernel_rfl
theorem eo27 : bB prog 27 = true := by kernel_rfl
theorem eo28 : bB prog 28 = true := by kernel_rfl
theorem eo29 : bB prog 29 = true := by kernel_rfl
theorem eo32 : bB prog 32 = true := by kernel_rfl
theorem eo33 : bB prog 33 = true := by kernel_rfl
theorem eo34 : bB prog 34 = true := by kernel_rfl
theorem eo35 : bB prog 35 = true := by kernel_rfl
theorem eo36 : bB prog 36 = true := by kernel_rfl
theorem eo40 : bB prog 40 = true := by kernel_rfl
theorem eo41 : bB prog 41 = true := by kernel_rfl
theorem eo42 : bB prog 42 = true := by kernel_rfl
theorem eo43 : bB prog 43 = true := by kernel_rfl
theorem eo45 : bB prog 45 = true := by kernel_rfl
theorem eo46 : bB prog 46 = true := by kernel_rfl
theorem eo47 : bB prog 47 = true := by kernel_rfl
theorem eo50 : bB prog 50 = true := by kernel_rfl
theorem eo51 : bB prog 51 = true := by kernel_rfl
theorem eo56 : bB prog 56 = true := by kernel_rfl
theorem eo57 : bB prog 57 = true := by kernel_rfl
theorem eo59 : bB prog 59 = true := by kernel_rfl
theorem eo61 : bB prog 61 = true := by kernel_rfl
theorem eo63 : bB prog 63 = true := by kernel_rfl
theorem eo65 : bB prog 65 = true := by kernel_rfl
theorem eo66 : bB prog 66 = true := by kernel_rfl
theorem eo67 : bB prog 67 = true := by kernel_rfl
theorem eo68 : bB prog 68 = true := by kernel_rfl
theorem eo69 : bB prog 69 = true := by kernel_rfl
theorem eo73 : bB prog 73 = true := by kernel_rfl
theorem eo74 : bB prog 74 = true := by kernel_rfl
theorem eo75 : bB prog 75 = true := by kernel_rfl
theorem eo76 : bB prog 76 = true := by kernel_rfl
theorem eo77 : bB prog 77 = true := by kernel_rfl
theorem eo83 : bB prog 83 = true := by kernel_rfl
theorem eo84 : bB prog 84 = true := by kernel_rfl
theorem eo87 : bB prog 87 = true := by kernel_rfl
theorem eo88 : bB prog 88 = true := by kernel_rfl
theorem eo89 : bB prog 89 = true := by kernel_rfl
theorem eo90 : bB prog 90 = true := by kernel_rfl
theorem eo92 : bB prog 92 = true := by kernel_rfl
theorem eo93 : bB prog 93 = true := by kernel_rfl
theorem eo94 : bB prog 94 = true := by kernel_rfl
theorem eo95 : bB prog 95 = true := by kernel_rfl
theorem eo99 : bB prog 99 = true := by kernel_rfl
theorem eo100 : bB prog 100 = true := by kernel_rfl
theorem eo101 : bB prog 101 = true := by kernel_rfl
theorem eo107 : bB prog 107 = true := by kernel_rfl
theorem eo108 : bB prog 108 = true := by kernel_rfl
theorem eo110 : bB prog 110 = true := by kernel_rfl
theorem eo112 : bB prog 112 = true := by kernel_rfl
theorem eo114 : bB prog 114 = true := by kernel_rfl
theorem eo115 : bB prog 115 = true := by kernel_rfl
theorem eo117 : bB prog 117 = true := by kernel_rfl
theorem eo118 : bB prog 118 = true := by kernel_rfl
theorem eo119 : bB prog 119 = true := by kernel_rfl
theorem eo120 : bB prog 120 = true := by kernel_rfl
theorem eo121 : bB prog 121 = true := by kernel_rfl
theorem eo123 : bB prog 123 = true := by kernel_rfl
theorem eo125 : bB prog 125 = true := by kernel_rfl
theorem eo126 : bB prog 126 = true := by kernel_rfl
theorem eo127 : bB prog 127 = true := by kernel_rfl
theorem eo128 : bB prog 128 = true := by kernel_rfl
theorem eo129 : bB prog 129 = true := by kernel_rfl
theorem eo130 : bB prog 130 = true := by kernel_rfl
theorem eo131 : bB prog 131 = true := by kernel_rfl
theorem eo140 : bB prog 140 = true := by kernel_rfl
theorem eo141 : bB prog 141 = true := by kernel_rfl
theorem eo147 : bB prog 147 = true := by kernel_rfl
theorem eo148 : bB prog 148 = true := by kernel_rfl
theorem eo149 : bB prog 149 = true := by kernel_rfl
theorem eo150 : bB prog 150 = true := by kernel_rfl
theorem strTy : strTy prog = some 9 := by kernel_rfl
theorem z8_5 : bk prog 5 = .int .u8 0 := by kernel_rfl
theorem z8_6 : bk prog 6 = .int .u8 0 := by kernel_rfl
theorem z8_138 : bk prog 138 = .int .u8 0 := by kernel_rfl
theorem z8_139 : bk prog 139 = .int .u8 0 := by kernel_rfl
theorem ca3 : ak prog 3 = true := by kernel_rfl
theorem ca4 : ak prog 4 = true := by kernel_rfl
theorem ca5 : ak prog 5 = true := by kernel_rfl
theorem ca6 : ak prog 6 = true := by kernel_rfl
theorem ca7 : ak prog 7 = true := by kernel_rfl
theorem ca8 : ak prog 8 = true := by kernel_rfl
theorem ca9 : ak prog 9 = true := by kernel_rfl
theorem ca10 : ak prog 10 = true := by kernel_rfl
theorem ca11 : ak prog 11 = true := by kernel_rfl
theorem ca12 : ak prog 12 = true := by kernel_rfl
theorem ca13 : ak prog 13 = true := by kernel_rfl
theorem ca14 : ak prog 14 = true := by kernel_rfl
theorem ca15 : ak prog 15 = true := by kernel_rfl
theorem ca16 : ak prog 16 = true := by kernel_rfl
theorem ca17 : ak prog 17 = true := by kernel_rfl
theorem ca18 : ak prog 18 = true := by kernel_rfl
theorem ca19 : ak prog 19 = true := by kernel_rfl
theorem ca20 : ak prog 20 = true := by kernel_rfl
theorem ca21 : ak prog 21 = true := by kernel_rfl
theorem ca22 : ak prog 22 = true := by kernel_rfl
theorem ca23 : ak prog 23 = true := by kernel_rfl
theorem ca24 : ak prog 24 = true := by kernel_rfl
theorem ca25 : ak prog 25 = true := by kernel_rfl
theorem ca26 : ak prog 26 = true := by kernel_rfl
theorem ca27 : ak prog 27 = true := by kernel_rfl
theorem ca28 : ak prog 28 = true := by kernel_rfl
theorem ca29 : ak prog 29 = true := by kernel_rfl
theorem ca30 : ak prog 30 = true := by kernel_rfl
theorem ca31 : ak prog 31 = true := by kernel_rfl
theorem ca32 : ak prog 32 = true := by kernel_rfl
theorem ca33 : ak prog 33 = true := by kernel_rfl
theorem ca34 : ak prog 34 = true := by kernel_rfl
theorem ca35 : ak prog 35 = true := by kernel_rfl
theorem ca36 : ak prog 36 = true := by kernel_rfl
theorem ca37 : ak prog 37 = true := by kernel_rfl
theorem ca38 : ak prog 38 = true := by kernel_rfl
theorem ca39 : ak prog 39 = true := by kernel_rfl
theorem ca40 : ak prog 40 = true := by kernel_rfl
theorem ca41 : ak prog 41 = true := by kernel_rfl
theorem ca42 : ak prog 42 = true := by kernel_rfl
theorem ca43 : ak prog 43 = true := by kernel_rfl
theorem ca44 : ak prog 44 = true := by kernel_rfl
theorem ca45 : ak prog 45 = true := by kernel_rfl
theorem ca46 : ak prog 46 = true := by kernel_rfl
theorem ca47 : ak prog 47 = true := by kernel_rfl
theorem ca48 : ak prog 48 = true := by kernel_rfl
theorem ca49 : ak prog 49 = true := by kernel_rfl
theorem ca50 : ak prog 50 = true := by kernel_rfl
theorem ca51 : ak prog 51 = true := by kernel_rfl
theorem ca52 : ak prog 52 = true := by kernel_rfl
theorem ca53 : ak prog 53 = true := by kernel_rfl
theorem ca54 : ak prog 54 = true := by kernel_rfl
theorem ca55 : ak prog 55 = true := by kernel_rfl
theorem ca56 : ak prog 56 = true := by kernel_rfl
theorem ca57 : ak prog 57 = true := by kernel_rfl
theorem ca58 : ak prog 58 = true := by kernel_rfl
theorem ca59 : ak prog 59 = true := by kernel_rfl
theorem ca60 : ak prog 60 = true := by kernel_rfl
theorem ca61 : ak prog 61 = true := by kernel_rfl
theorem ca62 : ak prog 62 = true := by kernel_rfl
theorem ca63 : ak prog 63 = true := by kernel_rfl
theorem ca64 : ak prog 64 = true := by kernel_rfl
theorem ca65 : ak prog 65 = true := by kernel_rfl
theorem ca66 : ak prog 66 = true := by kernel_rfl
theorem ca67 : ak prog 67 = true := by kernel_rfl
theorem ca68 : ak prog 68 = true := by kernel_rfl
theorem ca69 : ak prog 69 = true := by kernel_rfl
theorem ca70 : ak prog 70 = true := by kernel_rfl
theorem ca71 : ak prog 71 = true := by kernel_rfl
theorem ca72 : ak prog 72 = true := by kernel_rfl
theorem ca73 : ak prog 73 = true := by kernel_rfl
theorem ca74 : ak prog 74 = true := by kernel_rfl
theorem ca75 : ak prog 75 = true := by kernel_rfl
theorem ca76 : ak prog 76 = true := by kernel_rfl
theorem ca77 : ak prog 77 = true := by kernel_rfl
theorem ca78 : ak prog 78 = true := by kernel_rfl
theorem ca79 : ak prog 79 = true := by kernel_rfl
theorem ca80 : ak prog 80 = true := by kernel_rfl
theorem ca81 : ak prog 81 = true := by kernel_rfl
theorem ca82 : ak prog 82 = true := by kernel_rfl
theorem ca83 : ak prog 83 = true := by kernel_rfl
theorem ca84 : ak prog 84 = true := by kernel_rfl
theorem ca85 : ak prog 85 = true := by kernel_rfl
theorem ca86 : ak prog 86 = true := by kernel_rfl
theorem ca87 : ak prog 87 = true := by kernel_rfl
theorem ca88 : ak prog 88 = true := by kernel_rfl
theorem ca89 : ak prog 89 = true := by kernel_rfl
theorem ca90 : ak prog 90 = true := by kernel_rfl
theorem ca91 : ak prog 91 = true := by kernel_rfl
theorem ca92 : ak prog 92 = true := by kernel_rfl
theorem ca108 : ak prog 108 = true := by kernel_rfl
theorem ca109 : ak prog 109 = true := by kernel_rfl
theorem ca110 : ak prog 110 = true := by kernel_rfl
theorem ca111 : ak prog 111 = true := by kernel_rfl
theorem ca112 : ak prog 112 = true := by kernel_rfl
theorem ca113 : ak prog 113 = true := by kernel_rfl
theorem ca114 : ak prog 114 = true := by kernel_rfl
theorem ca115 : ak prog 115 = true := by kernel_rfl
theorem ca116 : ak prog 116 = true := by kernel_rfl
theorem ca117 : ak prog 117 = true := by kernel_rfl
theorem ca119 : ak prog 119 = true := by kernel_rfl
theorem ca120 : ak prog 120 = true := by kernel_rfl
theorem co27 : prog.concrete 27 = true := by kernel_rfl
theorem me27_Derive : methA prog 27 "Derive" = some 108 := by kernel_rfl
theorem me27_Draw : methA prog 27 "Draw" = some 10 := by kernel_rfl
theorem me27_Hash : methA prog 27 "Hash" = some 51 := by kernel_rfl
theorem me27_Open : methA prog 27 "Open" = some 109 := by kernel_rfl
theorem me27_Public : methA prog 27 "Public" = some 110 := by kernel_rfl
theorem me27_Seal : methA prog 27 "Seal" = some 111 := by kernel_rfl
theorem me27_Shared : methA prog 27 "Shared" = some 112 := by kernel_rfl
theorem me27_Sign : methA prog 27 "Sign" = some 113 := by kernel_rfl
theorem me27_Signer : methA prog 27 "Signer" = some 17 := by kernel_rfl
theorem me27_Verify : methA prog 27 "Verify" = some 114 := by kernel_rfl
set_option maxRecDepth 100000 in
def facts := And.intro underlying1 <|
 And.intro eo1 <|
 And.intro underlying2 <|
 And.intro sz2 <|
 And.intro by2 <|
 And.intro ha2 <|
 And.intro ze2 <|
 And.intro zn2 <|
 And.intro zv2 <|
 And.intro underlying3 <|
 And.intro sz3 <|
 And.intro by3 <|
 And.intro ha3 <|
 And.intro ze3 <|
 And.intro zn3 <|
 And.intro zv3 <|
 And.intro underlying4 <|
 And.intro sz4 <|
 And.intro by4 <|
 And.intro ha4 <|
 And.intro eo4 <|
 And.intro ze4 <|
 And.intro zn4 <|
 And.intro zv4 <|
 And.intro underlying5 <|
 And.intro z8_5 <|
 And.intro sz5 <|
 And.intro by5 <|
 And.intro ha5 <|
 And.intro ze5 <|
 And.intro zn5 <|
 And.intro zv5 <|
 And.intro underlying9 <|
 And.intro sz9 <|
 And.intro by9 <|
 And.intro ha9 <|
 And.intro ze9 <|
 And.intro zn9 <|
 And.intro zv9 <|
 And.intro underlying12 <|
 And.intro sz12 <|
 And.intro by12 <|
 And.intro ha12 <|
 And.intro ze12 <|
 And.intro zn12 <|
 And.intro zv12 <|
 And.intro underlying21 <|
 And.intro sz21 <|
 And.intro by21 <|
 And.intro ha21 <|
 And.intro ze21 <|
 And.intro zn21 <|
 And.intro zv21 <|
 And.intro underlying22 <|
 And.intro sz22 <|
 And.intro by22 <|
 And.intro ha22 <|
 And.intro ze22 <|
 And.intro zn22 <|
 And.intro zv22 <|
 And.intro underlying23 <|
 And.intro sz23 <|
 And.intro by23 <|
 And.intro ha23 <|
 And.intro ze23 <|
 And.intro zn23 <|
 And.intro zv23 <|
 And.intro underlying24 <|
 And.intro sz24 <|
 And.intro by24 <|
 And.intro ha24 <|
 And.intro ze24 <|
 And.intro zn24 <|
 And.intro zv24 <|
 And.intro underlying25 <|
 And.intro sz25 <|
 And.intro by25 <|
 And.intro ha25 <|
 And.intro ze25 <|
 And.intro zn25 <|
 And.intro zv25 <|
 And.intro underlying26 <|
 And.intro sz26 <|
 And.intro by26 <|
 And.intro ha26 <|
 And.intro ze26 <|
 And.intro zn26 <|
 And.intro zv26 <|
 And.intro underlying27 <|
 And.intro sz27 <|
 And.intro by27 <|
 And.intro ha27 <|
 And.intro eo27 <|
 And.intro ze27 <|
 And.intro zn27 <|
 And.intro zv27 <|
 And.intro underlying28 <|
 And.intro eo28 <|
 And.intro underlying29 <|
 And.intro eo29 <|
 And.intro underlying30 <|
 And.intro sz30 <|
 And.intro by30 <|
 And.intro ha30 <|
 And.intro ze30 <|
 And.intro zn30 <|
 And.intro zv30 <|
 And.intro underlying32 <|
 And.intro eo32 <|
 And.intro underlying33 <|
 And.intro eo33 <|
 And.intro underlying34 <|
 And.intro eo34 <|
 And.intro underlying35 <|
 And.intro eo35 <|
 And.intro underlying36 <|
 And.intro eo36 <|
 And.intro underlying37 <|
 And.intro sz37 <|
 And.intro by37 <|
 And.intro ha37 <|
 And.intro ze37 <|
 And.intro zn37 <|
 And.intro zv37 <|
 And.intro underlying38 <|
 And.intro sz38 <|
 And.intro by38 <|
 And.intro ha38 <|
 And.intro ze38 <|
 And.intro zn38 <|
 And.intro zv38 <|
 And.intro underlying40 <|
 And.intro eo40 <|
 And.intro underlying41 <|
 And.intro eo41 <|
 And.intro underlying42 <|
 And.intro eo42 <|
 And.intro underlying43 <|
 And.intro eo43 <|
 And.intro underlying45 <|
 And.intro eo45 <|
 And.intro underlying46 <|
 And.intro eo46 <|
 And.intro underlying47 <|
 And.intro eo47 <|
 And.intro underlying48 <|
 And.intro sz48 <|
 And.intro by48 <|
 And.intro ha48 <|
 And.intro ze48 <|
 And.intro zn48 <|
 And.intro zv48 <|
 And.intro underlying49 <|
 And.intro sz49 <|
 And.intro by49 <|
 And.intro ha49 <|
 And.intro ze49 <|
 And.intro zn49 <|
 And.intro zv49 <|
 And.intro underlying50 <|
 And.intro eo50 <|
 And.intro underlying51 <|
 And.intro eo51 <|
 And.intro underlying52 <|
 And.intro sz52 <|
 And.intro by52 <|
 And.intro ha52 <|
 And.intro ze52 <|
 And.intro zn52 <|
 And.intro zv52 <|
 And.intro underlying53 <|
 And.intro sz53 <|
 And.intro by53 <|
 And.intro ha53 <|
 And.intro ze53 <|
 And.intro zn53 <|
 And.intro zv53 <|
 And.intro underlying54 <|
 And.intro sz54 <|
 And.intro by54 <|
 And.intro ha54 <|
 And.intro ze54 <|
 And.intro zn54 <|
 And.intro zv54 <|
 And.intro underlying56 <|
 And.intro eo56 <|
 And.intro underlying57 <|
 And.intro eo57 <|
 And.intro underlying59 <|
 And.intro eo59 <|
 And.intro underlying61 <|
 And.intro eo61 <|
 And.intro underlying63 <|
 And.intro eo63 <|
 And.intro underlying65 <|
 And.intro eo65 <|
 And.intro underlying66 <|
 And.intro eo66 <|
 And.intro underlying67 <|
 And.intro sz67 <|
 And.intro by67 <|
 And.intro ha67 <|
 And.intro eo67 <|
 And.intro ze67 <|
 And.intro zn67 <|
 And.intro zv67 <|
 And.intro underlying68 <|
 And.intro eo68 <|
 And.intro underlying69 <|
 And.intro eo69 <|
 And.intro underlying70 <|
 And.intro sz70 <|
 And.intro by70 <|
 And.intro ha70 <|
 And.intro ze70 <|
 And.intro zn70 <|
 And.intro zv70 <|
 And.intro underlying71 <|
 And.intro sz71 <|
 And.intro by71 <|
 And.intro ha71 <|
 And.intro ze71 <|
 And.intro zn71 <|
 And.intro zv71 <|
 And.intro underlying73 <|
 And.intro eo73 <|
 And.intro underlying74 <|
 And.intro eo74 <|
 And.intro underlying75 <|
 And.intro eo75 <|
 And.intro underlying76 <|
 And.intro eo76 <|
 And.intro underlying77 <|
 And.intro sz77 <|
 And.intro by77 <|
 And.intro ha77 <|
 And.intro eo77 <|
 And.intro ze77 <|
 And.intro zn77 <|
 And.intro zv77 <|
 And.intro underlying78 <|
 And.intro sz78 <|
 And.intro by78 <|
 And.intro ha78 <|
 And.intro ze78 <|
 And.intro zn78 <|
 And.intro zv78 <|
 And.intro underlying79 <|
 And.intro sz79 <|
 And.intro by79 <|
 And.intro ha79 <|
 And.intro ze79 <|
 And.intro zn79 <|
 And.intro zv79 <|
 And.intro underlying80 <|
 And.intro sz80 <|
 And.intro by80 <|
 And.intro ha80 <|
 And.intro ze80 <|
 And.intro zn80 <|
 And.intro zv80 <|
 And.intro underlying81 <|
 And.intro sz81 <|
 And.intro by81 <|
 And.intro ha81 <|
 And.intro ze81 <|
 And.intro zn81 <|
 And.intro zv81 <|
 And.intro underlying82 <|
 And.intro sz82 <|
 And.intro by82 <|
 And.intro ha82 <|
 And.intro ze82 <|
 And.intro zn82 <|
 And.intro zv82 <|
 And.intro underlying83 <|
 And.intro eo83 <|
 And.intro underlying84 <|
 And.intro eo84 <|
 And.intro underlying86 <|
 And.intro sz86 <|
 And.intro by86 <|
 And.intro ha86 <|
 And.intro ze86 <|
 And.intro zn86 <|
 And.intro zv86 <|
 And.intro underlying87 <|
 And.intro eo87 <|
 And.intro underlying88 <|
 And.intro eo88 <|
 And.intro underlying89 <|
 And.intro eo89 <|
 And.intro underlying90 <|
 And.intro eo90 <|
 And.intro underlying91 <|
 And.intro sz91 <|
 And.intro by91 <|
 And.intro ha91 <|
 And.intro ze91 <|
 And.intro zn91 <|
 And.intro zv91 <|
 And.intro underlying92 <|
 And.intro eo92 <|
 And.intro underlying93 <|
 And.intro eo93 <|
 And.intro underlying94 <|
 And.intro eo94 <|
 And.intro underlying95 <|
 And.intro eo95 <|
 And.intro underlying96 <|
 And.intro sz96 <|
 And.intro by96 <|
 And.intro ha96 <|
 And.intro ze96 <|
 And.intro zn96 <|
 And.intro zv96 <|
 And.intro underlying97 <|
 And.intro sz97 <|
 And.intro by97 <|
 And.intro ha97 <|
 And.intro ze97 <|
 And.intro zn97 <|
 And.intro zv97 <|
 And.intro underlying98 <|
 And.intro sz98 <|
 And.intro by98 <|
 And.intro ha98 <|
 And.intro ze98 <|
 And.intro zn98 <|
 And.intro zv98 <|
 And.intro underlying99 <|
 And.intro eo99 <|
 And.intro underlying100 <|
 And.intro eo100 <|
 And.intro underlying101 <|
 And.intro eo101 <|
 And.intro underlying102 <|
 And.intro sz102 <|
 And.intro by102 <|
 And.intro ha102 <|
 And.intro ze102 <|
 And.intro zn102 <|
 And.intro zv102 <|
 And.intro underlying103 <|
 And.intro sz103 <|
 And.intro by103 <|
 And.intro ha103 <|
 And.intro ze103 <|
 And.intro zn103 <|
 And.intro zv103 <|
 And.intro underlying104 <|
 And.intro sz104 <|
 And.intro by104 <|
 And.intro ha104 <|
 And.intro ze104 <|
 And.intro zn104 <|
 And.intro zv104 <|
 And.intro underlying105 <|
 And.intro sz105 <|
 And.intro by105 <|
 And.intro ha105 <|
 And.intro ze105 <|
 And.intro zn105 <|
 And.intro zv105 <|
 And.intro underlying106 <|
 And.intro sz106 <|
 And.intro by106 <|
 And.intro ha106 <|
 And.intro ze106 <|
 And.intro zn106 <|
 And.intro zv106 <|
 And.intro underlying107 <|
 And.intro eo107 <|
 And.intro underlying108 <|
 And.intro eo108 <|
 And.intro underlying110 <|
 And.intro eo110 <|
 And.intro underlying112 <|
 And.intro eo112 <|
 And.intro underlying113 <|
 And.intro sz113 <|
 And.intro by113 <|
 And.intro ha113 <|
 And.intro ze113 <|
 And.intro zn113 <|
 And.intro zv113 <|
 And.intro underlying114 <|
 And.intro eo114 <|
 And.intro underlying115 <|
 And.intro eo115 <|
 And.intro underlying116 <|
 And.intro sz116 <|
 And.intro by116 <|
 And.intro ha116 <|
 And.intro ze116 <|
 And.intro zn116 <|
 And.intro zv116 <|
 And.intro underlying117 <|
 And.intro eo117 <|
 And.intro underlying118 <|
 And.intro sz118 <|
 And.intro by118 <|
 And.intro ha118 <|
 And.intro eo118 <|
 And.intro ze118 <|
 And.intro zn118 <|
 And.intro zv118 <|
 And.intro eq118 <|
 And.intro ck118 <|
 And.intro underlying119 <|
 And.intro eo119 <|
 And.intro underlying120 <|
 And.intro eo120 <|
 And.intro underlying121 <|
 And.intro eo121 <|
 And.intro underlying123 <|
 And.intro eo123 <|
 And.intro underlying125 <|
 And.intro eo125 <|
 And.intro underlying126 <|
 And.intro eo126 <|
 And.intro underlying127 <|
 And.intro eo127 <|
 And.intro underlying128 <|
 And.intro sz128 <|
 And.intro by128 <|
 And.intro ha128 <|
 And.intro eo128 <|
 And.intro ze128 <|
 And.intro zn128 <|
 And.intro zv128 <|
 And.intro eq128 <|
 And.intro ck128 <|
 And.intro underlying129 <|
 And.intro sz129 <|
 And.intro by129 <|
 And.intro ha129 <|
 And.intro eo129 <|
 And.intro ze129 <|
 And.intro zn129 <|
 And.intro zv129 <|
 And.intro underlying130 <|
 And.intro sz130 <|
 And.intro by130 <|
 And.intro ha130 <|
 And.intro eo130 <|
 And.intro ze130 <|
 And.intro zn130 <|
 And.intro zv130 <|
 And.intro underlying131 <|
 And.intro eo131 <|
 And.intro underlying137 <|
 And.intro sz137 <|
 And.intro by137 <|
 And.intro ha137 <|
 And.intro ze137 <|
 And.intro zn137 <|
 And.intro zv137 <|
 And.intro underlying141 <|
 And.intro sz141 <|
 And.intro by141 <|
 And.intro ha141 <|
 And.intro eo141 <|
 And.intro ze141 <|
 And.intro zn141 <|
 And.intro zv141 <|
 And.intro underlying147 <|
 And.intro eo147 <|
 And.intro underlying148 <|
 And.intro eo148 <|
 And.intro underlying149 <|
 And.intro eo149 <|
 And.intro underlying150 <|
 And.intro eo150 <|
 And.intro strTy <|
 And.intro ca3 <|
 And.intro ca4 <|
 And.intro ca5 <|
 And.intro ca6 <|
 And.intro ca7 <|
 And.intro ca8 <|
 And.intro ca9 <|
 And.intro ca10 <|
 And.intro ca11 <|
 And.intro ca12 <|
 And.intro ca13 <|
 And.intro ca14 <|
 And.intro ca15 <|
 And.intro ca16 <|
 And.intro ca17 <|
 And.intro ca18 <|
 And.intro ca19 <|
 And.intro ca20 <|
 And.intro ca21 <|
 And.intro ca22 <|
 And.intro ca23 <|
 And.intro ca24 <|
 And.intro ca25 <|
 And.intro ca26 <|
 And.intro ca27 <|
 And.intro ca28 <|
 And.intro ca29 <|
 And.intro ca30 <|
 And.intro ca31 <|
 And.intro ca32 <|
 And.intro ca33 <|
 And.intro ca34 <|
 And.intro ca35 <|
 And.intro ca36 <|
 And.intro ca37 <|
 And.intro ca38 <|
 And.intro ca39 <|
 And.intro ca40 <|
 And.intro ca41 <|
 And.intro ca42 <|
 And.intro ca43 <|
 And.intro ca44 <|
 And.intro ca45 <|
 And.intro ca46 <|
 And.intro ca47 <|
 And.intro ca48 <|
 And.intro ca49 <|
 And.intro ca50 <|
 And.intro ca51 <|
 And.intro ca52 <|
 And.intro ca53 <|
 And.intro ca54 <|
 And.intro ca55 <|
 And.intro ca56 <|
 And.intro ca57 <|
 And.intro ca58 <|
 And.intro ca59 <|
 And.intro ca60 <|
 And.intro ca61 <|
 And.intro ca62 <|
 And.intro ca63 <|
 And.intro ca64 <|
 And.intro ca65 <|
 And.intro ca66 <|
 And.intro ca67 <|
 And.intro ca68 <|
 And.intro ca69 <|
 And.intro ca70 <|
 And.intro ca71 <|
 And.intro ca72 <|
 And.intro ca73 <|
 And.intro ca74 <|
 And.intro ca75 <|
 And.intro ca76 <|
 And.intro ca77 <|
 And.intro ca78 <|
 And.intro ca79 <|
 And.intro ca80 <|
 And.intro ca81 <|
 And.intro ca82 <|
 And.intro ca83 <|
 And.intro ca84 <|
 And.intro ca85 <|
 And.intro ca86 <|
 And.intro ca87 <|
 And.intro ca88 <|
 And.intro ca89 <|
 And.intro ca90 <|
 And.intro ca91 <|
 And.intro ca92 <|
 And.intro ca108 <|
 And.intro ca109 <|
 And.intro ca110 <|
 And.intro ca111 <|
 And.intro ca112 <|
 And.intro ca113 <|
 And.intro ca114 <|
 And.intro ca115 <|
 And.intro ca116 <|
 And.intro ca117 <|
 And.intro ca119 <|
 And.intro ca120 <|
 And.intro co27 <|
 And.intro me27_Derive <|
 And.intro me27_Draw <|
 And.intro me27_Hash <|
 And.intro me27_Open <|
 And.intro me27_Public <|
 And.intro me27_Seal <|
 And.intro me27_Shared <|
 And.intro me27_Sign <|
 And.intro me27_Signer <| me27_Verify
end Go.Proofs.Try
