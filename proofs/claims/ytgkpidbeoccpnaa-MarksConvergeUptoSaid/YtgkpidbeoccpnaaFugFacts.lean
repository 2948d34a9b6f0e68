/-
  Facts of the seat's program: sizes of types, functions that have bodies. By program.
  Conditions: none.
-/
import Derived.Test.YtgkpidbeoccpnaaProg
import Derived.Test.YtgkpidbeoccpnaaAbsG5
set_option linter.all false
set_option linter.unusedSimpArgs false
namespace Go.Proofs.Try
open Go Go.Abs
theorem mixed : prog.follows .mixedOrders = true := by kernel_rfl
theorem sz0 : szOf prog 0 = 1 := by kernel_rfl
theorem by0 : byOf prog 0 = 0 := by kernel_rfl
theorem sz1 : szOf prog 1 = 1 := by kernel_rfl
theorem by1 : byOf prog 1 = 8 := by kernel_rfl
theorem ze1 : zeroA prog 1 = [.sc .nilFunc] := by kernel_rfl
theorem zn1 : zeroN prog 1 = [.sc .nilFunc] := by kernel_rfl
theorem ha1 : hasT prog 1 = true := by kernel_rfl
theorem sz2 : szOf prog 2 = 1 := by kernel_rfl
theorem by2 : byOf prog 2 = 8 := by kernel_rfl
theorem ze2 : zeroA prog 2 = [.sc (.int .i64 0)] := by kernel_rfl
theorem zn2 : zeroN prog 2 = [.sc (.int .i64 0)] := by kernel_rfl
theorem ha2 : hasT prog 2 = true := by kernel_rfl
theorem sz3 : szOf prog 3 = 1 := by kernel_rfl
theorem by3 : byOf prog 3 = 8 := by kernel_rfl
theorem ze3 : zeroA prog 3 = [.sc (.int .i64 0)] := by kernel_rfl
theorem zn3 : zeroN prog 3 = [.sc (.int .i64 0)] := by kernel_rfl
theorem ha3 : hasT prog 3 = true := by kernel_rfl
theorem sz4 : szOf prog 4 = 1 := by kernel_rfl
theorem by4 : byOf prog 4 = 1 := by kernel_rfl
theorem ze4 : zeroA prog 4 = [.sc (.bool false)] := by kernel_rfl
theorem zn4 : zeroN prog 4 = [.sc (.bool false)] := by kernel_rfl
theorem ha4 : hasT prog 4 = true := by kernel_rfl
theorem sz5 : szOf prog 5 = 1 := by kernel_rfl
theorem by5 : byOf prog 5 = 1 := by kernel_rfl
theorem ze5 : zeroA prog 5 = [.sc (.int .u8 0)] := by kernel_rfl
theorem zn5 : zeroN prog 5 = [.sc (.int .u8 0)] := by kernel_rfl
theorem ha5 : hasT prog 5 = true := by kernel_rfl
theorem sz6 : szOf prog 6 = 1 := by kernel_rfl
theorem by6 : byOf prog 6 = 1 := by kernel_rfl
theorem ze6 : zeroA prog 6 = [.sc (.int .u8 0)] := by kernel_rfl
theorem zn6 : zeroN prog 6 = [.sc (.int .u8 0)] := by kernel_rfl
theorem ha6 : hasT prog 6 = true := by kernel_rfl
theorem sz7 : szOf prog 7 = 4 := by kernel_rfl
theorem by7 : byOf prog 7 = 24 := by kernel_rfl
theorem ze7 : zeroA prog 7 = [.sc (.int .i64 0),.sc (.int .i64 0),.sc (.bool false),.sc (.int .u8 0)] := by kernel_rfl
theorem zn7 : zeroN prog 7 = [.sc (.int .i64 0),.sc (.int .i64 0),.sc (.bool false),.sc (.int .u8 0)] := by kernel_rfl
theorem ha7 : hasT prog 7 = true := by kernel_rfl
theorem sz8 : szOf prog 8 = 4 := by kernel_rfl
theorem by8 : byOf prog 8 = 24 := by kernel_rfl
theorem ze8 : zeroA prog 8 = [.sc (.int .i64 0),.sc (.int .i64 0),.sc (.bool false),.sc (.int .u8 0)] := by kernel_rfl
theorem zn8 : zeroN prog 8 = [.sc (.int .i64 0),.sc (.int .i64 0),.sc (.bool false),.sc (.int .u8 0)] := by kernel_rfl
theorem ha8 : hasT prog 8 = true := by kernel_rfl
theorem sz9 : szOf prog 9 = 1 := by kernel_rfl
theorem by9 : byOf prog 9 = 16 := by kernel_rfl
theorem ze9 : zeroA prog 9 = [.sc (.string ⟨#[]⟩)] := by kernel_rfl
theorem zn9 : zeroN prog 9 = [.sc (.string ⟨#[]⟩)] := by kernel_rfl
theorem ha9 : hasT prog 9 = true := by kernel_rfl
theorem sz10 : szOf prog 10 = 1 := by kernel_rfl
theorem by10 : byOf prog 10 = 16 := by kernel_rfl
theorem ze10 : zeroA prog 10 = [.sc (.string ⟨#[]⟩)] := by kernel_rfl
theorem zn10 : zeroN prog 10 = [.sc (.string ⟨#[]⟩)] := by kernel_rfl
theorem ha10 : hasT prog 10 = true := by kernel_rfl
theorem sz11 : szOf prog 11 = 1 := by kernel_rfl
theorem by11 : byOf prog 11 = 16 := by kernel_rfl
theorem ze11 : zeroA prog 11 = [.sc (.string ⟨#[]⟩)] := by kernel_rfl
theorem zn11 : zeroN prog 11 = [.sc (.string ⟨#[]⟩)] := by kernel_rfl
theorem ha11 : hasT prog 11 = true := by kernel_rfl
theorem sz12 : szOf prog 12 = 1 := by kernel_rfl
theorem by12 : byOf prog 12 = 8 := by kernel_rfl
theorem ze12 : zeroA prog 12 = [.sc (.int .u64 0)] := by kernel_rfl
theorem zn12 : zeroN prog 12 = [.sc (.int .u64 0)] := by kernel_rfl
theorem ha12 : hasT prog 12 = true := by kernel_rfl
theorem sz13 : szOf prog 13 = 2 := by kernel_rfl
theorem by13 : byOf prog 13 = 24 := by kernel_rfl
theorem ze13 : zeroA prog 13 = [.sc (.string ⟨#[]⟩),.sc (.int .u64 0)] := by kernel_rfl
theorem zn13 : zeroN prog 13 = [.sc (.string ⟨#[]⟩),.sc (.int .u64 0)] := by kernel_rfl
theorem ha13 : hasT prog 13 = true := by kernel_rfl
theorem sz14 : szOf prog 14 = 2 := by kernel_rfl
theorem by14 : byOf prog 14 = 24 := by kernel_rfl
theorem ze14 : zeroA prog 14 = [.sc (.string ⟨#[]⟩),.sc (.int .u64 0)] := by kernel_rfl
theorem zn14 : zeroN prog 14 = [.sc (.string ⟨#[]⟩),.sc (.int .u64 0)] := by kernel_rfl
theorem ha14 : hasT prog 14 = true := by kernel_rfl
theorem sz15 : szOf prog 15 = 1 := by kernel_rfl
theorem by15 : byOf prog 15 = 8 := by kernel_rfl
theorem ze15 : zeroA prog 15 = [.sc (.pointer none)] := by kernel_rfl
theorem zn15 : zeroN prog 15 = [.sc (.pointer none)] := by kernel_rfl
theorem ha15 : hasT prog 15 = true := by kernel_rfl
theorem sz16 : szOf prog 16 = 1 := by kernel_rfl
theorem by16 : byOf prog 16 = 8 := by kernel_rfl
theorem ze16 : zeroA prog 16 = [.sc (.pointer none)] := by kernel_rfl
theorem zn16 : zeroN prog 16 = [.sc (.pointer none)] := by kernel_rfl
theorem ha16 : hasT prog 16 = true := by kernel_rfl
theorem sz17 : szOf prog 17 = 1 := by kernel_rfl
theorem by17 : byOf prog 17 = 8 := by kernel_rfl
theorem ze17 : zeroA prog 17 = [.sc (.pointer none)] := by kernel_rfl
theorem zn17 : zeroN prog 17 = [.sc (.pointer none)] := by kernel_rfl
theorem ha17 : hasT prog 17 = true := by kernel_rfl
theorem sz18 : szOf prog 18 = 1 := by kernel_rfl
theorem by18 : byOf prog 18 = 8 := by kernel_rfl
theorem ze18 : zeroA prog 18 = [.sc (.pointer none)] := by kernel_rfl
theorem zn18 : zeroN prog 18 = [.sc (.pointer none)] := by kernel_rfl
theorem ha18 : hasT prog 18 = true := by kernel_rfl
theorem sz19 : szOf prog 19 = 1 := by kernel_rfl
theorem by19 : byOf prog 19 = 8 := by kernel_rfl
theorem ze19 : zeroA prog 19 = [.sc (.pointer none)] := by kernel_rfl
theorem zn19 : zeroN prog 19 = [.sc (.pointer none)] := by kernel_rfl
theorem ha19 : hasT prog 19 = true := by kernel_rfl
theorem sz20 : szOf prog 20 = 1 := by kernel_rfl
theorem by20 : byOf prog 20 = 16 := by kernel_rfl
theorem ze20 : zeroA prog 20 = [.sc .nilIface] := by kernel_rfl
theorem zn20 : zeroN prog 20 = [.sc .nilIface] := by kernel_rfl
theorem ha20 : hasT prog 20 = true := by kernel_rfl
theorem sz21 : szOf prog 21 = 1 := by kernel_rfl
theorem by21 : byOf prog 21 = 4 := by kernel_rfl
theorem ze21 : zeroA prog 21 = [.sc (.int .i32 0)] := by kernel_rfl
theorem zn21 : zeroN prog 21 = [.sc (.int .i32 0)] := by kernel_rfl
theorem ha21 : hasT prog 21 = true := by kernel_rfl
theorem sz22 : szOf prog 22 = 1 := by kernel_rfl
theorem by22 : byOf prog 22 = 24 := by kernel_rfl
theorem ze22 : zeroA prog 22 = [.imm 0 [] 0] := by kernel_rfl
theorem zn22 : zeroN prog 22 = [.sc (.slice none 0 0)] := by kernel_rfl
theorem ha22 : hasT prog 22 = true := by kernel_rfl
theorem sz23 : szOf prog 23 = 1 := by kernel_rfl
theorem by23 : byOf prog 23 = 8 := by kernel_rfl
theorem ze23 : zeroA prog 23 = [.sc .nilFunc] := by kernel_rfl
theorem zn23 : zeroN prog 23 = [.sc .nilFunc] := by kernel_rfl
theorem ha23 : hasT prog 23 = true := by kernel_rfl
theorem sz24 : szOf prog 24 = 1 := by kernel_rfl
theorem by24 : byOf prog 24 = 8 := by kernel_rfl
theorem ze24 : zeroA prog 24 = [.sc (.pointer none)] := by kernel_rfl
theorem zn24 : zeroN prog 24 = [.sc (.pointer none)] := by kernel_rfl
theorem ha24 : hasT prog 24 = true := by kernel_rfl
theorem sz25 : szOf prog 25 = 1 := by kernel_rfl
theorem by25 : byOf prog 25 = 8 := by kernel_rfl
theorem ze25 : zeroA prog 25 = [.sc .nilFunc] := by kernel_rfl
theorem zn25 : zeroN prog 25 = [.sc .nilFunc] := by kernel_rfl
theorem ha25 : hasT prog 25 = true := by kernel_rfl
theorem sz26 : szOf prog 26 = 2 := by kernel_rfl
theorem by26 : byOf prog 26 = 16 := by kernel_rfl
theorem ze26 : zeroA prog 26 = [.sc (.int .i64 0),.sc (.int .i64 0)] := by kernel_rfl
theorem zn26 : zeroN prog 26 = [.sc (.int .i64 0),.sc (.int .i64 0)] := by kernel_rfl
theorem ha26 : hasT prog 26 = true := by kernel_rfl
theorem sz27 : szOf prog 27 = 2 := by kernel_rfl
theorem by27 : byOf prog 27 = 16 := by kernel_rfl
theorem ze27 : zeroA prog 27 = [.sc (.int .i64 0),.sc (.int .i64 0)] := by kernel_rfl
theorem zn27 : zeroN prog 27 = [.sc (.int .i64 0),.sc (.int .i64 0)] := by kernel_rfl
theorem ha27 : hasT prog 27 = true := by kernel_rfl
theorem sz28 : szOf prog 28 = 3 := by kernel_rfl
theorem by28 : byOf prog 28 = 24 := by kernel_rfl
theorem ze28 : zeroA prog 28 = [.sc (.int .i64 0),.sc (.int .i64 0),.sc (.bool false)] := by kernel_rfl
theorem zn28 : zeroN prog 28 = [.sc (.int .i64 0),.sc (.int .i64 0),.sc (.bool false)] := by kernel_rfl
theorem ha28 : hasT prog 28 = true := by kernel_rfl
theorem sz29 : szOf prog 29 = 3 := by kernel_rfl
theorem by29 : byOf prog 29 = 24 := by kernel_rfl
theorem ze29 : zeroA prog 29 = [.sc (.int .i64 0),.sc (.int .i64 0),.sc (.bool false)] := by kernel_rfl
theorem zn29 : zeroN prog 29 = [.sc (.int .i64 0),.sc (.int .i64 0),.sc (.bool false)] := by kernel_rfl
theorem ha29 : hasT prog 29 = true := by kernel_rfl
theorem sz30 : szOf prog 30 = 10 := by kernel_rfl
theorem by30 : byOf prog 30 = 80 := by kernel_rfl
theorem ze30 : zeroA prog 30 = [.sc (.int .i64 0),.sc (.int .i64 0),.sc (.int .i64 0),.sc (.int .i64 0),.sc (.bool false),.sc (.int .i64 0),.sc (.int .i64 0),.sc (.bool false),.sc (.int .i64 0),.sc (.int .i64 0)] := by kernel_rfl
theorem zn30 : zeroN prog 30 = [.sc (.int .i64 0),.sc (.int .i64 0),.sc (.int .i64 0),.sc (.int .i64 0),.sc (.bool false),.sc (.int .i64 0),.sc (.int .i64 0),.sc (.bool false),.sc (.int .i64 0),.sc (.int .i64 0)] := by kernel_rfl
theorem ha30 : hasT prog 30 = true := by kernel_rfl
theorem sz31 : szOf prog 31 = 10 := by kernel_rfl
theorem by31 : byOf prog 31 = 80 := by kernel_rfl
theorem ze31 : zeroA prog 31 = [.sc (.int .i64 0),.sc (.int .i64 0),.sc (.int .i64 0),.sc (.int .i64 0),.sc (.bool false),.sc (.int .i64 0),.sc (.int .i64 0),.sc (.bool false),.sc (.int .i64 0),.sc (.int .i64 0)] := by kernel_rfl
theorem zn31 : zeroN prog 31 = [.sc (.int .i64 0),.sc (.int .i64 0),.sc (.int .i64 0),.sc (.int .i64 0),.sc (.bool false),.sc (.int .i64 0),.sc (.int .i64 0),.sc (.bool false),.sc (.int .i64 0),.sc (.int .i64 0)] := by kernel_rfl
theorem ha31 : hasT prog 31 = true := by kernel_rfl
theorem sz32 : szOf prog 32 = 1 := by kernel_rfl
theorem by32 : byOf prog 32 = 8 := by kernel_rfl
theorem ze32 : zeroA prog 32 = [.sc (.int .i64 0)] := by kernel_rfl
theorem zn32 : zeroN prog 32 = [.sc (.int .i64 0)] := by kernel_rfl
theorem ha32 : hasT prog 32 = true := by kernel_rfl
theorem sz33 : szOf prog 33 = 1 := by kernel_rfl
theorem by33 : byOf prog 33 = 0 := by kernel_rfl
theorem sz34 : szOf prog 34 = 1 := by kernel_rfl
theorem by34 : byOf prog 34 = 8 := by kernel_rfl
theorem ze34 : zeroA prog 34 = [.sc .nilFunc] := by kernel_rfl
theorem zn34 : zeroN prog 34 = [.sc .nilFunc] := by kernel_rfl
theorem ha34 : hasT prog 34 = true := by kernel_rfl
theorem sz35 : szOf prog 35 = 1 := by kernel_rfl
theorem by35 : byOf prog 35 = 8 := by kernel_rfl
theorem ze35 : zeroA prog 35 = [.sc .nilFunc] := by kernel_rfl
theorem zn35 : zeroN prog 35 = [.sc .nilFunc] := by kernel_rfl
theorem ha35 : hasT prog 35 = true := by kernel_rfl
theorem sz36 : szOf prog 36 = 1 := by kernel_rfl
theorem by36 : byOf prog 36 = 8 := by kernel_rfl
theorem ze36 : zeroA prog 36 = [.sc .nilFunc] := by kernel_rfl
theorem zn36 : zeroN prog 36 = [.sc .nilFunc] := by kernel_rfl
theorem ha36 : hasT prog 36 = true := by kernel_rfl
theorem sz37 : szOf prog 37 = 1 := by kernel_rfl
theorem by37 : byOf prog 37 = 8 := by kernel_rfl
theorem ze37 : zeroA prog 37 = [.sc .nilFunc] := by kernel_rfl
theorem zn37 : zeroN prog 37 = [.sc .nilFunc] := by kernel_rfl
theorem ha37 : hasT prog 37 = true := by kernel_rfl
theorem sz38 : szOf prog 38 = 1 := by kernel_rfl
theorem by38 : byOf prog 38 = 8 := by kernel_rfl
theorem ze38 : zeroA prog 38 = [.sc .nilFunc] := by kernel_rfl
theorem zn38 : zeroN prog 38 = [.sc .nilFunc] := by kernel_rfl
theorem ha38 : hasT prog 38 = true := by kernel_rfl
theorem sz39 : szOf prog 39 = 1 := by kernel_rfl
theorem by39 : byOf prog 39 = 8 := by kernel_rfl
theorem ze39 : zeroA prog 39 = [.sc .nilFunc] := by kernel_rfl
theorem zn39 : zeroN prog 39 = [.sc .nilFunc] := by kernel_rfl
theorem ha39 : hasT prog 39 = true := by kernel_rfl
theorem sz40 : szOf prog 40 = 1 := by kernel_rfl
theorem by40 : byOf prog 40 = 8 := by kernel_rfl
theorem ze40 : zeroA prog 40 = [.sc .nilFunc] := by kernel_rfl
theorem zn40 : zeroN prog 40 = [.sc .nilFunc] := by kernel_rfl
theorem ha40 : hasT prog 40 = true := by kernel_rfl
theorem sz41 : szOf prog 41 = 1 := by kernel_rfl
theorem by41 : byOf prog 41 = 8 := by kernel_rfl
theorem ze41 : zeroA prog 41 = [.sc .nilFunc] := by kernel_rfl
theorem zn41 : zeroN prog 41 = [.sc .nilFunc] := by kernel_rfl
theorem ha41 : hasT prog 41 = true := by kernel_rfl
theorem sz42 : szOf prog 42 = 1 := by kernel_rfl
theorem by42 : byOf prog 42 = 24 := by kernel_rfl
theorem ze42 : zeroA prog 42 = [.imm 0 [] 0] := by kernel_rfl
theorem zn42 : zeroN prog 42 = [.sc (.slice none 0 0)] := by kernel_rfl
theorem ha42 : hasT prog 42 = true := by kernel_rfl
theorem sz43 : szOf prog 43 = 1 := by kernel_rfl
theorem by43 : byOf prog 43 = 24 := by kernel_rfl
theorem ze43 : zeroA prog 43 = [.imm 0 [] 0] := by kernel_rfl
theorem zn43 : zeroN prog 43 = [.sc (.slice none 0 0)] := by kernel_rfl
theorem ha43 : hasT prog 43 = true := by kernel_rfl
theorem sz44 : szOf prog 44 = 3 := by kernel_rfl
theorem by44 : byOf prog 44 = 72 := by kernel_rfl
theorem ze44 : zeroA prog 44 = [.imm 0 [] 0,.imm 0 [] 0,.imm 0 [] 0] := by kernel_rfl
theorem zn44 : zeroN prog 44 = [.sc (.slice none 0 0),.sc (.slice none 0 0),.sc (.slice none 0 0)] := by kernel_rfl
theorem ha44 : hasT prog 44 = true := by kernel_rfl
theorem sz45 : szOf prog 45 = 3 := by kernel_rfl
theorem by45 : byOf prog 45 = 72 := by kernel_rfl
theorem ze45 : zeroA prog 45 = [.imm 0 [] 0,.imm 0 [] 0,.imm 0 [] 0] := by kernel_rfl
theorem zn45 : zeroN prog 45 = [.sc (.slice none 0 0),.sc (.slice none 0 0),.sc (.slice none 0 0)] := by kernel_rfl
theorem ha45 : hasT prog 45 = true := by kernel_rfl
theorem sz46 : szOf prog 46 = 1 := by kernel_rfl
theorem by46 : byOf prog 46 = 8 := by kernel_rfl
theorem ze46 : zeroA prog 46 = [.sc (.pointer none)] := by kernel_rfl
theorem zn46 : zeroN prog 46 = [.sc (.pointer none)] := by kernel_rfl
theorem ha46 : hasT prog 46 = true := by kernel_rfl
theorem sz47 : szOf prog 47 = 1 := by kernel_rfl
theorem by47 : byOf prog 47 = 24 := by kernel_rfl
theorem ze47 : zeroA prog 47 = [.imm 0 [] 0] := by kernel_rfl
theorem zn47 : zeroN prog 47 = [.sc (.slice none 0 0)] := by kernel_rfl
theorem ha47 : hasT prog 47 = true := by kernel_rfl
theorem sz48 : szOf prog 48 = 1 := by kernel_rfl
theorem by48 : byOf prog 48 = 0 := by kernel_rfl
theorem sz49 : szOf prog 49 = 1 := by kernel_rfl
theorem by49 : byOf prog 49 = 8 := by kernel_rfl
theorem ze49 : zeroA prog 49 = [.sc .nilFunc] := by kernel_rfl
theorem zn49 : zeroN prog 49 = [.sc .nilFunc] := by kernel_rfl
theorem ha49 : hasT prog 49 = true := by kernel_rfl
theorem sz50 : szOf prog 50 = 1 := by kernel_rfl
theorem by50 : byOf prog 50 = 0 := by kernel_rfl
theorem sz51 : szOf prog 51 = 1 := by kernel_rfl
theorem by51 : byOf prog 51 = 8 := by kernel_rfl
theorem ze51 : zeroA prog 51 = [.sc .nilFunc] := by kernel_rfl
theorem zn51 : zeroN prog 51 = [.sc .nilFunc] := by kernel_rfl
theorem ha51 : hasT prog 51 = true := by kernel_rfl
theorem sz52 : szOf prog 52 = 1 := by kernel_rfl
theorem by52 : byOf prog 52 = 24 := by kernel_rfl
theorem ze52 : zeroA prog 52 = [.imm 0 [] 0] := by kernel_rfl
theorem zn52 : zeroN prog 52 = [.sc (.slice none 0 0)] := by kernel_rfl
theorem ha52 : hasT prog 52 = true := by kernel_rfl
theorem sz53 : szOf prog 53 = 1 := by kernel_rfl
theorem by53 : byOf prog 53 = 8 := by kernel_rfl
theorem ze53 : zeroA prog 53 = [.sc .nilFunc] := by kernel_rfl
theorem zn53 : zeroN prog 53 = [.sc .nilFunc] := by kernel_rfl
theorem ha53 : hasT prog 53 = true := by kernel_rfl
theorem sz54 : szOf prog 54 = 5 := by kernel_rfl
theorem by54 : byOf prog 54 = 40 := by kernel_rfl
theorem ze54 : zeroA prog 54 = [.sc (.int .i64 0),.sc (.int .i64 0),.sc (.int .i64 0),.sc (.int .i64 0),.sc (.int .i64 0)] := by kernel_rfl
theorem zn54 : zeroN prog 54 = [.sc (.int .i64 0),.sc (.int .i64 0),.sc (.int .i64 0),.sc (.int .i64 0),.sc (.int .i64 0)] := by kernel_rfl
theorem ha54 : hasT prog 54 = true := by kernel_rfl
theorem sz55 : szOf prog 55 = 5 := by kernel_rfl
theorem by55 : byOf prog 55 = 40 := by kernel_rfl
theorem ze55 : zeroA prog 55 = [.sc (.int .i64 0),.sc (.int .i64 0),.sc (.int .i64 0),.sc (.int .i64 0),.sc (.int .i64 0)] := by kernel_rfl
theorem zn55 : zeroN prog 55 = [.sc (.int .i64 0),.sc (.int .i64 0),.sc (.int .i64 0),.sc (.int .i64 0),.sc (.int .i64 0)] := by kernel_rfl
theorem ha55 : hasT prog 55 = true := by kernel_rfl
theorem sz56 : szOf prog 56 = 1 := by kernel_rfl
theorem by56 : byOf prog 56 = 8 := by kernel_rfl
theorem ze56 : zeroA prog 56 = [.sc .nilFunc] := by kernel_rfl
theorem zn56 : zeroN prog 56 = [.sc .nilFunc] := by kernel_rfl
theorem ha56 : hasT prog 56 = true := by kernel_rfl
theorem sz57 : szOf prog 57 = 1 := by kernel_rfl
theorem by57 : byOf prog 57 = 8 := by kernel_rfl
theorem ze57 : zeroA prog 57 = [.sc .nilFunc] := by kernel_rfl
theorem zn57 : zeroN prog 57 = [.sc .nilFunc] := by kernel_rfl
theorem ha57 : hasT prog 57 = true := by kernel_rfl
theorem sz58 : szOf prog 58 = 1 := by kernel_rfl
theorem by58 : byOf prog 58 = 8 := by kernel_rfl
theorem ze58 : zeroA prog 58 = [.sc .nilFunc] := by kernel_rfl
theorem zn58 : zeroN prog 58 = [.sc .nilFunc] := by kernel_rfl
theorem ha58 : hasT prog 58 = true := by kernel_rfl
theorem sz59 : szOf prog 59 = 1 := by kernel_rfl
theorem by59 : byOf prog 59 = 24 := by kernel_rfl
theorem ze59 : zeroA prog 59 = [.imm 0 [] 0] := by kernel_rfl
theorem zn59 : zeroN prog 59 = [.sc (.slice none 0 0)] := by kernel_rfl
theorem ha59 : hasT prog 59 = true := by kernel_rfl
theorem sz60 : szOf prog 60 = 1 := by kernel_rfl
theorem by60 : byOf prog 60 = 8 := by kernel_rfl
theorem ze60 : zeroA prog 60 = [.sc .nilFunc] := by kernel_rfl
theorem zn60 : zeroN prog 60 = [.sc .nilFunc] := by kernel_rfl
theorem ha60 : hasT prog 60 = true := by kernel_rfl
theorem sz61 : szOf prog 61 = 1 := by kernel_rfl
theorem by61 : byOf prog 61 = 8 := by kernel_rfl
theorem ze61 : zeroA prog 61 = [.sc .nilFunc] := by kernel_rfl
theorem zn61 : zeroN prog 61 = [.sc .nilFunc] := by kernel_rfl
theorem ha61 : hasT prog 61 = true := by kernel_rfl
theorem sz62 : szOf prog 62 = 1 := by kernel_rfl
theorem by62 : byOf prog 62 = 24 := by kernel_rfl
theorem ze62 : zeroA prog 62 = [.imm 0 [] 0] := by kernel_rfl
theorem zn62 : zeroN prog 62 = [.sc (.slice none 0 0)] := by kernel_rfl
theorem ha62 : hasT prog 62 = true := by kernel_rfl
theorem sz63 : szOf prog 63 = 1 := by kernel_rfl
theorem by63 : byOf prog 63 = 8 := by kernel_rfl
theorem ze63 : zeroA prog 63 = [.sc (.int .u64 0)] := by kernel_rfl
theorem zn63 : zeroN prog 63 = [.sc (.int .u64 0)] := by kernel_rfl
theorem ha63 : hasT prog 63 = true := by kernel_rfl
theorem sz64 : szOf prog 64 = 1 := by kernel_rfl
theorem by64 : byOf prog 64 = 8 := by kernel_rfl
theorem ze64 : zeroA prog 64 = [.sc .nilFunc] := by kernel_rfl
theorem zn64 : zeroN prog 64 = [.sc .nilFunc] := by kernel_rfl
theorem ha64 : hasT prog 64 = true := by kernel_rfl
theorem sz65 : szOf prog 65 = 6 := by kernel_rfl
theorem by65 : byOf prog 65 = 56 := by kernel_rfl
theorem ze65 : zeroA prog 65 = [.sc (.string ⟨#[]⟩),.sc (.int .i64 0),.sc (.int .i64 0),.sc (.int .i64 0),.sc (.int .i64 0),.sc (.int .i64 0)] := by kernel_rfl
theorem zn65 : zeroN prog 65 = [.sc (.string ⟨#[]⟩),.sc (.int .i64 0),.sc (.int .i64 0),.sc (.int .i64 0),.sc (.int .i64 0),.sc (.int .i64 0)] := by kernel_rfl
theorem ha65 : hasT prog 65 = true := by kernel_rfl
theorem sz66 : szOf prog 66 = 6 := by kernel_rfl
theorem by66 : byOf prog 66 = 56 := by kernel_rfl
theorem ze66 : zeroA prog 66 = [.sc (.string ⟨#[]⟩),.sc (.int .i64 0),.sc (.int .i64 0),.sc (.int .i64 0),.sc (.int .i64 0),.sc (.int .i64 0)] := by kernel_rfl
theorem zn66 : zeroN prog 66 = [.sc (.string ⟨#[]⟩),.sc (.int .i64 0),.sc (.int .i64 0),.sc (.int .i64 0),.sc (.int .i64 0),.sc (.int .i64 0)] := by kernel_rfl
theorem ha66 : hasT prog 66 = true := by kernel_rfl
theorem sz67 : szOf prog 67 = 1 := by kernel_rfl
theorem by67 : byOf prog 67 = 8 := by kernel_rfl
theorem ze67 : zeroA prog 67 = [.sc .nilFunc] := by kernel_rfl
theorem zn67 : zeroN prog 67 = [.sc .nilFunc] := by kernel_rfl
theorem ha67 : hasT prog 67 = true := by kernel_rfl
theorem sz68 : szOf prog 68 = 1 := by kernel_rfl
theorem by68 : byOf prog 68 = 8 := by kernel_rfl
theorem ze68 : zeroA prog 68 = [.sc .nilFunc] := by kernel_rfl
theorem zn68 : zeroN prog 68 = [.sc .nilFunc] := by kernel_rfl
theorem ha68 : hasT prog 68 = true := by kernel_rfl
theorem sz69 : szOf prog 69 = 1 := by kernel_rfl
theorem by69 : byOf prog 69 = 0 := by kernel_rfl
theorem sz70 : szOf prog 70 = 1 := by kernel_rfl
theorem by70 : byOf prog 70 = 8 := by kernel_rfl
theorem ze70 : zeroA prog 70 = [.sc .nilFunc] := by kernel_rfl
theorem zn70 : zeroN prog 70 = [.sc .nilFunc] := by kernel_rfl
theorem ha70 : hasT prog 70 = true := by kernel_rfl
theorem sz71 : szOf prog 71 = 1 := by kernel_rfl
theorem by71 : byOf prog 71 = 0 := by kernel_rfl
theorem sz72 : szOf prog 72 = 1 := by kernel_rfl
theorem by72 : byOf prog 72 = 8 := by kernel_rfl
theorem ze72 : zeroA prog 72 = [.sc .nilFunc] := by kernel_rfl
theorem zn72 : zeroN prog 72 = [.sc .nilFunc] := by kernel_rfl
theorem ha72 : hasT prog 72 = true := by kernel_rfl
theorem sz73 : szOf prog 73 = 1 := by kernel_rfl
theorem by73 : byOf prog 73 = 8 := by kernel_rfl
theorem ze73 : zeroA prog 73 = [.sc .nilFunc] := by kernel_rfl
theorem zn73 : zeroN prog 73 = [.sc .nilFunc] := by kernel_rfl
theorem ha73 : hasT prog 73 = true := by kernel_rfl
theorem sz74 : szOf prog 74 = 6 := by kernel_rfl
theorem by74 : byOf prog 74 = 40 := by kernel_rfl
theorem ze74 : zeroA prog 74 = [.sc (.int .i64 0),.sc (.int .i64 0),.sc (.int .i64 0),.sc (.int .i64 0),.sc (.bool false),.sc (.int .i32 0)] := by kernel_rfl
theorem zn74 : zeroN prog 74 = [.sc (.int .i64 0),.sc (.int .i64 0),.sc (.int .i64 0),.sc (.int .i64 0),.sc (.bool false),.sc (.int .i32 0)] := by kernel_rfl
theorem ha74 : hasT prog 74 = true := by kernel_rfl
theorem sz75 : szOf prog 75 = 6 := by kernel_rfl
theorem by75 : byOf prog 75 = 40 := by kernel_rfl
theorem ze75 : zeroA prog 75 = [.sc (.int .i64 0),.sc (.int .i64 0),.sc (.int .i64 0),.sc (.int .i64 0),.sc (.bool false),.sc (.int .i32 0)] := by kernel_rfl
theorem zn75 : zeroN prog 75 = [.sc (.int .i64 0),.sc (.int .i64 0),.sc (.int .i64 0),.sc (.int .i64 0),.sc (.bool false),.sc (.int .i32 0)] := by kernel_rfl
theorem ha75 : hasT prog 75 = true := by kernel_rfl
theorem sz76 : szOf prog 76 = 1 := by kernel_rfl
theorem by76 : byOf prog 76 = 8 := by kernel_rfl
theorem ze76 : zeroA prog 76 = [.sc .nilFunc] := by kernel_rfl
theorem zn76 : zeroN prog 76 = [.sc .nilFunc] := by kernel_rfl
theorem ha76 : hasT prog 76 = true := by kernel_rfl
theorem sz77 : szOf prog 77 = 4 := by kernel_rfl
theorem by77 : byOf prog 77 = 24 := by kernel_rfl
theorem ze77 : zeroA prog 77 = [.sc (.int .i64 0),.sc (.int .i64 0),.sc (.int .i32 0),.sc (.bool false)] := by kernel_rfl
theorem zn77 : zeroN prog 77 = [.sc (.int .i64 0),.sc (.int .i64 0),.sc (.int .i32 0),.sc (.bool false)] := by kernel_rfl
theorem ha77 : hasT prog 77 = true := by kernel_rfl
theorem sz78 : szOf prog 78 = 4 := by kernel_rfl
theorem by78 : byOf prog 78 = 24 := by kernel_rfl
theorem ze78 : zeroA prog 78 = [.sc (.int .i64 0),.sc (.int .i64 0),.sc (.int .i32 0),.sc (.bool false)] := by kernel_rfl
theorem zn78 : zeroN prog 78 = [.sc (.int .i64 0),.sc (.int .i64 0),.sc (.int .i32 0),.sc (.bool false)] := by kernel_rfl
theorem ha78 : hasT prog 78 = true := by kernel_rfl
theorem sz79 : szOf prog 79 = 1 := by kernel_rfl
theorem by79 : byOf prog 79 = 8 := by kernel_rfl
theorem ze79 : zeroA prog 79 = [.sc .nilFunc] := by kernel_rfl
theorem zn79 : zeroN prog 79 = [.sc .nilFunc] := by kernel_rfl
theorem ha79 : hasT prog 79 = true := by kernel_rfl
theorem sz80 : szOf prog 80 = 1 := by kernel_rfl
theorem by80 : byOf prog 80 = 8 := by kernel_rfl
theorem ze80 : zeroA prog 80 = [.sc .nilFunc] := by kernel_rfl
theorem zn80 : zeroN prog 80 = [.sc .nilFunc] := by kernel_rfl
theorem ha80 : hasT prog 80 = true := by kernel_rfl
theorem sz81 : szOf prog 81 = 1 := by kernel_rfl
theorem by81 : byOf prog 81 = 24 := by kernel_rfl
theorem ze81 : zeroA prog 81 = [.imm 0 [] 0] := by kernel_rfl
theorem zn81 : zeroN prog 81 = [.sc (.slice none 0 0)] := by kernel_rfl
theorem ha81 : hasT prog 81 = true := by kernel_rfl
theorem sz82 : szOf prog 82 = 1 := by kernel_rfl
theorem by82 : byOf prog 82 = 24 := by kernel_rfl
theorem ze82 : zeroA prog 82 = [.imm 0 [] 0] := by kernel_rfl
theorem zn82 : zeroN prog 82 = [.sc (.slice none 0 0)] := by kernel_rfl
theorem ha82 : hasT prog 82 = true := by kernel_rfl
theorem sz83 : szOf prog 83 = 1 := by kernel_rfl
theorem by83 : byOf prog 83 = 8 := by kernel_rfl
theorem ze83 : zeroA prog 83 = [.sc .nilFunc] := by kernel_rfl
theorem zn83 : zeroN prog 83 = [.sc .nilFunc] := by kernel_rfl
theorem ha83 : hasT prog 83 = true := by kernel_rfl
theorem sz84 : szOf prog 84 = 1 := by kernel_rfl
theorem by84 : byOf prog 84 = 8 := by kernel_rfl
theorem ze84 : zeroA prog 84 = [.sc .nilFunc] := by kernel_rfl
theorem zn84 : zeroN prog 84 = [.sc .nilFunc] := by kernel_rfl
theorem ha84 : hasT prog 84 = true := by kernel_rfl
theorem sz85 : szOf prog 85 = 1 := by kernel_rfl
theorem by85 : byOf prog 85 = 0 := by kernel_rfl
theorem sz86 : szOf prog 86 = 1 := by kernel_rfl
theorem by86 : byOf prog 86 = 8 := by kernel_rfl
theorem ze86 : zeroA prog 86 = [.sc .nilFunc] := by kernel_rfl
theorem zn86 : zeroN prog 86 = [.sc .nilFunc] := by kernel_rfl
theorem ha86 : hasT prog 86 = true := by kernel_rfl
theorem sz87 : szOf prog 87 = 1 := by kernel_rfl
theorem by87 : byOf prog 87 = 8 := by kernel_rfl
theorem ze87 : zeroA prog 87 = [.sc .nilFunc] := by kernel_rfl
theorem zn87 : zeroN prog 87 = [.sc .nilFunc] := by kernel_rfl
theorem ha87 : hasT prog 87 = true := by kernel_rfl
theorem sz88 : szOf prog 88 = 1 := by kernel_rfl
theorem by88 : byOf prog 88 = 8 := by kernel_rfl
theorem ze88 : zeroA prog 88 = [.sc .nilFunc] := by kernel_rfl
theorem zn88 : zeroN prog 88 = [.sc .nilFunc] := by kernel_rfl
theorem ha88 : hasT prog 88 = true := by kernel_rfl
theorem sz89 : szOf prog 89 = 2 := by kernel_rfl
theorem by89 : byOf prog 89 = 48 := by kernel_rfl
theorem ze89 : zeroA prog 89 = [.imm 0 [] 0,.imm 0 [] 0] := by kernel_rfl
theorem zn89 : zeroN prog 89 = [.sc (.slice none 0 0),.sc (.slice none 0 0)] := by kernel_rfl
theorem ha89 : hasT prog 89 = true := by kernel_rfl
theorem sz90 : szOf prog 90 = 2 := by kernel_rfl
theorem by90 : byOf prog 90 = 48 := by kernel_rfl
theorem ze90 : zeroA prog 90 = [.imm 0 [] 0,.imm 0 [] 0] := by kernel_rfl
theorem zn90 : zeroN prog 90 = [.sc (.slice none 0 0),.sc (.slice none 0 0)] := by kernel_rfl
theorem ha90 : hasT prog 90 = true := by kernel_rfl
theorem sz91 : szOf prog 91 = 1 := by kernel_rfl
theorem by91 : byOf prog 91 = 0 := by kernel_rfl
theorem sz92 : szOf prog 92 = 1 := by kernel_rfl
theorem by92 : byOf prog 92 = 8 := by kernel_rfl
theorem ze92 : zeroA prog 92 = [.sc .nilFunc] := by kernel_rfl
theorem zn92 : zeroN prog 92 = [.sc .nilFunc] := by kernel_rfl
theorem ha92 : hasT prog 92 = true := by kernel_rfl
theorem sz93 : szOf prog 93 = 1 := by kernel_rfl
theorem by93 : byOf prog 93 = 8 := by kernel_rfl
theorem ze93 : zeroA prog 93 = [.sc .nilFunc] := by kernel_rfl
theorem zn93 : zeroN prog 93 = [.sc .nilFunc] := by kernel_rfl
theorem ha93 : hasT prog 93 = true := by kernel_rfl
theorem sz94 : szOf prog 94 = 1 := by kernel_rfl
theorem by94 : byOf prog 94 = 8 := by kernel_rfl
theorem ze94 : zeroA prog 94 = [.sc .nilFunc] := by kernel_rfl
theorem zn94 : zeroN prog 94 = [.sc .nilFunc] := by kernel_rfl
theorem ha94 : hasT prog 94 = true := by kernel_rfl
theorem sz95 : szOf prog 95 = 1 := by kernel_rfl
theorem by95 : byOf prog 95 = 8 := by kernel_rfl
theorem ze95 : zeroA prog 95 = [.sc (.map none)] := by kernel_rfl
theorem zn95 : zeroN prog 95 = [.sc (.map none)] := by kernel_rfl
theorem ha95 : hasT prog 95 = true := by kernel_rfl
theorem sz96 : szOf prog 96 = 1 := by kernel_rfl
theorem by96 : byOf prog 96 = 8 := by kernel_rfl
theorem ze96 : zeroA prog 96 = [.sc .nilFunc] := by kernel_rfl
theorem zn96 : zeroN prog 96 = [.sc .nilFunc] := by kernel_rfl
theorem ha96 : hasT prog 96 = true := by kernel_rfl
theorem sz97 : szOf prog 97 = 1 := by kernel_rfl
theorem by97 : byOf prog 97 = 8 := by kernel_rfl
theorem ze97 : zeroA prog 97 = [.sc .nilFunc] := by kernel_rfl
theorem zn97 : zeroN prog 97 = [.sc .nilFunc] := by kernel_rfl
theorem ha97 : hasT prog 97 = true := by kernel_rfl
theorem sz98 : szOf prog 98 = 1 := by kernel_rfl
theorem by98 : byOf prog 98 = 8 := by kernel_rfl
theorem ze98 : zeroA prog 98 = [.sc .nilFunc] := by kernel_rfl
theorem zn98 : zeroN prog 98 = [.sc .nilFunc] := by kernel_rfl
theorem ha98 : hasT prog 98 = true := by kernel_rfl
theorem sz99 : szOf prog 99 = 1 := by kernel_rfl
theorem by99 : byOf prog 99 = 8 := by kernel_rfl
theorem ze99 : zeroA prog 99 = [.sc .nilFunc] := by kernel_rfl
theorem zn99 : zeroN prog 99 = [.sc .nilFunc] := by kernel_rfl
theorem ha99 : hasT prog 99 = true := by kernel_rfl
theorem sz100 : szOf prog 100 = 1 := by kernel_rfl
theorem by100 : byOf prog 100 = 8 := by kernel_rfl
theorem ze100 : zeroA prog 100 = [.sc .nilFunc] := by kernel_rfl
theorem zn100 : zeroN prog 100 = [.sc .nilFunc] := by kernel_rfl
theorem ha100 : hasT prog 100 = true := by kernel_rfl
theorem sz101 : szOf prog 101 = 1 := by kernel_rfl
theorem by101 : byOf prog 101 = 24 := by kernel_rfl
theorem ze101 : zeroA prog 101 = [.imm 0 [] 0] := by kernel_rfl
theorem zn101 : zeroN prog 101 = [.sc (.slice none 0 0)] := by kernel_rfl
theorem ha101 : hasT prog 101 = true := by kernel_rfl
theorem sz102 : szOf prog 102 = 1 := by kernel_rfl
theorem by102 : byOf prog 102 = 8 := by kernel_rfl
theorem ze102 : zeroA prog 102 = [.sc (.map none)] := by kernel_rfl
theorem zn102 : zeroN prog 102 = [.sc (.map none)] := by kernel_rfl
theorem ha102 : hasT prog 102 = true := by kernel_rfl
theorem sz103 : szOf prog 103 = 2 := by kernel_rfl
theorem by103 : byOf prog 103 = 16 := by kernel_rfl
theorem ze103 : zeroA prog 103 = [.sc (.map none),.sc (.int .i64 0)] := by kernel_rfl
theorem zn103 : zeroN prog 103 = [.sc (.map none),.sc (.int .i64 0)] := by kernel_rfl
theorem ha103 : hasT prog 103 = true := by kernel_rfl
theorem sz104 : szOf prog 104 = 2 := by kernel_rfl
theorem by104 : byOf prog 104 = 16 := by kernel_rfl
theorem ze104 : zeroA prog 104 = [.sc (.map none),.sc (.int .i64 0)] := by kernel_rfl
theorem zn104 : zeroN prog 104 = [.sc (.map none),.sc (.int .i64 0)] := by kernel_rfl
theorem ha104 : hasT prog 104 = true := by kernel_rfl
theorem sz105 : szOf prog 105 = 2 := by kernel_rfl
theorem by105 : byOf prog 105 = 48 := by kernel_rfl
theorem ze105 : zeroA prog 105 = [.imm 0 [] 0,.imm 0 [] 0] := by kernel_rfl
theorem zn105 : zeroN prog 105 = [.sc (.slice none 0 0),.sc (.slice none 0 0)] := by kernel_rfl
theorem ha105 : hasT prog 105 = true := by kernel_rfl
theorem sz106 : szOf prog 106 = 6 := by kernel_rfl
theorem by106 : byOf prog 106 = 72 := by kernel_rfl
theorem ze106 : zeroA prog 106 = [.sc (.int .i64 0),.sc (.int .i64 0),.sc (.int .i32 0),.sc (.bool false),.imm 0 [] 0,.imm 0 [] 0] := by kernel_rfl
theorem zn106 : zeroN prog 106 = [.sc (.int .i64 0),.sc (.int .i64 0),.sc (.int .i32 0),.sc (.bool false),.sc (.slice none 0 0),.sc (.slice none 0 0)] := by kernel_rfl
theorem ha106 : hasT prog 106 = true := by kernel_rfl
theorem sz107 : szOf prog 107 = 6 := by kernel_rfl
theorem by107 : byOf prog 107 = 72 := by kernel_rfl
theorem ze107 : zeroA prog 107 = [.sc (.int .i64 0),.sc (.int .i64 0),.sc (.int .i32 0),.sc (.bool false),.imm 0 [] 0,.imm 0 [] 0] := by kernel_rfl
theorem zn107 : zeroN prog 107 = [.sc (.int .i64 0),.sc (.int .i64 0),.sc (.int .i32 0),.sc (.bool false),.sc (.slice none 0 0),.sc (.slice none 0 0)] := by kernel_rfl
theorem ha107 : hasT prog 107 = true := by kernel_rfl
theorem sz108 : szOf prog 108 = 1 := by kernel_rfl
theorem by108 : byOf prog 108 = 8 := by kernel_rfl
theorem ze108 : zeroA prog 108 = [.sc .nilFunc] := by kernel_rfl
theorem zn108 : zeroN prog 108 = [.sc .nilFunc] := by kernel_rfl
theorem ha108 : hasT prog 108 = true := by kernel_rfl
theorem sz109 : szOf prog 109 = 1 := by kernel_rfl
theorem by109 : byOf prog 109 = 0 := by kernel_rfl
theorem sz110 : szOf prog 110 = 1 := by kernel_rfl
theorem by110 : byOf prog 110 = 8 := by kernel_rfl
theorem ze110 : zeroA prog 110 = [.sc .nilFunc] := by kernel_rfl
theorem zn110 : zeroN prog 110 = [.sc .nilFunc] := by kernel_rfl
theorem ha110 : hasT prog 110 = true := by kernel_rfl
theorem sz111 : szOf prog 111 = 1 := by kernel_rfl
theorem by111 : byOf prog 111 = 8 := by kernel_rfl
theorem ze111 : zeroA prog 111 = [.sc .nilFunc] := by kernel_rfl
theorem zn111 : zeroN prog 111 = [.sc .nilFunc] := by kernel_rfl
theorem ha111 : hasT prog 111 = true := by kernel_rfl
theorem sz112 : szOf prog 112 = 1 := by kernel_rfl
theorem by112 : byOf prog 112 = 8 := by kernel_rfl
theorem ze112 : zeroA prog 112 = [.sc .nilFunc] := by kernel_rfl
theorem zn112 : zeroN prog 112 = [.sc .nilFunc] := by kernel_rfl
theorem ha112 : hasT prog 112 = true := by kernel_rfl
theorem sz113 : szOf prog 113 = 1 := by kernel_rfl
theorem by113 : byOf prog 113 = 8 := by kernel_rfl
theorem ze113 : zeroA prog 113 = [.sc .nilFunc] := by kernel_rfl
theorem zn113 : zeroN prog 113 = [.sc .nilFunc] := by kernel_rfl
theorem ha113 : hasT prog 113 = true := by kernel_rfl
theorem sz114 : szOf prog 114 = 1 := by kernel_rfl
theorem by114 : byOf prog 114 = 8 := by kernel_rfl
theorem ze114 : zeroA prog 114 = [.sc .nilFunc] := by kernel_rfl
theorem zn114 : zeroN prog 114 = [.sc .nilFunc] := by kernel_rfl
theorem ha114 : hasT prog 114 = true := by kernel_rfl
theorem sz115 : szOf prog 115 = 1 := by kernel_rfl
theorem by115 : byOf prog 115 = 8 := by kernel_rfl
theorem ze115 : zeroA prog 115 = [.sc .nilFunc] := by kernel_rfl
theorem zn115 : zeroN prog 115 = [.sc .nilFunc] := by kernel_rfl
theorem ha115 : hasT prog 115 = true := by kernel_rfl
theorem sz116 : szOf prog 116 = 1 := by kernel_rfl
theorem by116 : byOf prog 116 = 8 := by kernel_rfl
theorem ze116 : zeroA prog 116 = [.sc .nilFunc] := by kernel_rfl
theorem zn116 : zeroN prog 116 = [.sc .nilFunc] := by kernel_rfl
theorem ha116 : hasT prog 116 = true := by kernel_rfl
theorem sz117 : szOf prog 117 = 4 := by kernel_rfl
theorem by117 : byOf prog 117 = 32 := by kernel_rfl
theorem ze117 : zeroA prog 117 = [.sc (.int .i64 0),.sc (.int .i64 0),.sc (.int .i64 0),.sc (.int .i64 0)] := by kernel_rfl
theorem zn117 : zeroN prog 117 = [.sc (.int .i64 0),.sc (.int .i64 0),.sc (.int .i64 0),.sc (.int .i64 0)] := by kernel_rfl
theorem ha117 : hasT prog 117 = true := by kernel_rfl
theorem sz118 : szOf prog 118 = 4 := by kernel_rfl
theorem by118 : byOf prog 118 = 32 := by kernel_rfl
theorem ze118 : zeroA prog 118 = [.sc (.int .i64 0),.sc (.int .i64 0),.sc (.int .i64 0),.sc (.int .i64 0)] := by kernel_rfl
theorem zn118 : zeroN prog 118 = [.sc (.int .i64 0),.sc (.int .i64 0),.sc (.int .i64 0),.sc (.int .i64 0)] := by kernel_rfl
theorem ha118 : hasT prog 118 = true := by kernel_rfl
theorem sz119 : szOf prog 119 = 1 := by kernel_rfl
theorem by119 : byOf prog 119 = 24 := by kernel_rfl
theorem ze119 : zeroA prog 119 = [.imm 0 [] 0] := by kernel_rfl
theorem zn119 : zeroN prog 119 = [.sc (.slice none 0 0)] := by kernel_rfl
theorem ha119 : hasT prog 119 = true := by kernel_rfl
theorem sz120 : szOf prog 120 = 1 := by kernel_rfl
theorem by120 : byOf prog 120 = 8 := by kernel_rfl
theorem ze120 : zeroA prog 120 = [.sc .nilFunc] := by kernel_rfl
theorem zn120 : zeroN prog 120 = [.sc .nilFunc] := by kernel_rfl
theorem ha120 : hasT prog 120 = true := by kernel_rfl
theorem sz121 : szOf prog 121 = 1 := by kernel_rfl
theorem by121 : byOf prog 121 = 8 := by kernel_rfl
theorem ze121 : zeroA prog 121 = [.sc .nilFunc] := by kernel_rfl
theorem zn121 : zeroN prog 121 = [.sc .nilFunc] := by kernel_rfl
theorem ha121 : hasT prog 121 = true := by kernel_rfl
theorem sz122 : szOf prog 122 = 1 := by kernel_rfl
theorem by122 : byOf prog 122 = 8 := by kernel_rfl
theorem ze122 : zeroA prog 122 = [.sc .nilFunc] := by kernel_rfl
theorem zn122 : zeroN prog 122 = [.sc .nilFunc] := by kernel_rfl
theorem ha122 : hasT prog 122 = true := by kernel_rfl
theorem sz123 : szOf prog 123 = 1 := by kernel_rfl
theorem by123 : byOf prog 123 = 8 := by kernel_rfl
theorem ze123 : zeroA prog 123 = [.sc .nilFunc] := by kernel_rfl
theorem zn123 : zeroN prog 123 = [.sc .nilFunc] := by kernel_rfl
theorem ha123 : hasT prog 123 = true := by kernel_rfl
theorem sz124 : szOf prog 124 = 1 := by kernel_rfl
theorem by124 : byOf prog 124 = 8 := by kernel_rfl
theorem ze124 : zeroA prog 124 = [.sc .nilFunc] := by kernel_rfl
theorem zn124 : zeroN prog 124 = [.sc .nilFunc] := by kernel_rfl
theorem ha124 : hasT prog 124 = true := by kernel_rfl
theorem sz125 : szOf prog 125 = 1 := by kernel_rfl
theorem by125 : byOf prog 125 = 8 := by kernel_rfl
theorem ze125 : zeroA prog 125 = [.sc .nilFunc] := by kernel_rfl
theorem zn125 : zeroN prog 125 = [.sc .nilFunc] := by kernel_rfl
theorem ha125 : hasT prog 125 = true := by kernel_rfl
theorem sz126 : szOf prog 126 = 4 := by kernel_rfl
theorem by126 : byOf prog 126 = 40 := by kernel_rfl
theorem ze126 : zeroA prog 126 = [.sc (.pointer none),.sc (.pointer none),.sc (.pointer none),.sc (.string ⟨#[]⟩)] := by kernel_rfl
theorem zn126 : zeroN prog 126 = [.sc (.pointer none),.sc (.pointer none),.sc (.pointer none),.sc (.string ⟨#[]⟩)] := by kernel_rfl
theorem ha126 : hasT prog 126 = true := by kernel_rfl
theorem sz127 : szOf prog 127 = 4 := by kernel_rfl
theorem by127 : byOf prog 127 = 40 := by kernel_rfl
theorem ze127 : zeroA prog 127 = [.sc (.pointer none),.sc (.pointer none),.sc (.pointer none),.sc (.string ⟨#[]⟩)] := by kernel_rfl
theorem zn127 : zeroN prog 127 = [.sc (.pointer none),.sc (.pointer none),.sc (.pointer none),.sc (.string ⟨#[]⟩)] := by kernel_rfl
theorem ha127 : hasT prog 127 = true := by kernel_rfl
theorem sz128 : szOf prog 128 = 0 := by kernel_rfl
theorem by128 : byOf prog 128 = 0 := by kernel_rfl
theorem ze128 : zeroA prog 128 = [] := by kernel_rfl
theorem zn128 : zeroN prog 128 = [] := by kernel_rfl
theorem ha128 : hasT prog 128 = true := by kernel_rfl
theorem sz129 : szOf prog 129 = 0 := by kernel_rfl
theorem by129 : byOf prog 129 = 0 := by kernel_rfl
theorem ze129 : zeroA prog 129 = [] := by kernel_rfl
theorem zn129 : zeroN prog 129 = [] := by kernel_rfl
theorem ha129 : hasT prog 129 = true := by kernel_rfl
theorem sz130 : szOf prog 130 = 0 := by kernel_rfl
theorem by130 : byOf prog 130 = 0 := by kernel_rfl
theorem ze130 : zeroA prog 130 = [] := by kernel_rfl
theorem zn130 : zeroN prog 130 = [] := by kernel_rfl
theorem ha130 : hasT prog 130 = true := by kernel_rfl
theorem sz131 : szOf prog 131 = 1 := by kernel_rfl
theorem by131 : byOf prog 131 = 4 := by kernel_rfl
theorem ze131 : zeroA prog 131 = [.sc (.int .u32 0)] := by kernel_rfl
theorem zn131 : zeroN prog 131 = [.sc (.int .u32 0)] := by kernel_rfl
theorem ha131 : hasT prog 131 = true := by kernel_rfl
theorem sz132 : szOf prog 132 = 1 := by kernel_rfl
theorem by132 : byOf prog 132 = 1 := by kernel_rfl
theorem ze132 : zeroA prog 132 = [.sc (.int .u8 0)] := by kernel_rfl
theorem zn132 : zeroN prog 132 = [.sc (.int .u8 0)] := by kernel_rfl
theorem ha132 : hasT prog 132 = true := by kernel_rfl
theorem sz133 : szOf prog 133 = 1 := by kernel_rfl
theorem by133 : byOf prog 133 = 1 := by kernel_rfl
theorem ze133 : zeroA prog 133 = [.sc (.int .u8 0)] := by kernel_rfl
theorem zn133 : zeroN prog 133 = [.sc (.int .u8 0)] := by kernel_rfl
theorem ha133 : hasT prog 133 = true := by kernel_rfl
theorem sz134 : szOf prog 134 = 1 := by kernel_rfl
theorem by134 : byOf prog 134 = 8 := by kernel_rfl
theorem ze134 : zeroA prog 134 = [.sc .nilFunc] := by kernel_rfl
theorem zn134 : zeroN prog 134 = [.sc .nilFunc] := by kernel_rfl
theorem ha134 : hasT prog 134 = true := by kernel_rfl
theorem sz135 : szOf prog 135 = 1 := by kernel_rfl
theorem by135 : byOf prog 135 = 8 := by kernel_rfl
theorem ze135 : zeroA prog 135 = [.sc (.pointer none)] := by kernel_rfl
theorem zn135 : zeroN prog 135 = [.sc (.pointer none)] := by kernel_rfl
theorem ha135 : hasT prog 135 = true := by kernel_rfl
theorem sz136 : szOf prog 136 = 1 := by kernel_rfl
theorem by136 : byOf prog 136 = 4 := by kernel_rfl
theorem ze136 : zeroA prog 136 = [.sc (.int .i32 0)] := by kernel_rfl
theorem zn136 : zeroN prog 136 = [.sc (.int .i32 0)] := by kernel_rfl
theorem ha136 : hasT prog 136 = true := by kernel_rfl
theorem sz137 : szOf prog 137 = 1 := by kernel_rfl
theorem by137 : byOf prog 137 = 4 := by kernel_rfl
theorem ze137 : zeroA prog 137 = [.sc (.int .i32 0)] := by kernel_rfl
theorem zn137 : zeroN prog 137 = [.sc (.int .i32 0)] := by kernel_rfl
theorem ha137 : hasT prog 137 = true := by kernel_rfl
theorem sz138 : szOf prog 138 = 11 := by kernel_rfl
theorem by138 : byOf prog 138 = 48 := by kernel_rfl
theorem ze138 : zeroA prog 138 = [.sc (.int .u64 0),.sc (.int .u64 0),.sc (.int .u32 0),.sc (.int .u8 0),.sc (.int .u8 0),.sc (.int .u8 0),.sc (.int .u8 0),.sc .nilFunc,.sc (.pointer none),.sc (.int .i32 0),.sc (.int .i32 0)] := by kernel_rfl
theorem zn138 : zeroN prog 138 = [.sc (.int .u64 0),.sc (.int .u64 0),.sc (.int .u32 0),.sc (.int .u8 0),.sc (.int .u8 0),.sc (.int .u8 0),.sc (.int .u8 0),.sc .nilFunc,.sc (.pointer none),.sc (.int .i32 0),.sc (.int .i32 0)] := by kernel_rfl
theorem ha138 : hasT prog 138 = true := by kernel_rfl
theorem sz139 : szOf prog 139 = 11 := by kernel_rfl
theorem by139 : byOf prog 139 = 48 := by kernel_rfl
theorem ze139 : zeroA prog 139 = [.sc (.int .u64 0),.sc (.int .u64 0),.sc (.int .u32 0),.sc (.int .u8 0),.sc (.int .u8 0),.sc (.int .u8 0),.sc (.int .u8 0),.sc .nilFunc,.sc (.pointer none),.sc (.int .i32 0),.sc (.int .i32 0)] := by kernel_rfl
theorem zn139 : zeroN prog 139 = [.sc (.int .u64 0),.sc (.int .u64 0),.sc (.int .u32 0),.sc (.int .u8 0),.sc (.int .u8 0),.sc (.int .u8 0),.sc (.int .u8 0),.sc .nilFunc,.sc (.pointer none),.sc (.int .i32 0),.sc (.int .i32 0)] := by kernel_rfl
theorem ha139 : hasT prog 139 = true := by kernel_rfl
theorem sz140 : szOf prog 140 = 1 := by kernel_rfl
theorem by140 : byOf prog 140 = 8 := by kernel_rfl
theorem ze140 : zeroA prog 140 = [.sc (.pointer none)] := by kernel_rfl
theorem zn140 : zeroN prog 140 = [.sc (.pointer none)] := by kernel_rfl
theorem ha140 : hasT prog 140 = true := by kernel_rfl
theorem eq7 (a1 b1 : Int) (a2 b2 : Int) (a3 b3 : Bool) (a4 b4 : Int) : eqG prog 6 7 (.agg [.sc (.int .i64 a1),.sc (.int .i64 a2),.sc (.bool a3),.sc (.int .u8 a4)]) (.agg [.sc (.int .i64 b1),.sc (.int .i64 b2),.sc (.bool b3),.sc (.int .u8 b4)]) = some ((a1 == b1) && ((a2 == b2) && ((a3 == b3) && ((a4 == b4) && true)))) := by kernel_rfl
theorem ck7 (x0 x1 x2 x3 : AV) : chkA prog 6 7 (.agg [x0,x1,x2,x3]) = true := by kernel_rfl
theorem eq8 (a1 b1 : Int) (a2 b2 : Int) (a3 b3 : Bool) (a4 b4 : Int) : eqG prog 6 8 (.agg [.sc (.int .i64 a1),.sc (.int .i64 a2),.sc (.bool a3),.sc (.int .u8 a4)]) (.agg [.sc (.int .i64 b1),.sc (.int .i64 b2),.sc (.bool b3),.sc (.int .u8 b4)]) = some ((a1 == b1) && ((a2 == b2) && ((a3 == b3) && ((a4 == b4) && true)))) := by kernel_rfl
theorem ck8 (x0 x1 x2 x3 : AV) : chkA prog 6 8 (.agg [x0,x1,x2,x3]) = true := by kernel_rfl
theorem eq26 (a1 b1 : Int) (a2 b2 : Int) : eqG prog 6 26 (.agg [.sc (.int .i64 a1),.sc (.int .i64 a2)]) (.agg [.sc (.int .i64 b1),.sc (.int .i64 b2)]) = some ((a1 == b1) && ((a2 == b2) && true)) := by kernel_rfl
theorem ck26 (x0 x1 : AV) : chkA prog 6 26 (.agg [x0,x1]) = true := by kernel_rfl
theorem eq27 (a1 b1 : Int) (a2 b2 : Int) : eqG prog 6 27 (.agg [.sc (.int .i64 a1),.sc (.int .i64 a2)]) (.agg [.sc (.int .i64 b1),.sc (.int .i64 b2)]) = some ((a1 == b1) && ((a2 == b2) && true)) := by kernel_rfl
theorem ck27 (x0 x1 : AV) : chkA prog 6 27 (.agg [x0,x1]) = true := by kernel_rfl
theorem eq28 (a1 b1 : Int) (a2 b2 : Int) (a3 b3 : Bool) : eqG prog 6 28 (.agg [.sc (.int .i64 a1),.sc (.int .i64 a2),.sc (.bool a3)]) (.agg [.sc (.int .i64 b1),.sc (.int .i64 b2),.sc (.bool b3)]) = some (((a1 == b1) && ((a2 == b2) && true)) && ((a3 == b3) && true)) := by kernel_rfl
theorem ck28 (x0 x1 x2 : AV) : chkA prog 6 28 (.agg [x0,x1,x2]) = true := by kernel_rfl
theorem eq29 (a1 b1 : Int) (a2 b2 : Int) (a3 b3 : Bool) : eqG prog 6 29 (.agg [.sc (.int .i64 a1),.sc (.int .i64 a2),.sc (.bool a3)]) (.agg [.sc (.int .i64 b1),.sc (.int .i64 b2),.sc (.bool b3)]) = some (((a1 == b1) && ((a2 == b2) && true)) && ((a3 == b3) && true)) := by kernel_rfl
theorem ck29 (x0 x1 x2 : AV) : chkA prog 6 29 (.agg [x0,x1,x2]) = true := by kernel_rfl
theorem eq30 (a1 b1 : Int) (a2 b2 : Int) (a3 b3 : Int) (a4 b4 : Int) (a5 b5 : Bool) (a6 b6 : Int) (a7 b7 : Int) (a8 b8 : Bool) (a9 b9 : Int) (a10 b10 : Int) : eqG prog 6 30 (.agg [.sc (.int .i64 a1),.sc (.int .i64 a2),.sc (.int .i64 a3),.sc (.int .i64 a4),.sc (.bool a5),.sc (.int .i64 a6),.sc (.int .i64 a7),.sc (.bool a8),.sc (.int .i64 a9),.sc (.int .i64 a10)]) (.agg [.sc (.int .i64 b1),.sc (.int .i64 b2),.sc (.int .i64 b3),.sc (.int .i64 b4),.sc (.bool b5),.sc (.int .i64 b6),.sc (.int .i64 b7),.sc (.bool b8),.sc (.int .i64 b9),.sc (.int .i64 b10)]) = some ((a1 == b1) && ((a2 == b2) && ((((a3 == b3) && ((a4 == b4) && true)) && ((a5 == b5) && true)) && ((((a6 == b6) && ((a7 == b7) && true)) && ((a8 == b8) && true)) && ((a9 == b9) && ((a10 == b10) && true)))))) := by kernel_rfl
theorem ck30 (x0 x1 x2 x3 x4 x5 x6 x7 x8 x9 : AV) : chkA prog 6 30 (.agg [x0,x1,x2,x3,x4,x5,x6,x7,x8,x9]) = true := by kernel_rfl
theorem eq31 (a1 b1 : Int) (a2 b2 : Int) (a3 b3 : Int) (a4 b4 : Int) (a5 b5 : Bool) (a6 b6 : Int) (a7 b7 : Int) (a8 b8 : Bool) (a9 b9 : Int) (a10 b10 : Int) : eqG prog 6 31 (.agg [.sc (.int .i64 a1),.sc (.int .i64 a2),.sc (.int .i64 a3),.sc (.int .i64 a4),.sc (.bool a5),.sc (.int .i64 a6),.sc (.int .i64 a7),.sc (.bool a8),.sc (.int .i64 a9),.sc (.int .i64 a10)]) (.agg [.sc (.int .i64 b1),.sc (.int .i64 b2),.sc (.int .i64 b3),.sc (.int .i64 b4),.sc (.bool b5),.sc (.int .i64 b6),.sc (.int .i64 b7),.sc (.bool b8),.sc (.int .i64 b9),.sc (.int .i64 b10)]) = some ((a1 == b1) && ((a2 == b2) && ((((a3 == b3) && ((a4 == b4) && true)) && ((a5 == b5) && true)) && ((((a6 == b6) && ((a7 == b7) && true)) && ((a8 == b8) && true)) && ((a9 == b9) && ((a10 == b10) && true)))))) := by kernel_rfl
theorem ck31 (x0 x1 x2 x3 x4 x5 x6 x7 x8 x9 : AV) : chkA prog 6 31 (.agg [x0,x1,x2,x3,x4,x5,x6,x7,x8,x9]) = true := by kernel_rfl
theorem eq54 (a1 b1 : Int) (a2 b2 : Int) (a3 b3 : Int) (a4 b4 : Int) (a5 b5 : Int) : eqG prog 6 54 (.agg [.sc (.int .i64 a1),.sc (.int .i64 a2),.sc (.int .i64 a3),.sc (.int .i64 a4),.sc (.int .i64 a5)]) (.agg [.sc (.int .i64 b1),.sc (.int .i64 b2),.sc (.int .i64 b3),.sc (.int .i64 b4),.sc (.int .i64 b5)]) = some ((a1 == b1) && ((a2 == b2) && ((a3 == b3) && ((a4 == b4) && ((a5 == b5) && true))))) := by kernel_rfl
theorem ck54 (x0 x1 x2 x3 x4 : AV) : chkA prog 6 54 (.agg [x0,x1,x2,x3,x4]) = true := by kernel_rfl
theorem eq55 (a1 b1 : Int) (a2 b2 : Int) (a3 b3 : Int) (a4 b4 : Int) (a5 b5 : Int) : eqG prog 6 55 (.agg [.sc (.int .i64 a1),.sc (.int .i64 a2),.sc (.int .i64 a3),.sc (.int .i64 a4),.sc (.int .i64 a5)]) (.agg [.sc (.int .i64 b1),.sc (.int .i64 b2),.sc (.int .i64 b3),.sc (.int .i64 b4),.sc (.int .i64 b5)]) = some ((a1 == b1) && ((a2 == b2) && ((a3 == b3) && ((a4 == b4) && ((a5 == b5) && true))))) := by kernel_rfl
theorem ck55 (x0 x1 x2 x3 x4 : AV) : chkA prog 6 55 (.agg [x0,x1,x2,x3,x4]) = true := by kernel_rfl
theorem eq74 (a1 b1 : Int) (a2 b2 : Int) (a3 b3 : Int) (a4 b4 : Int) (a5 b5 : Bool) (a6 b6 : Int) : eqG prog 6 74 (.agg [.sc (.int .i64 a1),.sc (.int .i64 a2),.sc (.int .i64 a3),.sc (.int .i64 a4),.sc (.bool a5),.sc (.int .i32 a6)]) (.agg [.sc (.int .i64 b1),.sc (.int .i64 b2),.sc (.int .i64 b3),.sc (.int .i64 b4),.sc (.bool b5),.sc (.int .i32 b6)]) = some (((a1 == b1) && ((a2 == b2) && true)) && (((a3 == b3) && ((a4 == b4) && true)) && ((a5 == b5) && ((a6 == b6) && true)))) := by kernel_rfl
theorem ck74 (x0 x1 x2 x3 x4 x5 : AV) : chkA prog 6 74 (.agg [x0,x1,x2,x3,x4,x5]) = true := by kernel_rfl
theorem eq75 (a1 b1 : Int) (a2 b2 : Int) (a3 b3 : Int) (a4 b4 : Int) (a5 b5 : Bool) (a6 b6 : Int) : eqG prog 6 75 (.agg [.sc (.int .i64 a1),.sc (.int .i64 a2),.sc (.int .i64 a3),.sc (.int .i64 a4),.sc (.bool a5),.sc (.int .i32 a6)]) (.agg [.sc (.int .i64 b1),.sc (.int .i64 b2),.sc (.int .i64 b3),.sc (.int .i64 b4),.sc (.bool b5),.sc (.int .i32 b6)]) = some (((a1 == b1) && ((a2 == b2) && true)) && (((a3 == b3) && ((a4 == b4) && true)) && ((a5 == b5) && ((a6 == b6) && true)))) := by kernel_rfl
theorem ck75 (x0 x1 x2 x3 x4 x5 : AV) : chkA prog 6 75 (.agg [x0,x1,x2,x3,x4,x5]) = true := by kernel_rfl
theorem eq77 (a1 b1 : Int) (a2 b2 : Int) (a3 b3 : Int) (a4 b4 : Bool) : eqG prog 6 77 (.agg [.sc (.int .i64 a1),.sc (.int .i64 a2),.sc (.int .i32 a3),.sc (.bool a4)]) (.agg [.sc (.int .i64 b1),.sc (.int .i64 b2),.sc (.int .i32 b3),.sc (.bool b4)]) = some (((a1 == b1) && ((a2 == b2) && true)) && ((a3 == b3) && ((a4 == b4) && true))) := by kernel_rfl
theorem ck77 (x0 x1 x2 x3 : AV) : chkA prog 6 77 (.agg [x0,x1,x2,x3]) = true := by kernel_rfl
theorem eq78 (a1 b1 : Int) (a2 b2 : Int) (a3 b3 : Int) (a4 b4 : Bool) : eqG prog 6 78 (.agg [.sc (.int .i64 a1),.sc (.int .i64 a2),.sc (.int .i32 a3),.sc (.bool a4)]) (.agg [.sc (.int .i64 b1),.sc (.int .i64 b2),.sc (.int .i32 b3),.sc (.bool b4)]) = some (((a1 == b1) && ((a2 == b2) && true)) && ((a3 == b3) && ((a4 == b4) && true))) := by kernel_rfl
theorem ck78 (x0 x1 x2 x3 : AV) : chkA prog 6 78 (.agg [x0,x1,x2,x3]) = true := by kernel_rfl
theorem eq117 (a1 b1 : Int) (a2 b2 : Int) (a3 b3 : Int) (a4 b4 : Int) : eqG prog 6 117 (.agg [.sc (.int .i64 a1),.sc (.int .i64 a2),.sc (.int .i64 a3),.sc (.int .i64 a4)]) (.agg [.sc (.int .i64 b1),.sc (.int .i64 b2),.sc (.int .i64 b3),.sc (.int .i64 b4)]) = some (((a1 == b1) && ((a2 == b2) && true)) && ((a3 == b3) && ((a4 == b4) && true))) := by kernel_rfl
theorem ck117 (x0 x1 x2 x3 : AV) : chkA prog 6 117 (.agg [x0,x1,x2,x3]) = true := by kernel_rfl
theorem eq118 (a1 b1 : Int) (a2 b2 : Int) (a3 b3 : Int) (a4 b4 : Int) : eqG prog 6 118 (.agg [.sc (.int .i64 a1),.sc (.int .i64 a2),.sc (.int .i64 a3),.sc (.int .i64 a4)]) (.agg [.sc (.int .i64 b1),.sc (.int .i64 b2),.sc (.int .i64 b3),.sc (.int .i64 b4)]) = some (((a1 == b1) && ((a2 == b2) && true)) && ((a3 == b3) && ((a4 == b4) && true))) := by kernel_rfl
theorem ck118 (x0 x1 x2 x3 : AV) : chkA prog 6 118 (.agg [x0,x1,x2,x3]) = true := by kernel_rfl
theorem zv1 : zeroV prog 1 = .sc .nilFunc := by kernel_rfl
theorem zv2 : zeroV prog 2 = .sc (.int .i64 0) := by kernel_rfl
theorem zv3 : zeroV prog 3 = .sc (.int .i64 0) := by kernel_rfl
theorem zv4 : zeroV prog 4 = .sc (.bool false) := by kernel_rfl
theorem zv5 : zeroV prog 5 = .sc (.int .u8 0) := by kernel_rfl
theorem zv6 : zeroV prog 6 = .sc (.int .u8 0) := by kernel_rfl
theorem zv7 : zeroV prog 7 = .agg [.sc (.int .i64 0),.sc (.int .i64 0),.sc (.bool false),.sc (.int .u8 0)] := by kernel_rfl
theorem zv8 : zeroV prog 8 = .agg [.sc (.int .i64 0),.sc (.int .i64 0),.sc (.bool false),.sc (.int .u8 0)] := by kernel_rfl
theorem zv9 : zeroV prog 9 = .sc (.string ⟨#[]⟩) := by kernel_rfl
theorem zv10 : zeroV prog 10 = .sc (.string ⟨#[]⟩) := by kernel_rfl
theorem zv11 : zeroV prog 11 = .sc (.string ⟨#[]⟩) := by kernel_rfl
theorem zv12 : zeroV prog 12 = .sc (.int .u64 0) := by kernel_rfl
theorem zv13 : zeroV prog 13 = .agg [.sc (.string ⟨#[]⟩),.sc (.int .u64 0)] := by kernel_rfl
theorem zv14 : zeroV prog 14 = .agg [.sc (.string ⟨#[]⟩),.sc (.int .u64 0)] := by kernel_rfl
theorem zv15 : zeroV prog 15 = .sc (.pointer none) := by kernel_rfl
theorem zv16 : zeroV prog 16 = .sc (.pointer none) := by kernel_rfl
theorem zv17 : zeroV prog 17 = .sc (.pointer none) := by kernel_rfl
theorem zv18 : zeroV prog 18 = .agg [.sc (.pointer none)] := by kernel_rfl
theorem zv19 : zeroV prog 19 = .agg [.sc (.pointer none)] := by kernel_rfl
theorem zv20 : zeroV prog 20 = .sc .nilIface := by kernel_rfl
theorem zv21 : zeroV prog 21 = .sc (.int .i32 0) := by kernel_rfl
theorem zv22 : zeroV prog 22 = .sc (.slice none 0 0) := by kernel_rfl
theorem zv23 : zeroV prog 23 = .sc .nilFunc := by kernel_rfl
theorem zv24 : zeroV prog 24 = .sc (.pointer none) := by kernel_rfl
theorem zv25 : zeroV prog 25 = .sc .nilFunc := by kernel_rfl
theorem zv26 : zeroV prog 26 = .agg [.sc (.int .i64 0),.sc (.int .i64 0)] := by kernel_rfl
theorem zv27 : zeroV prog 27 = .agg [.sc (.int .i64 0),.sc (.int .i64 0)] := by kernel_rfl
theorem zv28 : zeroV prog 28 = .agg [.sc (.int .i64 0),.sc (.int .i64 0),.sc (.bool false)] := by kernel_rfl
theorem zv29 : zeroV prog 29 = .agg [.sc (.int .i64 0),.sc (.int .i64 0),.sc (.bool false)] := by kernel_rfl
theorem zv30 : zeroV prog 30 = .agg [.sc (.int .i64 0),.sc (.int .i64 0),.sc (.int .i64 0),.sc (.int .i64 0),.sc (.bool false),.sc (.int .i64 0),.sc (.int .i64 0),.sc (.bool false),.sc (.int .i64 0),.sc (.int .i64 0)] := by kernel_rfl
theorem zv31 : zeroV prog 31 = .agg [.sc (.int .i64 0),.sc (.int .i64 0),.sc (.int .i64 0),.sc (.int .i64 0),.sc (.bool false),.sc (.int .i64 0),.sc (.int .i64 0),.sc (.bool false),.sc (.int .i64 0),.sc (.int .i64 0)] := by kernel_rfl
theorem zv32 : zeroV prog 32 = .sc (.int .i64 0) := by kernel_rfl
theorem zv34 : zeroV prog 34 = .sc .nilFunc := by kernel_rfl
theorem zv35 : zeroV prog 35 = .sc .nilFunc := by kernel_rfl
theorem zv36 : zeroV prog 36 = .sc .nilFunc := by kernel_rfl
theorem zv37 : zeroV prog 37 = .sc .nilFunc := by kernel_rfl
theorem zv38 : zeroV prog 38 = .sc .nilFunc := by kernel_rfl
theorem zv39 : zeroV prog 39 = .sc .nilFunc := by kernel_rfl
theorem zv40 : zeroV prog 40 = .sc .nilFunc := by kernel_rfl
theorem zv41 : zeroV prog 41 = .sc .nilFunc := by kernel_rfl
theorem zv42 : zeroV prog 42 = .sc (.slice none 0 0) := by kernel_rfl
theorem zv43 : zeroV prog 43 = .sc (.slice none 0 0) := by kernel_rfl
theorem zv44 : zeroV prog 44 = .agg [.sc (.slice none 0 0),.sc (.slice none 0 0),.sc (.slice none 0 0)] := by kernel_rfl
theorem zv45 : zeroV prog 45 = .agg [.sc (.slice none 0 0),.sc (.slice none 0 0),.sc (.slice none 0 0)] := by kernel_rfl
theorem zv46 : zeroV prog 46 = .sc (.pointer none) := by kernel_rfl
theorem zv47 : zeroV prog 47 = .sc (.slice none 0 0) := by kernel_rfl
theorem zv49 : zeroV prog 49 = .sc .nilFunc := by kernel_rfl
theorem zv51 : zeroV prog 51 = .sc .nilFunc := by kernel_rfl
theorem zv52 : zeroV prog 52 = .sc (.slice none 0 0) := by kernel_rfl
theorem zv53 : zeroV prog 53 = .sc .nilFunc := by kernel_rfl
theorem zv54 : zeroV prog 54 = .agg [.sc (.int .i64 0),.sc (.int .i64 0),.sc (.int .i64 0),.sc (.int .i64 0),.sc (.int .i64 0)] := by kernel_rfl
theorem zv55 : zeroV prog 55 = .agg [.sc (.int .i64 0),.sc (.int .i64 0),.sc (.int .i64 0),.sc (.int .i64 0),.sc (.int .i64 0)] := by kernel_rfl
theorem zv56 : zeroV prog 56 = .sc .nilFunc := by kernel_rfl
theorem zv57 : zeroV prog 57 = .sc .nilFunc := by kernel_rfl
theorem zv58 : zeroV prog 58 = .sc .nilFunc := by kernel_rfl
theorem zv59 : zeroV prog 59 = .sc (.slice none 0 0) := by kernel_rfl
theorem zv60 : zeroV prog 60 = .sc .nilFunc := by kernel_rfl
theorem zv61 : zeroV prog 61 = .sc .nilFunc := by kernel_rfl
theorem zv62 : zeroV prog 62 = .sc (.slice none 0 0) := by kernel_rfl
theorem zv63 : zeroV prog 63 = .sc (.int .u64 0) := by kernel_rfl
theorem zv64 : zeroV prog 64 = .sc .nilFunc := by kernel_rfl
theorem zv65 : zeroV prog 65 = .agg [.sc (.string ⟨#[]⟩),.sc (.int .i64 0),.sc (.int .i64 0),.sc (.int .i64 0),.sc (.int .i64 0),.sc (.int .i64 0)] := by kernel_rfl
theorem zv66 : zeroV prog 66 = .agg [.sc (.string ⟨#[]⟩),.sc (.int .i64 0),.sc (.int .i64 0),.sc (.int .i64 0),.sc (.int .i64 0),.sc (.int .i64 0)] := by kernel_rfl
theorem zv67 : zeroV prog 67 = .sc .nilFunc := by kernel_rfl
theorem zv68 : zeroV prog 68 = .sc .nilFunc := by kernel_rfl
theorem zv70 : zeroV prog 70 = .sc .nilFunc := by kernel_rfl
theorem zv72 : zeroV prog 72 = .sc .nilFunc := by kernel_rfl
theorem zv73 : zeroV prog 73 = .sc .nilFunc := by kernel_rfl
theorem zv74 : zeroV prog 74 = .agg [.sc (.int .i64 0),.sc (.int .i64 0),.sc (.int .i64 0),.sc (.int .i64 0),.sc (.bool false),.sc (.int .i32 0)] := by kernel_rfl
theorem zv75 : zeroV prog 75 = .agg [.sc (.int .i64 0),.sc (.int .i64 0),.sc (.int .i64 0),.sc (.int .i64 0),.sc (.bool false),.sc (.int .i32 0)] := by kernel_rfl
theorem zv76 : zeroV prog 76 = .sc .nilFunc := by kernel_rfl
theorem zv77 : zeroV prog 77 = .agg [.sc (.int .i64 0),.sc (.int .i64 0),.sc (.int .i32 0),.sc (.bool false)] := by kernel_rfl
theorem zv78 : zeroV prog 78 = .agg [.sc (.int .i64 0),.sc (.int .i64 0),.sc (.int .i32 0),.sc (.bool false)] := by kernel_rfl
theorem zv79 : zeroV prog 79 = .sc .nilFunc := by kernel_rfl
theorem zv80 : zeroV prog 80 = .sc .nilFunc := by kernel_rfl
theorem zv81 : zeroV prog 81 = .agg [.sc (.slice none 0 0)] := by kernel_rfl
theorem zv82 : zeroV prog 82 = .agg [.sc (.slice none 0 0)] := by kernel_rfl
theorem zv83 : zeroV prog 83 = .sc .nilFunc := by kernel_rfl
theorem zv84 : zeroV prog 84 = .sc .nilFunc := by kernel_rfl
theorem zv86 : zeroV prog 86 = .sc .nilFunc := by kernel_rfl
theorem zv87 : zeroV prog 87 = .sc .nilFunc := by kernel_rfl
theorem zv88 : zeroV prog 88 = .sc .nilFunc := by kernel_rfl
theorem zv89 : zeroV prog 89 = .agg [.sc (.slice none 0 0),.sc (.slice none 0 0)] := by kernel_rfl
theorem zv90 : zeroV prog 90 = .agg [.sc (.slice none 0 0),.sc (.slice none 0 0)] := by kernel_rfl
theorem zv92 : zeroV prog 92 = .sc .nilFunc := by kernel_rfl
theorem zv93 : zeroV prog 93 = .sc .nilFunc := by kernel_rfl
theorem zv94 : zeroV prog 94 = .sc .nilFunc := by kernel_rfl
theorem zv95 : zeroV prog 95 = .sc (.map none) := by kernel_rfl
theorem zv96 : zeroV prog 96 = .sc .nilFunc := by kernel_rfl
theorem zv97 : zeroV prog 97 = .sc .nilFunc := by kernel_rfl
theorem zv98 : zeroV prog 98 = .sc .nilFunc := by kernel_rfl
theorem zv99 : zeroV prog 99 = .sc .nilFunc := by kernel_rfl
theorem zv100 : zeroV prog 100 = .sc .nilFunc := by kernel_rfl
theorem zv101 : zeroV prog 101 = .sc (.slice none 0 0) := by kernel_rfl
theorem zv102 : zeroV prog 102 = .sc (.map none) := by kernel_rfl
theorem zv103 : zeroV prog 103 = .agg [.sc (.map none),.sc (.int .i64 0)] := by kernel_rfl
theorem zv104 : zeroV prog 104 = .agg [.sc (.map none),.sc (.int .i64 0)] := by kernel_rfl
theorem zv105 : zeroV prog 105 = .agg [.sc (.slice none 0 0),.sc (.slice none 0 0)] := by kernel_rfl
theorem zv106 : zeroV prog 106 = .agg [.sc (.int .i64 0),.sc (.int .i64 0),.sc (.int .i32 0),.sc (.bool false),.sc (.slice none 0 0),.sc (.slice none 0 0)] := by kernel_rfl
theorem zv107 : zeroV prog 107 = .agg [.sc (.int .i64 0),.sc (.int .i64 0),.sc (.int .i32 0),.sc (.bool false),.sc (.slice none 0 0),.sc (.slice none 0 0)] := by kernel_rfl
theorem zv108 : zeroV prog 108 = .sc .nilFunc := by kernel_rfl
theorem zv110 : zeroV prog 110 = .sc .nilFunc := by kernel_rfl
theorem zv111 : zeroV prog 111 = .sc .nilFunc := by kernel_rfl
theorem zv112 : zeroV prog 112 = .sc .nilFunc := by kernel_rfl
theorem zv113 : zeroV prog 113 = .sc .nilFunc := by kernel_rfl
theorem zv114 : zeroV prog 114 = .sc .nilFunc := by kernel_rfl
theorem zv115 : zeroV prog 115 = .sc .nilFunc := by kernel_rfl
theorem zv116 : zeroV prog 116 = .sc .nilFunc := by kernel_rfl
theorem zv117 : zeroV prog 117 = .agg [.sc (.int .i64 0),.sc (.int .i64 0),.sc (.int .i64 0),.sc (.int .i64 0)] := by kernel_rfl
theorem zv118 : zeroV prog 118 = .agg [.sc (.int .i64 0),.sc (.int .i64 0),.sc (.int .i64 0),.sc (.int .i64 0)] := by kernel_rfl
theorem zv119 : zeroV prog 119 = .sc (.slice none 0 0) := by kernel_rfl
theorem zv120 : zeroV prog 120 = .sc .nilFunc := by kernel_rfl
theorem zv121 : zeroV prog 121 = .sc .nilFunc := by kernel_rfl
theorem zv122 : zeroV prog 122 = .sc .nilFunc := by kernel_rfl
theorem zv123 : zeroV prog 123 = .sc .nilFunc := by kernel_rfl
theorem zv124 : zeroV prog 124 = .sc .nilFunc := by kernel_rfl
theorem zv125 : zeroV prog 125 = .sc .nilFunc := by kernel_rfl
theorem zv126 : zeroV prog 126 = .agg [.sc (.pointer none),.sc (.pointer none),.sc (.pointer none),.sc (.string ⟨#[]⟩)] := by kernel_rfl
theorem zv127 : zeroV prog 127 = .agg [.sc (.pointer none),.sc (.pointer none),.sc (.pointer none),.sc (.string ⟨#[]⟩)] := by kernel_rfl
theorem zv131 : zeroV prog 131 = .sc (.int .u32 0) := by kernel_rfl
theorem zv132 : zeroV prog 132 = .sc (.int .u8 0) := by kernel_rfl
theorem zv133 : zeroV prog 133 = .sc (.int .u8 0) := by kernel_rfl
theorem zv134 : zeroV prog 134 = .sc .nilFunc := by kernel_rfl
theorem zv135 : zeroV prog 135 = .sc (.pointer none) := by kernel_rfl
theorem zv136 : zeroV prog 136 = .sc (.int .i32 0) := by kernel_rfl
theorem zv137 : zeroV prog 137 = .sc (.int .i32 0) := by kernel_rfl
theorem zv138 : zeroV prog 138 = .agg [.sc (.int .u64 0),.sc (.int .u64 0),.sc (.int .u32 0),.sc (.int .u8 0),.sc (.int .u8 0),.sc (.int .u8 0),.sc (.int .u8 0),.sc .nilFunc,.sc (.pointer none),.sc (.int .i32 0),.sc (.int .i32 0)] := by kernel_rfl
theorem zv139 : zeroV prog 139 = .agg [.sc (.int .u64 0),.sc (.int .u64 0),.sc (.int .u32 0),.sc (.int .u8 0),.sc (.int .u8 0),.sc (.int .u8 0),.sc (.int .u8 0),.sc .nilFunc,.sc (.pointer none),.sc (.int .i32 0),.sc (.int .i32 0)] := by kernel_rfl
theorem zv140 : zeroV prog 140 = .sc (.pointer none) := by kernel_rfl
theorem eo1 : eqOk prog 1 = true := by kernel_rfl
theorem eo4 : eqOk prog 4 = true := by kernel_rfl
theorem eo7 : eqOk prog 7 = true := by kernel_rfl
theorem eo8 : eqOk prog 8 = true := by kernel_rfl
theorem eo13 : eqOk prog 13 = true := by kernel_rfl
theorem eo14 : eqOk prog 14 = true := by kernel_rfl
theorem eo15 : eqOk prog 15 = true := by kernel_rfl
theorem eo16 : eqOk prog 16 = true := by kernel_rfl
theorem eo17 : eqOk prog 17 = true := by kernel_rfl
theorem eo23 : eqOk prog 23 = true := by kernel_rfl
theorem eo24 : eqOk prog 24 = true := by kernel_rfl
theorem eo25 : eqOk prog 25 = true := by kernel_rfl
theorem eo26 : eqOk prog 26 = true := by kernel_rfl
theorem eo27 : eqOk prog 27 = true := by kernel_rfl
theorem eo28 : eqOk prog 28 = true := by kernel_rfl
theorem eo29 : eqOk prog 29 = true := by kernel_rfl
theorem eo30 : eqOk prog 30 = true := by kernel_rfl
theorem eo31 : eqOk prog 31 = true := by kernel_rfl
theorem eo34 : eqOk prog 34 = true := by kernel_rfl
theorem eo35 : eqOk prog 35 = true := by kernel_rfl
theorem eo36 : eqOk prog 36 = true := by kernel_rfl
theorem eo37 : eqOk prog 37 = true := by kernel_rfl
theorem eo38 : eqOk prog 38 = true := by kernel_rfl
theorem eo39 : eqOk prog 39 = true := by kernel_rfl
theorem eo40 : eqOk prog 40 = true := by kernel_rfl
theorem eo41 : eqOk prog 41 = true := by kernel_rfl
theorem eo46 : eqOk prog 46 = true := by kernel_rfl
theorem eo49 : eqOk prog 49 = true := by kernel_rfl
theorem eo51 : eqOk prog 51 = true := by kernel_rfl
theorem eo53 : eqOk prog 53 = true := by kernel_rfl
theorem eo54 : eqOk prog 54 = true := by kernel_rfl
theorem eo55 : eqOk prog 55 = true := by kernel_rfl
theorem eo56 : eqOk prog 56 = true := by kernel_rfl
theorem eo57 : eqOk prog 57 = true := by kernel_rfl
theorem eo58 : eqOk prog 58 = true := by kernel_rfl
theorem eo60 : eqOk prog 60 = true := by kernel_rfl
theorem eo61 : eqOk prog 61 = true := by kernel_rfl
theorem eo64 : eqOk prog 64 = true := by kernel_rfl
theorem eo65 : eqOk prog 65 = true := by kernel_rfl
theorem eo66 : eqOk prog 66 = true := by kernel_rfl
theorem eo67 : eqOk prog 67 = true := by kernel_rfl
theorem eo68 : eqOk prog 68 = true := by kernel_rfl
theorem eo70 : eqOk prog 70 = true := by kernel_rfl
theorem eo72 : eqOk prog 72 = true := by kernel_rfl
theorem eo73 : eqOk prog 73 = true := by kernel_rfl
theorem eo74 : eqOk prog 74 = true := by kernel_rfl
theorem eo75 : eqOk prog 75 = true := by kernel_rfl
theorem eo76 : eqOk prog 76 = true := by kernel_rfl
theorem eo77 : eqOk prog 77 = true := by kernel_rfl
theorem eo78 : eqOk prog 78 = true := by kernel_rfl
theorem eo79 : eqOk prog 79 = true := by kernel_rfl
theorem eo80 : eqOk prog 80 = true := by kernel_rfl
theorem eo83 : eqOk prog 83 = true := by kernel_rfl
theorem eo84 : eqOk prog 84 = true := by kernel_rfl
theorem eo86 : eqOk prog 86 = true := by kernel_rfl
theorem eo87 : eqOk prog 87 = true := by kernel_rfl
theorem eo88 : eqOk prog 88 = true := by kernel_rfl
theorem eo92 : eqOk prog 92 = true := by kernel_rfl
theorem eo93 : eqOk prog 93 = true := by kernel_rfl
theorem eo94 : eqOk prog 94 = true := by kernel_rfl
theorem eo95 : eqOk prog 95 = true := by kernel_rfl
theorem eo96 : eqOk prog 96 = true := by kernel_rfl
theorem eo97 : eqOk prog 97 = true := by kernel_rfl
theorem eo98 : eqOk prog 98 = true := by kernel_rfl
theorem eo99 : eqOk prog 99 = true := by kernel_rfl
theorem eo100 : eqOk prog 100 = true := by kernel_rfl
theorem eo102 : eqOk prog 102 = true := by kernel_rfl
theorem eo108 : eqOk prog 108 = true := by kernel_rfl
theorem eo110 : eqOk prog 110 = true := by kernel_rfl
theorem eo111 : eqOk prog 111 = true := by kernel_rfl
theorem eo112 : eqOk prog 112 = true := by kernel_rfl
theorem eo113 : eqOk prog 113 = true := by kernel_rfl
theorem eo114 : eqOk prog 114 = true := by kernel_rfl
theorem eo115 : eqOk prog 115 = true := by kernel_rfl
theorem eo116 : eqOk prog 116 = true := by kernel_rfl
theorem eo117 : eqOk prog 117 = true := by kernel_rfl
theorem eo118 : eqOk prog 118 = true := by kernel_rfl
theorem eo120 : eqOk prog 120 = true := by kernel_rfl
theorem eo121 : eqOk prog 121 = true := by kernel_rfl
theorem eo122 : eqOk prog 122 = true := by kernel_rfl
theorem eo123 : eqOk prog 123 = true := by kernel_rfl
theorem eo124 : eqOk prog 124 = true := by kernel_rfl
theorem eo125 : eqOk prog 125 = true := by kernel_rfl
theorem eo134 : eqOk prog 134 = true := by kernel_rfl
theorem eo135 : eqOk prog 135 = true := by kernel_rfl
theorem strTy : strTy prog = some 9 := by kernel_rfl
theorem z8_5 : zeOf prog 5 = .int .u8 0 := by kernel_rfl
theorem z8_6 : zeOf prog 6 = .int .u8 0 := by kernel_rfl
theorem z8_132 : zeOf prog 132 = .int .u8 0 := by kernel_rfl
theorem z8_133 : zeOf prog 133 = .int .u8 0 := by kernel_rfl
theorem ca3 : callable prog 3 = true := by kernel_rfl
theorem ca4 : callable prog 4 = true := by kernel_rfl
theorem ca5 : callable prog 5 = true := by kernel_rfl
theorem ca6 : callable prog 6 = true := by kernel_rfl
theorem ca7 : callable prog 7 = true := by kernel_rfl
theorem ca8 : callable prog 8 = true := by kernel_rfl
theorem ca9 : callable prog 9 = true := by kernel_rfl
theorem ca10 : callable prog 10 = true := by kernel_rfl
theorem ca11 : callable prog 11 = true := by kernel_rfl
theorem ca12 : callable prog 12 = true := by kernel_rfl
theorem ca13 : callable prog 13 = true := by kernel_rfl
theorem ca14 : callable prog 14 = true := by kernel_rfl
theorem ca15 : callable prog 15 = true := by kernel_rfl
theorem ca16 : callable prog 16 = true := by kernel_rfl
theorem ca17 : callable prog 17 = true := by kernel_rfl
theorem ca18 : callable prog 18 = true := by kernel_rfl
theorem ca19 : callable prog 19 = true := by kernel_rfl
theorem ca20 : callable prog 20 = true := by kernel_rfl
theorem ca21 : callable prog 21 = true := by kernel_rfl
theorem ca22 : callable prog 22 = true := by kernel_rfl
theorem ca23 : callable prog 23 = true := by kernel_rfl
theorem ca24 : callable prog 24 = true := by kernel_rfl
theorem ca25 : callable prog 25 = true := by kernel_rfl
theorem ca26 : callable prog 26 = true := by kernel_rfl
theorem ca27 : callable prog 27 = true := by kernel_rfl
theorem ca28 : callable prog 28 = true := by kernel_rfl
theorem ca29 : callable prog 29 = true := by kernel_rfl
theorem ca30 : callable prog 30 = true := by kernel_rfl
theorem ca31 : callable prog 31 = true := by kernel_rfl
theorem ca32 : callable prog 32 = true := by kernel_rfl
theorem ca33 : callable prog 33 = true := by kernel_rfl
theorem ca34 : callable prog 34 = true := by kernel_rfl
theorem ca35 : callable prog 35 = true := by kernel_rfl
theorem ca36 : callable prog 36 = true := by kernel_rfl
theorem ca37 : callable prog 37 = true := by kernel_rfl
theorem ca38 : callable prog 38 = true := by kernel_rfl
theorem ca39 : callable prog 39 = true := by kernel_rfl
theorem ca40 : callable prog 40 = true := by kernel_rfl
theorem ca41 : callable prog 41 = true := by kernel_rfl
theorem ca42 : callable prog 42 = true := by kernel_rfl
theorem ca43 : callable prog 43 = true := by kernel_rfl
theorem ca44 : callable prog 44 = true := by kernel_rfl
theorem ca45 : callable prog 45 = true := by kernel_rfl
theorem ca46 : callable prog 46 = true := by kernel_rfl
theorem ca47 : callable prog 47 = true := by kernel_rfl
theorem ca48 : callable prog 48 = true := by kernel_rfl
theorem ca49 : callable prog 49 = true := by kernel_rfl
theorem ca50 : callable prog 50 = true := by kernel_rfl
theorem ca51 : callable prog 51 = true := by kernel_rfl
theorem ca52 : callable prog 52 = true := by kernel_rfl
theorem ca53 : callable prog 53 = true := by kernel_rfl
theorem ca54 : callable prog 54 = true := by kernel_rfl
theorem ca55 : callable prog 55 = true := by kernel_rfl
theorem ca57 : callable prog 57 = true := by kernel_rfl
theorem ca58 : callable prog 58 = true := by kernel_rfl
theorem ca59 : callable prog 59 = true := by kernel_rfl
theorem ca60 : callable prog 60 = true := by kernel_rfl
theorem ca61 : callable prog 61 = true := by kernel_rfl
theorem ca62 : callable prog 62 = true := by kernel_rfl
theorem ca63 : callable prog 63 = true := by kernel_rfl
theorem ca64 : callable prog 64 = true := by kernel_rfl
theorem ca65 : callable prog 65 = true := by kernel_rfl
theorem ca66 : callable prog 66 = true := by kernel_rfl
theorem ca67 : callable prog 67 = true := by kernel_rfl
theorem ca68 : callable prog 68 = true := by kernel_rfl
theorem ca69 : callable prog 69 = true := by kernel_rfl
theorem ca70 : callable prog 70 = true := by kernel_rfl
set_option maxRecDepth 100000 in
def facts := And.intro underlying1 <|
 And.intro eo1 <|
 And.intro underlying2 <|
 And.intro sz2 <|
 And.intro by2 <|
 And.intro ha2 <|
 And.intro ze2 <|
 And.intro zn2 <|
 And.intro zv2 <|
 And.intro underlying3 <|
 And.intro sz3 <|
 And.intro by3 <|
 And.intro ha3 <|
 And.intro ze3 <|
 And.intro zn3 <|
 And.intro zv3 <|
 And.intro underlying4 <|
 And.intro sz4 <|
 And.intro by4 <|
 And.intro ha4 <|
 And.intro eo4 <|
 And.intro ze4 <|
 And.intro zn4 <|
 And.intro zv4 <|
 And.intro underlying5 <|
 And.intro z8_5 <|
 And.intro sz5 <|
 And.intro by5 <|
 And.intro ha5 <|
 And.intro ze5 <|
 And.intro zn5 <|
 And.intro zv5 <|
 And.intro underlying9 <|
 And.intro sz9 <|
 And.intro by9 <|
 And.intro ha9 <|
 And.intro ze9 <|
 And.intro zn9 <|
 And.intro zv9 <|
 And.intro underlying12 <|
 And.intro sz12 <|
 And.intro by12 <|
 And.intro ha12 <|
 And.intro ze12 <|
 And.intro zn12 <|
 And.intro zv12 <|
 And.intro underlying21 <|
 And.intro sz21 <|
 And.intro by21 <|
 And.intro ha21 <|
 And.intro ze21 <|
 And.intro zn21 <|
 And.intro zv21 <|
 And.intro underlying22 <|
 And.intro sz22 <|
 And.intro by22 <|
 And.intro ha22 <|
 And.intro ze22 <|
 And.intro zn22 <|
 And.intro zv22 <|
 And.intro underlying23 <|
 And.intro eo23 <|
 And.intro underlying24 <|
 And.intro sz24 <|
 And.intro by24 <|
 And.intro ha24 <|
 And.intro eo24 <|
 And.intro ze24 <|
 And.intro zn24 <|
 And.intro zv24 <|
 And.intro underlying25 <|
 And.intro eo25 <|
 And.intro underlying26 <|
 And.intro sz26 <|
 And.intro by26 <|
 And.intro ha26 <|
 And.intro eo26 <|
 And.intro ze26 <|
 And.intro zn26 <|
 And.intro zv26 <|
 And.intro eq26 <|
 And.intro ck26 <|
 And.intro underlying27 <|
 And.intro sz27 <|
 And.intro by27 <|
 And.intro ha27 <|
 And.intro eo27 <|
 And.intro ze27 <|
 And.intro zn27 <|
 And.intro zv27 <|
 And.intro eq27 <|
 And.intro ck27 <|
 And.intro underlying28 <|
 And.intro sz28 <|
 And.intro by28 <|
 And.intro ha28 <|
 And.intro eo28 <|
 And.intro ze28 <|
 And.intro zn28 <|
 And.intro zv28 <|
 And.intro eq28 <|
 And.intro ck28 <|
 And.intro underlying29 <|
 And.intro sz29 <|
 And.intro by29 <|
 And.intro ha29 <|
 And.intro eo29 <|
 And.intro ze29 <|
 And.intro zn29 <|
 And.intro zv29 <|
 And.intro eq29 <|
 And.intro ck29 <|
 And.intro underlying30 <|
 And.intro sz30 <|
 And.intro by30 <|
 And.intro ha30 <|
 And.intro eo30 <|
 And.intro ze30 <|
 And.intro zn30 <|
 And.intro zv30 <|
 And.intro eq30 <|
 And.intro ck30 <|
 And.intro underlying31 <|
 And.intro sz31 <|
 And.intro by31 <|
 And.intro ha31 <|
 And.intro eo31 <|
 And.intro ze31 <|
 And.intro zn31 <|
 And.intro zv31 <|
 And.intro eq31 <|
 And.intro ck31 <|
 And.intro underlying32 <|
 And.intro sz32 <|
 And.intro by32 <|
 And.intro ha32 <|
 And.intro ze32 <|
 And.intro zn32 <|
 And.intro zv32 <|
 And.intro underlying34 <|
 And.intro eo34 <|
 And.intro underlying35 <|
 And.intro eo35 <|
 And.intro underlying36 <|
 And.intro eo36 <|
 And.intro underlying37 <|
 And.intro eo37 <|
 And.intro underlying38 <|
 And.intro eo38 <|
 And.intro underlying39 <|
 And.intro eo39 <|
 And.intro underlying40 <|
 And.intro eo40 <|
 And.intro underlying41 <|
 And.intro eo41 <|
 And.intro underlying42 <|
 And.intro sz42 <|
 And.intro by42 <|
 And.intro ha42 <|
 And.intro ze42 <|
 And.intro zn42 <|
 And.intro zv42 <|
 And.intro underlying43 <|
 And.intro sz43 <|
 And.intro by43 <|
 And.intro ha43 <|
 And.intro ze43 <|
 And.intro zn43 <|
 And.intro zv43 <|
 And.intro underlying44 <|
 And.intro sz44 <|
 And.intro by44 <|
 And.intro ha44 <|
 And.intro ze44 <|
 And.intro zn44 <|
 And.intro zv44 <|
 And.intro underlying45 <|
 And.intro sz45 <|
 And.intro by45 <|
 And.intro ha45 <|
 And.intro ze45 <|
 And.intro zn45 <|
 And.intro zv45 <|
 And.intro underlying46 <|
 And.intro sz46 <|
 And.intro by46 <|
 And.intro ha46 <|
 And.intro eo46 <|
 And.intro ze46 <|
 And.intro zn46 <|
 And.intro zv46 <|
 And.intro underlying47 <|
 And.intro sz47 <|
 And.intro by47 <|
 And.intro ha47 <|
 And.intro ze47 <|
 And.intro zn47 <|
 And.intro zv47 <|
 And.intro underlying49 <|
 And.intro eo49 <|
 And.intro underlying51 <|
 And.intro eo51 <|
 And.intro underlying52 <|
 And.intro sz52 <|
 And.intro by52 <|
 And.intro ha52 <|
 And.intro ze52 <|
 And.intro zn52 <|
 And.intro zv52 <|
 And.intro underlying53 <|
 And.intro eo53 <|
 And.intro underlying54 <|
 And.intro sz54 <|
 And.intro by54 <|
 And.intro ha54 <|
 And.intro eo54 <|
 And.intro ze54 <|
 And.intro zn54 <|
 And.intro zv54 <|
 And.intro eq54 <|
 And.intro ck54 <|
 And.intro underlying55 <|
 And.intro sz55 <|
 And.intro by55 <|
 And.intro ha55 <|
 And.intro eo55 <|
 And.intro ze55 <|
 And.intro zn55 <|
 And.intro zv55 <|
 And.intro eq55 <|
 And.intro ck55 <|
 And.intro underlying56 <|
 And.intro eo56 <|
 And.intro underlying57 <|
 And.intro eo57 <|
 And.intro underlying58 <|
 And.intro eo58 <|
 And.intro underlying59 <|
 And.intro sz59 <|
 And.intro by59 <|
 And.intro ha59 <|
 And.intro ze59 <|
 And.intro zn59 <|
 And.intro zv59 <|
 And.intro underlying60 <|
 And.intro eo60 <|
 And.intro underlying61 <|
 And.intro eo61 <|
 And.intro underlying62 <|
 And.intro sz62 <|
 And.intro by62 <|
 And.intro ha62 <|
 And.intro ze62 <|
 And.intro zn62 <|
 And.intro zv62 <|
 And.intro underlying63 <|
 And.intro sz63 <|
 And.intro by63 <|
 And.intro ha63 <|
 And.intro ze63 <|
 And.intro zn63 <|
 And.intro zv63 <|
 And.intro underlying64 <|
 And.intro eo64 <|
 And.intro underlying65 <|
 And.intro sz65 <|
 And.intro by65 <|
 And.intro ha65 <|
 And.intro eo65 <|
 And.intro ze65 <|
 And.intro zn65 <|
 And.intro zv65 <|
 And.intro underlying66 <|
 And.intro sz66 <|
 And.intro by66 <|
 And.intro ha66 <|
 And.intro eo66 <|
 And.intro ze66 <|
 And.intro zn66 <|
 And.intro zv66 <|
 And.intro underlying67 <|
 And.intro eo67 <|
 And.intro underlying68 <|
 And.intro eo68 <|
 And.intro underlying70 <|
 And.intro eo70 <|
 And.intro underlying72 <|
 And.intro eo72 <|
 And.intro underlying73 <|
 And.intro eo73 <|
 And.intro underlying74 <|
 And.intro sz74 <|
 And.intro by74 <|
 And.intro ha74 <|
 And.intro eo74 <|
 And.intro ze74 <|
 And.intro zn74 <|
 And.intro zv74 <|
 And.intro eq74 <|
 And.intro ck74 <|
 And.intro underlying75 <|
 And.intro sz75 <|
 And.intro by75 <|
 And.intro ha75 <|
 And.intro eo75 <|
 And.intro ze75 <|
 And.intro zn75 <|
 And.intro zv75 <|
 And.intro eq75 <|
 And.intro ck75 <|
 And.intro underlying76 <|
 And.intro eo76 <|
 And.intro underlying77 <|
 And.intro sz77 <|
 And.intro by77 <|
 And.intro ha77 <|
 And.intro eo77 <|
 And.intro ze77 <|
 And.intro zn77 <|
 And.intro zv77 <|
 And.intro eq77 <|
 And.intro ck77 <|
 And.intro underlying78 <|
 And.intro sz78 <|
 And.intro by78 <|
 And.intro ha78 <|
 And.intro eo78 <|
 And.intro ze78 <|
 And.intro zn78 <|
 And.intro zv78 <|
 And.intro eq78 <|
 And.intro ck78 <|
 And.intro underlying79 <|
 And.intro eo79 <|
 And.intro underlying80 <|
 And.intro eo80 <|
 And.intro underlying81 <|
 And.intro sz81 <|
 And.intro by81 <|
 And.intro ha81 <|
 And.intro ze81 <|
 And.intro zn81 <|
 And.intro zv81 <|
 And.intro underlying82 <|
 And.intro sz82 <|
 And.intro by82 <|
 And.intro ha82 <|
 And.intro ze82 <|
 And.intro zn82 <|
 And.intro zv82 <|
 And.intro underlying83 <|
 And.intro eo83 <|
 And.intro underlying84 <|
 And.intro eo84 <|
 And.intro underlying86 <|
 And.intro eo86 <|
 And.intro underlying87 <|
 And.intro eo87 <|
 And.intro underlying88 <|
 And.intro eo88 <|
 And.intro underlying89 <|
 And.intro sz89 <|
 And.intro by89 <|
 And.intro ha89 <|
 And.intro ze89 <|
 And.intro zn89 <|
 And.intro zv89 <|
 And.intro underlying90 <|
 And.intro sz90 <|
 And.intro by90 <|
 And.intro ha90 <|
 And.intro ze90 <|
 And.intro zn90 <|
 And.intro zv90 <|
 And.intro underlying92 <|
 And.intro eo92 <|
 And.intro underlying93 <|
 And.intro eo93 <|
 And.intro underlying94 <|
 And.intro eo94 <|
 And.intro underlying95 <|
 And.intro sz95 <|
 And.intro by95 <|
 And.intro ha95 <|
 And.intro eo95 <|
 And.intro ze95 <|
 And.intro zn95 <|
 And.intro zv95 <|
 And.intro underlying96 <|
 And.intro eo96 <|
 And.intro underlying97 <|
 And.intro sz97 <|
 And.intro by97 <|
 And.intro ha97 <|
 And.intro eo97 <|
 And.intro ze97 <|
 And.intro zn97 <|
 And.intro zv97 <|
 And.intro underlying98 <|
 And.intro eo98 <|
 And.intro underlying99 <|
 And.intro eo99 <|
 And.intro underlying100 <|
 And.intro eo100 <|
 And.intro underlying101 <|
 And.intro sz101 <|
 And.intro by101 <|
 And.intro ha101 <|
 And.intro ze101 <|
 And.intro zn101 <|
 And.intro zv101 <|
 And.intro underlying102 <|
 And.intro sz102 <|
 And.intro by102 <|
 And.intro ha102 <|
 And.intro eo102 <|
 And.intro ze102 <|
 And.intro zn102 <|
 And.intro zv102 <|
 And.intro underlying103 <|
 And.intro sz103 <|
 And.intro by103 <|
 And.intro ha103 <|
 And.intro ze103 <|
 And.intro zn103 <|
 And.intro zv103 <|
 And.intro underlying104 <|
 And.intro sz104 <|
 And.intro by104 <|
 And.intro ha104 <|
 And.intro ze104 <|
 And.intro zn104 <|
 And.intro zv104 <|
 And.intro underlying105 <|
 And.intro sz105 <|
 And.intro by105 <|
 And.intro ha105 <|
 And.intro ze105 <|
 And.intro zn105 <|
 And.intro zv105 <|
 And.intro underlying106 <|
 And.intro sz106 <|
 And.intro by106 <|
 And.intro ha106 <|
 And.intro ze106 <|
 And.intro zn106 <|
 And.intro zv106 <|
 And.intro underlying107 <|
 And.intro sz107 <|
 And.intro by107 <|
 And.intro ha107 <|
 And.intro ze107 <|
 And.intro zn107 <|
 And.intro zv107 <|
 And.intro underlying108 <|
 And.intro eo108 <|
 And.intro underlying110 <|
 And.intro eo110 <|
 And.intro underlying111 <|
 And.intro eo111 <|
 And.intro underlying112 <|
 And.intro eo112 <|
 And.intro underlying113 <|
 And.intro eo113 <|
 And.intro underlying114 <|
 And.intro eo114 <|
 And.intro underlying115 <|
 And.intro eo115 <|
 And.intro underlying116 <|
 And.intro eo116 <|
 And.intro underlying117 <|
 And.intro sz117 <|
 And.intro by117 <|
 And.intro ha117 <|
 And.intro eo117 <|
 And.intro ze117 <|
 And.intro zn117 <|
 And.intro zv117 <|
 And.intro eq117 <|
 And.intro ck117 <|
 And.intro underlying118 <|
 And.intro sz118 <|
 And.intro by118 <|
 And.intro ha118 <|
 And.intro eo118 <|
 And.intro ze118 <|
 And.intro zn118 <|
 And.intro zv118 <|
 And.intro eq118 <|
 And.intro ck118 <|
 And.intro underlying119 <|
 And.intro sz119 <|
 And.intro by119 <|
 And.intro ha119 <|
 And.intro ze119 <|
 And.intro zn119 <|
 And.intro zv119 <|
 And.intro underlying120 <|
 And.intro eo120 <|
 And.intro underlying121 <|
 And.intro eo121 <|
 And.intro underlying122 <|
 And.intro eo122 <|
 And.intro underlying123 <|
 And.intro eo123 <|
 And.intro underlying124 <|
 And.intro eo124 <|
 And.intro underlying125 <|
 And.intro eo125 <|
 And.intro underlying131 <|
 And.intro sz131 <|
 And.intro by131 <|
 And.intro ha131 <|
 And.intro ze131 <|
 And.intro zn131 <|
 And.intro zv131 <|
 And.intro underlying135 <|
 And.intro sz135 <|
 And.intro by135 <|
 And.intro ha135 <|
 And.intro eo135 <|
 And.intro ze135 <|
 And.intro zn135 <|
 And.intro zv135 <|
 And.intro strTy <|
 And.intro ca3 <|
 And.intro ca4 <|
 And.intro ca5 <|
 And.intro ca6 <|
 And.intro ca7 <|
 And.intro ca8 <|
 And.intro ca9 <|
 And.intro ca10 <|
 And.intro ca11 <|
 And.intro ca12 <|
 And.intro ca13 <|
 And.intro ca14 <|
 And.intro ca15 <|
 And.intro ca16 <|
 And.intro ca17 <|
 And.intro ca18 <|
 And.intro ca19 <|
 And.intro ca20 <|
 And.intro ca21 <|
 And.intro ca22 <|
 And.intro ca23 <|
 And.intro ca24 <|
 And.intro ca25 <|
 And.intro ca26 <|
 And.intro ca27 <|
 And.intro ca28 <|
 And.intro ca29 <|
 And.intro ca30 <|
 And.intro ca31 <|
 And.intro ca32 <|
 And.intro ca33 <|
 And.intro ca34 <|
 And.intro ca35 <|
 And.intro ca36 <|
 And.intro ca37 <|
 And.intro ca38 <|
 And.intro ca39 <|
 And.intro ca40 <|
 And.intro ca41 <|
 And.intro ca42 <|
 And.intro ca43 <|
 And.intro ca44 <|
 And.intro ca45 <|
 And.intro ca46 <|
 And.intro ca47 <|
 And.intro ca48 <|
 And.intro ca49 <|
 And.intro ca50 <|
 And.intro ca51 <|
 And.intro ca52 <|
 And.intro ca53 <|
 And.intro ca54 <|
 And.intro ca55 <|
 And.intro ca57 <|
 And.intro ca58 <|
 And.intro ca59 <|
 And.intro ca60 <|
 And.intro ca61 <|
 And.intro ca62 <|
 And.intro ca63 <|
 And.intro ca64 <|
 And.intro ca65 <|
 And.intro ca66 <|
 And.intro ca67 <|
 And.intro ca68 <|
 And.intro ca69 <| ca70
end Go.Proofs.Try
