/-
  Facts of the seat's program: sizes of types, functions that have bodies. By program.
  Conditions: none.
-/
import Derived.Test.YtpmmafmbjconiaaProg
import Derived.Test.YtpmmafmbjconiaaAbsRun
set_option linter.all false
set_option linter.unusedSimpArgs false
namespace Go.Proofs
open Go Go.Abs
theorem Try.mixed : Try.prog.follows .mixedOrders = true := by kernel_rfl
theorem Try.sz0 : szOf Try.prog 0 = 1 := by kernel_rfl
theorem Try.by0 : byOf Try.prog 0 = 0 := by kernel_rfl
theorem Try.sz1 : szOf Try.prog 1 = 1 := by kernel_rfl
theorem Try.by1 : byOf Try.prog 1 = 8 := by kernel_rfl
theorem Try.ze1 : zeroA Try.prog 1 = [.sc .nilFunc] := by kernel_rfl
theorem Try.zn1 : zeroN Try.prog 1 = [.sc .nilFunc] := by kernel_rfl
theorem Try.ha1 : hasT Try.prog 1 = true := by kernel_rfl
theorem Try.sz2 : szOf Try.prog 2 = 1 := by kernel_rfl
theorem Try.by2 : byOf Try.prog 2 = 8 := by kernel_rfl
theorem Try.ze2 : zeroA Try.prog 2 = [.sc (.int .i64 0)] := by kernel_rfl
theorem Try.zn2 : zeroN Try.prog 2 = [.sc (.int .i64 0)] := by kernel_rfl
theorem Try.ha2 : hasT Try.prog 2 = true := by kernel_rfl
theorem Try.sz3 : szOf Try.prog 3 = 1 := by kernel_rfl
theorem Try.by3 : byOf Try.prog 3 = 8 := by kernel_rfl
theorem Try.ze3 : zeroA Try.prog 3 = [.sc (.int .i64 0)] := by kernel_rfl
theorem Try.zn3 : zeroN Try.prog 3 = [.sc (.int .i64 0)] := by kernel_rfl
theorem Try.ha3 : hasT Try.prog 3 = true := by kernel_rfl
theorem Try.sz4 : szOf Try.prog 4 = 1 := by kernel_rfl
theorem Try.by4 : byOf Try.prog 4 = 1 := by kernel_rfl
theorem Try.ze4 : zeroA Try.prog 4 = [.sc (.bool false)] := by kernel_rfl
theorem Try.zn4 : zeroN Try.prog 4 = [.sc (.bool false)] := by kernel_rfl
theorem Try.ha4 : hasT Try.prog 4 = true := by kernel_rfl
theorem Try.sz5 : szOf Try.prog 5 = 1 := by kernel_rfl
theorem Try.by5 : byOf Try.prog 5 = 1 := by kernel_rfl
theorem Try.ze5 : zeroA Try.prog 5 = [.sc (.int .u8 0)] := by kernel_rfl
theorem Try.zn5 : zeroN Try.prog 5 = [.sc (.int .u8 0)] := by kernel_rfl
theorem Try.ha5 : hasT Try.prog 5 = true := by kernel_rfl
theorem Try.sz6 : szOf Try.prog 6 = 1 := by kernel_rfl
theorem Try.by6 : byOf Try.prog 6 = 1 := by kernel_rfl
theorem Try.ze6 : zeroA Try.prog 6 = [.sc (.int .u8 0)] := by kernel_rfl
theorem Try.zn6 : zeroN Try.prog 6 = [.sc (.int .u8 0)] := by kernel_rfl
theorem Try.ha6 : hasT Try.prog 6 = true := by kernel_rfl
theorem Try.sz7 : szOf Try.prog 7 = 4 := by kernel_rfl
theorem Try.by7 : byOf Try.prog 7 = 24 := by kernel_rfl
theorem Try.ze7 : zeroA Try.prog 7 = [.sc (.int .i64 0), .sc (.int .i64 0), .sc (.bool false), .sc (.int .u8 0)] := by kernel_rfl
theorem Try.zn7 : zeroN Try.prog 7 = [.sc (.int .i64 0), .sc (.int .i64 0), .sc (.bool false), .sc (.int .u8 0)] := by kernel_rfl
theorem Try.ha7 : hasT Try.prog 7 = true := by kernel_rfl
theorem Try.sz8 : szOf Try.prog 8 = 4 := by kernel_rfl
theorem Try.by8 : byOf Try.prog 8 = 24 := by kernel_rfl
theorem Try.ze8 : zeroA Try.prog 8 = [.sc (.int .i64 0), .sc (.int .i64 0), .sc (.bool false), .sc (.int .u8 0)] := by kernel_rfl
theorem Try.zn8 : zeroN Try.prog 8 = [.sc (.int .i64 0), .sc (.int .i64 0), .sc (.bool false), .sc (.int .u8 0)] := by kernel_rfl
theorem Try.ha8 : hasT Try.prog 8 = true := by kernel_rfl
theorem Try.sz9 : szOf Try.prog 9 = 1 := by kernel_rfl
theorem Try.by9 : byOf Try.prog 9 = 16 := by kernel_rfl
theorem Try.ze9 : zeroA Try.prog 9 = [.sc (.string ⟨#[]⟩)] := by kernel_rfl
theorem Try.zn9 : zeroN Try.prog 9 = [.sc (.string ⟨#[]⟩)] := by kernel_rfl
theorem Try.ha9 : hasT Try.prog 9 = true := by kernel_rfl
theorem Try.sz10 : szOf Try.prog 10 = 1 := by kernel_rfl
theorem Try.by10 : byOf Try.prog 10 = 16 := by kernel_rfl
theorem Try.ze10 : zeroA Try.prog 10 = [.sc (.string ⟨#[]⟩)] := by kernel_rfl
theorem Try.zn10 : zeroN Try.prog 10 = [.sc (.string ⟨#[]⟩)] := by kernel_rfl
theorem Try.ha10 : hasT Try.prog 10 = true := by kernel_rfl
theorem Try.sz11 : szOf Try.prog 11 = 1 := by kernel_rfl
theorem Try.by11 : byOf Try.prog 11 = 16 := by kernel_rfl
theorem Try.ze11 : zeroA Try.prog 11 = [.sc (.string ⟨#[]⟩)] := by kernel_rfl
theorem Try.zn11 : zeroN Try.prog 11 = [.sc (.string ⟨#[]⟩)] := by kernel_rfl
theorem Try.ha11 : hasT Try.prog 11 = true := by kernel_rfl
theorem Try.sz12 : szOf Try.prog 12 = 1 := by kernel_rfl
theorem Try.by12 : byOf Try.prog 12 = 8 := by kernel_rfl
theorem Try.ze12 : zeroA Try.prog 12 = [.sc (.int .u64 0)] := by kernel_rfl
theorem Try.zn12 : zeroN Try.prog 12 = [.sc (.int .u64 0)] := by kernel_rfl
theorem Try.ha12 : hasT Try.prog 12 = true := by kernel_rfl
theorem Try.sz13 : szOf Try.prog 13 = 2 := by kernel_rfl
theorem Try.by13 : byOf Try.prog 13 = 24 := by kernel_rfl
theorem Try.ze13 : zeroA Try.prog 13 = [.sc (.string ⟨#[]⟩), .sc (.int .u64 0)] := by kernel_rfl
theorem Try.zn13 : zeroN Try.prog 13 = [.sc (.string ⟨#[]⟩), .sc (.int .u64 0)] := by kernel_rfl
theorem Try.ha13 : hasT Try.prog 13 = true := by kernel_rfl
theorem Try.sz14 : szOf Try.prog 14 = 2 := by kernel_rfl
theorem Try.by14 : byOf Try.prog 14 = 24 := by kernel_rfl
theorem Try.ze14 : zeroA Try.prog 14 = [.sc (.string ⟨#[]⟩), .sc (.int .u64 0)] := by kernel_rfl
theorem Try.zn14 : zeroN Try.prog 14 = [.sc (.string ⟨#[]⟩), .sc (.int .u64 0)] := by kernel_rfl
theorem Try.ha14 : hasT Try.prog 14 = true := by kernel_rfl
theorem Try.sz15 : szOf Try.prog 15 = 1 := by kernel_rfl
theorem Try.by15 : byOf Try.prog 15 = 8 := by kernel_rfl
theorem Try.ze15 : zeroA Try.prog 15 = [.sc (.pointer none)] := by kernel_rfl
theorem Try.zn15 : zeroN Try.prog 15 = [.sc (.pointer none)] := by kernel_rfl
theorem Try.ha15 : hasT Try.prog 15 = true := by kernel_rfl
theorem Try.sz16 : szOf Try.prog 16 = 1 := by kernel_rfl
theorem Try.by16 : byOf Try.prog 16 = 8 := by kernel_rfl
theorem Try.ze16 : zeroA Try.prog 16 = [.sc (.pointer none)] := by kernel_rfl
theorem Try.zn16 : zeroN Try.prog 16 = [.sc (.pointer none)] := by kernel_rfl
theorem Try.ha16 : hasT Try.prog 16 = true := by kernel_rfl
theorem Try.sz17 : szOf Try.prog 17 = 1 := by kernel_rfl
theorem Try.by17 : byOf Try.prog 17 = 8 := by kernel_rfl
theorem Try.ze17 : zeroA Try.prog 17 = [.sc (.pointer none)] := by kernel_rfl
theorem Try.zn17 : zeroN Try.prog 17 = [.sc (.pointer none)] := by kernel_rfl
theorem Try.ha17 : hasT Try.prog 17 = true := by kernel_rfl
theorem Try.sz18 : szOf Try.prog 18 = 1 := by kernel_rfl
theorem Try.by18 : byOf Try.prog 18 = 8 := by kernel_rfl
theorem Try.ze18 : zeroA Try.prog 18 = [.sc (.pointer none)] := by kernel_rfl
theorem Try.zn18 : zeroN Try.prog 18 = [.sc (.pointer none)] := by kernel_rfl
theorem Try.ha18 : hasT Try.prog 18 = true := by kernel_rfl
theorem Try.sz19 : szOf Try.prog 19 = 1 := by kernel_rfl
theorem Try.by19 : byOf Try.prog 19 = 8 := by kernel_rfl
theorem Try.ze19 : zeroA Try.prog 19 = [.sc (.pointer none)] := by kernel_rfl
theorem Try.zn19 : zeroN Try.prog 19 = [.sc (.pointer none)] := by kernel_rfl
theorem Try.ha19 : hasT Try.prog 19 = true := by kernel_rfl
theorem Try.sz20 : szOf Try.prog 20 = 1 := by kernel_rfl
theorem Try.by20 : byOf Try.prog 20 = 16 := by kernel_rfl
theorem Try.ze20 : zeroA Try.prog 20 = [.sc .nilIface] := by kernel_rfl
theorem Try.zn20 : zeroN Try.prog 20 = [.sc .nilIface] := by kernel_rfl
theorem Try.ha20 : hasT Try.prog 20 = true := by kernel_rfl
theorem Try.sz21 : szOf Try.prog 21 = 1 := by kernel_rfl
theorem Try.by21 : byOf Try.prog 21 = 4 := by kernel_rfl
theorem Try.ze21 : zeroA Try.prog 21 = [.sc (.int .i32 0)] := by kernel_rfl
theorem Try.zn21 : zeroN Try.prog 21 = [.sc (.int .i32 0)] := by kernel_rfl
theorem Try.ha21 : hasT Try.prog 21 = true := by kernel_rfl
theorem Try.sz22 : szOf Try.prog 22 = 1 := by kernel_rfl
theorem Try.by22 : byOf Try.prog 22 = 24 := by kernel_rfl
theorem Try.ze22 : zeroA Try.prog 22 = [.imm 0 [] 0] := by kernel_rfl
theorem Try.zn22 : zeroN Try.prog 22 = [.sc (.slice none 0 0)] := by kernel_rfl
theorem Try.ha22 : hasT Try.prog 22 = true := by kernel_rfl
theorem Try.sz23 : szOf Try.prog 23 = 1 := by kernel_rfl
theorem Try.by23 : byOf Try.prog 23 = 8 := by kernel_rfl
theorem Try.ze23 : zeroA Try.prog 23 = [.sc .nilFunc] := by kernel_rfl
theorem Try.zn23 : zeroN Try.prog 23 = [.sc .nilFunc] := by kernel_rfl
theorem Try.ha23 : hasT Try.prog 23 = true := by kernel_rfl
theorem Try.sz24 : szOf Try.prog 24 = 1 := by kernel_rfl
theorem Try.by24 : byOf Try.prog 24 = 8 := by kernel_rfl
theorem Try.ze24 : zeroA Try.prog 24 = [.sc (.pointer none)] := by kernel_rfl
theorem Try.zn24 : zeroN Try.prog 24 = [.sc (.pointer none)] := by kernel_rfl
theorem Try.ha24 : hasT Try.prog 24 = true := by kernel_rfl
theorem Try.sz25 : szOf Try.prog 25 = 1 := by kernel_rfl
theorem Try.by25 : byOf Try.prog 25 = 8 := by kernel_rfl
theorem Try.ze25 : zeroA Try.prog 25 = [.sc .nilFunc] := by kernel_rfl
theorem Try.zn25 : zeroN Try.prog 25 = [.sc .nilFunc] := by kernel_rfl
theorem Try.ha25 : hasT Try.prog 25 = true := by kernel_rfl
theorem Try.sz26 : szOf Try.prog 26 = 1 := by kernel_rfl
theorem Try.by26 : byOf Try.prog 26 = 24 := by kernel_rfl
theorem Try.ze26 : zeroA Try.prog 26 = [.imm 0 [] 0] := by kernel_rfl
theorem Try.zn26 : zeroN Try.prog 26 = [.sc (.slice none 0 0)] := by kernel_rfl
theorem Try.ha26 : hasT Try.prog 26 = true := by kernel_rfl
theorem Try.sz27 : szOf Try.prog 27 = 1 := by kernel_rfl
theorem Try.by27 : byOf Try.prog 27 = 24 := by kernel_rfl
theorem Try.ze27 : zeroA Try.prog 27 = [.imm 0 [] 0] := by kernel_rfl
theorem Try.zn27 : zeroN Try.prog 27 = [.sc (.slice none 0 0)] := by kernel_rfl
theorem Try.ha27 : hasT Try.prog 27 = true := by kernel_rfl
theorem Try.sz28 : szOf Try.prog 28 = 2 := by kernel_rfl
theorem Try.by28 : byOf Try.prog 28 = 48 := by kernel_rfl
theorem Try.ze28 : zeroA Try.prog 28 = [.imm 0 [] 0, .imm 0 [] 0] := by kernel_rfl
theorem Try.zn28 : zeroN Try.prog 28 = [.sc (.slice none 0 0), .sc (.slice none 0 0)] := by kernel_rfl
theorem Try.ha28 : hasT Try.prog 28 = true := by kernel_rfl
theorem Try.sz29 : szOf Try.prog 29 = 2 := by kernel_rfl
theorem Try.by29 : byOf Try.prog 29 = 48 := by kernel_rfl
theorem Try.ze29 : zeroA Try.prog 29 = [.imm 0 [] 0, .imm 0 [] 0] := by kernel_rfl
theorem Try.zn29 : zeroN Try.prog 29 = [.sc (.slice none 0 0), .sc (.slice none 0 0)] := by kernel_rfl
theorem Try.ha29 : hasT Try.prog 29 = true := by kernel_rfl
theorem Try.sz30 : szOf Try.prog 30 = 2 := by kernel_rfl
theorem Try.by30 : byOf Try.prog 30 = 16 := by kernel_rfl
theorem Try.ze30 : zeroA Try.prog 30 = [.sc (.int .i64 0), .sc (.int .i64 0)] := by kernel_rfl
theorem Try.zn30 : zeroN Try.prog 30 = [.sc (.int .i64 0), .sc (.int .i64 0)] := by kernel_rfl
theorem Try.ha30 : hasT Try.prog 30 = true := by kernel_rfl
theorem Try.sz31 : szOf Try.prog 31 = 2 := by kernel_rfl
theorem Try.by31 : byOf Try.prog 31 = 16 := by kernel_rfl
theorem Try.ze31 : zeroA Try.prog 31 = [.sc (.int .i64 0), .sc (.int .i64 0)] := by kernel_rfl
theorem Try.zn31 : zeroN Try.prog 31 = [.sc (.int .i64 0), .sc (.int .i64 0)] := by kernel_rfl
theorem Try.ha31 : hasT Try.prog 31 = true := by kernel_rfl
theorem Try.sz32 : szOf Try.prog 32 = 6 := by kernel_rfl
theorem Try.by32 : byOf Try.prog 32 = 40 := by kernel_rfl
theorem Try.ze32 : zeroA Try.prog 32 = [.sc (.int .i64 0), .sc (.int .i64 0), .sc (.int .i64 0), .sc (.int .i64 0), .sc (.bool false), .sc (.int .i32 0)] := by kernel_rfl
theorem Try.zn32 : zeroN Try.prog 32 = [.sc (.int .i64 0), .sc (.int .i64 0), .sc (.int .i64 0), .sc (.int .i64 0), .sc (.bool false), .sc (.int .i32 0)] := by kernel_rfl
theorem Try.ha32 : hasT Try.prog 32 = true := by kernel_rfl
theorem Try.sz33 : szOf Try.prog 33 = 6 := by kernel_rfl
theorem Try.by33 : byOf Try.prog 33 = 40 := by kernel_rfl
theorem Try.ze33 : zeroA Try.prog 33 = [.sc (.int .i64 0), .sc (.int .i64 0), .sc (.int .i64 0), .sc (.int .i64 0), .sc (.bool false), .sc (.int .i32 0)] := by kernel_rfl
theorem Try.zn33 : zeroN Try.prog 33 = [.sc (.int .i64 0), .sc (.int .i64 0), .sc (.int .i64 0), .sc (.int .i64 0), .sc (.bool false), .sc (.int .i32 0)] := by kernel_rfl
theorem Try.ha33 : hasT Try.prog 33 = true := by kernel_rfl
theorem Try.sz34 : szOf Try.prog 34 = 9 := by kernel_rfl
theorem Try.by34 : byOf Try.prog 34 = 64 := by kernel_rfl
theorem Try.ze34 : zeroA Try.prog 34 = [.sc (.int .i64 0), .sc (.int .i64 0), .sc (.int .i64 0), .sc (.int .i64 0), .sc (.int .i64 0), .sc (.bool false), .sc (.int .i32 0), .sc (.int .i64 0), .sc (.int .i64 0)] := by kernel_rfl
theorem Try.zn34 : zeroN Try.prog 34 = [.sc (.int .i64 0), .sc (.int .i64 0), .sc (.int .i64 0), .sc (.int .i64 0), .sc (.int .i64 0), .sc (.bool false), .sc (.int .i32 0), .sc (.int .i64 0), .sc (.int .i64 0)] := by kernel_rfl
theorem Try.ha34 : hasT Try.prog 34 = true := by kernel_rfl
theorem Try.sz35 : szOf Try.prog 35 = 9 := by kernel_rfl
theorem Try.by35 : byOf Try.prog 35 = 64 := by kernel_rfl
theorem Try.ze35 : zeroA Try.prog 35 = [.sc (.int .i64 0), .sc (.int .i64 0), .sc (.int .i64 0), .sc (.int .i64 0), .sc (.int .i64 0), .sc (.bool false), .sc (.int .i32 0), .sc (.int .i64 0), .sc (.int .i64 0)] := by kernel_rfl
theorem Try.zn35 : zeroN Try.prog 35 = [.sc (.int .i64 0), .sc (.int .i64 0), .sc (.int .i64 0), .sc (.int .i64 0), .sc (.int .i64 0), .sc (.bool false), .sc (.int .i32 0), .sc (.int .i64 0), .sc (.int .i64 0)] := by kernel_rfl
theorem Try.ha35 : hasT Try.prog 35 = true := by kernel_rfl
theorem Try.sz36 : szOf Try.prog 36 = 1 := by kernel_rfl
theorem Try.by36 : byOf Try.prog 36 = 0 := by kernel_rfl
theorem Try.sz37 : szOf Try.prog 37 = 1 := by kernel_rfl
theorem Try.by37 : byOf Try.prog 37 = 8 := by kernel_rfl
theorem Try.ze37 : zeroA Try.prog 37 = [.sc .nilFunc] := by kernel_rfl
theorem Try.zn37 : zeroN Try.prog 37 = [.sc .nilFunc] := by kernel_rfl
theorem Try.ha37 : hasT Try.prog 37 = true := by kernel_rfl
theorem Try.sz38 : szOf Try.prog 38 = 1 := by kernel_rfl
theorem Try.by38 : byOf Try.prog 38 = 24 := by kernel_rfl
theorem Try.ze38 : zeroA Try.prog 38 = [.imm 0 [] 0] := by kernel_rfl
theorem Try.zn38 : zeroN Try.prog 38 = [.sc (.slice none 0 0)] := by kernel_rfl
theorem Try.ha38 : hasT Try.prog 38 = true := by kernel_rfl
theorem Try.sz39 : szOf Try.prog 39 = 1 := by kernel_rfl
theorem Try.by39 : byOf Try.prog 39 = 8 := by kernel_rfl
theorem Try.ze39 : zeroA Try.prog 39 = [.sc .nilFunc] := by kernel_rfl
theorem Try.zn39 : zeroN Try.prog 39 = [.sc .nilFunc] := by kernel_rfl
theorem Try.ha39 : hasT Try.prog 39 = true := by kernel_rfl
theorem Try.sz40 : szOf Try.prog 40 = 1 := by kernel_rfl
theorem Try.by40 : byOf Try.prog 40 = 8 := by kernel_rfl
theorem Try.ze40 : zeroA Try.prog 40 = [.sc .nilFunc] := by kernel_rfl
theorem Try.zn40 : zeroN Try.prog 40 = [.sc .nilFunc] := by kernel_rfl
theorem Try.ha40 : hasT Try.prog 40 = true := by kernel_rfl
theorem Try.sz41 : szOf Try.prog 41 = 1 := by kernel_rfl
theorem Try.by41 : byOf Try.prog 41 = 8 := by kernel_rfl
theorem Try.ze41 : zeroA Try.prog 41 = [.sc .nilFunc] := by kernel_rfl
theorem Try.zn41 : zeroN Try.prog 41 = [.sc .nilFunc] := by kernel_rfl
theorem Try.ha41 : hasT Try.prog 41 = true := by kernel_rfl
theorem Try.sz42 : szOf Try.prog 42 = 1 := by kernel_rfl
theorem Try.by42 : byOf Try.prog 42 = 8 := by kernel_rfl
theorem Try.ze42 : zeroA Try.prog 42 = [.sc .nilFunc] := by kernel_rfl
theorem Try.zn42 : zeroN Try.prog 42 = [.sc .nilFunc] := by kernel_rfl
theorem Try.ha42 : hasT Try.prog 42 = true := by kernel_rfl
theorem Try.sz43 : szOf Try.prog 43 = 4 := by kernel_rfl
theorem Try.by43 : byOf Try.prog 43 = 24 := by kernel_rfl
theorem Try.ze43 : zeroA Try.prog 43 = [.sc (.int .i64 0), .sc (.int .i64 0), .sc (.int .i32 0), .sc (.bool false)] := by kernel_rfl
theorem Try.zn43 : zeroN Try.prog 43 = [.sc (.int .i64 0), .sc (.int .i64 0), .sc (.int .i32 0), .sc (.bool false)] := by kernel_rfl
theorem Try.ha43 : hasT Try.prog 43 = true := by kernel_rfl
theorem Try.sz44 : szOf Try.prog 44 = 4 := by kernel_rfl
theorem Try.by44 : byOf Try.prog 44 = 24 := by kernel_rfl
theorem Try.ze44 : zeroA Try.prog 44 = [.sc (.int .i64 0), .sc (.int .i64 0), .sc (.int .i32 0), .sc (.bool false)] := by kernel_rfl
theorem Try.zn44 : zeroN Try.prog 44 = [.sc (.int .i64 0), .sc (.int .i64 0), .sc (.int .i32 0), .sc (.bool false)] := by kernel_rfl
theorem Try.ha44 : hasT Try.prog 44 = true := by kernel_rfl
theorem Try.sz45 : szOf Try.prog 45 = 1 := by kernel_rfl
theorem Try.by45 : byOf Try.prog 45 = 8 := by kernel_rfl
theorem Try.ze45 : zeroA Try.prog 45 = [.sc .nilFunc] := by kernel_rfl
theorem Try.zn45 : zeroN Try.prog 45 = [.sc .nilFunc] := by kernel_rfl
theorem Try.ha45 : hasT Try.prog 45 = true := by kernel_rfl
theorem Try.sz46 : szOf Try.prog 46 = 1 := by kernel_rfl
theorem Try.by46 : byOf Try.prog 46 = 8 := by kernel_rfl
theorem Try.ze46 : zeroA Try.prog 46 = [.sc .nilFunc] := by kernel_rfl
theorem Try.zn46 : zeroN Try.prog 46 = [.sc .nilFunc] := by kernel_rfl
theorem Try.ha46 : hasT Try.prog 46 = true := by kernel_rfl
theorem Try.sz47 : szOf Try.prog 47 = 1 := by kernel_rfl
theorem Try.by47 : byOf Try.prog 47 = 8 := by kernel_rfl
theorem Try.ze47 : zeroA Try.prog 47 = [.sc .nilFunc] := by kernel_rfl
theorem Try.zn47 : zeroN Try.prog 47 = [.sc .nilFunc] := by kernel_rfl
theorem Try.ha47 : hasT Try.prog 47 = true := by kernel_rfl
theorem Try.sz48 : szOf Try.prog 48 = 1 := by kernel_rfl
theorem Try.by48 : byOf Try.prog 48 = 8 := by kernel_rfl
theorem Try.ze48 : zeroA Try.prog 48 = [.sc .nilFunc] := by kernel_rfl
theorem Try.zn48 : zeroN Try.prog 48 = [.sc .nilFunc] := by kernel_rfl
theorem Try.ha48 : hasT Try.prog 48 = true := by kernel_rfl
theorem Try.sz49 : szOf Try.prog 49 = 1 := by kernel_rfl
theorem Try.by49 : byOf Try.prog 49 = 8 := by kernel_rfl
theorem Try.ze49 : zeroA Try.prog 49 = [.sc .nilFunc] := by kernel_rfl
theorem Try.zn49 : zeroN Try.prog 49 = [.sc .nilFunc] := by kernel_rfl
theorem Try.ha49 : hasT Try.prog 49 = true := by kernel_rfl
theorem Try.sz50 : szOf Try.prog 50 = 1 := by kernel_rfl
theorem Try.by50 : byOf Try.prog 50 = 8 := by kernel_rfl
theorem Try.ze50 : zeroA Try.prog 50 = [.sc .nilFunc] := by kernel_rfl
theorem Try.zn50 : zeroN Try.prog 50 = [.sc .nilFunc] := by kernel_rfl
theorem Try.ha50 : hasT Try.prog 50 = true := by kernel_rfl
theorem Try.sz51 : szOf Try.prog 51 = 1 := by kernel_rfl
theorem Try.by51 : byOf Try.prog 51 = 24 := by kernel_rfl
theorem Try.ze51 : zeroA Try.prog 51 = [.imm 0 [] 0] := by kernel_rfl
theorem Try.zn51 : zeroN Try.prog 51 = [.sc (.slice none 0 0)] := by kernel_rfl
theorem Try.ha51 : hasT Try.prog 51 = true := by kernel_rfl
theorem Try.sz52 : szOf Try.prog 52 = 1 := by kernel_rfl
theorem Try.by52 : byOf Try.prog 52 = 8 := by kernel_rfl
theorem Try.ze52 : zeroA Try.prog 52 = [.sc (.int .u64 0)] := by kernel_rfl
theorem Try.zn52 : zeroN Try.prog 52 = [.sc (.int .u64 0)] := by kernel_rfl
theorem Try.ha52 : hasT Try.prog 52 = true := by kernel_rfl
theorem Try.sz53 : szOf Try.prog 53 = 1 := by kernel_rfl
theorem Try.by53 : byOf Try.prog 53 = 8 := by kernel_rfl
theorem Try.ze53 : zeroA Try.prog 53 = [.sc .nilFunc] := by kernel_rfl
theorem Try.zn53 : zeroN Try.prog 53 = [.sc .nilFunc] := by kernel_rfl
theorem Try.ha53 : hasT Try.prog 53 = true := by kernel_rfl
theorem Try.sz54 : szOf Try.prog 54 = 1 := by kernel_rfl
theorem Try.by54 : byOf Try.prog 54 = 8 := by kernel_rfl
theorem Try.ze54 : zeroA Try.prog 54 = [.sc .nilFunc] := by kernel_rfl
theorem Try.zn54 : zeroN Try.prog 54 = [.sc .nilFunc] := by kernel_rfl
theorem Try.ha54 : hasT Try.prog 54 = true := by kernel_rfl
theorem Try.sz55 : szOf Try.prog 55 = 1 := by kernel_rfl
theorem Try.by55 : byOf Try.prog 55 = 8 := by kernel_rfl
theorem Try.ze55 : zeroA Try.prog 55 = [.sc .nilFunc] := by kernel_rfl
theorem Try.zn55 : zeroN Try.prog 55 = [.sc .nilFunc] := by kernel_rfl
theorem Try.ha55 : hasT Try.prog 55 = true := by kernel_rfl
theorem Try.sz56 : szOf Try.prog 56 = 1 := by kernel_rfl
theorem Try.by56 : byOf Try.prog 56 = 8 := by kernel_rfl
theorem Try.ze56 : zeroA Try.prog 56 = [.sc .nilFunc] := by kernel_rfl
theorem Try.zn56 : zeroN Try.prog 56 = [.sc .nilFunc] := by kernel_rfl
theorem Try.ha56 : hasT Try.prog 56 = true := by kernel_rfl
theorem Try.sz57 : szOf Try.prog 57 = 1 := by kernel_rfl
theorem Try.by57 : byOf Try.prog 57 = 8 := by kernel_rfl
theorem Try.ze57 : zeroA Try.prog 57 = [.sc (.int .i64 0)] := by kernel_rfl
theorem Try.zn57 : zeroN Try.prog 57 = [.sc (.int .i64 0)] := by kernel_rfl
theorem Try.ha57 : hasT Try.prog 57 = true := by kernel_rfl
theorem Try.sz58 : szOf Try.prog 58 = 1 := by kernel_rfl
theorem Try.by58 : byOf Try.prog 58 = 0 := by kernel_rfl
theorem Try.sz59 : szOf Try.prog 59 = 1 := by kernel_rfl
theorem Try.by59 : byOf Try.prog 59 = 8 := by kernel_rfl
theorem Try.ze59 : zeroA Try.prog 59 = [.sc .nilFunc] := by kernel_rfl
theorem Try.zn59 : zeroN Try.prog 59 = [.sc .nilFunc] := by kernel_rfl
theorem Try.ha59 : hasT Try.prog 59 = true := by kernel_rfl
theorem Try.sz60 : szOf Try.prog 60 = 1 := by kernel_rfl
theorem Try.by60 : byOf Try.prog 60 = 0 := by kernel_rfl
theorem Try.sz61 : szOf Try.prog 61 = 1 := by kernel_rfl
theorem Try.by61 : byOf Try.prog 61 = 8 := by kernel_rfl
theorem Try.ze61 : zeroA Try.prog 61 = [.sc .nilFunc] := by kernel_rfl
theorem Try.zn61 : zeroN Try.prog 61 = [.sc .nilFunc] := by kernel_rfl
theorem Try.ha61 : hasT Try.prog 61 = true := by kernel_rfl
theorem Try.sz62 : szOf Try.prog 62 = 1 := by kernel_rfl
theorem Try.by62 : byOf Try.prog 62 = 8 := by kernel_rfl
theorem Try.ze62 : zeroA Try.prog 62 = [.sc .nilFunc] := by kernel_rfl
theorem Try.zn62 : zeroN Try.prog 62 = [.sc .nilFunc] := by kernel_rfl
theorem Try.ha62 : hasT Try.prog 62 = true := by kernel_rfl
theorem Try.sz63 : szOf Try.prog 63 = 1 := by kernel_rfl
theorem Try.by63 : byOf Try.prog 63 = 8 := by kernel_rfl
theorem Try.ze63 : zeroA Try.prog 63 = [.sc .nilFunc] := by kernel_rfl
theorem Try.zn63 : zeroN Try.prog 63 = [.sc .nilFunc] := by kernel_rfl
theorem Try.ha63 : hasT Try.prog 63 = true := by kernel_rfl
theorem Try.sz64 : szOf Try.prog 64 = 1 := by kernel_rfl
theorem Try.by64 : byOf Try.prog 64 = 8 := by kernel_rfl
theorem Try.ze64 : zeroA Try.prog 64 = [.sc .nilFunc] := by kernel_rfl
theorem Try.zn64 : zeroN Try.prog 64 = [.sc .nilFunc] := by kernel_rfl
theorem Try.ha64 : hasT Try.prog 64 = true := by kernel_rfl
theorem Try.sz65 : szOf Try.prog 65 = 1 := by kernel_rfl
theorem Try.by65 : byOf Try.prog 65 = 8 := by kernel_rfl
theorem Try.ze65 : zeroA Try.prog 65 = [.sc .nilFunc] := by kernel_rfl
theorem Try.zn65 : zeroN Try.prog 65 = [.sc .nilFunc] := by kernel_rfl
theorem Try.ha65 : hasT Try.prog 65 = true := by kernel_rfl
theorem Try.sz66 : szOf Try.prog 66 = 1 := by kernel_rfl
theorem Try.by66 : byOf Try.prog 66 = 8 := by kernel_rfl
theorem Try.ze66 : zeroA Try.prog 66 = [.sc .nilFunc] := by kernel_rfl
theorem Try.zn66 : zeroN Try.prog 66 = [.sc .nilFunc] := by kernel_rfl
theorem Try.ha66 : hasT Try.prog 66 = true := by kernel_rfl
theorem Try.sz67 : szOf Try.prog 67 = 1 := by kernel_rfl
theorem Try.by67 : byOf Try.prog 67 = 8 := by kernel_rfl
theorem Try.ze67 : zeroA Try.prog 67 = [.sc .nilFunc] := by kernel_rfl
theorem Try.zn67 : zeroN Try.prog 67 = [.sc .nilFunc] := by kernel_rfl
theorem Try.ha67 : hasT Try.prog 67 = true := by kernel_rfl
theorem Try.sz68 : szOf Try.prog 68 = 1 := by kernel_rfl
theorem Try.by68 : byOf Try.prog 68 = 8 := by kernel_rfl
theorem Try.ze68 : zeroA Try.prog 68 = [.sc .nilFunc] := by kernel_rfl
theorem Try.zn68 : zeroN Try.prog 68 = [.sc .nilFunc] := by kernel_rfl
theorem Try.ha68 : hasT Try.prog 68 = true := by kernel_rfl
theorem Try.sz69 : szOf Try.prog 69 = 2 := by kernel_rfl
theorem Try.by69 : byOf Try.prog 69 = 48 := by kernel_rfl
theorem Try.ze69 : zeroA Try.prog 69 = [.imm 0 [] 0, .imm 0 [] 0] := by kernel_rfl
theorem Try.zn69 : zeroN Try.prog 69 = [.sc (.slice none 0 0), .sc (.slice none 0 0)] := by kernel_rfl
theorem Try.ha69 : hasT Try.prog 69 = true := by kernel_rfl
theorem Try.sz70 : szOf Try.prog 70 = 6 := by kernel_rfl
theorem Try.by70 : byOf Try.prog 70 = 72 := by kernel_rfl
theorem Try.ze70 : zeroA Try.prog 70 = [.sc (.int .i64 0), .sc (.int .i64 0), .sc (.int .i32 0), .sc (.bool false), .imm 0 [] 0, .imm 0 [] 0] := by kernel_rfl
theorem Try.zn70 : zeroN Try.prog 70 = [.sc (.int .i64 0), .sc (.int .i64 0), .sc (.int .i32 0), .sc (.bool false), .sc (.slice none 0 0), .sc (.slice none 0 0)] := by kernel_rfl
theorem Try.ha70 : hasT Try.prog 70 = true := by kernel_rfl
theorem Try.sz71 : szOf Try.prog 71 = 6 := by kernel_rfl
theorem Try.by71 : byOf Try.prog 71 = 72 := by kernel_rfl
theorem Try.ze71 : zeroA Try.prog 71 = [.sc (.int .i64 0), .sc (.int .i64 0), .sc (.int .i32 0), .sc (.bool false), .imm 0 [] 0, .imm 0 [] 0] := by kernel_rfl
theorem Try.zn71 : zeroN Try.prog 71 = [.sc (.int .i64 0), .sc (.int .i64 0), .sc (.int .i32 0), .sc (.bool false), .sc (.slice none 0 0), .sc (.slice none 0 0)] := by kernel_rfl
theorem Try.ha71 : hasT Try.prog 71 = true := by kernel_rfl
theorem Try.sz72 : szOf Try.prog 72 = 1 := by kernel_rfl
theorem Try.by72 : byOf Try.prog 72 = 8 := by kernel_rfl
theorem Try.ze72 : zeroA Try.prog 72 = [.sc (.map none)] := by kernel_rfl
theorem Try.zn72 : zeroN Try.prog 72 = [.sc (.map none)] := by kernel_rfl
theorem Try.ha72 : hasT Try.prog 72 = true := by kernel_rfl
theorem Try.sz73 : szOf Try.prog 73 = 2 := by kernel_rfl
theorem Try.by73 : byOf Try.prog 73 = 16 := by kernel_rfl
theorem Try.ze73 : zeroA Try.prog 73 = [.sc (.map none), .sc (.int .i64 0)] := by kernel_rfl
theorem Try.zn73 : zeroN Try.prog 73 = [.sc (.map none), .sc (.int .i64 0)] := by kernel_rfl
theorem Try.ha73 : hasT Try.prog 73 = true := by kernel_rfl
theorem Try.sz74 : szOf Try.prog 74 = 2 := by kernel_rfl
theorem Try.by74 : byOf Try.prog 74 = 16 := by kernel_rfl
theorem Try.ze74 : zeroA Try.prog 74 = [.sc (.map none), .sc (.int .i64 0)] := by kernel_rfl
theorem Try.zn74 : zeroN Try.prog 74 = [.sc (.map none), .sc (.int .i64 0)] := by kernel_rfl
theorem Try.ha74 : hasT Try.prog 74 = true := by kernel_rfl
theorem Try.sz75 : szOf Try.prog 75 = 1 := by kernel_rfl
theorem Try.by75 : byOf Try.prog 75 = 0 := by kernel_rfl
theorem Try.sz76 : szOf Try.prog 76 = 1 := by kernel_rfl
theorem Try.by76 : byOf Try.prog 76 = 8 := by kernel_rfl
theorem Try.ze76 : zeroA Try.prog 76 = [.sc .nilFunc] := by kernel_rfl
theorem Try.zn76 : zeroN Try.prog 76 = [.sc .nilFunc] := by kernel_rfl
theorem Try.ha76 : hasT Try.prog 76 = true := by kernel_rfl
theorem Try.sz77 : szOf Try.prog 77 = 1 := by kernel_rfl
theorem Try.by77 : byOf Try.prog 77 = 8 := by kernel_rfl
theorem Try.ze77 : zeroA Try.prog 77 = [.sc .nilFunc] := by kernel_rfl
theorem Try.zn77 : zeroN Try.prog 77 = [.sc .nilFunc] := by kernel_rfl
theorem Try.ha77 : hasT Try.prog 77 = true := by kernel_rfl
theorem Try.sz78 : szOf Try.prog 78 = 1 := by kernel_rfl
theorem Try.by78 : byOf Try.prog 78 = 8 := by kernel_rfl
theorem Try.ze78 : zeroA Try.prog 78 = [.sc .nilFunc] := by kernel_rfl
theorem Try.zn78 : zeroN Try.prog 78 = [.sc .nilFunc] := by kernel_rfl
theorem Try.ha78 : hasT Try.prog 78 = true := by kernel_rfl
theorem Try.sz79 : szOf Try.prog 79 = 4 := by kernel_rfl
theorem Try.by79 : byOf Try.prog 79 = 32 := by kernel_rfl
theorem Try.ze79 : zeroA Try.prog 79 = [.sc (.int .i64 0), .sc (.int .i64 0), .sc (.int .i64 0), .sc (.int .i64 0)] := by kernel_rfl
theorem Try.zn79 : zeroN Try.prog 79 = [.sc (.int .i64 0), .sc (.int .i64 0), .sc (.int .i64 0), .sc (.int .i64 0)] := by kernel_rfl
theorem Try.ha79 : hasT Try.prog 79 = true := by kernel_rfl
theorem Try.sz80 : szOf Try.prog 80 = 4 := by kernel_rfl
theorem Try.by80 : byOf Try.prog 80 = 32 := by kernel_rfl
theorem Try.ze80 : zeroA Try.prog 80 = [.sc (.int .i64 0), .sc (.int .i64 0), .sc (.int .i64 0), .sc (.int .i64 0)] := by kernel_rfl
theorem Try.zn80 : zeroN Try.prog 80 = [.sc (.int .i64 0), .sc (.int .i64 0), .sc (.int .i64 0), .sc (.int .i64 0)] := by kernel_rfl
theorem Try.ha80 : hasT Try.prog 80 = true := by kernel_rfl
theorem Try.sz81 : szOf Try.prog 81 = 1 := by kernel_rfl
theorem Try.by81 : byOf Try.prog 81 = 24 := by kernel_rfl
theorem Try.ze81 : zeroA Try.prog 81 = [.imm 0 [] 0] := by kernel_rfl
theorem Try.zn81 : zeroN Try.prog 81 = [.sc (.slice none 0 0)] := by kernel_rfl
theorem Try.ha81 : hasT Try.prog 81 = true := by kernel_rfl
theorem Try.sz82 : szOf Try.prog 82 = 1 := by kernel_rfl
theorem Try.by82 : byOf Try.prog 82 = 24 := by kernel_rfl
theorem Try.ze82 : zeroA Try.prog 82 = [.imm 0 [] 0] := by kernel_rfl
theorem Try.zn82 : zeroN Try.prog 82 = [.sc (.slice none 0 0)] := by kernel_rfl
theorem Try.ha82 : hasT Try.prog 82 = true := by kernel_rfl
theorem Try.sz83 : szOf Try.prog 83 = 1 := by kernel_rfl
theorem Try.by83 : byOf Try.prog 83 = 8 := by kernel_rfl
theorem Try.ze83 : zeroA Try.prog 83 = [.sc .nilFunc] := by kernel_rfl
theorem Try.zn83 : zeroN Try.prog 83 = [.sc .nilFunc] := by kernel_rfl
theorem Try.ha83 : hasT Try.prog 83 = true := by kernel_rfl
theorem Try.sz84 : szOf Try.prog 84 = 1 := by kernel_rfl
theorem Try.by84 : byOf Try.prog 84 = 0 := by kernel_rfl
theorem Try.sz85 : szOf Try.prog 85 = 1 := by kernel_rfl
theorem Try.by85 : byOf Try.prog 85 = 8 := by kernel_rfl
theorem Try.ze85 : zeroA Try.prog 85 = [.sc .nilFunc] := by kernel_rfl
theorem Try.zn85 : zeroN Try.prog 85 = [.sc .nilFunc] := by kernel_rfl
theorem Try.ha85 : hasT Try.prog 85 = true := by kernel_rfl
theorem Try.sz86 : szOf Try.prog 86 = 1 := by kernel_rfl
theorem Try.by86 : byOf Try.prog 86 = 8 := by kernel_rfl
theorem Try.ze86 : zeroA Try.prog 86 = [.sc .nilFunc] := by kernel_rfl
theorem Try.zn86 : zeroN Try.prog 86 = [.sc .nilFunc] := by kernel_rfl
theorem Try.ha86 : hasT Try.prog 86 = true := by kernel_rfl
theorem Try.sz87 : szOf Try.prog 87 = 1 := by kernel_rfl
theorem Try.by87 : byOf Try.prog 87 = 8 := by kernel_rfl
theorem Try.ze87 : zeroA Try.prog 87 = [.sc .nilFunc] := by kernel_rfl
theorem Try.zn87 : zeroN Try.prog 87 = [.sc .nilFunc] := by kernel_rfl
theorem Try.ha87 : hasT Try.prog 87 = true := by kernel_rfl
theorem Try.sz88 : szOf Try.prog 88 = 1 := by kernel_rfl
theorem Try.by88 : byOf Try.prog 88 = 8 := by kernel_rfl
theorem Try.ze88 : zeroA Try.prog 88 = [.sc .nilFunc] := by kernel_rfl
theorem Try.zn88 : zeroN Try.prog 88 = [.sc .nilFunc] := by kernel_rfl
theorem Try.ha88 : hasT Try.prog 88 = true := by kernel_rfl
theorem Try.sz89 : szOf Try.prog 89 = 4 := by kernel_rfl
theorem Try.by89 : byOf Try.prog 89 = 40 := by kernel_rfl
theorem Try.ze89 : zeroA Try.prog 89 = [.sc (.pointer none), .sc (.pointer none), .sc (.pointer none), .sc (.string ⟨#[]⟩)] := by kernel_rfl
theorem Try.zn89 : zeroN Try.prog 89 = [.sc (.pointer none), .sc (.pointer none), .sc (.pointer none), .sc (.string ⟨#[]⟩)] := by kernel_rfl
theorem Try.ha89 : hasT Try.prog 89 = true := by kernel_rfl
theorem Try.sz90 : szOf Try.prog 90 = 4 := by kernel_rfl
theorem Try.by90 : byOf Try.prog 90 = 40 := by kernel_rfl
theorem Try.ze90 : zeroA Try.prog 90 = [.sc (.pointer none), .sc (.pointer none), .sc (.pointer none), .sc (.string ⟨#[]⟩)] := by kernel_rfl
theorem Try.zn90 : zeroN Try.prog 90 = [.sc (.pointer none), .sc (.pointer none), .sc (.pointer none), .sc (.string ⟨#[]⟩)] := by kernel_rfl
theorem Try.ha90 : hasT Try.prog 90 = true := by kernel_rfl
theorem Try.sz91 : szOf Try.prog 91 = 0 := by kernel_rfl
theorem Try.by91 : byOf Try.prog 91 = 0 := by kernel_rfl
theorem Try.ze91 : zeroA Try.prog 91 = [] := by kernel_rfl
theorem Try.zn91 : zeroN Try.prog 91 = [] := by kernel_rfl
theorem Try.ha91 : hasT Try.prog 91 = true := by kernel_rfl
theorem Try.sz92 : szOf Try.prog 92 = 0 := by kernel_rfl
theorem Try.by92 : byOf Try.prog 92 = 0 := by kernel_rfl
theorem Try.ze92 : zeroA Try.prog 92 = [] := by kernel_rfl
theorem Try.zn92 : zeroN Try.prog 92 = [] := by kernel_rfl
theorem Try.ha92 : hasT Try.prog 92 = true := by kernel_rfl
theorem Try.sz93 : szOf Try.prog 93 = 0 := by kernel_rfl
theorem Try.by93 : byOf Try.prog 93 = 0 := by kernel_rfl
theorem Try.ze93 : zeroA Try.prog 93 = [] := by kernel_rfl
theorem Try.zn93 : zeroN Try.prog 93 = [] := by kernel_rfl
theorem Try.ha93 : hasT Try.prog 93 = true := by kernel_rfl
theorem Try.sz94 : szOf Try.prog 94 = 1 := by kernel_rfl
theorem Try.by94 : byOf Try.prog 94 = 4 := by kernel_rfl
theorem Try.ze94 : zeroA Try.prog 94 = [.sc (.int .u32 0)] := by kernel_rfl
theorem Try.zn94 : zeroN Try.prog 94 = [.sc (.int .u32 0)] := by kernel_rfl
theorem Try.ha94 : hasT Try.prog 94 = true := by kernel_rfl
theorem Try.sz95 : szOf Try.prog 95 = 1 := by kernel_rfl
theorem Try.by95 : byOf Try.prog 95 = 1 := by kernel_rfl
theorem Try.ze95 : zeroA Try.prog 95 = [.sc (.int .u8 0)] := by kernel_rfl
theorem Try.zn95 : zeroN Try.prog 95 = [.sc (.int .u8 0)] := by kernel_rfl
theorem Try.ha95 : hasT Try.prog 95 = true := by kernel_rfl
theorem Try.sz96 : szOf Try.prog 96 = 1 := by kernel_rfl
theorem Try.by96 : byOf Try.prog 96 = 1 := by kernel_rfl
theorem Try.ze96 : zeroA Try.prog 96 = [.sc (.int .u8 0)] := by kernel_rfl
theorem Try.zn96 : zeroN Try.prog 96 = [.sc (.int .u8 0)] := by kernel_rfl
theorem Try.ha96 : hasT Try.prog 96 = true := by kernel_rfl
theorem Try.sz97 : szOf Try.prog 97 = 1 := by kernel_rfl
theorem Try.by97 : byOf Try.prog 97 = 8 := by kernel_rfl
theorem Try.ze97 : zeroA Try.prog 97 = [.sc .nilFunc] := by kernel_rfl
theorem Try.zn97 : zeroN Try.prog 97 = [.sc .nilFunc] := by kernel_rfl
theorem Try.ha97 : hasT Try.prog 97 = true := by kernel_rfl
theorem Try.sz98 : szOf Try.prog 98 = 1 := by kernel_rfl
theorem Try.by98 : byOf Try.prog 98 = 8 := by kernel_rfl
theorem Try.ze98 : zeroA Try.prog 98 = [.sc (.pointer none)] := by kernel_rfl
theorem Try.zn98 : zeroN Try.prog 98 = [.sc (.pointer none)] := by kernel_rfl
theorem Try.ha98 : hasT Try.prog 98 = true := by kernel_rfl
theorem Try.sz99 : szOf Try.prog 99 = 1 := by kernel_rfl
theorem Try.by99 : byOf Try.prog 99 = 4 := by kernel_rfl
theorem Try.ze99 : zeroA Try.prog 99 = [.sc (.int .i32 0)] := by kernel_rfl
theorem Try.zn99 : zeroN Try.prog 99 = [.sc (.int .i32 0)] := by kernel_rfl
theorem Try.ha99 : hasT Try.prog 99 = true := by kernel_rfl
theorem Try.sz100 : szOf Try.prog 100 = 1 := by kernel_rfl
theorem Try.by100 : byOf Try.prog 100 = 4 := by kernel_rfl
theorem Try.ze100 : zeroA Try.prog 100 = [.sc (.int .i32 0)] := by kernel_rfl
theorem Try.zn100 : zeroN Try.prog 100 = [.sc (.int .i32 0)] := by kernel_rfl
theorem Try.ha100 : hasT Try.prog 100 = true := by kernel_rfl
theorem Try.sz101 : szOf Try.prog 101 = 11 := by kernel_rfl
theorem Try.by101 : byOf Try.prog 101 = 48 := by kernel_rfl
theorem Try.ze101 : zeroA Try.prog 101 = [.sc (.int .u64 0), .sc (.int .u64 0), .sc (.int .u32 0), .sc (.int .u8 0), .sc (.int .u8 0), .sc (.int .u8 0), .sc (.int .u8 0), .sc .nilFunc, .sc (.pointer none), .sc (.int .i32 0), .sc (.int .i32 0)] := by kernel_rfl
theorem Try.zn101 : zeroN Try.prog 101 = [.sc (.int .u64 0), .sc (.int .u64 0), .sc (.int .u32 0), .sc (.int .u8 0), .sc (.int .u8 0), .sc (.int .u8 0), .sc (.int .u8 0), .sc .nilFunc, .sc (.pointer none), .sc (.int .i32 0), .sc (.int .i32 0)] := by kernel_rfl
theorem Try.ha101 : hasT Try.prog 101 = true := by kernel_rfl
theorem Try.sz102 : szOf Try.prog 102 = 11 := by kernel_rfl
theorem Try.by102 : byOf Try.prog 102 = 48 := by kernel_rfl
theorem Try.ze102 : zeroA Try.prog 102 = [.sc (.int .u64 0), .sc (.int .u64 0), .sc (.int .u32 0), .sc (.int .u8 0), .sc (.int .u8 0), .sc (.int .u8 0), .sc (.int .u8 0), .sc .nilFunc, .sc (.pointer none), .sc (.int .i32 0), .sc (.int .i32 0)] := by kernel_rfl
theorem Try.zn102 : zeroN Try.prog 102 = [.sc (.int .u64 0), .sc (.int .u64 0), .sc (.int .u32 0), .sc (.int .u8 0), .sc (.int .u8 0), .sc (.int .u8 0), .sc (.int .u8 0), .sc .nilFunc, .sc (.pointer none), .sc (.int .i32 0), .sc (.int .i32 0)] := by kernel_rfl
theorem Try.ha102 : hasT Try.prog 102 = true := by kernel_rfl
theorem Try.sz103 : szOf Try.prog 103 = 1 := by kernel_rfl
theorem Try.by103 : byOf Try.prog 103 = 8 := by kernel_rfl
theorem Try.ze103 : zeroA Try.prog 103 = [.sc (.pointer none)] := by kernel_rfl
theorem Try.zn103 : zeroN Try.prog 103 = [.sc (.pointer none)] := by kernel_rfl
theorem Try.ha103 : hasT Try.prog 103 = true := by kernel_rfl
theorem Try.eq7 (a1 b1 : Int) (a2 b2 : Int) (a3 b3 : Bool) (a4 b4 : Int) : eqG Try.prog 6 7 (.agg [.sc (.int .i64 a1), .sc (.int .i64 a2), .sc (.bool a3), .sc (.int .u8 a4)]) (.agg [.sc (.int .i64 b1), .sc (.int .i64 b2), .sc (.bool b3), .sc (.int .u8 b4)]) = some ((a1 == b1) && ((a2 == b2) && ((a3 == b3) && ((a4 == b4) && true)))) := by kernel_rfl
theorem Try.ck7 (x0 x1 x2 x3 : AV) : chkA Try.prog 6 7 (.agg [x0, x1, x2, x3]) = true := by kernel_rfl
theorem Try.eq8 (a1 b1 : Int) (a2 b2 : Int) (a3 b3 : Bool) (a4 b4 : Int) : eqG Try.prog 6 8 (.agg [.sc (.int .i64 a1), .sc (.int .i64 a2), .sc (.bool a3), .sc (.int .u8 a4)]) (.agg [.sc (.int .i64 b1), .sc (.int .i64 b2), .sc (.bool b3), .sc (.int .u8 b4)]) = some ((a1 == b1) && ((a2 == b2) && ((a3 == b3) && ((a4 == b4) && true)))) := by kernel_rfl
theorem Try.ck8 (x0 x1 x2 x3 : AV) : chkA Try.prog 6 8 (.agg [x0, x1, x2, x3]) = true := by kernel_rfl
theorem Try.eq30 (a1 b1 : Int) (a2 b2 : Int) : eqG Try.prog 6 30 (.agg [.sc (.int .i64 a1), .sc (.int .i64 a2)]) (.agg [.sc (.int .i64 b1), .sc (.int .i64 b2)]) = some ((a1 == b1) && ((a2 == b2) && true)) := by kernel_rfl
theorem Try.ck30 (x0 x1 : AV) : chkA Try.prog 6 30 (.agg [x0, x1]) = true := by kernel_rfl
theorem Try.eq31 (a1 b1 : Int) (a2 b2 : Int) : eqG Try.prog 6 31 (.agg [.sc (.int .i64 a1), .sc (.int .i64 a2)]) (.agg [.sc (.int .i64 b1), .sc (.int .i64 b2)]) = some ((a1 == b1) && ((a2 == b2) && true)) := by kernel_rfl
theorem Try.ck31 (x0 x1 : AV) : chkA Try.prog 6 31 (.agg [x0, x1]) = true := by kernel_rfl
theorem Try.eq32 (a1 b1 : Int) (a2 b2 : Int) (a3 b3 : Int) (a4 b4 : Int) (a5 b5 : Bool) (a6 b6 : Int) : eqG Try.prog 6 32 (.agg [.sc (.int .i64 a1), .sc (.int .i64 a2), .sc (.int .i64 a3), .sc (.int .i64 a4), .sc (.bool a5), .sc (.int .i32 a6)]) (.agg [.sc (.int .i64 b1), .sc (.int .i64 b2), .sc (.int .i64 b3), .sc (.int .i64 b4), .sc (.bool b5), .sc (.int .i32 b6)]) = some (((a1 == b1) && ((a2 == b2) && true)) && (((a3 == b3) && ((a4 == b4) && true)) && ((a5 == b5) && ((a6 == b6) && true)))) := by kernel_rfl
theorem Try.ck32 (x0 x1 x2 x3 x4 x5 : AV) : chkA Try.prog 6 32 (.agg [x0, x1, x2, x3, x4, x5]) = true := by kernel_rfl
theorem Try.eq33 (a1 b1 : Int) (a2 b2 : Int) (a3 b3 : Int) (a4 b4 : Int) (a5 b5 : Bool) (a6 b6 : Int) : eqG Try.prog 6 33 (.agg [.sc (.int .i64 a1), .sc (.int .i64 a2), .sc (.int .i64 a3), .sc (.int .i64 a4), .sc (.bool a5), .sc (.int .i32 a6)]) (.agg [.sc (.int .i64 b1), .sc (.int .i64 b2), .sc (.int .i64 b3), .sc (.int .i64 b4), .sc (.bool b5), .sc (.int .i32 b6)]) = some (((a1 == b1) && ((a2 == b2) && true)) && (((a3 == b3) && ((a4 == b4) && true)) && ((a5 == b5) && ((a6 == b6) && true)))) := by kernel_rfl
theorem Try.ck33 (x0 x1 x2 x3 x4 x5 : AV) : chkA Try.prog 6 33 (.agg [x0, x1, x2, x3, x4, x5]) = true := by kernel_rfl
theorem Try.eq34 (a1 b1 : Int) (a2 b2 : Int) (a3 b3 : Int) (a4 b4 : Int) (a5 b5 : Int) (a6 b6 : Bool) (a7 b7 : Int) (a8 b8 : Int) (a9 b9 : Int) : eqG Try.prog 6 34 (.agg [.sc (.int .i64 a1), .sc (.int .i64 a2), .sc (.int .i64 a3), .sc (.int .i64 a4), .sc (.int .i64 a5), .sc (.bool a6), .sc (.int .i32 a7), .sc (.int .i64 a8), .sc (.int .i64 a9)]) (.agg [.sc (.int .i64 b1), .sc (.int .i64 b2), .sc (.int .i64 b3), .sc (.int .i64 b4), .sc (.int .i64 b5), .sc (.bool b6), .sc (.int .i32 b7), .sc (.int .i64 b8), .sc (.int .i64 b9)]) = some ((a1 == b1) && ((((a2 == b2) && ((a3 == b3) && true)) && (((a4 == b4) && ((a5 == b5) && true)) && ((a6 == b6) && ((a7 == b7) && true)))) && (((a8 == b8) && ((a9 == b9) && true)) && true))) := by kernel_rfl
theorem Try.ck34 (x0 x1 x2 x3 x4 x5 x6 x7 x8 : AV) : chkA Try.prog 6 34 (.agg [x0, x1, x2, x3, x4, x5, x6, x7, x8]) = true := by kernel_rfl
theorem Try.eq35 (a1 b1 : Int) (a2 b2 : Int) (a3 b3 : Int) (a4 b4 : Int) (a5 b5 : Int) (a6 b6 : Bool) (a7 b7 : Int) (a8 b8 : Int) (a9 b9 : Int) : eqG Try.prog 6 35 (.agg [.sc (.int .i64 a1), .sc (.int .i64 a2), .sc (.int .i64 a3), .sc (.int .i64 a4), .sc (.int .i64 a5), .sc (.bool a6), .sc (.int .i32 a7), .sc (.int .i64 a8), .sc (.int .i64 a9)]) (.agg [.sc (.int .i64 b1), .sc (.int .i64 b2), .sc (.int .i64 b3), .sc (.int .i64 b4), .sc (.int .i64 b5), .sc (.bool b6), .sc (.int .i32 b7), .sc (.int .i64 b8), .sc (.int .i64 b9)]) = some ((a1 == b1) && ((((a2 == b2) && ((a3 == b3) && true)) && (((a4 == b4) && ((a5 == b5) && true)) && ((a6 == b6) && ((a7 == b7) && true)))) && (((a8 == b8) && ((a9 == b9) && true)) && true))) := by kernel_rfl
theorem Try.ck35 (x0 x1 x2 x3 x4 x5 x6 x7 x8 : AV) : chkA Try.prog 6 35 (.agg [x0, x1, x2, x3, x4, x5, x6, x7, x8]) = true := by kernel_rfl
theorem Try.eq43 (a1 b1 : Int) (a2 b2 : Int) (a3 b3 : Int) (a4 b4 : Bool) : eqG Try.prog 6 43 (.agg [.sc (.int .i64 a1), .sc (.int .i64 a2), .sc (.int .i32 a3), .sc (.bool a4)]) (.agg [.sc (.int .i64 b1), .sc (.int .i64 b2), .sc (.int .i32 b3), .sc (.bool b4)]) = some (((a1 == b1) && ((a2 == b2) && true)) && ((a3 == b3) && ((a4 == b4) && true))) := by kernel_rfl
theorem Try.ck43 (x0 x1 x2 x3 : AV) : chkA Try.prog 6 43 (.agg [x0, x1, x2, x3]) = true := by kernel_rfl
theorem Try.eq44 (a1 b1 : Int) (a2 b2 : Int) (a3 b3 : Int) (a4 b4 : Bool) : eqG Try.prog 6 44 (.agg [.sc (.int .i64 a1), .sc (.int .i64 a2), .sc (.int .i32 a3), .sc (.bool a4)]) (.agg [.sc (.int .i64 b1), .sc (.int .i64 b2), .sc (.int .i32 b3), .sc (.bool b4)]) = some (((a1 == b1) && ((a2 == b2) && true)) && ((a3 == b3) && ((a4 == b4) && true))) := by kernel_rfl
theorem Try.ck44 (x0 x1 x2 x3 : AV) : chkA Try.prog 6 44 (.agg [x0, x1, x2, x3]) = true := by kernel_rfl
theorem Try.eq79 (a1 b1 : Int) (a2 b2 : Int) (a3 b3 : Int) (a4 b4 : Int) : eqG Try.prog 6 79 (.agg [.sc (.int .i64 a1), .sc (.int .i64 a2), .sc (.int .i64 a3), .sc (.int .i64 a4)]) (.agg [.sc (.int .i64 b1), .sc (.int .i64 b2), .sc (.int .i64 b3), .sc (.int .i64 b4)]) = some (((a1 == b1) && ((a2 == b2) && true)) && ((a3 == b3) && ((a4 == b4) && true))) := by kernel_rfl
theorem Try.ck79 (x0 x1 x2 x3 : AV) : chkA Try.prog 6 79 (.agg [x0, x1, x2, x3]) = true := by kernel_rfl
theorem Try.eq80 (a1 b1 : Int) (a2 b2 : Int) (a3 b3 : Int) (a4 b4 : Int) : eqG Try.prog 6 80 (.agg [.sc (.int .i64 a1), .sc (.int .i64 a2), .sc (.int .i64 a3), .sc (.int .i64 a4)]) (.agg [.sc (.int .i64 b1), .sc (.int .i64 b2), .sc (.int .i64 b3), .sc (.int .i64 b4)]) = some (((a1 == b1) && ((a2 == b2) && true)) && ((a3 == b3) && ((a4 == b4) && true))) := by kernel_rfl
theorem Try.ck80 (x0 x1 x2 x3 : AV) : chkA Try.prog 6 80 (.agg [x0, x1, x2, x3]) = true := by kernel_rfl
theorem Try.zv1 : zeroV Try.prog 1 = .sc .nilFunc := by kernel_rfl
theorem Try.zv2 : zeroV Try.prog 2 = .sc (.int .i64 0) := by kernel_rfl
theorem Try.zv3 : zeroV Try.prog 3 = .sc (.int .i64 0) := by kernel_rfl
theorem Try.zv4 : zeroV Try.prog 4 = .sc (.bool false) := by kernel_rfl
theorem Try.zv5 : zeroV Try.prog 5 = .sc (.int .u8 0) := by kernel_rfl
theorem Try.zv6 : zeroV Try.prog 6 = .sc (.int .u8 0) := by kernel_rfl
theorem Try.zv7 : zeroV Try.prog 7 = .agg [.sc (.int .i64 0), .sc (.int .i64 0), .sc (.bool false), .sc (.int .u8 0)] := by kernel_rfl
theorem Try.zv8 : zeroV Try.prog 8 = .agg [.sc (.int .i64 0), .sc (.int .i64 0), .sc (.bool false), .sc (.int .u8 0)] := by kernel_rfl
theorem Try.zv9 : zeroV Try.prog 9 = .sc (.string ⟨#[]⟩) := by kernel_rfl
theorem Try.zv10 : zeroV Try.prog 10 = .sc (.string ⟨#[]⟩) := by kernel_rfl
theorem Try.zv11 : zeroV Try.prog 11 = .sc (.string ⟨#[]⟩) := by kernel_rfl
theorem Try.zv12 : zeroV Try.prog 12 = .sc (.int .u64 0) := by kernel_rfl
theorem Try.zv13 : zeroV Try.prog 13 = .agg [.sc (.string ⟨#[]⟩), .sc (.int .u64 0)] := by kernel_rfl
theorem Try.zv14 : zeroV Try.prog 14 = .agg [.sc (.string ⟨#[]⟩), .sc (.int .u64 0)] := by kernel_rfl
theorem Try.zv15 : zeroV Try.prog 15 = .sc (.pointer none) := by kernel_rfl
theorem Try.zv16 : zeroV Try.prog 16 = .sc (.pointer none) := by kernel_rfl
theorem Try.zv17 : zeroV Try.prog 17 = .sc (.pointer none) := by kernel_rfl
theorem Try.zv18 : zeroV Try.prog 18 = .agg [.sc (.pointer none)] := by kernel_rfl
theorem Try.zv19 : zeroV Try.prog 19 = .agg [.sc (.pointer none)] := by kernel_rfl
theorem Try.zv20 : zeroV Try.prog 20 = .sc .nilIface := by kernel_rfl
theorem Try.zv21 : zeroV Try.prog 21 = .sc (.int .i32 0) := by kernel_rfl
theorem Try.zv22 : zeroV Try.prog 22 = .sc (.slice none 0 0) := by kernel_rfl
theorem Try.zv23 : zeroV Try.prog 23 = .sc .nilFunc := by kernel_rfl
theorem Try.zv24 : zeroV Try.prog 24 = .sc (.pointer none) := by kernel_rfl
theorem Try.zv25 : zeroV Try.prog 25 = .sc .nilFunc := by kernel_rfl
theorem Try.zv26 : zeroV Try.prog 26 = .sc (.slice none 0 0) := by kernel_rfl
theorem Try.zv27 : zeroV Try.prog 27 = .sc (.slice none 0 0) := by kernel_rfl
theorem Try.zv28 : zeroV Try.prog 28 = .agg [.sc (.slice none 0 0), .sc (.slice none 0 0)] := by kernel_rfl
theorem Try.zv29 : zeroV Try.prog 29 = .agg [.sc (.slice none 0 0), .sc (.slice none 0 0)] := by kernel_rfl
theorem Try.zv30 : zeroV Try.prog 30 = .agg [.sc (.int .i64 0), .sc (.int .i64 0)] := by kernel_rfl
theorem Try.zv31 : zeroV Try.prog 31 = .agg [.sc (.int .i64 0), .sc (.int .i64 0)] := by kernel_rfl
theorem Try.zv32 : zeroV Try.prog 32 = .agg [.sc (.int .i64 0), .sc (.int .i64 0), .sc (.int .i64 0), .sc (.int .i64 0), .sc (.bool false), .sc (.int .i32 0)] := by kernel_rfl
theorem Try.zv33 : zeroV Try.prog 33 = .agg [.sc (.int .i64 0), .sc (.int .i64 0), .sc (.int .i64 0), .sc (.int .i64 0), .sc (.bool false), .sc (.int .i32 0)] := by kernel_rfl
theorem Try.zv34 : zeroV Try.prog 34 = .agg [.sc (.int .i64 0), .sc (.int .i64 0), .sc (.int .i64 0), .sc (.int .i64 0), .sc (.int .i64 0), .sc (.bool false), .sc (.int .i32 0), .sc (.int .i64 0), .sc (.int .i64 0)] := by kernel_rfl
theorem Try.zv35 : zeroV Try.prog 35 = .agg [.sc (.int .i64 0), .sc (.int .i64 0), .sc (.int .i64 0), .sc (.int .i64 0), .sc (.int .i64 0), .sc (.bool false), .sc (.int .i32 0), .sc (.int .i64 0), .sc (.int .i64 0)] := by kernel_rfl
theorem Try.zv37 : zeroV Try.prog 37 = .sc .nilFunc := by kernel_rfl
theorem Try.zv38 : zeroV Try.prog 38 = .sc (.slice none 0 0) := by kernel_rfl
theorem Try.zv39 : zeroV Try.prog 39 = .sc .nilFunc := by kernel_rfl
theorem Try.zv40 : zeroV Try.prog 40 = .sc .nilFunc := by kernel_rfl
theorem Try.zv41 : zeroV Try.prog 41 = .sc .nilFunc := by kernel_rfl
theorem Try.zv42 : zeroV Try.prog 42 = .sc .nilFunc := by kernel_rfl
theorem Try.zv43 : zeroV Try.prog 43 = .agg [.sc (.int .i64 0), .sc (.int .i64 0), .sc (.int .i32 0), .sc (.bool false)] := by kernel_rfl
theorem Try.zv44 : zeroV Try.prog 44 = .agg [.sc (.int .i64 0), .sc (.int .i64 0), .sc (.int .i32 0), .sc (.bool false)] := by kernel_rfl
theorem Try.zv45 : zeroV Try.prog 45 = .sc .nilFunc := by kernel_rfl
theorem Try.zv46 : zeroV Try.prog 46 = .sc .nilFunc := by kernel_rfl
theorem Try.zv47 : zeroV Try.prog 47 = .sc .nilFunc := by kernel_rfl
theorem Try.zv48 : zeroV Try.prog 48 = .sc .nilFunc := by kernel_rfl
theorem Try.zv49 : zeroV Try.prog 49 = .sc .nilFunc := by kernel_rfl
theorem Try.zv50 : zeroV Try.prog 50 = .sc .nilFunc := by kernel_rfl
theorem Try.zv51 : zeroV Try.prog 51 = .sc (.slice none 0 0) := by kernel_rfl
theorem Try.zv52 : zeroV Try.prog 52 = .sc (.int .u64 0) := by kernel_rfl
theorem Try.zv53 : zeroV Try.prog 53 = .sc .nilFunc := by kernel_rfl
theorem Try.zv54 : zeroV Try.prog 54 = .sc .nilFunc := by kernel_rfl
theorem Try.zv55 : zeroV Try.prog 55 = .sc .nilFunc := by kernel_rfl
theorem Try.zv56 : zeroV Try.prog 56 = .sc .nilFunc := by kernel_rfl
theorem Try.zv57 : zeroV Try.prog 57 = .sc (.int .i64 0) := by kernel_rfl
theorem Try.zv59 : zeroV Try.prog 59 = .sc .nilFunc := by kernel_rfl
theorem Try.zv61 : zeroV Try.prog 61 = .sc .nilFunc := by kernel_rfl
theorem Try.zv62 : zeroV Try.prog 62 = .sc .nilFunc := by kernel_rfl
theorem Try.zv63 : zeroV Try.prog 63 = .sc .nilFunc := by kernel_rfl
theorem Try.zv64 : zeroV Try.prog 64 = .sc .nilFunc := by kernel_rfl
theorem Try.zv65 : zeroV Try.prog 65 = .sc .nilFunc := by kernel_rfl
theorem Try.zv66 : zeroV Try.prog 66 = .sc .nilFunc := by kernel_rfl
theorem Try.zv67 : zeroV Try.prog 67 = .sc .nilFunc := by kernel_rfl
theorem Try.zv68 : zeroV Try.prog 68 = .sc .nilFunc := by kernel_rfl
theorem Try.zv69 : zeroV Try.prog 69 = .agg [.sc (.slice none 0 0), .sc (.slice none 0 0)] := by kernel_rfl
theorem Try.zv70 : zeroV Try.prog 70 = .agg [.sc (.int .i64 0), .sc (.int .i64 0), .sc (.int .i32 0), .sc (.bool false), .sc (.slice none 0 0), .sc (.slice none 0 0)] := by kernel_rfl
theorem Try.zv71 : zeroV Try.prog 71 = .agg [.sc (.int .i64 0), .sc (.int .i64 0), .sc (.int .i32 0), .sc (.bool false), .sc (.slice none 0 0), .sc (.slice none 0 0)] := by kernel_rfl
theorem Try.zv72 : zeroV Try.prog 72 = .sc (.map none) := by kernel_rfl
theorem Try.zv73 : zeroV Try.prog 73 = .agg [.sc (.map none), .sc (.int .i64 0)] := by kernel_rfl
theorem Try.zv74 : zeroV Try.prog 74 = .agg [.sc (.map none), .sc (.int .i64 0)] := by kernel_rfl
theorem Try.zv76 : zeroV Try.prog 76 = .sc .nilFunc := by kernel_rfl
theorem Try.zv77 : zeroV Try.prog 77 = .sc .nilFunc := by kernel_rfl
theorem Try.zv78 : zeroV Try.prog 78 = .sc .nilFunc := by kernel_rfl
theorem Try.zv79 : zeroV Try.prog 79 = .agg [.sc (.int .i64 0), .sc (.int .i64 0), .sc (.int .i64 0), .sc (.int .i64 0)] := by kernel_rfl
theorem Try.zv80 : zeroV Try.prog 80 = .agg [.sc (.int .i64 0), .sc (.int .i64 0), .sc (.int .i64 0), .sc (.int .i64 0)] := by kernel_rfl
theorem Try.zv81 : zeroV Try.prog 81 = .sc (.slice none 0 0) := by kernel_rfl
theorem Try.zv82 : zeroV Try.prog 82 = .sc (.slice none 0 0) := by kernel_rfl
theorem Try.zv83 : zeroV Try.prog 83 = .sc .nilFunc := by kernel_rfl
theorem Try.zv85 : zeroV Try.prog 85 = .sc .nilFunc := by kernel_rfl
theorem Try.zv86 : zeroV Try.prog 86 = .sc .nilFunc := by kernel_rfl
theorem Try.zv87 : zeroV Try.prog 87 = .sc .nilFunc := by kernel_rfl
theorem Try.zv88 : zeroV Try.prog 88 = .sc .nilFunc := by kernel_rfl
theorem Try.zv89 : zeroV Try.prog 89 = .agg [.sc (.pointer none), .sc (.pointer none), .sc (.pointer none), .sc (.string ⟨#[]⟩)] := by kernel_rfl
theorem Try.zv90 : zeroV Try.prog 90 = .agg [.sc (.pointer none), .sc (.pointer none), .sc (.pointer none), .sc (.string ⟨#[]⟩)] := by kernel_rfl
theorem Try.zv94 : zeroV Try.prog 94 = .sc (.int .u32 0) := by kernel_rfl
theorem Try.zv95 : zeroV Try.prog 95 = .sc (.int .u8 0) := by kernel_rfl
theorem Try.zv96 : zeroV Try.prog 96 = .sc (.int .u8 0) := by kernel_rfl
theorem Try.zv97 : zeroV Try.prog 97 = .sc .nilFunc := by kernel_rfl
theorem Try.zv98 : zeroV Try.prog 98 = .sc (.pointer none) := by kernel_rfl
theorem Try.zv99 : zeroV Try.prog 99 = .sc (.int .i32 0) := by kernel_rfl
theorem Try.zv100 : zeroV Try.prog 100 = .sc (.int .i32 0) := by kernel_rfl
theorem Try.zv101 : zeroV Try.prog 101 = .agg [.sc (.int .u64 0), .sc (.int .u64 0), .sc (.int .u32 0), .sc (.int .u8 0), .sc (.int .u8 0), .sc (.int .u8 0), .sc (.int .u8 0), .sc .nilFunc, .sc (.pointer none), .sc (.int .i32 0), .sc (.int .i32 0)] := by kernel_rfl
theorem Try.zv102 : zeroV Try.prog 102 = .agg [.sc (.int .u64 0), .sc (.int .u64 0), .sc (.int .u32 0), .sc (.int .u8 0), .sc (.int .u8 0), .sc (.int .u8 0), .sc (.int .u8 0), .sc .nilFunc, .sc (.pointer none), .sc (.int .i32 0), .sc (.int .i32 0)] := by kernel_rfl
theorem Try.zv103 : zeroV Try.prog 103 = .sc (.pointer none) := by kernel_rfl
theorem Try.eo1 : eqOk Try.prog 1 = true := by kernel_rfl
theorem Try.eo4 : eqOk Try.prog 4 = true := by kernel_rfl
theorem Try.eo7 : eqOk Try.prog 7 = true := by kernel_rfl
theorem Try.eo8 : eqOk Try.prog 8 = true := by kernel_rfl
theorem Try.eo13 : eqOk Try.prog 13 = true := by kernel_rfl
theorem Try.eo14 : eqOk Try.prog 14 = true := by kernel_rfl
theorem Try.eo15 : eqOk Try.prog 15 = true := by kernel_rfl
theorem Try.eo16 : eqOk Try.prog 16 = true := by kernel_rfl
theorem Try.eo17 : eqOk Try.prog 17 = true := by kernel_rfl
theorem Try.eo23 : eqOk Try.prog 23 = true := by kernel_rfl
theorem Try.eo24 : eqOk Try.prog 24 = true := by kernel_rfl
theorem Try.eo25 : eqOk Try.prog 25 = true := by kernel_rfl
theorem Try.eo30 : eqOk Try.prog 30 = true := by kernel_rfl
theorem Try.eo31 : eqOk Try.prog 31 = true := by kernel_rfl
theorem Try.eo32 : eqOk Try.prog 32 = true := by kernel_rfl
theorem Try.eo33 : eqOk Try.prog 33 = true := by kernel_rfl
theorem Try.eo34 : eqOk Try.prog 34 = true := by kernel_rfl
theorem Try.eo35 : eqOk Try.prog 35 = true := by kernel_rfl
theorem Try.eo37 : eqOk Try.prog 37 = true := by kernel_rfl
theorem Try.eo39 : eqOk Try.prog 39 = true := by kernel_rfl
theorem Try.eo40 : eqOk Try.prog 40 = true := by kernel_rfl
theorem Try.eo41 : eqOk Try.prog 41 = true := by kernel_rfl
theorem Try.eo42 : eqOk Try.prog 42 = true := by kernel_rfl
theorem Try.eo43 : eqOk Try.prog 43 = true := by kernel_rfl
theorem Try.eo44 : eqOk Try.prog 44 = true := by kernel_rfl
theorem Try.eo45 : eqOk Try.prog 45 = true := by kernel_rfl
theorem Try.eo46 : eqOk Try.prog 46 = true := by kernel_rfl
theorem Try.eo47 : eqOk Try.prog 47 = true := by kernel_rfl
theorem Try.eo48 : eqOk Try.prog 48 = true := by kernel_rfl
theorem Try.eo49 : eqOk Try.prog 49 = true := by kernel_rfl
theorem Try.eo50 : eqOk Try.prog 50 = true := by kernel_rfl
theorem Try.eo53 : eqOk Try.prog 53 = true := by kernel_rfl
theorem Try.eo54 : eqOk Try.prog 54 = true := by kernel_rfl
theorem Try.eo55 : eqOk Try.prog 55 = true := by kernel_rfl
theorem Try.eo56 : eqOk Try.prog 56 = true := by kernel_rfl
theorem Try.eo59 : eqOk Try.prog 59 = true := by kernel_rfl
theorem Try.eo61 : eqOk Try.prog 61 = true := by kernel_rfl
theorem Try.eo62 : eqOk Try.prog 62 = true := by kernel_rfl
theorem Try.eo63 : eqOk Try.prog 63 = true := by kernel_rfl
theorem Try.eo64 : eqOk Try.prog 64 = true := by kernel_rfl
theorem Try.eo65 : eqOk Try.prog 65 = true := by kernel_rfl
theorem Try.eo66 : eqOk Try.prog 66 = true := by kernel_rfl
theorem Try.eo67 : eqOk Try.prog 67 = true := by kernel_rfl
theorem Try.eo68 : eqOk Try.prog 68 = true := by kernel_rfl
theorem Try.eo72 : eqOk Try.prog 72 = true := by kernel_rfl
theorem Try.eo76 : eqOk Try.prog 76 = true := by kernel_rfl
theorem Try.eo77 : eqOk Try.prog 77 = true := by kernel_rfl
theorem Try.eo78 : eqOk Try.prog 78 = true := by kernel_rfl
theorem Try.eo79 : eqOk Try.prog 79 = true := by kernel_rfl
theorem Try.eo80 : eqOk Try.prog 80 = true := by kernel_rfl
theorem Try.eo83 : eqOk Try.prog 83 = true := by kernel_rfl
theorem Try.eo85 : eqOk Try.prog 85 = true := by kernel_rfl
theorem Try.eo86 : eqOk Try.prog 86 = true := by kernel_rfl
theorem Try.eo87 : eqOk Try.prog 87 = true := by kernel_rfl
theorem Try.eo88 : eqOk Try.prog 88 = true := by kernel_rfl
theorem Try.eo97 : eqOk Try.prog 97 = true := by kernel_rfl
theorem Try.eo98 : eqOk Try.prog 98 = true := by kernel_rfl
theorem Try.strTy : strTy Try.prog = some 9 := by kernel_rfl
theorem Try.z8_5 : zeOf Try.prog 5 = .int .u8 0 := by kernel_rfl
theorem Try.z8_6 : zeOf Try.prog 6 = .int .u8 0 := by kernel_rfl
theorem Try.z8_95 : zeOf Try.prog 95 = .int .u8 0 := by kernel_rfl
theorem Try.z8_96 : zeOf Try.prog 96 = .int .u8 0 := by kernel_rfl
theorem Try.ca3 : callable Try.prog 3 = true := by kernel_rfl
theorem Try.ca4 : callable Try.prog 4 = true := by kernel_rfl
theorem Try.ca5 : callable Try.prog 5 = true := by kernel_rfl
theorem Try.ca6 : callable Try.prog 6 = true := by kernel_rfl
theorem Try.ca7 : callable Try.prog 7 = true := by kernel_rfl
theorem Try.ca8 : callable Try.prog 8 = true := by kernel_rfl
theorem Try.ca9 : callable Try.prog 9 = true := by kernel_rfl
theorem Try.ca10 : callable Try.prog 10 = true := by kernel_rfl
theorem Try.ca11 : callable Try.prog 11 = true := by kernel_rfl
theorem Try.ca12 : callable Try.prog 12 = true := by kernel_rfl
theorem Try.ca13 : callable Try.prog 13 = true := by kernel_rfl
theorem Try.ca14 : callable Try.prog 14 = true := by kernel_rfl
theorem Try.ca15 : callable Try.prog 15 = true := by kernel_rfl
theorem Try.ca16 : callable Try.prog 16 = true := by kernel_rfl
theorem Try.ca17 : callable Try.prog 17 = true := by kernel_rfl
theorem Try.ca18 : callable Try.prog 18 = true := by kernel_rfl
theorem Try.ca19 : callable Try.prog 19 = true := by kernel_rfl
theorem Try.ca20 : callable Try.prog 20 = true := by kernel_rfl
theorem Try.ca21 : callable Try.prog 21 = true := by kernel_rfl
theorem Try.ca22 : callable Try.prog 22 = true := by kernel_rfl
theorem Try.ca23 : callable Try.prog 23 = true := by kernel_rfl
theorem Try.ca24 : callable Try.prog 24 = true := by kernel_rfl
theorem Try.ca25 : callable Try.prog 25 = true := by kernel_rfl
theorem Try.ca26 : callable Try.prog 26 = true := by kernel_rfl
theorem Try.ca27 : callable Try.prog 27 = true := by kernel_rfl
theorem Try.ca28 : callable Try.prog 28 = true := by kernel_rfl
theorem Try.ca29 : callable Try.prog 29 = true := by kernel_rfl
theorem Try.ca30 : callable Try.prog 30 = true := by kernel_rfl
theorem Try.ca31 : callable Try.prog 31 = true := by kernel_rfl
theorem Try.ca32 : callable Try.prog 32 = true := by kernel_rfl
theorem Try.ca33 : callable Try.prog 33 = true := by kernel_rfl
theorem Try.ca34 : callable Try.prog 34 = true := by kernel_rfl
theorem Try.ca35 : callable Try.prog 35 = true := by kernel_rfl
theorem Try.ca36 : callable Try.prog 36 = true := by kernel_rfl
theorem Try.ca37 : callable Try.prog 37 = true := by kernel_rfl
theorem Try.ca38 : callable Try.prog 38 = true := by kernel_rfl
theorem Try.ca39 : callable Try.prog 39 = true := by kernel_rfl
theorem Try.ca40 : callable Try.prog 40 = true := by kernel_rfl
theorem Try.ca41 : callable Try.prog 41 = true := by kernel_rfl
theorem Try.ca42 : callable Try.prog 42 = true := by kernel_rfl
theorem Try.ca43 : callable Try.prog 43 = true := by kernel_rfl
theorem Try.ca44 : callable Try.prog 44 = true := by kernel_rfl
theorem Try.ca45 : callable Try.prog 45 = true := by kernel_rfl
theorem Try.ca46 : callable Try.prog 46 = true := by kernel_rfl
set_option maxRecDepth 100000 in
def Try.facts := And.intro Try.underlying1 <|
  And.intro Try.eo1 <|
  And.intro Try.underlying2 <|
  And.intro Try.sz2 <|
  And.intro Try.by2 <|
  And.intro Try.ha2 <|
  And.intro Try.ze2 <|
  And.intro Try.zn2 <|
  And.intro Try.zv2 <|
  And.intro Try.underlying3 <|
  And.intro Try.sz3 <|
  And.intro Try.by3 <|
  And.intro Try.ha3 <|
  And.intro Try.ze3 <|
  And.intro Try.zn3 <|
  And.intro Try.zv3 <|
  And.intro Try.underlying4 <|
  And.intro Try.sz4 <|
  And.intro Try.by4 <|
  And.intro Try.ha4 <|
  And.intro Try.eo4 <|
  And.intro Try.ze4 <|
  And.intro Try.zn4 <|
  And.intro Try.zv4 <|
  And.intro Try.underlying5 <|
  And.intro Try.z8_5 <|
  And.intro Try.sz5 <|
  And.intro Try.by5 <|
  And.intro Try.ha5 <|
  And.intro Try.ze5 <|
  And.intro Try.zn5 <|
  And.intro Try.zv5 <|
  And.intro Try.underlying9 <|
  And.intro Try.sz9 <|
  And.intro Try.by9 <|
  And.intro Try.ha9 <|
  And.intro Try.ze9 <|
  And.intro Try.zn9 <|
  And.intro Try.zv9 <|
  And.intro Try.underlying12 <|
  And.intro Try.sz12 <|
  And.intro Try.by12 <|
  And.intro Try.ha12 <|
  And.intro Try.ze12 <|
  And.intro Try.zn12 <|
  And.intro Try.zv12 <|
  And.intro Try.underlying21 <|
  And.intro Try.sz21 <|
  And.intro Try.by21 <|
  And.intro Try.ha21 <|
  And.intro Try.ze21 <|
  And.intro Try.zn21 <|
  And.intro Try.zv21 <|
  And.intro Try.underlying22 <|
  And.intro Try.sz22 <|
  And.intro Try.by22 <|
  And.intro Try.ha22 <|
  And.intro Try.ze22 <|
  And.intro Try.zn22 <|
  And.intro Try.zv22 <|
  And.intro Try.underlying23 <|
  And.intro Try.eo23 <|
  And.intro Try.underlying24 <|
  And.intro Try.sz24 <|
  And.intro Try.by24 <|
  And.intro Try.ha24 <|
  And.intro Try.eo24 <|
  And.intro Try.ze24 <|
  And.intro Try.zn24 <|
  And.intro Try.zv24 <|
  And.intro Try.underlying25 <|
  And.intro Try.eo25 <|
  And.intro Try.underlying26 <|
  And.intro Try.sz26 <|
  And.intro Try.by26 <|
  And.intro Try.ha26 <|
  And.intro Try.ze26 <|
  And.intro Try.zn26 <|
  And.intro Try.zv26 <|
  And.intro Try.underlying27 <|
  And.intro Try.sz27 <|
  And.intro Try.by27 <|
  And.intro Try.ha27 <|
  And.intro Try.ze27 <|
  And.intro Try.zn27 <|
  And.intro Try.zv27 <|
  And.intro Try.underlying28 <|
  And.intro Try.sz28 <|
  And.intro Try.by28 <|
  And.intro Try.ha28 <|
  And.intro Try.ze28 <|
  And.intro Try.zn28 <|
  And.intro Try.zv28 <|
  And.intro Try.underlying29 <|
  And.intro Try.sz29 <|
  And.intro Try.by29 <|
  And.intro Try.ha29 <|
  And.intro Try.ze29 <|
  And.intro Try.zn29 <|
  And.intro Try.zv29 <|
  And.intro Try.underlying30 <|
  And.intro Try.sz30 <|
  And.intro Try.by30 <|
  And.intro Try.ha30 <|
  And.intro Try.eo30 <|
  And.intro Try.ze30 <|
  And.intro Try.zn30 <|
  And.intro Try.zv30 <|
  And.intro Try.eq30 <|
  And.intro Try.ck30 <|
  And.intro Try.underlying31 <|
  And.intro Try.sz31 <|
  And.intro Try.by31 <|
  And.intro Try.ha31 <|
  And.intro Try.eo31 <|
  And.intro Try.ze31 <|
  And.intro Try.zn31 <|
  And.intro Try.zv31 <|
  And.intro Try.eq31 <|
  And.intro Try.ck31 <|
  And.intro Try.underlying32 <|
  And.intro Try.sz32 <|
  And.intro Try.by32 <|
  And.intro Try.ha32 <|
  And.intro Try.eo32 <|
  And.intro Try.ze32 <|
  And.intro Try.zn32 <|
  And.intro Try.zv32 <|
  And.intro Try.eq32 <|
  And.intro Try.ck32 <|
  And.intro Try.underlying33 <|
  And.intro Try.sz33 <|
  And.intro Try.by33 <|
  And.intro Try.ha33 <|
  And.intro Try.eo33 <|
  And.intro Try.ze33 <|
  And.intro Try.zn33 <|
  And.intro Try.zv33 <|
  And.intro Try.eq33 <|
  And.intro Try.ck33 <|
  And.intro Try.underlying34 <|
  And.intro Try.sz34 <|
  And.intro Try.by34 <|
  And.intro Try.ha34 <|
  And.intro Try.eo34 <|
  And.intro Try.ze34 <|
  And.intro Try.zn34 <|
  And.intro Try.zv34 <|
  And.intro Try.eq34 <|
  And.intro Try.ck34 <|
  And.intro Try.underlying35 <|
  And.intro Try.sz35 <|
  And.intro Try.by35 <|
  And.intro Try.ha35 <|
  And.intro Try.eo35 <|
  And.intro Try.ze35 <|
  And.intro Try.zn35 <|
  And.intro Try.zv35 <|
  And.intro Try.eq35 <|
  And.intro Try.ck35 <|
  And.intro Try.underlying37 <|
  And.intro Try.eo37 <|
  And.intro Try.underlying38 <|
  And.intro Try.sz38 <|
  And.intro Try.by38 <|
  And.intro Try.ha38 <|
  And.intro Try.ze38 <|
  And.intro Try.zn38 <|
  And.intro Try.zv38 <|
  And.intro Try.underlying39 <|
  And.intro Try.eo39 <|
  And.intro Try.underlying40 <|
  And.intro Try.eo40 <|
  And.intro Try.underlying41 <|
  And.intro Try.sz41 <|
  And.intro Try.by41 <|
  And.intro Try.ha41 <|
  And.intro Try.eo41 <|
  And.intro Try.ze41 <|
  And.intro Try.zn41 <|
  And.intro Try.zv41 <|
  And.intro Try.underlying42 <|
  And.intro Try.eo42 <|
  And.intro Try.underlying43 <|
  And.intro Try.sz43 <|
  And.intro Try.by43 <|
  And.intro Try.ha43 <|
  And.intro Try.eo43 <|
  And.intro Try.ze43 <|
  And.intro Try.zn43 <|
  And.intro Try.zv43 <|
  And.intro Try.eq43 <|
  And.intro Try.ck43 <|
  And.intro Try.underlying44 <|
  And.intro Try.sz44 <|
  And.intro Try.by44 <|
  And.intro Try.ha44 <|
  And.intro Try.eo44 <|
  And.intro Try.ze44 <|
  And.intro Try.zn44 <|
  And.intro Try.zv44 <|
  And.intro Try.eq44 <|
  And.intro Try.ck44 <|
  And.intro Try.underlying45 <|
  And.intro Try.eo45 <|
  And.intro Try.underlying46 <|
  And.intro Try.eo46 <|
  And.intro Try.underlying47 <|
  And.intro Try.eo47 <|
  And.intro Try.underlying48 <|
  And.intro Try.eo48 <|
  And.intro Try.underlying49 <|
  And.intro Try.eo49 <|
  And.intro Try.underlying50 <|
  And.intro Try.eo50 <|
  And.intro Try.underlying51 <|
  And.intro Try.sz51 <|
  And.intro Try.by51 <|
  And.intro Try.ha51 <|
  And.intro Try.ze51 <|
  And.intro Try.zn51 <|
  And.intro Try.zv51 <|
  And.intro Try.underlying52 <|
  And.intro Try.sz52 <|
  And.intro Try.by52 <|
  And.intro Try.ha52 <|
  And.intro Try.ze52 <|
  And.intro Try.zn52 <|
  And.intro Try.zv52 <|
  And.intro Try.underlying53 <|
  And.intro Try.eo53 <|
  And.intro Try.underlying54 <|
  And.intro Try.eo54 <|
  And.intro Try.underlying55 <|
  And.intro Try.eo55 <|
  And.intro Try.underlying56 <|
  And.intro Try.eo56 <|
  And.intro Try.underlying57 <|
  And.intro Try.sz57 <|
  And.intro Try.by57 <|
  And.intro Try.ha57 <|
  And.intro Try.ze57 <|
  And.intro Try.zn57 <|
  And.intro Try.zv57 <|
  And.intro Try.underlying59 <|
  And.intro Try.eo59 <|
  And.intro Try.underlying61 <|
  And.intro Try.eo61 <|
  And.intro Try.underlying62 <|
  And.intro Try.eo62 <|
  And.intro Try.underlying63 <|
  And.intro Try.eo63 <|
  And.intro Try.underlying64 <|
  And.intro Try.eo64 <|
  And.intro Try.underlying65 <|
  And.intro Try.eo65 <|
  And.intro Try.underlying66 <|
  And.intro Try.eo66 <|
  And.intro Try.underlying67 <|
  And.intro Try.eo67 <|
  And.intro Try.underlying68 <|
  And.intro Try.eo68 <|
  And.intro Try.underlying69 <|
  And.intro Try.sz69 <|
  And.intro Try.by69 <|
  And.intro Try.ha69 <|
  And.intro Try.ze69 <|
  And.intro Try.zn69 <|
  And.intro Try.zv69 <|
  And.intro Try.underlying70 <|
  And.intro Try.sz70 <|
  And.intro Try.by70 <|
  And.intro Try.ha70 <|
  And.intro Try.ze70 <|
  And.intro Try.zn70 <|
  And.intro Try.zv70 <|
  And.intro Try.underlying71 <|
  And.intro Try.sz71 <|
  And.intro Try.by71 <|
  And.intro Try.ha71 <|
  And.intro Try.ze71 <|
  And.intro Try.zn71 <|
  And.intro Try.zv71 <|
  And.intro Try.underlying72 <|
  And.intro Try.sz72 <|
  And.intro Try.by72 <|
  And.intro Try.ha72 <|
  And.intro Try.eo72 <|
  And.intro Try.ze72 <|
  And.intro Try.zn72 <|
  And.intro Try.zv72 <|
  And.intro Try.underlying73 <|
  And.intro Try.sz73 <|
  And.intro Try.by73 <|
  And.intro Try.ha73 <|
  And.intro Try.ze73 <|
  And.intro Try.zn73 <|
  And.intro Try.zv73 <|
  And.intro Try.underlying74 <|
  And.intro Try.sz74 <|
  And.intro Try.by74 <|
  And.intro Try.ha74 <|
  And.intro Try.ze74 <|
  And.intro Try.zn74 <|
  And.intro Try.zv74 <|
  And.intro Try.underlying76 <|
  And.intro Try.eo76 <|
  And.intro Try.underlying77 <|
  And.intro Try.eo77 <|
  And.intro Try.underlying78 <|
  And.intro Try.eo78 <|
  And.intro Try.underlying79 <|
  And.intro Try.sz79 <|
  And.intro Try.by79 <|
  And.intro Try.ha79 <|
  And.intro Try.eo79 <|
  And.intro Try.ze79 <|
  And.intro Try.zn79 <|
  And.intro Try.zv79 <|
  And.intro Try.eq79 <|
  And.intro Try.ck79 <|
  And.intro Try.underlying80 <|
  And.intro Try.sz80 <|
  And.intro Try.by80 <|
  And.intro Try.ha80 <|
  And.intro Try.eo80 <|
  And.intro Try.ze80 <|
  And.intro Try.zn80 <|
  And.intro Try.zv80 <|
  And.intro Try.eq80 <|
  And.intro Try.ck80 <|
  And.intro Try.underlying81 <|
  And.intro Try.sz81 <|
  And.intro Try.by81 <|
  And.intro Try.ha81 <|
  And.intro Try.ze81 <|
  And.intro Try.zn81 <|
  And.intro Try.zv81 <|
  And.intro Try.underlying82 <|
  And.intro Try.sz82 <|
  And.intro Try.by82 <|
  And.intro Try.ha82 <|
  And.intro Try.ze82 <|
  And.intro Try.zn82 <|
  And.intro Try.zv82 <|
  And.intro Try.underlying83 <|
  And.intro Try.eo83 <|
  And.intro Try.underlying85 <|
  And.intro Try.eo85 <|
  And.intro Try.underlying86 <|
  And.intro Try.eo86 <|
  And.intro Try.underlying87 <|
  And.intro Try.eo87 <|
  And.intro Try.underlying88 <|
  And.intro Try.eo88 <|
  And.intro Try.underlying94 <|
  And.intro Try.sz94 <|
  And.intro Try.by94 <|
  And.intro Try.ha94 <|
  And.intro Try.ze94 <|
  And.intro Try.zn94 <|
  And.intro Try.zv94 <|
  And.intro Try.underlying98 <|
  And.intro Try.sz98 <|
  And.intro Try.by98 <|
  And.intro Try.ha98 <|
  And.intro Try.eo98 <|
  And.intro Try.ze98 <|
  And.intro Try.zn98 <|
  And.intro Try.zv98 <|
  And.intro Try.strTy <|
  And.intro Try.ca3 <|
  And.intro Try.ca4 <|
  And.intro Try.ca5 <|
  And.intro Try.ca6 <|
  And.intro Try.ca7 <|
  And.intro Try.ca8 <|
  And.intro Try.ca9 <|
  And.intro Try.ca10 <|
  And.intro Try.ca11 <|
  And.intro Try.ca12 <|
  And.intro Try.ca13 <|
  And.intro Try.ca14 <|
  And.intro Try.ca15 <|
  And.intro Try.ca16 <|
  And.intro Try.ca17 <|
  And.intro Try.ca18 <|
  And.intro Try.ca19 <|
  And.intro Try.ca20 <|
  And.intro Try.ca21 <|
  And.intro Try.ca22 <|
  And.intro Try.ca23 <|
  And.intro Try.ca24 <|
  And.intro Try.ca25 <|
  And.intro Try.ca26 <|
  And.intro Try.ca27 <|
  And.intro Try.ca28 <|
  And.intro Try.ca29 <|
  And.intro Try.ca30 <|
  And.intro Try.ca31 <|
  And.intro Try.ca32 <|
  And.intro Try.ca33 <|
  And.intro Try.ca34 <|
  And.intro Try.ca35 <|
  And.intro Try.ca36 <|
  And.intro Try.ca37 <|
  And.intro Try.ca38 <|
  And.intro Try.ca39 <|
  And.intro Try.ca40 <|
  And.intro Try.ca41 <|
  And.intro Try.ca42 <|
  And.intro Try.ca43 <|
  And.intro Try.ca44 <|
  And.intro Try.ca45 <| Try.ca46
end Go.Proofs
