/-
  Facts of the seat's program: sizes of types, functions that have bodies. By program.
  Conditions: none.
-/
import Derived.Test.YtgkpidbeoccpnaaProg
import Derived.Test.YtgkpidbeoccpnaaAbsG5
set_option linter.all false
set_option linter.unusedSimpArgs false
namespace Go.Proofs
open Go Go.Abs
theorem Try.mixed : Try.prog.follows .mixedOrders = true := by kernel_rfl
theorem Try.sz0 : szOf Try.prog 0 = 1 := by kernel_rfl
theorem Try.by0 : byOf Try.prog 0 = 0 := by kernel_rfl
theorem Try.sz1 : szOf Try.prog 1 = 1 := by kernel_rfl
theorem Try.by1 : byOf Try.prog 1 = 8 := by kernel_rfl
theorem Try.ze1 : zeroA Try.prog 1 = [.sc .nilFunc] := by kernel_rfl
theorem Try.zn1 : zeroN Try.prog 1 = [.sc .nilFunc] := by kernel_rfl
theorem Try.ha1 : hasT Try.prog 1 = true := by kernel_rfl
theorem Try.sz2 : szOf Try.prog 2 = 1 := by kernel_rfl
theorem Try.by2 : byOf Try.prog 2 = 8 := by kernel_rfl
theorem Try.ze2 : zeroA Try.prog 2 = [.sc (.int .i64 0)] := by kernel_rfl
theorem Try.zn2 : zeroN Try.prog 2 = [.sc (.int .i64 0)] := by kernel_rfl
theorem Try.ha2 : hasT Try.prog 2 = true := by kernel_rfl
theorem Try.sz3 : szOf Try.prog 3 = 1 := by kernel_rfl
theorem Try.by3 : byOf Try.prog 3 = 8 := by kernel_rfl
theorem Try.ze3 : zeroA Try.prog 3 = [.sc (.int .i64 0)] := by kernel_rfl
theorem Try.zn3 : zeroN Try.prog 3 = [.sc (.int .i64 0)] := by kernel_rfl
theorem Try.ha3 : hasT Try.prog 3 = true := by kernel_rfl
theorem Try.sz4 : szOf Try.prog 4 = 1 := by kernel_rfl
theorem Try.by4 : byOf Try.prog 4 = 1 := by kernel_rfl
theorem Try.ze4 : zeroA Try.prog 4 = [.sc (.bool false)] := by kernel_rfl
theorem Try.zn4 : zeroN Try.prog 4 = [.sc (.bool false)] := by kernel_rfl
theorem Try.ha4 : hasT Try.prog 4 = true := by kernel_rfl
theorem Try.sz5 : szOf Try.prog 5 = 1 := by kernel_rfl
theorem Try.by5 : byOf Try.prog 5 = 1 := by kernel_rfl
theorem Try.ze5 : zeroA Try.prog 5 = [.sc (.int .u8 0)] := by kernel_rfl
theorem Try.zn5 : zeroN Try.prog 5 = [.sc (.int .u8 0)] := by kernel_rfl
theorem Try.ha5 : hasT Try.prog 5 = true := by kernel_rfl
theorem Try.sz6 : szOf Try.prog 6 = 1 := by kernel_rfl
theorem Try.by6 : byOf Try.prog 6 = 1 := by kernel_rfl
theorem Try.ze6 : zeroA Try.prog 6 = [.sc (.int .u8 0)] := by kernel_rfl
theorem Try.zn6 : zeroN Try.prog 6 = [.sc (.int .u8 0)] := by kernel_rfl
theorem Try.ha6 : hasT Try.prog 6 = true := by kernel_rfl
theorem Try.sz7 : szOf Try.prog 7 = 4 := by kernel_rfl
theorem Try.by7 : byOf Try.prog 7 = 24 := by kernel_rfl
theorem Try.ze7 : zeroA Try.prog 7 = [.sc (.int .i64 0), .sc (.int .i64 0), .sc (.bool false), .sc (.int .u8 0)] := by kernel_rfl
theorem Try.zn7 : zeroN Try.prog 7 = [.sc (.int .i64 0), .sc (.int .i64 0), .sc (.bool false), .sc (.int .u8 0)] := by kernel_rfl
theorem Try.ha7 : hasT Try.prog 7 = true := by kernel_rfl
theorem Try.sz8 : szOf Try.prog 8 = 4 := by kernel_rfl
theorem Try.by8 : byOf Try.prog 8 = 24 := by kernel_rfl
theorem Try.ze8 : zeroA Try.prog 8 = [.sc (.int .i64 0), .sc (.int .i64 0), .sc (.bool false), .sc (.int .u8 0)] := by kernel_rfl
theorem Try.zn8 : zeroN Try.prog 8 = [.sc (.int .i64 0), .sc (.int .i64 0), .sc (.bool false), .sc (.int .u8 0)] := by kernel_rfl
theorem Try.ha8 : hasT Try.prog 8 = true := by kernel_rfl
theorem Try.sz9 : szOf Try.prog 9 = 1 := by kernel_rfl
theorem Try.by9 : byOf Try.prog 9 = 16 := by kernel_rfl
theorem Try.ze9 : zeroA Try.prog 9 = [.sc (.string ⟨#[]⟩)] := by kernel_rfl
theorem Try.zn9 : zeroN Try.prog 9 = [.sc (.string ⟨#[]⟩)] := by kernel_rfl
theorem Try.ha9 : hasT Try.prog 9 = true := by kernel_rfl
theorem Try.sz10 : szOf Try.prog 10 = 1 := by kernel_rfl
theorem Try.by10 : byOf Try.prog 10 = 16 := by kernel_rfl
theorem Try.ze10 : zeroA Try.prog 10 = [.sc (.string ⟨#[]⟩)] := by kernel_rfl
theorem Try.zn10 : zeroN Try.prog 10 = [.sc (.string ⟨#[]⟩)] := by kernel_rfl
theorem Try.ha10 : hasT Try.prog 10 = true := by kernel_rfl
theorem Try.sz11 : szOf Try.prog 11 = 1 := by kernel_rfl
theorem Try.by11 : byOf Try.prog 11 = 16 := by kernel_rfl
theorem Try.ze11 : zeroA Try.prog 11 = [.sc (.string ⟨#[]⟩)] := by kernel_rfl
theorem Try.zn11 : zeroN Try.prog 11 = [.sc (.string ⟨#[]⟩)] := by kernel_rfl
theorem Try.ha11 : hasT Try.prog 11 = true := by kernel_rfl
theorem Try.sz12 : szOf Try.prog 12 = 1 := by kernel_rfl
theorem Try.by12 : byOf Try.prog 12 = 8 := by kernel_rfl
theorem Try.ze12 : zeroA Try.prog 12 = [.sc (.int .u64 0)] := by kernel_rfl
theorem Try.zn12 : zeroN Try.prog 12 = [.sc (.int .u64 0)] := by kernel_rfl
theorem Try.ha12 : hasT Try.prog 12 = true := by kernel_rfl
theorem Try.sz13 : szOf Try.prog 13 = 2 := by kernel_rfl
theorem Try.by13 : byOf Try.prog 13 = 24 := by kernel_rfl
theorem Try.ze13 : zeroA Try.prog 13 = [.sc (.string ⟨#[]⟩), .sc (.int .u64 0)] := by kernel_rfl
theorem Try.zn13 : zeroN Try.prog 13 = [.sc (.string ⟨#[]⟩), .sc (.int .u64 0)] := by kernel_rfl
theorem Try.ha13 : hasT Try.prog 13 = true := by kernel_rfl
theorem Try.sz14 : szOf Try.prog 14 = 2 := by kernel_rfl
theorem Try.by14 : byOf Try.prog 14 = 24 := by kernel_rfl
theorem Try.ze14 : zeroA Try.prog 14 = [.sc (.string ⟨#[]⟩), .sc (.int .u64 0)] := by kernel_rfl
theorem Try.zn14 : zeroN Try.prog 14 = [.sc (.string ⟨#[]⟩), .sc (.int .u64 0)] := by kernel_rfl
theorem Try.ha14 : hasT Try.prog 14 = true := by kernel_rfl
theorem Try.sz15 : szOf Try.prog 15 = 1 := by kernel_rfl
theorem Try.by15 : byOf Try.prog 15 = 8 := by kernel_rfl
theorem Try.ze15 : zeroA Try.prog 15 = [.sc (.pointer none)] := by kernel_rfl
theorem Try.zn15 : zeroN Try.prog 15 = [.sc (.pointer none)] := by kernel_rfl
theorem Try.ha15 : hasT Try.prog 15 = true := by kernel_rfl
theorem Try.sz16 : szOf Try.prog 16 = 1 := by kernel_rfl
theorem Try.by16 : byOf Try.prog 16 = 8 := by kernel_rfl
theorem Try.ze16 : zeroA Try.prog 16 = [.sc (.pointer none)] := by kernel_rfl
theorem Try.zn16 : zeroN Try.prog 16 = [.sc (.pointer none)] := by kernel_rfl
theorem Try.ha16 : hasT Try.prog 16 = true := by kernel_rfl
theorem Try.sz17 : szOf Try.prog 17 = 1 := by kernel_rfl
theorem Try.by17 : byOf Try.prog 17 = 8 := by kernel_rfl
theorem Try.ze17 : zeroA Try.prog 17 = [.sc (.pointer none)] := by kernel_rfl
theorem Try.zn17 : zeroN Try.prog 17 = [.sc (.pointer none)] := by kernel_rfl
theorem Try.ha17 : hasT Try.prog 17 = true := by kernel_rfl
theorem Try.sz18 : szOf Try.prog 18 = 1 := by kernel_rfl
theorem Try.by18 : byOf Try.prog 18 = 8 := by kernel_rfl
theorem Try.ze18 : zeroA Try.prog 18 = [.sc (.pointer none)] := by kernel_rfl
theorem Try.zn18 : zeroN Try.prog 18 = [.sc (.pointer none)] := by kernel_rfl
theorem Try.ha18 : hasT Try.prog 18 = true := by kernel_rfl
theorem Try.sz19 : szOf Try.prog 19 = 1 := by kernel_rfl
theorem Try.by19 : byOf Try.prog 19 = 8 := by kernel_rfl
theorem Try.ze19 : zeroA Try.prog 19 = [.sc (.pointer none)] := by kernel_rfl
theorem Try.zn19 : zeroN Try.prog 19 = [.sc (.pointer none)] := by kernel_rfl
theorem Try.ha19 : hasT Try.prog 19 = true := by kernel_rfl
theorem Try.sz20 : szOf Try.prog 20 = 1 := by kernel_rfl
theorem Try.by20 : byOf Try.prog 20 = 16 := by kernel_rfl
theorem Try.ze20 : zeroA Try.prog 20 = [.sc .nilIface] := by kernel_rfl
theorem Try.zn20 : zeroN Try.prog 20 = [.sc .nilIface] := by kernel_rfl
theorem Try.ha20 : hasT Try.prog 20 = true := by kernel_rfl
theorem Try.sz21 : szOf Try.prog 21 = 1 := by kernel_rfl
theorem Try.by21 : byOf Try.prog 21 = 4 := by kernel_rfl
theorem Try.ze21 : zeroA Try.prog 21 = [.sc (.int .i32 0)] := by kernel_rfl
theorem Try.zn21 : zeroN Try.prog 21 = [.sc (.int .i32 0)] := by kernel_rfl
theorem Try.ha21 : hasT Try.prog 21 = true := by kernel_rfl
theorem Try.sz22 : szOf Try.prog 22 = 1 := by kernel_rfl
theorem Try.by22 : byOf Try.prog 22 = 24 := by kernel_rfl
theorem Try.ze22 : zeroA Try.prog 22 = [.imm 0 [] 0] := by kernel_rfl
theorem Try.zn22 : zeroN Try.prog 22 = [.sc (.slice none 0 0)] := by kernel_rfl
theorem Try.ha22 : hasT Try.prog 22 = true := by kernel_rfl
theorem Try.sz23 : szOf Try.prog 23 = 1 := by kernel_rfl
theorem Try.by23 : byOf Try.prog 23 = 8 := by kernel_rfl
theorem Try.ze23 : zeroA Try.prog 23 = [.sc .nilFunc] := by kernel_rfl
theorem Try.zn23 : zeroN Try.prog 23 = [.sc .nilFunc] := by kernel_rfl
theorem Try.ha23 : hasT Try.prog 23 = true := by kernel_rfl
theorem Try.sz24 : szOf Try.prog 24 = 1 := by kernel_rfl
theorem Try.by24 : byOf Try.prog 24 = 8 := by kernel_rfl
theorem Try.ze24 : zeroA Try.prog 24 = [.sc (.pointer none)] := by kernel_rfl
theorem Try.zn24 : zeroN Try.prog 24 = [.sc (.pointer none)] := by kernel_rfl
theorem Try.ha24 : hasT Try.prog 24 = true := by kernel_rfl
theorem Try.sz25 : szOf Try.prog 25 = 1 := by kernel_rfl
theorem Try.by25 : byOf Try.prog 25 = 8 := by kernel_rfl
theorem Try.ze25 : zeroA Try.prog 25 = [.sc .nilFunc] := by kernel_rfl
theorem Try.zn25 : zeroN Try.prog 25 = [.sc .nilFunc] := by kernel_rfl
theorem Try.ha25 : hasT Try.prog 25 = true := by kernel_rfl
theorem Try.sz26 : szOf Try.prog 26 = 2 := by kernel_rfl
theorem Try.by26 : byOf Try.prog 26 = 16 := by kernel_rfl
theorem Try.ze26 : zeroA Try.prog 26 = [.sc (.int .i64 0), .sc (.int .i64 0)] := by kernel_rfl
theorem Try.zn26 : zeroN Try.prog 26 = [.sc (.int .i64 0), .sc (.int .i64 0)] := by kernel_rfl
theorem Try.ha26 : hasT Try.prog 26 = true := by kernel_rfl
theorem Try.sz27 : szOf Try.prog 27 = 2 := by kernel_rfl
theorem Try.by27 : byOf Try.prog 27 = 16 := by kernel_rfl
theorem Try.ze27 : zeroA Try.prog 27 = [.sc (.int .i64 0), .sc (.int .i64 0)] := by kernel_rfl
theorem Try.zn27 : zeroN Try.prog 27 = [.sc (.int .i64 0), .sc (.int .i64 0)] := by kernel_rfl
theorem Try.ha27 : hasT Try.prog 27 = true := by kernel_rfl
theorem Try.sz28 : szOf Try.prog 28 = 3 := by kernel_rfl
theorem Try.by28 : byOf Try.prog 28 = 24 := by kernel_rfl
theorem Try.ze28 : zeroA Try.prog 28 = [.sc (.int .i64 0), .sc (.int .i64 0), .sc (.bool false)] := by kernel_rfl
theorem Try.zn28 : zeroN Try.prog 28 = [.sc (.int .i64 0), .sc (.int .i64 0), .sc (.bool false)] := by kernel_rfl
theorem Try.ha28 : hasT Try.prog 28 = true := by kernel_rfl
theorem Try.sz29 : szOf Try.prog 29 = 3 := by kernel_rfl
theorem Try.by29 : byOf Try.prog 29 = 24 := by kernel_rfl
theorem Try.ze29 : zeroA Try.prog 29 = [.sc (.int .i64 0), .sc (.int .i64 0), .sc (.bool false)] := by kernel_rfl
theorem Try.zn29 : zeroN Try.prog 29 = [.sc (.int .i64 0), .sc (.int .i64 0), .sc (.bool false)] := by kernel_rfl
theorem Try.ha29 : hasT Try.prog 29 = true := by kernel_rfl
theorem Try.sz30 : szOf Try.prog 30 = 10 := by kernel_rfl
theorem Try.by30 : byOf Try.prog 30 = 80 := by kernel_rfl
theorem Try.ze30 : zeroA Try.prog 30 = [.sc (.int .i64 0), .sc (.int .i64 0), .sc (.int .i64 0), .sc (.int .i64 0), .sc (.bool false), .sc (.int .i64 0), .sc (.int .i64 0), .sc (.bool false), .sc (.int .i64 0), .sc (.int .i64 0)] := by kernel_rfl
theorem Try.zn30 : zeroN Try.prog 30 = [.sc (.int .i64 0), .sc (.int .i64 0), .sc (.int .i64 0), .sc (.int .i64 0), .sc (.bool false), .sc (.int .i64 0), .sc (.int .i64 0), .sc (.bool false), .sc (.int .i64 0), .sc (.int .i64 0)] := by kernel_rfl
theorem Try.ha30 : hasT Try.prog 30 = true := by kernel_rfl
theorem Try.sz31 : szOf Try.prog 31 = 10 := by kernel_rfl
theorem Try.by31 : byOf Try.prog 31 = 80 := by kernel_rfl
theorem Try.ze31 : zeroA Try.prog 31 = [.sc (.int .i64 0), .sc (.int .i64 0), .sc (.int .i64 0), .sc (.int .i64 0), .sc (.bool false), .sc (.int .i64 0), .sc (.int .i64 0), .sc (.bool false), .sc (.int .i64 0), .sc (.int .i64 0)] := by kernel_rfl
theorem Try.zn31 : zeroN Try.prog 31 = [.sc (.int .i64 0), .sc (.int .i64 0), .sc (.int .i64 0), .sc (.int .i64 0), .sc (.bool false), .sc (.int .i64 0), .sc (.int .i64 0), .sc (.bool false), .sc (.int .i64 0), .sc (.int .i64 0)] := by kernel_rfl
theorem Try.ha31 : hasT Try.prog 31 = true := by kernel_rfl
theorem Try.sz32 : szOf Try.prog 32 = 1 := by kernel_rfl
theorem Try.by32 : byOf Try.prog 32 = 8 := by kernel_rfl
theorem Try.ze32 : zeroA Try.prog 32 = [.sc (.int .i64 0)] := by kernel_rfl
theorem Try.zn32 : zeroN Try.prog 32 = [.sc (.int .i64 0)] := by kernel_rfl
theorem Try.ha32 : hasT Try.prog 32 = true := by kernel_rfl
theorem Try.sz33 : szOf Try.prog 33 = 1 := by kernel_rfl
theorem Try.by33 : byOf Try.prog 33 = 0 := by kernel_rfl
theorem Try.sz34 : szOf Try.prog 34 = 1 := by kernel_rfl
theorem Try.by34 : byOf Try.prog 34 = 8 := by kernel_rfl
theorem Try.ze34 : zeroA Try.prog 34 = [.sc .nilFunc] := by kernel_rfl
theorem Try.zn34 : zeroN Try.prog 34 = [.sc .nilFunc] := by kernel_rfl
theorem Try.ha34 : hasT Try.prog 34 = true := by kernel_rfl
theorem Try.sz35 : szOf Try.prog 35 = 1 := by kernel_rfl
theorem Try.by35 : byOf Try.prog 35 = 8 := by kernel_rfl
theorem Try.ze35 : zeroA Try.prog 35 = [.sc .nilFunc] := by kernel_rfl
theorem Try.zn35 : zeroN Try.prog 35 = [.sc .nilFunc] := by kernel_rfl
theorem Try.ha35 : hasT Try.prog 35 = true := by kernel_rfl
theorem Try.sz36 : szOf Try.prog 36 = 1 := by kernel_rfl
theorem Try.by36 : byOf Try.prog 36 = 8 := by kernel_rfl
theorem Try.ze36 : zeroA Try.prog 36 = [.sc .nilFunc] := by kernel_rfl
theorem Try.zn36 : zeroN Try.prog 36 = [.sc .nilFunc] := by kernel_rfl
theorem Try.ha36 : hasT Try.prog 36 = true := by kernel_rfl
theorem Try.sz37 : szOf Try.prog 37 = 1 := by kernel_rfl
theorem Try.by37 : byOf Try.prog 37 = 8 := by kernel_rfl
theorem Try.ze37 : zeroA Try.prog 37 = [.sc .nilFunc] := by kernel_rfl
theorem Try.zn37 : zeroN Try.prog 37 = [.sc .nilFunc] := by kernel_rfl
theorem Try.ha37 : hasT Try.prog 37 = true := by kernel_rfl
theorem Try.sz38 : szOf Try.prog 38 = 1 := by kernel_rfl
theorem Try.by38 : byOf Try.prog 38 = 8 := by kernel_rfl
theorem Try.ze38 : zeroA Try.prog 38 = [.sc .nilFunc] := by kernel_rfl
theorem Try.zn38 : zeroN Try.prog 38 = [.sc .nilFunc] := by kernel_rfl
theorem Try.ha38 : hasT Try.prog 38 = true := by kernel_rfl
theorem Try.sz39 : szOf Try.prog 39 = 1 := by kernel_rfl
theorem Try.by39 : byOf Try.prog 39 = 8 := by kernel_rfl
theorem Try.ze39 : zeroA Try.prog 39 = [.sc .nilFunc] := by kernel_rfl
theorem Try.zn39 : zeroN Try.prog 39 = [.sc .nilFunc] := by kernel_rfl
theorem Try.ha39 : hasT Try.prog 39 = true := by kernel_rfl
theorem Try.sz40 : szOf Try.prog 40 = 1 := by kernel_rfl
theorem Try.by40 : byOf Try.prog 40 = 8 := by kernel_rfl
theorem Try.ze40 : zeroA Try.prog 40 = [.sc .nilFunc] := by kernel_rfl
theorem Try.zn40 : zeroN Try.prog 40 = [.sc .nilFunc] := by kernel_rfl
theorem Try.ha40 : hasT Try.prog 40 = true := by kernel_rfl
theorem Try.sz41 : szOf Try.prog 41 = 1 := by kernel_rfl
theorem Try.by41 : byOf Try.prog 41 = 8 := by kernel_rfl
theorem Try.ze41 : zeroA Try.prog 41 = [.sc .nilFunc] := by kernel_rfl
theorem Try.zn41 : zeroN Try.prog 41 = [.sc .nilFunc] := by kernel_rfl
theorem Try.ha41 : hasT Try.prog 41 = true := by kernel_rfl
theorem Try.sz42 : szOf Try.prog 42 = 1 := by kernel_rfl
theorem Try.by42 : byOf Try.prog 42 = 24 := by kernel_rfl
theorem Try.ze42 : zeroA Try.prog 42 = [.imm 0 [] 0] := by kernel_rfl
theorem Try.zn42 : zeroN Try.prog 42 = [.sc (.slice none 0 0)] := by kernel_rfl
theorem Try.ha42 : hasT Try.prog 42 = true := by kernel_rfl
theorem Try.sz43 : szOf Try.prog 43 = 1 := by kernel_rfl
theorem Try.by43 : byOf Try.prog 43 = 24 := by kernel_rfl
theorem Try.ze43 : zeroA Try.prog 43 = [.imm 0 [] 0] := by kernel_rfl
theorem Try.zn43 : zeroN Try.prog 43 = [.sc (.slice none 0 0)] := by kernel_rfl
theorem Try.ha43 : hasT Try.prog 43 = true := by kernel_rfl
theorem Try.sz44 : szOf Try.prog 44 = 3 := by kernel_rfl
theorem Try.by44 : byOf Try.prog 44 = 72 := by kernel_rfl
theorem Try.ze44 : zeroA Try.prog 44 = [.imm 0 [] 0, .imm 0 [] 0, .imm 0 [] 0] := by kernel_rfl
theorem Try.zn44 : zeroN Try.prog 44 = [.sc (.slice none 0 0), .sc (.slice none 0 0), .sc (.slice none 0 0)] := by kernel_rfl
theorem Try.ha44 : hasT Try.prog 44 = true := by kernel_rfl
theorem Try.sz45 : szOf Try.prog 45 = 3 := by kernel_rfl
theorem Try.by45 : byOf Try.prog 45 = 72 := by kernel_rfl
theorem Try.ze45 : zeroA Try.prog 45 = [.imm 0 [] 0, .imm 0 [] 0, .imm 0 [] 0] := by kernel_rfl
theorem Try.zn45 : zeroN Try.prog 45 = [.sc (.slice none 0 0), .sc (.slice none 0 0), .sc (.slice none 0 0)] := by kernel_rfl
theorem Try.ha45 : hasT Try.prog 45 = true := by kernel_rfl
theorem Try.sz46 : szOf Try.prog 46 = 1 := by kernel_rfl
theorem Try.by46 : byOf Try.prog 46 = 8 := by kernel_rfl
theorem Try.ze46 : zeroA Try.prog 46 = [.sc (.pointer none)] := by kernel_rfl
theorem Try.zn46 : zeroN Try.prog 46 = [.sc (.pointer none)] := by kernel_rfl
theorem Try.ha46 : hasT Try.prog 46 = true := by kernel_rfl
theorem Try.sz47 : szOf Try.prog 47 = 1 := by kernel_rfl
theorem Try.by47 : byOf Try.prog 47 = 24 := by kernel_rfl
theorem Try.ze47 : zeroA Try.prog 47 = [.imm 0 [] 0] := by kernel_rfl
theorem Try.zn47 : zeroN Try.prog 47 = [.sc (.slice none 0 0)] := by kernel_rfl
theorem Try.ha47 : hasT Try.prog 47 = true := by kernel_rfl
theorem Try.sz48 : szOf Try.prog 48 = 1 := by kernel_rfl
theorem Try.by48 : byOf Try.prog 48 = 0 := by kernel_rfl
theorem Try.sz49 : szOf Try.prog 49 = 1 := by kernel_rfl
theorem Try.by49 : byOf Try.prog 49 = 8 := by kernel_rfl
theorem Try.ze49 : zeroA Try.prog 49 = [.sc .nilFunc] := by kernel_rfl
theorem Try.zn49 : zeroN Try.prog 49 = [.sc .nilFunc] := by kernel_rfl
theorem Try.ha49 : hasT Try.prog 49 = true := by kernel_rfl
theorem Try.sz50 : szOf Try.prog 50 = 1 := by kernel_rfl
theorem Try.by50 : byOf Try.prog 50 = 0 := by kernel_rfl
theorem Try.sz51 : szOf Try.prog 51 = 1 := by kernel_rfl
theorem Try.by51 : byOf Try.prog 51 = 8 := by kernel_rfl
theorem Try.ze51 : zeroA Try.prog 51 = [.sc .nilFunc] := by kernel_rfl
theorem Try.zn51 : zeroN Try.prog 51 = [.sc .nilFunc] := by kernel_rfl
theorem Try.ha51 : hasT Try.prog 51 = true := by kernel_rfl
theorem Try.sz52 : szOf Try.prog 52 = 1 := by kernel_rfl
theorem Try.by52 : byOf Try.prog 52 = 24 := by kernel_rfl
theorem Try.ze52 : zeroA Try.prog 52 = [.imm 0 [] 0] := by kernel_rfl
theorem Try.zn52 : zeroN Try.prog 52 = [.sc (.slice none 0 0)] := by kernel_rfl
theorem Try.ha52 : hasT Try.prog 52 = true := by kernel_rfl
theorem Try.sz53 : szOf Try.prog 53 = 1 := by kernel_rfl
theorem Try.by53 : byOf Try.prog 53 = 8 := by kernel_rfl
theorem Try.ze53 : zeroA Try.prog 53 = [.sc .nilFunc] := by kernel_rfl
theorem Try.zn53 : zeroN Try.prog 53 = [.sc .nilFunc] := by kernel_rfl
theorem Try.ha53 : hasT Try.prog 53 = true := by kernel_rfl
theorem Try.sz54 : szOf Try.prog 54 = 5 := by kernel_rfl
theorem Try.by54 : byOf Try.prog 54 = 40 := by kernel_rfl
theorem Try.ze54 : zeroA Try.prog 54 = [.sc (.int .i64 0), .sc (.int .i64 0), .sc (.int .i64 0), .sc (.int .i64 0), .sc (.int .i64 0)] := by kernel_rfl
theorem Try.zn54 : zeroN Try.prog 54 = [.sc (.int .i64 0), .sc (.int .i64 0), .sc (.int .i64 0), .sc (.int .i64 0), .sc (.int .i64 0)] := by kernel_rfl
theorem Try.ha54 : hasT Try.prog 54 = true := by kernel_rfl
theorem Try.sz55 : szOf Try.prog 55 = 5 := by kernel_rfl
theorem Try.by55 : byOf Try.prog 55 = 40 := by kernel_rfl
theorem Try.ze55 : zeroA Try.prog 55 = [.sc (.int .i64 0), .sc (.int .i64 0), .sc (.int .i64 0), .sc (.int .i64 0), .sc (.int .i64 0)] := by kernel_rfl
theorem Try.zn55 : zeroN Try.prog 55 = [.sc (.int .i64 0), .sc (.int .i64 0), .sc (.int .i64 0), .sc (.int .i64 0), .sc (.int .i64 0)] := by kernel_rfl
theorem Try.ha55 : hasT Try.prog 55 = true := by kernel_rfl
theorem Try.sz56 : szOf Try.prog 56 = 1 := by kernel_rfl
theorem Try.by56 : byOf Try.prog 56 = 8 := by kernel_rfl
theorem Try.ze56 : zeroA Try.prog 56 = [.sc .nilFunc] := by kernel_rfl
theorem Try.zn56 : zeroN Try.prog 56 = [.sc .nilFunc] := by kernel_rfl
theorem Try.ha56 : hasT Try.prog 56 = true := by kernel_rfl
theorem Try.sz57 : szOf Try.prog 57 = 1 := by kernel_rfl
theorem Try.by57 : byOf Try.prog 57 = 8 := by kernel_rfl
theorem Try.ze57 : zeroA Try.prog 57 = [.sc .nilFunc] := by kernel_rfl
theorem Try.zn57 : zeroN Try.prog 57 = [.sc .nilFunc] := by kernel_rfl
theorem Try.ha57 : hasT Try.prog 57 = true := by kernel_rfl
theorem Try.sz58 : szOf Try.prog 58 = 1 := by kernel_rfl
theorem Try.by58 : byOf Try.prog 58 = 8 := by kernel_rfl
theorem Try.ze58 : zeroA Try.prog 58 = [.sc .nilFunc] := by kernel_rfl
theorem Try.zn58 : zeroN Try.prog 58 = [.sc .nilFunc] := by kernel_rfl
theorem Try.ha58 : hasT Try.prog 58 = true := by kernel_rfl
theorem Try.sz59 : szOf Try.prog 59 = 1 := by kernel_rfl
theorem Try.by59 : byOf Try.prog 59 = 24 := by kernel_rfl
theorem Try.ze59 : zeroA Try.prog 59 = [.imm 0 [] 0] := by kernel_rfl
theorem Try.zn59 : zeroN Try.prog 59 = [.sc (.slice none 0 0)] := by kernel_rfl
theorem Try.ha59 : hasT Try.prog 59 = true := by kernel_rfl
theorem Try.sz60 : szOf Try.prog 60 = 1 := by kernel_rfl
theorem Try.by60 : byOf Try.prog 60 = 8 := by kernel_rfl
theorem Try.ze60 : zeroA Try.prog 60 = [.sc .nilFunc] := by kernel_rfl
theorem Try.zn60 : zeroN Try.prog 60 = [.sc .nilFunc] := by kernel_rfl
theorem Try.ha60 : hasT Try.prog 60 = true := by kernel_rfl
theorem Try.sz61 : szOf Try.prog 61 = 1 := by kernel_rfl
theorem Try.by61 : byOf Try.prog 61 = 8 := by kernel_rfl
theorem Try.ze61 : zeroA Try.prog 61 = [.sc .nilFunc] := by kernel_rfl
theorem Try.zn61 : zeroN Try.prog 61 = [.sc .nilFunc] := by kernel_rfl
theorem Try.ha61 : hasT Try.prog 61 = true := by kernel_rfl
theorem Try.sz62 : szOf Try.prog 62 = 1 := by kernel_rfl
theorem Try.by62 : byOf Try.prog 62 = 24 := by kernel_rfl
theorem Try.ze62 : zeroA Try.prog 62 = [.imm 0 [] 0] := by kernel_rfl
theorem Try.zn62 : zeroN Try.prog 62 = [.sc (.slice none 0 0)] := by kernel_rfl
theorem Try.ha62 : hasT Try.prog 62 = true := by kernel_rfl
theorem Try.sz63 : szOf Try.prog 63 = 1 := by kernel_rfl
theorem Try.by63 : byOf Try.prog 63 = 8 := by kernel_rfl
theorem Try.ze63 : zeroA Try.prog 63 = [.sc (.int .u64 0)] := by kernel_rfl
theorem Try.zn63 : zeroN Try.prog 63 = [.sc (.int .u64 0)] := by kernel_rfl
theorem Try.ha63 : hasT Try.prog 63 = true := by kernel_rfl
theorem Try.sz64 : szOf Try.prog 64 = 1 := by kernel_rfl
theorem Try.by64 : byOf Try.prog 64 = 8 := by kernel_rfl
theorem Try.ze64 : zeroA Try.prog 64 = [.sc .nilFunc] := by kernel_rfl
theorem Try.zn64 : zeroN Try.prog 64 = [.sc .nilFunc] := by kernel_rfl
theorem Try.ha64 : hasT Try.prog 64 = true := by kernel_rfl
theorem Try.sz65 : szOf Try.prog 65 = 6 := by kernel_rfl
theorem Try.by65 : byOf Try.prog 65 = 56 := by kernel_rfl
theorem Try.ze65 : zeroA Try.prog 65 = [.sc (.string ⟨#[]⟩), .sc (.int .i64 0), .sc (.int .i64 0), .sc (.int .i64 0), .sc (.int .i64 0), .sc (.int .i64 0)] := by kernel_rfl
theorem Try.zn65 : zeroN Try.prog 65 = [.sc (.string ⟨#[]⟩), .sc (.int .i64 0), .sc (.int .i64 0), .sc (.int .i64 0), .sc (.int .i64 0), .sc (.int .i64 0)] := by kernel_rfl
theorem Try.ha65 : hasT Try.prog 65 = true := by kernel_rfl
theorem Try.sz66 : szOf Try.prog 66 = 6 := by kernel_rfl
theorem Try.by66 : byOf Try.prog 66 = 56 := by kernel_rfl
theorem Try.ze66 : zeroA Try.prog 66 = [.sc (.string ⟨#[]⟩), .sc (.int .i64 0), .sc (.int .i64 0), .sc (.int .i64 0), .sc (.int .i64 0), .sc (.int .i64 0)] := by kernel_rfl
theorem Try.zn66 : zeroN Try.prog 66 = [.sc (.string ⟨#[]⟩), .sc (.int .i64 0), .sc (.int .i64 0), .sc (.int .i64 0), .sc (.int .i64 0), .sc (.int .i64 0)] := by kernel_rfl
theorem Try.ha66 : hasT Try.prog 66 = true := by kernel_rfl
theorem Try.sz67 : szOf Try.prog 67 = 1 := by kernel_rfl
theorem Try.by67 : byOf Try.prog 67 = 8 := by kernel_rfl
theorem Try.ze67 : zeroA Try.prog 67 = [.sc .nilFunc] := by kernel_rfl
theorem Try.zn67 : zeroN Try.prog 67 = [.sc .nilFunc] := by kernel_rfl
theorem Try.ha67 : hasT Try.prog 67 = true := by kernel_rfl
theorem Try.sz68 : szOf Try.prog 68 = 1 := by kernel_rfl
theorem Try.by68 : byOf Try.prog 68 = 8 := by kernel_rfl
theorem Try.ze68 : zeroA Try.prog 68 = [.sc .nilFunc] := by kernel_rfl
theorem Try.zn68 : zeroN Try.prog 68 = [.sc .nilFunc] := by kernel_rfl
theorem Try.ha68 : hasT Try.prog 68 = true := by kernel_rfl
theorem Try.sz69 : szOf Try.prog 69 = 1 := by kernel_rfl
theorem Try.by69 : byOf Try.prog 69 = 0 := by kernel_rfl
theorem Try.sz70 : szOf Try.prog 70 = 1 := by kernel_rfl
theorem Try.by70 : byOf Try.prog 70 = 8 := by kernel_rfl
theorem Try.ze70 : zeroA Try.prog 70 = [.sc .nilFunc] := by kernel_rfl
theorem Try.zn70 : zeroN Try.prog 70 = [.sc .nilFunc] := by kernel_rfl
theorem Try.ha70 : hasT Try.prog 70 = true := by kernel_rfl
theorem Try.sz71 : szOf Try.prog 71 = 1 := by kernel_rfl
theorem Try.by71 : byOf Try.prog 71 = 0 := by kernel_rfl
theorem Try.sz72 : szOf Try.prog 72 = 1 := by kernel_rfl
theorem Try.by72 : byOf Try.prog 72 = 8 := by kernel_rfl
theorem Try.ze72 : zeroA Try.prog 72 = [.sc .nilFunc] := by kernel_rfl
theorem Try.zn72 : zeroN Try.prog 72 = [.sc .nilFunc] := by kernel_rfl
theorem Try.ha72 : hasT Try.prog 72 = true := by kernel_rfl
theorem Try.sz73 : szOf Try.prog 73 = 1 := by kernel_rfl
theorem Try.by73 : byOf Try.prog 73 = 8 := by kernel_rfl
theorem Try.ze73 : zeroA Try.prog 73 = [.sc .nilFunc] := by kernel_rfl
theorem Try.zn73 : zeroN Try.prog 73 = [.sc .nilFunc] := by kernel_rfl
theorem Try.ha73 : hasT Try.prog 73 = true := by kernel_rfl
theorem Try.sz74 : szOf Try.prog 74 = 6 := by kernel_rfl
theorem Try.by74 : byOf Try.prog 74 = 40 := by kernel_rfl
theorem Try.ze74 : zeroA Try.prog 74 = [.sc (.int .i64 0), .sc (.int .i64 0), .sc (.int .i64 0), .sc (.int .i64 0), .sc (.bool false), .sc (.int .i32 0)] := by kernel_rfl
theorem Try.zn74 : zeroN Try.prog 74 = [.sc (.int .i64 0), .sc (.int .i64 0), .sc (.int .i64 0), .sc (.int .i64 0), .sc (.bool false), .sc (.int .i32 0)] := by kernel_rfl
theorem Try.ha74 : hasT Try.prog 74 = true := by kernel_rfl
theorem Try.sz75 : szOf Try.prog 75 = 6 := by kernel_rfl
theorem Try.by75 : byOf Try.prog 75 = 40 := by kernel_rfl
theorem Try.ze75 : zeroA Try.prog 75 = [.sc (.int .i64 0), .sc (.int .i64 0), .sc (.int .i64 0), .sc (.int .i64 0), .sc (.bool false), .sc (.int .i32 0)] := by kernel_rfl
theorem Try.zn75 : zeroN Try.prog 75 = [.sc (.int .i64 0), .sc (.int .i64 0), .sc (.int .i64 0), .sc (.int .i64 0), .sc (.bool false), .sc (.int .i32 0)] := by kernel_rfl
theorem Try.ha75 : hasT Try.prog 75 = true := by kernel_rfl
theorem Try.sz76 : szOf Try.prog 76 = 1 := by kernel_rfl
theorem Try.by76 : byOf Try.prog 76 = 8 := by kernel_rfl
theorem Try.ze76 : zeroA Try.prog 76 = [.sc .nilFunc] := by kernel_rfl
theorem Try.zn76 : zeroN Try.prog 76 = [.sc .nilFunc] := by kernel_rfl
theorem Try.ha76 : hasT Try.prog 76 = true := by kernel_rfl
theorem Try.sz77 : szOf Try.prog 77 = 4 := by kernel_rfl
theorem Try.by77 : byOf Try.prog 77 = 24 := by kernel_rfl
theorem Try.ze77 : zeroA Try.prog 77 = [.sc (.int .i64 0), .sc (.int .i64 0), .sc (.int .i32 0), .sc (.bool false)] := by kernel_rfl
theorem Try.zn77 : zeroN Try.prog 77 = [.sc (.int .i64 0), .sc (.int .i64 0), .sc (.int .i32 0), .sc (.bool false)] := by kernel_rfl
theorem Try.ha77 : hasT Try.prog 77 = true := by kernel_rfl
theorem Try.sz78 : szOf Try.prog 78 = 4 := by kernel_rfl
theorem Try.by78 : byOf Try.prog 78 = 24 := by kernel_rfl
theorem Try.ze78 : zeroA Try.prog 78 = [.sc (.int .i64 0), .sc (.int .i64 0), .sc (.int .i32 0), .sc (.bool false)] := by kernel_rfl
theorem Try.zn78 : zeroN Try.prog 78 = [.sc (.int .i64 0), .sc (.int .i64 0), .sc (.int .i32 0), .sc (.bool false)] := by kernel_rfl
theorem Try.ha78 : hasT Try.prog 78 = true := by kernel_rfl
theorem Try.sz79 : szOf Try.prog 79 = 1 := by kernel_rfl
theorem Try.by79 : byOf Try.prog 79 = 8 := by kernel_rfl
theorem Try.ze79 : zeroA Try.prog 79 = [.sc .nilFunc] := by kernel_rfl
theorem Try.zn79 : zeroN Try.prog 79 = [.sc .nilFunc] := by kernel_rfl
theorem Try.ha79 : hasT Try.prog 79 = true := by kernel_rfl
theorem Try.sz80 : szOf Try.prog 80 = 1 := by kernel_rfl
theorem Try.by80 : byOf Try.prog 80 = 8 := by kernel_rfl
theorem Try.ze80 : zeroA Try.prog 80 = [.sc .nilFunc] := by kernel_rfl
theorem Try.zn80 : zeroN Try.prog 80 = [.sc .nilFunc] := by kernel_rfl
theorem Try.ha80 : hasT Try.prog 80 = true := by kernel_rfl
theorem Try.sz81 : szOf Try.prog 81 = 1 := by kernel_rfl
theorem Try.by81 : byOf Try.prog 81 = 24 := by kernel_rfl
theorem Try.ze81 : zeroA Try.prog 81 = [.imm 0 [] 0] := by kernel_rfl
theorem Try.zn81 : zeroN Try.prog 81 = [.sc (.slice none 0 0)] := by kernel_rfl
theorem Try.ha81 : hasT Try.prog 81 = true := by kernel_rfl
theorem Try.sz82 : szOf Try.prog 82 = 1 := by kernel_rfl
theorem Try.by82 : byOf Try.prog 82 = 24 := by kernel_rfl
theorem Try.ze82 : zeroA Try.prog 82 = [.imm 0 [] 0] := by kernel_rfl
theorem Try.zn82 : zeroN Try.prog 82 = [.sc (.slice none 0 0)] := by kernel_rfl
theorem Try.ha82 : hasT Try.prog 82 = true := by kernel_rfl
theorem Try.sz83 : szOf Try.prog 83 = 1 := by kernel_rfl
theorem Try.by83 : byOf Try.prog 83 = 8 := by kernel_rfl
theorem Try.ze83 : zeroA Try.prog 83 = [.sc .nilFunc] := by kernel_rfl
theorem Try.zn83 : zeroN Try.prog 83 = [.sc .nilFunc] := by kernel_rfl
theorem Try.ha83 : hasT Try.prog 83 = true := by kernel_rfl
theorem Try.sz84 : szOf Try.prog 84 = 1 := by kernel_rfl
theorem Try.by84 : byOf Try.prog 84 = 8 := by kernel_rfl
theorem Try.ze84 : zeroA Try.prog 84 = [.sc .nilFunc] := by kernel_rfl
theorem Try.zn84 : zeroN Try.prog 84 = [.sc .nilFunc] := by kernel_rfl
theorem Try.ha84 : hasT Try.prog 84 = true := by kernel_rfl
theorem Try.sz85 : szOf Try.prog 85 = 1 := by kernel_rfl
theorem Try.by85 : byOf Try.prog 85 = 0 := by kernel_rfl
theorem Try.sz86 : szOf Try.prog 86 = 1 := by kernel_rfl
theorem Try.by86 : byOf Try.prog 86 = 8 := by kernel_rfl
theorem Try.ze86 : zeroA Try.prog 86 = [.sc .nilFunc] := by kernel_rfl
theorem Try.zn86 : zeroN Try.prog 86 = [.sc .nilFunc] := by kernel_rfl
theorem Try.ha86 : hasT Try.prog 86 = true := by kernel_rfl
theorem Try.sz87 : szOf Try.prog 87 = 1 := by kernel_rfl
theorem Try.by87 : byOf Try.prog 87 = 8 := by kernel_rfl
theorem Try.ze87 : zeroA Try.prog 87 = [.sc .nilFunc] := by kernel_rfl
theorem Try.zn87 : zeroN Try.prog 87 = [.sc .nilFunc] := by kernel_rfl
theorem Try.ha87 : hasT Try.prog 87 = true := by kernel_rfl
theorem Try.sz88 : szOf Try.prog 88 = 1 := by kernel_rfl
theorem Try.by88 : byOf Try.prog 88 = 8 := by kernel_rfl
theorem Try.ze88 : zeroA Try.prog 88 = [.sc .nilFunc] := by kernel_rfl
theorem Try.zn88 : zeroN Try.prog 88 = [.sc .nilFunc] := by kernel_rfl
theorem Try.ha88 : hasT Try.prog 88 = true := by kernel_rfl
theorem Try.sz89 : szOf Try.prog 89 = 2 := by kernel_rfl
theorem Try.by89 : byOf Try.prog 89 = 48 := by kernel_rfl
theorem Try.ze89 : zeroA Try.prog 89 = [.imm 0 [] 0, .imm 0 [] 0] := by kernel_rfl
theorem Try.zn89 : zeroN Try.prog 89 = [.sc (.slice none 0 0), .sc (.slice none 0 0)] := by kernel_rfl
theorem Try.ha89 : hasT Try.prog 89 = true := by kernel_rfl
theorem Try.sz90 : szOf Try.prog 90 = 2 := by kernel_rfl
theorem Try.by90 : byOf Try.prog 90 = 48 := by kernel_rfl
theorem Try.ze90 : zeroA Try.prog 90 = [.imm 0 [] 0, .imm 0 [] 0] := by kernel_rfl
theorem Try.zn90 : zeroN Try.prog 90 = [.sc (.slice none 0 0), .sc (.slice none 0 0)] := by kernel_rfl
theorem Try.ha90 : hasT Try.prog 90 = true := by kernel_rfl
theorem Try.sz91 : szOf Try.prog 91 = 1 := by kernel_rfl
theorem Try.by91 : byOf Try.prog 91 = 0 := by kernel_rfl
theorem Try.sz92 : szOf Try.prog 92 = 1 := by kernel_rfl
theorem Try.by92 : byOf Try.prog 92 = 8 := by kernel_rfl
theorem Try.ze92 : zeroA Try.prog 92 = [.sc .nilFunc] := by kernel_rfl
theorem Try.zn92 : zeroN Try.prog 92 = [.sc .nilFunc] := by kernel_rfl
theorem Try.ha92 : hasT Try.prog 92 = true := by kernel_rfl
theorem Try.sz93 : szOf Try.prog 93 = 1 := by kernel_rfl
theorem Try.by93 : byOf Try.prog 93 = 8 := by kernel_rfl
theorem Try.ze93 : zeroA Try.prog 93 = [.sc .nilFunc] := by kernel_rfl
theorem Try.zn93 : zeroN Try.prog 93 = [.sc .nilFunc] := by kernel_rfl
theorem Try.ha93 : hasT Try.prog 93 = true := by kernel_rfl
theorem Try.sz94 : szOf Try.prog 94 = 1 := by kernel_rfl
theorem Try.by94 : byOf Try.prog 94 = 8 := by kernel_rfl
theorem Try.ze94 : zeroA Try.prog 94 = [.sc .nilFunc] := by kernel_rfl
theorem Try.zn94 : zeroN Try.prog 94 = [.sc .nilFunc] := by kernel_rfl
theorem Try.ha94 : hasT Try.prog 94 = true := by kernel_rfl
theorem Try.sz95 : szOf Try.prog 95 = 1 := by kernel_rfl
theorem Try.by95 : byOf Try.prog 95 = 8 := by kernel_rfl
theorem Try.ze95 : zeroA Try.prog 95 = [.sc (.map none)] := by kernel_rfl
theorem Try.zn95 : zeroN Try.prog 95 = [.sc (.map none)] := by kernel_rfl
theorem Try.ha95 : hasT Try.prog 95 = true := by kernel_rfl
theorem Try.sz96 : szOf Try.prog 96 = 1 := by kernel_rfl
theorem Try.by96 : byOf Try.prog 96 = 8 := by kernel_rfl
theorem Try.ze96 : zeroA Try.prog 96 = [.sc .nilFunc] := by kernel_rfl
theorem Try.zn96 : zeroN Try.prog 96 = [.sc .nilFunc] := by kernel_rfl
theorem Try.ha96 : hasT Try.prog 96 = true := by kernel_rfl
theorem Try.sz97 : szOf Try.prog 97 = 1 := by kernel_rfl
theorem Try.by97 : byOf Try.prog 97 = 8 := by kernel_rfl
theorem Try.ze97 : zeroA Try.prog 97 = [.sc .nilFunc] := by kernel_rfl
theorem Try.zn97 : zeroN Try.prog 97 = [.sc .nilFunc] := by kernel_rfl
theorem Try.ha97 : hasT Try.prog 97 = true := by kernel_rfl
theorem Try.sz98 : szOf Try.prog 98 = 1 := by kernel_rfl
theorem Try.by98 : byOf Try.prog 98 = 8 := by kernel_rfl
theorem Try.ze98 : zeroA Try.prog 98 = [.sc .nilFunc] := by kernel_rfl
theorem Try.zn98 : zeroN Try.prog 98 = [.sc .nilFunc] := by kernel_rfl
theorem Try.ha98 : hasT Try.prog 98 = true := by kernel_rfl
theorem Try.sz99 : szOf Try.prog 99 = 1 := by kernel_rfl
theorem Try.by99 : byOf Try.prog 99 = 8 := by kernel_rfl
theorem Try.ze99 : zeroA Try.prog 99 = [.sc .nilFunc] := by kernel_rfl
theorem Try.zn99 : zeroN Try.prog 99 = [.sc .nilFunc] := by kernel_rfl
theorem Try.ha99 : hasT Try.prog 99 = true := by kernel_rfl
theorem Try.sz100 : szOf Try.prog 100 = 1 := by kernel_rfl
theorem Try.by100 : byOf Try.prog 100 = 8 := by kernel_rfl
theorem Try.ze100 : zeroA Try.prog 100 = [.sc .nilFunc] := by kernel_rfl
theorem Try.zn100 : zeroN Try.prog 100 = [.sc .nilFunc] := by kernel_rfl
theorem Try.ha100 : hasT Try.prog 100 = true := by kernel_rfl
theorem Try.sz101 : szOf Try.prog 101 = 1 := by kernel_rfl
theorem Try.by101 : byOf Try.prog 101 = 24 := by kernel_rfl
theorem Try.ze101 : zeroA Try.prog 101 = [.imm 0 [] 0] := by kernel_rfl
theorem Try.zn101 : zeroN Try.prog 101 = [.sc (.slice none 0 0)] := by kernel_rfl
theorem Try.ha101 : hasT Try.prog 101 = true := by kernel_rfl
theorem Try.sz102 : szOf Try.prog 102 = 1 := by kernel_rfl
theorem Try.by102 : byOf Try.prog 102 = 8 := by kernel_rfl
theorem Try.ze102 : zeroA Try.prog 102 = [.sc (.map none)] := by kernel_rfl
theorem Try.zn102 : zeroN Try.prog 102 = [.sc (.map none)] := by kernel_rfl
theorem Try.ha102 : hasT Try.prog 102 = true := by kernel_rfl
theorem Try.sz103 : szOf Try.prog 103 = 2 := by kernel_rfl
theorem Try.by103 : byOf Try.prog 103 = 16 := by kernel_rfl
theorem Try.ze103 : zeroA Try.prog 103 = [.sc (.map none), .sc (.int .i64 0)] := by kernel_rfl
theorem Try.zn103 : zeroN Try.prog 103 = [.sc (.map none), .sc (.int .i64 0)] := by kernel_rfl
theorem Try.ha103 : hasT Try.prog 103 = true := by kernel_rfl
theorem Try.sz104 : szOf Try.prog 104 = 2 := by kernel_rfl
theorem Try.by104 : byOf Try.prog 104 = 16 := by kernel_rfl
theorem Try.ze104 : zeroA Try.prog 104 = [.sc (.map none), .sc (.int .i64 0)] := by kernel_rfl
theorem Try.zn104 : zeroN Try.prog 104 = [.sc (.map none), .sc (.int .i64 0)] := by kernel_rfl
theorem Try.ha104 : hasT Try.prog 104 = true := by kernel_rfl
theorem Try.sz105 : szOf Try.prog 105 = 2 := by kernel_rfl
theorem Try.by105 : byOf Try.prog 105 = 48 := by kernel_rfl
theorem Try.ze105 : zeroA Try.prog 105 = [.imm 0 [] 0, .imm 0 [] 0] := by kernel_rfl
theorem Try.zn105 : zeroN Try.prog 105 = [.sc (.slice none 0 0), .sc (.slice none 0 0)] := by kernel_rfl
theorem Try.ha105 : hasT Try.prog 105 = true := by kernel_rfl
theorem Try.sz106 : szOf Try.prog 106 = 6 := by kernel_rfl
theorem Try.by106 : byOf Try.prog 106 = 72 := by kernel_rfl
theorem Try.ze106 : zeroA Try.prog 106 = [.sc (.int .i64 0), .sc (.int .i64 0), .sc (.int .i32 0), .sc (.bool false), .imm 0 [] 0, .imm 0 [] 0] := by kernel_rfl
theorem Try.zn106 : zeroN Try.prog 106 = [.sc (.int .i64 0), .sc (.int .i64 0), .sc (.int .i32 0), .sc (.bool false), .sc (.slice none 0 0), .sc (.slice none 0 0)] := by kernel_rfl
theorem Try.ha106 : hasT Try.prog 106 = true := by kernel_rfl
theorem Try.sz107 : szOf Try.prog 107 = 6 := by kernel_rfl
theorem Try.by107 : byOf Try.prog 107 = 72 := by kernel_rfl
theorem Try.ze107 : zeroA Try.prog 107 = [.sc (.int .i64 0), .sc (.int .i64 0), .sc (.int .i32 0), .sc (.bool false), .imm 0 [] 0, .imm 0 [] 0] := by kernel_rfl
theorem Try.zn107 : zeroN Try.prog 107 = [.sc (.int .i64 0), .sc (.int .i64 0), .sc (.int .i32 0), .sc (.bool false), .sc (.slice none 0 0), .sc (.slice none 0 0)] := by kernel_rfl
theorem Try.ha107 : hasT Try.prog 107 = true := by kernel_rfl
theorem Try.sz108 : szOf Try.prog 108 = 1 := by kernel_rfl
theorem Try.by108 : byOf Try.prog 108 = 8 := by kernel_rfl
theorem Try.ze108 : zeroA Try.prog 108 = [.sc .nilFunc] := by kernel_rfl
theorem Try.zn108 : zeroN Try.prog 108 = [.sc .nilFunc] := by kernel_rfl
theorem Try.ha108 : hasT Try.prog 108 = true := by kernel_rfl
theorem Try.sz109 : szOf Try.prog 109 = 1 := by kernel_rfl
theorem Try.by109 : byOf Try.prog 109 = 0 := by kernel_rfl
theorem Try.sz110 : szOf Try.prog 110 = 1 := by kernel_rfl
theorem Try.by110 : byOf Try.prog 110 = 8 := by kernel_rfl
theorem Try.ze110 : zeroA Try.prog 110 = [.sc .nilFunc] := by kernel_rfl
theorem Try.zn110 : zeroN Try.prog 110 = [.sc .nilFunc] := by kernel_rfl
theorem Try.ha110 : hasT Try.prog 110 = true := by kernel_rfl
theorem Try.sz111 : szOf Try.prog 111 = 1 := by kernel_rfl
theorem Try.by111 : byOf Try.prog 111 = 8 := by kernel_rfl
theorem Try.ze111 : zeroA Try.prog 111 = [.sc .nilFunc] := by kernel_rfl
theorem Try.zn111 : zeroN Try.prog 111 = [.sc .nilFunc] := by kernel_rfl
theorem Try.ha111 : hasT Try.prog 111 = true := by kernel_rfl
theorem Try.sz112 : szOf Try.prog 112 = 1 := by kernel_rfl
theorem Try.by112 : byOf Try.prog 112 = 8 := by kernel_rfl
theorem Try.ze112 : zeroA Try.prog 112 = [.sc .nilFunc] := by kernel_rfl
theorem Try.zn112 : zeroN Try.prog 112 = [.sc .nilFunc] := by kernel_rfl
theorem Try.ha112 : hasT Try.prog 112 = true := by kernel_rfl
theorem Try.sz113 : szOf Try.prog 113 = 1 := by kernel_rfl
theorem Try.by113 : byOf Try.prog 113 = 8 := by kernel_rfl
theorem Try.ze113 : zeroA Try.prog 113 = [.sc .nilFunc] := by kernel_rfl
theorem Try.zn113 : zeroN Try.prog 113 = [.sc .nilFunc] := by kernel_rfl
theorem Try.ha113 : hasT Try.prog 113 = true := by kernel_rfl
theorem Try.sz114 : szOf Try.prog 114 = 1 := by kernel_rfl
theorem Try.by114 : byOf Try.prog 114 = 8 := by kernel_rfl
theorem Try.ze114 : zeroA Try.prog 114 = [.sc .nilFunc] := by kernel_rfl
theorem Try.zn114 : zeroN Try.prog 114 = [.sc .nilFunc] := by kernel_rfl
theorem Try.ha114 : hasT Try.prog 114 = true := by kernel_rfl
theorem Try.sz115 : szOf Try.prog 115 = 1 := by kernel_rfl
theorem Try.by115 : byOf Try.prog 115 = 8 := by kernel_rfl
theorem Try.ze115 : zeroA Try.prog 115 = [.sc .nilFunc] := by kernel_rfl
theorem Try.zn115 : zeroN Try.prog 115 = [.sc .nilFunc] := by kernel_rfl
theorem Try.ha115 : hasT Try.prog 115 = true := by kernel_rfl
theorem Try.sz116 : szOf Try.prog 116 = 1 := by kernel_rfl
theorem Try.by116 : byOf Try.prog 116 = 8 := by kernel_rfl
theorem Try.ze116 : zeroA Try.prog 116 = [.sc .nilFunc] := by kernel_rfl
theorem Try.zn116 : zeroN Try.prog 116 = [.sc .nilFunc] := by kernel_rfl
theorem Try.ha116 : hasT Try.prog 116 = true := by kernel_rfl
theorem Try.sz117 : szOf Try.prog 117 = 4 := by kernel_rfl
theorem Try.by117 : byOf Try.prog 117 = 32 := by kernel_rfl
theorem Try.ze117 : zeroA Try.prog 117 = [.sc (.int .i64 0), .sc (.int .i64 0), .sc (.int .i64 0), .sc (.int .i64 0)] := by kernel_rfl
theorem Try.zn117 : zeroN Try.prog 117 = [.sc (.int .i64 0), .sc (.int .i64 0), .sc (.int .i64 0), .sc (.int .i64 0)] := by kernel_rfl
theorem Try.ha117 : hasT Try.prog 117 = true := by kernel_rfl
theorem Try.sz118 : szOf Try.prog 118 = 4 := by kernel_rfl
theorem Try.by118 : byOf Try.prog 118 = 32 := by kernel_rfl
theorem Try.ze118 : zeroA Try.prog 118 = [.sc (.int .i64 0), .sc (.int .i64 0), .sc (.int .i64 0), .sc (.int .i64 0)] := by kernel_rfl
theorem Try.zn118 : zeroN Try.prog 118 = [.sc (.int .i64 0), .sc (.int .i64 0), .sc (.int .i64 0), .sc (.int .i64 0)] := by kernel_rfl
theorem Try.ha118 : hasT Try.prog 118 = true := by kernel_rfl
theorem Try.sz119 : szOf Try.prog 119 = 1 := by kernel_rfl
theorem Try.by119 : byOf Try.prog 119 = 24 := by kernel_rfl
theorem Try.ze119 : zeroA Try.prog 119 = [.imm 0 [] 0] := by kernel_rfl
theorem Try.zn119 : zeroN Try.prog 119 = [.sc (.slice none 0 0)] := by kernel_rfl
theorem Try.ha119 : hasT Try.prog 119 = true := by kernel_rfl
theorem Try.sz120 : szOf Try.prog 120 = 1 := by kernel_rfl
theorem Try.by120 : byOf Try.prog 120 = 8 := by kernel_rfl
theorem Try.ze120 : zeroA Try.prog 120 = [.sc .nilFunc] := by kernel_rfl
theorem Try.zn120 : zeroN Try.prog 120 = [.sc .nilFunc] := by kernel_rfl
theorem Try.ha120 : hasT Try.prog 120 = true := by kernel_rfl
theorem Try.sz121 : szOf Try.prog 121 = 1 := by kernel_rfl
theorem Try.by121 : byOf Try.prog 121 = 8 := by kernel_rfl
theorem Try.ze121 : zeroA Try.prog 121 = [.sc .nilFunc] := by kernel_rfl
theorem Try.zn121 : zeroN Try.prog 121 = [.sc .nilFunc] := by kernel_rfl
theorem Try.ha121 : hasT Try.prog 121 = true := by kernel_rfl
theorem Try.sz122 : szOf Try.prog 122 = 1 := by kernel_rfl
theorem Try.by122 : byOf Try.prog 122 = 8 := by kernel_rfl
theorem Try.ze122 : zeroA Try.prog 122 = [.sc .nilFunc] := by kernel_rfl
theorem Try.zn122 : zeroN Try.prog 122 = [.sc .nilFunc] := by kernel_rfl
theorem Try.ha122 : hasT Try.prog 122 = true := by kernel_rfl
theorem Try.sz123 : szOf Try.prog 123 = 1 := by kernel_rfl
theorem Try.by123 : byOf Try.prog 123 = 8 := by kernel_rfl
theorem Try.ze123 : zeroA Try.prog 123 = [.sc .nilFunc] := by kernel_rfl
theorem Try.zn123 : zeroN Try.prog 123 = [.sc .nilFunc] := by kernel_rfl
theorem Try.ha123 : hasT Try.prog 123 = true := by kernel_rfl
theorem Try.sz124 : szOf Try.prog 124 = 1 := by kernel_rfl
theorem Try.by124 : byOf Try.prog 124 = 8 := by kernel_rfl
theorem Try.ze124 : zeroA Try.prog 124 = [.sc .nilFunc] := by kernel_rfl
theorem Try.zn124 : zeroN Try.prog 124 = [.sc .nilFunc] := by kernel_rfl
theorem Try.ha124 : hasT Try.prog 124 = true := by kernel_rfl
theorem Try.sz125 : szOf Try.prog 125 = 1 := by kernel_rfl
theorem Try.by125 : byOf Try.prog 125 = 8 := by kernel_rfl
theorem Try.ze125 : zeroA Try.prog 125 = [.sc .nilFunc] := by kernel_rfl
theorem Try.zn125 : zeroN Try.prog 125 = [.sc .nilFunc] := by kernel_rfl
theorem Try.ha125 : hasT Try.prog 125 = true := by kernel_rfl
theorem Try.sz126 : szOf Try.prog 126 = 4 := by kernel_rfl
theorem Try.by126 : byOf Try.prog 126 = 40 := by kernel_rfl
theorem Try.ze126 : zeroA Try.prog 126 = [.sc (.pointer none), .sc (.pointer none), .sc (.pointer none), .sc (.string ⟨#[]⟩)] := by kernel_rfl
theorem Try.zn126 : zeroN Try.prog 126 = [.sc (.pointer none), .sc (.pointer none), .sc (.pointer none), .sc (.string ⟨#[]⟩)] := by kernel_rfl
theorem Try.ha126 : hasT Try.prog 126 = true := by kernel_rfl
theorem Try.sz127 : szOf Try.prog 127 = 4 := by kernel_rfl
theorem Try.by127 : byOf Try.prog 127 = 40 := by kernel_rfl
theorem Try.ze127 : zeroA Try.prog 127 = [.sc (.pointer none), .sc (.pointer none), .sc (.pointer none), .sc (.string ⟨#[]⟩)] := by kernel_rfl
theorem Try.zn127 : zeroN Try.prog 127 = [.sc (.pointer none), .sc (.pointer none), .sc (.pointer none), .sc (.string ⟨#[]⟩)] := by kernel_rfl
theorem Try.ha127 : hasT Try.prog 127 = true := by kernel_rfl
theorem Try.sz128 : szOf Try.prog 128 = 0 := by kernel_rfl
theorem Try.by128 : byOf Try.prog 128 = 0 := by kernel_rfl
theorem Try.ze128 : zeroA Try.prog 128 = [] := by kernel_rfl
theorem Try.zn128 : zeroN Try.prog 128 = [] := by kernel_rfl
theorem Try.ha128 : hasT Try.prog 128 = true := by kernel_rfl
theorem Try.sz129 : szOf Try.prog 129 = 0 := by kernel_rfl
theorem Try.by129 : byOf Try.prog 129 = 0 := by kernel_rfl
theorem Try.ze129 : zeroA Try.prog 129 = [] := by kernel_rfl
theorem Try.zn129 : zeroN Try.prog 129 = [] := by kernel_rfl
theorem Try.ha129 : hasT Try.prog 129 = true := by kernel_rfl
theorem Try.sz130 : szOf Try.prog 130 = 0 := by kernel_rfl
theorem Try.by130 : byOf Try.prog 130 = 0 := by kernel_rfl
theorem Try.ze130 : zeroA Try.prog 130 = [] := by kernel_rfl
theorem Try.zn130 : zeroN Try.prog 130 = [] := by kernel_rfl
theorem Try.ha130 : hasT Try.prog 130 = true := by kernel_rfl
theorem Try.sz131 : szOf Try.prog 131 = 1 := by kernel_rfl
theorem Try.by131 : byOf Try.prog 131 = 4 := by kernel_rfl
theorem Try.ze131 : zeroA Try.prog 131 = [.sc (.int .u32 0)] := by kernel_rfl
theorem Try.zn131 : zeroN Try.prog 131 = [.sc (.int .u32 0)] := by kernel_rfl
theorem Try.ha131 : hasT Try.prog 131 = true := by kernel_rfl
theorem Try.sz132 : szOf Try.prog 132 = 1 := by kernel_rfl
theorem Try.by132 : byOf Try.prog 132 = 1 := by kernel_rfl
theorem Try.ze132 : zeroA Try.prog 132 = [.sc (.int .u8 0)] := by kernel_rfl
theorem Try.zn132 : zeroN Try.prog 132 = [.sc (.int .u8 0)] := by kernel_rfl
theorem Try.ha132 : hasT Try.prog 132 = true := by kernel_rfl
theorem Try.sz133 : szOf Try.prog 133 = 1 := by kernel_rfl
theorem Try.by133 : byOf Try.prog 133 = 1 := by kernel_rfl
theorem Try.ze133 : zeroA Try.prog 133 = [.sc (.int .u8 0)] := by kernel_rfl
theorem Try.zn133 : zeroN Try.prog 133 = [.sc (.int .u8 0)] := by kernel_rfl
theorem Try.ha133 : hasT Try.prog 133 = true := by kernel_rfl
theorem Try.sz134 : szOf Try.prog 134 = 1 := by kernel_rfl
theorem Try.by134 : byOf Try.prog 134 = 8 := by kernel_rfl
theorem Try.ze134 : zeroA Try.prog 134 = [.sc .nilFunc] := by kernel_rfl
theorem Try.zn134 : zeroN Try.prog 134 = [.sc .nilFunc] := by kernel_rfl
theorem Try.ha134 : hasT Try.prog 134 = true := by kernel_rfl
theorem Try.sz135 : szOf Try.prog 135 = 1 := by kernel_rfl
theorem Try.by135 : byOf Try.prog 135 = 8 := by kernel_rfl
theorem Try.ze135 : zeroA Try.prog 135 = [.sc (.pointer none)] := by kernel_rfl
theorem Try.zn135 : zeroN Try.prog 135 = [.sc (.pointer none)] := by kernel_rfl
theorem Try.ha135 : hasT Try.prog 135 = true := by kernel_rfl
theorem Try.sz136 : szOf Try.prog 136 = 1 := by kernel_rfl
theorem Try.by136 : byOf Try.prog 136 = 4 := by kernel_rfl
theorem Try.ze136 : zeroA Try.prog 136 = [.sc (.int .i32 0)] := by kernel_rfl
theorem Try.zn136 : zeroN Try.prog 136 = [.sc (.int .i32 0)] := by kernel_rfl
theorem Try.ha136 : hasT Try.prog 136 = true := by kernel_rfl
theorem Try.sz137 : szOf Try.prog 137 = 1 := by kernel_rfl
theorem Try.by137 : byOf Try.prog 137 = 4 := by kernel_rfl
theorem Try.ze137 : zeroA Try.prog 137 = [.sc (.int .i32 0)] := by kernel_rfl
theorem Try.zn137 : zeroN Try.prog 137 = [.sc (.int .i32 0)] := by kernel_rfl
theorem Try.ha137 : hasT Try.prog 137 = true := by kernel_rfl
theorem Try.sz138 : szOf Try.prog 138 = 11 := by kernel_rfl
theorem Try.by138 : byOf Try.prog 138 = 48 := by kernel_rfl
theorem Try.ze138 : zeroA Try.prog 138 = [.sc (.int .u64 0), .sc (.int .u64 0), .sc (.int .u32 0), .sc (.int .u8 0), .sc (.int .u8 0), .sc (.int .u8 0), .sc (.int .u8 0), .sc .nilFunc, .sc (.pointer none), .sc (.int .i32 0), .sc (.int .i32 0)] := by kernel_rfl
theorem Try.zn138 : zeroN Try.prog 138 = [.sc (.int .u64 0), .sc (.int .u64 0), .sc (.int .u32 0), .sc (.int .u8 0), .sc (.int .u8 0), .sc (.int .u8 0), .sc (.int .u8 0), .sc .nilFunc, .sc (.pointer none), .sc (.int .i32 0), .sc (.int .i32 0)] := by kernel_rfl
theorem Try.ha138 : hasT Try.prog 138 = true := by kernel_rfl
theorem Try.sz139 : szOf Try.prog 139 = 11 := by kernel_rfl
theorem Try.by139 : byOf Try.prog 139 = 48 := by kernel_rfl
theorem Try.ze139 : zeroA Try.prog 139 = [.sc (.int .u64 0), .sc (.int .u64 0), .sc (.int .u32 0), .sc (.int .u8 0), .sc (.int .u8 0), .sc (.int .u8 0), .sc (.int .u8 0), .sc .nilFunc, .sc (.pointer none), .sc (.int .i32 0), .sc (.int .i32 0)] := by kernel_rfl
theorem Try.zn139 : zeroN Try.prog 139 = [.sc (.int .u64 0), .sc (.int .u64 0), .sc (.int .u32 0), .sc (.int .u8 0), .sc (.int .u8 0), .sc (.int .u8 0), .sc (.int .u8 0), .sc .nilFunc, .sc (.pointer none), .sc (.int .i32 0), .sc (.int .i32 0)] := by kernel_rfl
theorem Try.ha139 : hasT Try.prog 139 = true := by kernel_rfl
theorem Try.sz140 : szOf Try.prog 140 = 1 := by kernel_rfl
theorem Try.by140 : byOf Try.prog 140 = 8 := by kernel_rfl
theorem Try.ze140 : zeroA Try.prog 140 = [.sc (.pointer none)] := by kernel_rfl
theorem Try.zn140 : zeroN Try.prog 140 = [.sc (.pointer none)] := by kernel_rfl
theorem Try.ha140 : hasT Try.prog 140 = true := by kernel_rfl
theorem Try.eq7 (a1 b1 : Int) (a2 b2 : Int) (a3 b3 : Bool) (a4 b4 : Int) : eqG Try.prog 6 7 (.agg [.sc (.int .i64 a1), .sc (.int .i64 a2), .sc (.bool a3), .sc (.int .u8 a4)]) (.agg [.sc (.int .i64 b1), .sc (.int .i64 b2), .sc (.bool b3), .sc (.int .u8 b4)]) = some ((a1 == b1) && ((a2 == b2) && ((a3 == b3) && ((a4 == b4) && true)))) := by kernel_rfl
theorem Try.ck7 (x0 x1 x2 x3 : AV) : chkA Try.prog 6 7 (.agg [x0, x1, x2, x3]) = true := by kernel_rfl
theorem Try.eq8 (a1 b1 : Int) (a2 b2 : Int) (a3 b3 : Bool) (a4 b4 : Int) : eqG Try.prog 6 8 (.agg [.sc (.int .i64 a1), .sc (.int .i64 a2), .sc (.bool a3), .sc (.int .u8 a4)]) (.agg [.sc (.int .i64 b1), .sc (.int .i64 b2), .sc (.bool b3), .sc (.int .u8 b4)]) = some ((a1 == b1) && ((a2 == b2) && ((a3 == b3) && ((a4 == b4) && true)))) := by kernel_rfl
theorem Try.ck8 (x0 x1 x2 x3 : AV) : chkA Try.prog 6 8 (.agg [x0, x1, x2, x3]) = true := by kernel_rfl
theorem Try.eq26 (a1 b1 : Int) (a2 b2 : Int) : eqG Try.prog 6 26 (.agg [.sc (.int .i64 a1), .sc (.int .i64 a2)]) (.agg [.sc (.int .i64 b1), .sc (.int .i64 b2)]) = some ((a1 == b1) && ((a2 == b2) && true)) := by kernel_rfl
theorem Try.ck26 (x0 x1 : AV) : chkA Try.prog 6 26 (.agg [x0, x1]) = true := by kernel_rfl
theorem Try.eq27 (a1 b1 : Int) (a2 b2 : Int) : eqG Try.prog 6 27 (.agg [.sc (.int .i64 a1), .sc (.int .i64 a2)]) (.agg [.sc (.int .i64 b1), .sc (.int .i64 b2)]) = some ((a1 == b1) && ((a2 == b2) && true)) := by kernel_rfl
theorem Try.ck27 (x0 x1 : AV) : chkA Try.prog 6 27 (.agg [x0, x1]) = true := by kernel_rfl
theorem Try.eq28 (a1 b1 : Int) (a2 b2 : Int) (a3 b3 : Bool) : eqG Try.prog 6 28 (.agg [.sc (.int .i64 a1), .sc (.int .i64 a2), .sc (.bool a3)]) (.agg [.sc (.int .i64 b1), .sc (.int .i64 b2), .sc (.bool b3)]) = some (((a1 == b1) && ((a2 == b2) && true)) && ((a3 == b3) && true)) := by kernel_rfl
theorem Try.ck28 (x0 x1 x2 : AV) : chkA Try.prog 6 28 (.agg [x0, x1, x2]) = true := by kernel_rfl
theorem Try.eq29 (a1 b1 : Int) (a2 b2 : Int) (a3 b3 : Bool) : eqG Try.prog 6 29 (.agg [.sc (.int .i64 a1), .sc (.int .i64 a2), .sc (.bool a3)]) (.agg [.sc (.int .i64 b1), .sc (.int .i64 b2), .sc (.bool b3)]) = some (((a1 == b1) && ((a2 == b2) && true)) && ((a3 == b3) && true)) := by kernel_rfl
theorem Try.ck29 (x0 x1 x2 : AV) : chkA Try.prog 6 29 (.agg [x0, x1, x2]) = true := by kernel_rfl
theorem Try.eq30 (a1 b1 : Int) (a2 b2 : Int) (a3 b3 : Int) (a4 b4 : Int) (a5 b5 : Bool) (a6 b6 : Int) (a7 b7 : Int) (a8 b8 : Bool) (a9 b9 : Int) (a10 b10 : Int) : eqG Try.prog 6 30 (.agg [.sc (.int .i64 a1), .sc (.int .i64 a2), .sc (.int .i64 a3), .sc (.int .i64 a4), .sc (.bool a5), .sc (.int .i64 a6), .sc (.int .i64 a7), .sc (.bool a8), .sc (.int .i64 a9), .sc (.int .i64 a10)]) (.agg [.sc (.int .i64 b1), .sc (.int .i64 b2), .sc (.int .i64 b3), .sc (.int .i64 b4), .sc (.bool b5), .sc (.int .i64 b6), .sc (.int .i64 b7), .sc (.bool b8), .sc (.int .i64 b9), .sc (.int .i64 b10)]) = some ((a1 == b1) && ((a2 == b2) && ((((a3 == b3) && ((a4 == b4) && true)) && ((a5 == b5) && true)) && ((((a6 == b6) && ((a7 == b7) && true)) && ((a8 == b8) && true)) && ((a9 == b9) && ((a10 == b10) && true)))))) := by kernel_rfl
theorem Try.ck30 (x0 x1 x2 x3 x4 x5 x6 x7 x8 x9 : AV) : chkA Try.prog 6 30 (.agg [x0, x1, x2, x3, x4, x5, x6, x7, x8, x9]) = true := by kernel_rfl
theorem Try.eq31 (a1 b1 : Int) (a2 b2 : Int) (a3 b3 : Int) (a4 b4 : Int) (a5 b5 : Bool) (a6 b6 : Int) (a7 b7 : Int) (a8 b8 : Bool) (a9 b9 : Int) (a10 b10 : Int) : eqG Try.prog 6 31 (.agg [.sc (.int .i64 a1), .sc (.int .i64 a2), .sc (.int .i64 a3), .sc (.int .i64 a4), .sc (.bool a5), .sc (.int .i64 a6), .sc (.int .i64 a7), .sc (.bool a8), .sc (.int .i64 a9), .sc (.int .i64 a10)]) (.agg [.sc (.int .i64 b1), .sc (.int .i64 b2), .sc (.int .i64 b3), .sc (.int .i64 b4), .sc (.bool b5), .sc (.int .i64 b6), .sc (.int .i64 b7), .sc (.bool b8), .sc (.int .i64 b9), .sc (.int .i64 b10)]) = some ((a1 == b1) && ((a2 == b2) && ((((a3 == b3) && ((a4 == b4) && true)) && ((a5 == b5) && true)) && ((((a6 == b6) && ((a7 == b7) && true)) && ((a8 == b8) && true)) && ((a9 == b9) && ((a10 == b10) && true)))))) := by kernel_rfl
theorem Try.ck31 (x0 x1 x2 x3 x4 x5 x6 x7 x8 x9 : AV) : chkA Try.prog 6 31 (.agg [x0, x1, x2, x3, x4, x5, x6, x7, x8, x9]) = true := by kernel_rfl
theorem Try.eq54 (a1 b1 : Int) (a2 b2 : Int) (a3 b3 : Int) (a4 b4 : Int) (a5 b5 : Int) : eqG Try.prog 6 54 (.agg [.sc (.int .i64 a1), .sc (.int .i64 a2), .sc (.int .i64 a3), .sc (.int .i64 a4), .sc (.int .i64 a5)]) (.agg [.sc (.int .i64 b1), .sc (.int .i64 b2), .sc (.int .i64 b3), .sc (.int .i64 b4), .sc (.int .i64 b5)]) = some ((a1 == b1) && ((a2 == b2) && ((a3 == b3) && ((a4 == b4) && ((a5 == b5) && true))))) := by kernel_rfl
theorem Try.ck54 (x0 x1 x2 x3 x4 : AV) : chkA Try.prog 6 54 (.agg [x0, x1, x2, x3, x4]) = true := by kernel_rfl
theorem Try.eq55 (a1 b1 : Int) (a2 b2 : Int) (a3 b3 : Int) (a4 b4 : Int) (a5 b5 : Int) : eqG Try.prog 6 55 (.agg [.sc (.int .i64 a1), .sc (.int .i64 a2), .sc (.int .i64 a3), .sc (.int .i64 a4), .sc (.int .i64 a5)]) (.agg [.sc (.int .i64 b1), .sc (.int .i64 b2), .sc (.int .i64 b3), .sc (.int .i64 b4), .sc (.int .i64 b5)]) = some ((a1 == b1) && ((a2 == b2) && ((a3 == b3) && ((a4 == b4) && ((a5 == b5) && true))))) := by kernel_rfl
theorem Try.ck55 (x0 x1 x2 x3 x4 : AV) : chkA Try.prog 6 55 (.agg [x0, x1, x2, x3, x4]) = true := by kernel_rfl
theorem Try.eq74 (a1 b1 : Int) (a2 b2 : Int) (a3 b3 : Int) (a4 b4 : Int) (a5 b5 : Bool) (a6 b6 : Int) : eqG Try.prog 6 74 (.agg [.sc (.int .i64 a1), .sc (.int .i64 a2), .sc (.int .i64 a3), .sc (.int .i64 a4), .sc (.bool a5), .sc (.int .i32 a6)]) (.agg [.sc (.int .i64 b1), .sc (.int .i64 b2), .sc (.int .i64 b3), .sc (.int .i64 b4), .sc (.bool b5), .sc (.int .i32 b6)]) = some (((a1 == b1) && ((a2 == b2) && true)) && (((a3 == b3) && ((a4 == b4) && true)) && ((a5 == b5) && ((a6 == b6) && true)))) := by kernel_rfl
theorem Try.ck74 (x0 x1 x2 x3 x4 x5 : AV) : chkA Try.prog 6 74 (.agg [x0, x1, x2, x3, x4, x5]) = true := by kernel_rfl
theorem Try.eq75 (a1 b1 : Int) (a2 b2 : Int) (a3 b3 : Int) (a4 b4 : Int) (a5 b5 : Bool) (a6 b6 : Int) : eqG Try.prog 6 75 (.agg [.sc (.int .i64 a1), .sc (.int .i64 a2), .sc (.int .i64 a3), .sc (.int .i64 a4), .sc (.bool a5), .sc (.int .i32 a6)]) (.agg [.sc (.int .i64 b1), .sc (.int .i64 b2), .sc (.int .i64 b3), .sc (.int .i64 b4), .sc (.bool b5), .sc (.int .i32 b6)]) = some (((a1 == b1) && ((a2 == b2) && true)) && (((a3 == b3) && ((a4 == b4) && true)) && ((a5 == b5) && ((a6 == b6) && true)))) := by kernel_rfl
theorem Try.ck75 (x0 x1 x2 x3 x4 x5 : AV) : chkA Try.prog 6 75 (.agg [x0, x1, x2, x3, x4, x5]) = true := by kernel_rfl
theorem Try.eq77 (a1 b1 : Int) (a2 b2 : Int) (a3 b3 : Int) (a4 b4 : Bool) : eqG Try.prog 6 77 (.agg [.sc (.int .i64 a1), .sc (.int .i64 a2), .sc (.int .i32 a3), .sc (.bool a4)]) (.agg [.sc (.int .i64 b1), .sc (.int .i64 b2), .sc (.int .i32 b3), .sc (.bool b4)]) = some (((a1 == b1) && ((a2 == b2) && true)) && ((a3 == b3) && ((a4 == b4) && true))) := by kernel_rfl
theorem Try.ck77 (x0 x1 x2 x3 : AV) : chkA Try.prog 6 77 (.agg [x0, x1, x2, x3]) = true := by kernel_rfl
theorem Try.eq78 (a1 b1 : Int) (a2 b2 : Int) (a3 b3 : Int) (a4 b4 : Bool) : eqG Try.prog 6 78 (.agg [.sc (.int .i64 a1), .sc (.int .i64 a2), .sc (.int .i32 a3), .sc (.bool a4)]) (.agg [.sc (.int .i64 b1), .sc (.int .i64 b2), .sc (.int .i32 b3), .sc (.bool b4)]) = some (((a1 == b1) && ((a2 == b2) && true)) && ((a3 == b3) && ((a4 == b4) && true))) := by kernel_rfl
theorem Try.ck78 (x0 x1 x2 x3 : AV) : chkA Try.prog 6 78 (.agg [x0, x1, x2, x3]) = true := by kernel_rfl
theorem Try.eq117 (a1 b1 : Int) (a2 b2 : Int) (a3 b3 : Int) (a4 b4 : Int) : eqG Try.prog 6 117 (.agg [.sc (.int .i64 a1), .sc (.int .i64 a2), .sc (.int .i64 a3), .sc (.int .i64 a4)]) (.agg [.sc (.int .i64 b1), .sc (.int .i64 b2), .sc (.int .i64 b3), .sc (.int .i64 b4)]) = some (((a1 == b1) && ((a2 == b2) && true)) && ((a3 == b3) && ((a4 == b4) && true))) := by kernel_rfl
theorem Try.ck117 (x0 x1 x2 x3 : AV) : chkA Try.prog 6 117 (.agg [x0, x1, x2, x3]) = true := by kernel_rfl
theorem Try.eq118 (a1 b1 : Int) (a2 b2 : Int) (a3 b3 : Int) (a4 b4 : Int) : eqG Try.prog 6 118 (.agg [.sc (.int .i64 a1), .sc (.int .i64 a2), .sc (.int .i64 a3), .sc (.int .i64 a4)]) (.agg [.sc (.int .i64 b1), .sc (.int .i64 b2), .sc (.int .i64 b3), .sc (.int .i64 b4)]) = some (((a1 == b1) && ((a2 == b2) && true)) && ((a3 == b3) && ((a4 == b4) && true))) := by kernel_rfl
theorem Try.ck118 (x0 x1 x2 x3 : AV) : chkA Try.prog 6 118 (.agg [x0, x1, x2, x3]) = true := by kernel_rfl
theorem Try.zv1 : zeroV Try.prog 1 = .sc .nilFunc := by kernel_rfl
theorem Try.zv2 : zeroV Try.prog 2 = .sc (.int .i64 0) := by kernel_rfl
theorem Try.zv3 : zeroV Try.prog 3 = .sc (.int .i64 0) := by kernel_rfl
theorem Try.zv4 : zeroV Try.prog 4 = .sc (.bool false) := by kernel_rfl
theorem Try.zv5 : zeroV Try.prog 5 = .sc (.int .u8 0) := by kernel_rfl
theorem Try.zv6 : zeroV Try.prog 6 = .sc (.int .u8 0) := by kernel_rfl
theorem Try.zv7 : zeroV Try.prog 7 = .agg [.sc (.int .i64 0), .sc (.int .i64 0), .sc (.bool false), .sc (.int .u8 0)] := by kernel_rfl
theorem Try.zv8 : zeroV Try.prog 8 = .agg [.sc (.int .i64 0), .sc (.int .i64 0), .sc (.bool false), .sc (.int .u8 0)] := by kernel_rfl
theorem Try.zv9 : zeroV Try.prog 9 = .sc (.string ⟨#[]⟩) := by kernel_rfl
theorem Try.zv10 : zeroV Try.prog 10 = .sc (.string ⟨#[]⟩) := by kernel_rfl
theorem Try.zv11 : zeroV Try.prog 11 = .sc (.string ⟨#[]⟩) := by kernel_rfl
theorem Try.zv12 : zeroV Try.prog 12 = .sc (.int .u64 0) := by kernel_rfl
theorem Try.zv13 : zeroV Try.prog 13 = .agg [.sc (.string ⟨#[]⟩), .sc (.int .u64 0)] := by kernel_rfl
theorem Try.zv14 : zeroV Try.prog 14 = .agg [.sc (.string ⟨#[]⟩), .sc (.int .u64 0)] := by kernel_rfl
theorem Try.zv15 : zeroV Try.prog 15 = .sc (.pointer none) := by kernel_rfl
theorem Try.zv16 : zeroV Try.prog 16 = .sc (.pointer none) := by kernel_rfl
theorem Try.zv17 : zeroV Try.prog 17 = .sc (.pointer none) := by kernel_rfl
theorem Try.zv18 : zeroV Try.prog 18 = .agg [.sc (.pointer none)] := by kernel_rfl
theorem Try.zv19 : zeroV Try.prog 19 = .agg [.sc (.pointer none)] := by kernel_rfl
theorem Try.zv20 : zeroV Try.prog 20 = .sc .nilIface := by kernel_rfl
theorem Try.zv21 : zeroV Try.prog 21 = .sc (.int .i32 0) := by kernel_rfl
theorem Try.zv22 : zeroV Try.prog 22 = .sc (.slice none 0 0) := by kernel_rfl
theorem Try.zv23 : zeroV Try.prog 23 = .sc .nilFunc := by kernel_rfl
theorem Try.zv24 : zeroV Try.prog 24 = .sc (.pointer none) := by kernel_rfl
theorem Try.zv25 : zeroV Try.prog 25 = .sc .nilFunc := by kernel_rfl
theorem Try.zv26 : zeroV Try.prog 26 = .agg [.sc (.int .i64 0), .sc (.int .i64 0)] := by kernel_rfl
theorem Try.zv27 : zeroV Try.prog 27 = .agg [.sc (.int .i64 0), .sc (.int .i64 0)] := by kernel_rfl
theorem Try.zv28 : zeroV Try.prog 28 = .agg [.sc (.int .i64 0), .sc (.int .i64 0), .sc (.bool false)] := by kernel_rfl
theorem Try.zv29 : zeroV Try.prog 29 = .agg [.sc (.int .i64 0), .sc (.int .i64 0), .sc (.bool false)] := by kernel_rfl
theorem Try.zv30 : zeroV Try.prog 30 = .agg [.sc (.int .i64 0), .sc (.int .i64 0), .sc (.int .i64 0), .sc (.int .i64 0), .sc (.bool false), .sc (.int .i64 0), .sc (.int .i64 0), .sc (.bool false), .sc (.int .i64 0), .sc (.int .i64 0)] := by kernel_rfl
theorem Try.zv31 : zeroV Try.prog 31 = .agg [.sc (.int .i64 0), .sc (.int .i64 0), .sc (.int .i64 0), .sc (.int .i64 0), .sc (.bool false), .sc (.int .i64 0), .sc (.int .i64 0), .sc (.bool false), .sc (.int .i64 0), .sc (.int .i64 0)] := by kernel_rfl
theorem Try.zv32 : zeroV Try.prog 32 = .sc (.int .i64 0) := by kernel_rfl
theorem Try.zv34 : zeroV Try.prog 34 = .sc .nilFunc := by kernel_rfl
theorem Try.zv35 : zeroV Try.prog 35 = .sc .nilFunc := by kernel_rfl
theorem Try.zv36 : zeroV Try.prog 36 = .sc .nilFunc := by kernel_rfl
theorem Try.zv37 : zeroV Try.prog 37 = .sc .nilFunc := by kernel_rfl
theorem Try.zv38 : zeroV Try.prog 38 = .sc .nilFunc := by kernel_rfl
theorem Try.zv39 : zeroV Try.prog 39 = .sc .nilFunc := by kernel_rfl
theorem Try.zv40 : zeroV Try.prog 40 = .sc .nilFunc := by kernel_rfl
theorem Try.zv41 : zeroV Try.prog 41 = .sc .nilFunc := by kernel_rfl
theorem Try.zv42 : zeroV Try.prog 42 = .sc (.slice none 0 0) := by kernel_rfl
theorem Try.zv43 : zeroV Try.prog 43 = .sc (.slice none 0 0) := by kernel_rfl
theorem Try.zv44 : zeroV Try.prog 44 = .agg [.sc (.slice none 0 0), .sc (.slice none 0 0), .sc (.slice none 0 0)] := by kernel_rfl
theorem Try.zv45 : zeroV Try.prog 45 = .agg [.sc (.slice none 0 0), .sc (.slice none 0 0), .sc (.slice none 0 0)] := by kernel_rfl
theorem Try.zv46 : zeroV Try.prog 46 = .sc (.pointer none) := by kernel_rfl
theorem Try.zv47 : zeroV Try.prog 47 = .sc (.slice none 0 0) := by kernel_rfl
theorem Try.zv49 : zeroV Try.prog 49 = .sc .nilFunc := by kernel_rfl
theorem Try.zv51 : zeroV Try.prog 51 = .sc .nilFunc := by kernel_rfl
theorem Try.zv52 : zeroV Try.prog 52 = .sc (.slice none 0 0) := by kernel_rfl
theorem Try.zv53 : zeroV Try.prog 53 = .sc .nilFunc := by kernel_rfl
theorem Try.zv54 : zeroV Try.prog 54 = .agg [.sc (.int .i64 0), .sc (.int .i64 0), .sc (.int .i64 0), .sc (.int .i64 0), .sc (.int .i64 0)] := by kernel_rfl
theorem Try.zv55 : zeroV Try.prog 55 = .agg [.sc (.int .i64 0), .sc (.int .i64 0), .sc (.int .i64 0), .sc (.int .i64 0), .sc (.int .i64 0)] := by kernel_rfl
theorem Try.zv56 : zeroV Try.prog 56 = .sc .nilFunc := by kernel_rfl
theorem Try.zv57 : zeroV Try.prog 57 = .sc .nilFunc := by kernel_rfl
theorem Try.zv58 : zeroV Try.prog 58 = .sc .nilFunc := by kernel_rfl
theorem Try.zv59 : zeroV Try.prog 59 = .sc (.slice none 0 0) := by kernel_rfl
theorem Try.zv60 : zeroV Try.prog 60 = .sc .nilFunc := by kernel_rfl
theorem Try.zv61 : zeroV Try.prog 61 = .sc .nilFunc := by kernel_rfl
theorem Try.zv62 : zeroV Try.prog 62 = .sc (.slice none 0 0) := by kernel_rfl
theorem Try.zv63 : zeroV Try.prog 63 = .sc (.int .u64 0) := by kernel_rfl
theorem Try.zv64 : zeroV Try.prog 64 = .sc .nilFunc := by kernel_rfl
theorem Try.zv65 : zeroV Try.prog 65 = .agg [.sc (.string ⟨#[]⟩), .sc (.int .i64 0), .sc (.int .i64 0), .sc (.int .i64 0), .sc (.int .i64 0), .sc (.int .i64 0)] := by kernel_rfl
theorem Try.zv66 : zeroV Try.prog 66 = .agg [.sc (.string ⟨#[]⟩), .sc (.int .i64 0), .sc (.int .i64 0), .sc (.int .i64 0), .sc (.int .i64 0), .sc (.int .i64 0)] := by kernel_rfl
theorem Try.zv67 : zeroV Try.prog 67 = .sc .nilFunc := by kernel_rfl
theorem Try.zv68 : zeroV Try.prog 68 = .sc .nilFunc := by kernel_rfl
theorem Try.zv70 : zeroV Try.prog 70 = .sc .nilFunc := by kernel_rfl
theorem Try.zv72 : zeroV Try.prog 72 = .sc .nilFunc := by kernel_rfl
theorem Try.zv73 : zeroV Try.prog 73 = .sc .nilFunc := by kernel_rfl
theorem Try.zv74 : zeroV Try.prog 74 = .agg [.sc (.int .i64 0), .sc (.int .i64 0), .sc (.int .i64 0), .sc (.int .i64 0), .sc (.bool false), .sc (.int .i32 0)] := by kernel_rfl
theorem Try.zv75 : zeroV Try.prog 75 = .agg [.sc (.int .i64 0), .sc (.int .i64 0), .sc (.int .i64 0), .sc (.int .i64 0), .sc (.bool false), .sc (.int .i32 0)] := by kernel_rfl
theorem Try.zv76 : zeroV Try.prog 76 = .sc .nilFunc := by kernel_rfl
theorem Try.zv77 : zeroV Try.prog 77 = .agg [.sc (.int .i64 0), .sc (.int .i64 0), .sc (.int .i32 0), .sc (.bool false)] := by kernel_rfl
theorem Try.zv78 : zeroV Try.prog 78 = .agg [.sc (.int .i64 0), .sc (.int .i64 0), .sc (.int .i32 0), .sc (.bool false)] := by kernel_rfl
theorem Try.zv79 : zeroV Try.prog 79 = .sc .nilFunc := by kernel_rfl
theorem Try.zv80 : zeroV Try.prog 80 = .sc .nilFunc := by kernel_rfl
theorem Try.zv81 : zeroV Try.prog 81 = .agg [.sc (.slice none 0 0)] := by kernel_rfl
theorem Try.zv82 : zeroV Try.prog 82 = .agg [.sc (.slice none 0 0)] := by kernel_rfl
theorem Try.zv83 : zeroV Try.prog 83 = .sc .nilFunc := by kernel_rfl
theorem Try.zv84 : zeroV Try.prog 84 = .sc .nilFunc := by kernel_rfl
theorem Try.zv86 : zeroV Try.prog 86 = .sc .nilFunc := by kernel_rfl
theorem Try.zv87 : zeroV Try.prog 87 = .sc .nilFunc := by kernel_rfl
theorem Try.zv88 : zeroV Try.prog 88 = .sc .nilFunc := by kernel_rfl
theorem Try.zv89 : zeroV Try.prog 89 = .agg [.sc (.slice none 0 0), .sc (.slice none 0 0)] := by kernel_rfl
theorem Try.zv90 : zeroV Try.prog 90 = .agg [.sc (.slice none 0 0), .sc (.slice none 0 0)] := by kernel_rfl
theorem Try.zv92 : zeroV Try.prog 92 = .sc .nilFunc := by kernel_rfl
theorem Try.zv93 : zeroV Try.prog 93 = .sc .nilFunc := by kernel_rfl
theorem Try.zv94 : zeroV Try.prog 94 = .sc .nilFunc := by kernel_rfl
theorem Try.zv95 : zeroV Try.prog 95 = .sc (.map none) := by kernel_rfl
theorem Try.zv96 : zeroV Try.prog 96 = .sc .nilFunc := by kernel_rfl
theorem Try.zv97 : zeroV Try.prog 97 = .sc .nilFunc := by kernel_rfl
theorem Try.zv98 : zeroV Try.prog 98 = .sc .nilFunc := by kernel_rfl
theorem Try.zv99 : zeroV Try.prog 99 = .sc .nilFunc := by kernel_rfl
theorem Try.zv100 : zeroV Try.prog 100 = .sc .nilFunc := by kernel_rfl
theorem Try.zv101 : zeroV Try.prog 101 = .sc (.slice none 0 0) := by kernel_rfl
theorem Try.zv102 : zeroV Try.prog 102 = .sc (.map none) := by kernel_rfl
theorem Try.zv103 : zeroV Try.prog 103 = .agg [.sc (.map none), .sc (.int .i64 0)] := by kernel_rfl
theorem Try.zv104 : zeroV Try.prog 104 = .agg [.sc (.map none), .sc (.int .i64 0)] := by kernel_rfl
theorem Try.zv105 : zeroV Try.prog 105 = .agg [.sc (.slice none 0 0), .sc (.slice none 0 0)] := by kernel_rfl
theorem Try.zv106 : zeroV Try.prog 106 = .agg [.sc (.int .i64 0), .sc (.int .i64 0), .sc (.int .i32 0), .sc (.bool false), .sc (.slice none 0 0), .sc (.slice none 0 0)] := by kernel_rfl
theorem Try.zv107 : zeroV Try.prog 107 = .agg [.sc (.int .i64 0), .sc (.int .i64 0), .sc (.int .i32 0), .sc (.bool false), .sc (.slice none 0 0), .sc (.slice none 0 0)] := by kernel_rfl
theorem Try.zv108 : zeroV Try.prog 108 = .sc .nilFunc := by kernel_rfl
theorem Try.zv110 : zeroV Try.prog 110 = .sc .nilFunc := by kernel_rfl
theorem Try.zv111 : zeroV Try.prog 111 = .sc .nilFunc := by kernel_rfl
theorem Try.zv112 : zeroV Try.prog 112 = .sc .nilFunc := by kernel_rfl
theorem Try.zv113 : zeroV Try.prog 113 = .sc .nilFunc := by kernel_rfl
theorem Try.zv114 : zeroV Try.prog 114 = .sc .nilFunc := by kernel_rfl
theorem Try.zv115 : zeroV Try.prog 115 = .sc .nilFunc := by kernel_rfl
theorem Try.zv116 : zeroV Try.prog 116 = .sc .nilFunc := by kernel_rfl
theorem Try.zv117 : zeroV Try.prog 117 = .agg [.sc (.int .i64 0), .sc (.int .i64 0), .sc (.int .i64 0), .sc (.int .i64 0)] := by kernel_rfl
theorem Try.zv118 : zeroV Try.prog 118 = .agg [.sc (.int .i64 0), .sc (.int .i64 0), .sc (.int .i64 0), .sc (.int .i64 0)] := by kernel_rfl
theorem Try.zv119 : zeroV Try.prog 119 = .sc (.slice none 0 0) := by kernel_rfl
theorem Try.zv120 : zeroV Try.prog 120 = .sc .nilFunc := by kernel_rfl
theorem Try.zv121 : zeroV Try.prog 121 = .sc .nilFunc := by kernel_rfl
theorem Try.zv122 : zeroV Try.prog 122 = .sc .nilFunc := by kernel_rfl
theorem Try.zv123 : zeroV Try.prog 123 = .sc .nilFunc := by kernel_rfl
theorem Try.zv124 : zeroV Try.prog 124 = .sc .nilFunc := by kernel_rfl
theorem Try.zv125 : zeroV Try.prog 125 = .sc .nilFunc := by kernel_rfl
theorem Try.zv126 : zeroV Try.prog 126 = .agg [.sc (.pointer none), .sc (.pointer none), .sc (.pointer none), .sc (.string ⟨#[]⟩)] := by kernel_rfl
theorem Try.zv127 : zeroV Try.prog 127 = .agg [.sc (.pointer none), .sc (.pointer none), .sc (.pointer none), .sc (.string ⟨#[]⟩)] := by kernel_rfl
theorem Try.zv131 : zeroV Try.prog 131 = .sc (.int .u32 0) := by kernel_rfl
theorem Try.zv132 : zeroV Try.prog 132 = .sc (.int .u8 0) := by kernel_rfl
theorem Try.zv133 : zeroV Try.prog 133 = .sc (.int .u8 0) := by kernel_rfl
theorem Try.zv134 : zeroV Try.prog 134 = .sc .nilFunc := by kernel_rfl
theorem Try.zv135 : zeroV Try.prog 135 = .sc (.pointer none) := by kernel_rfl
theorem Try.zv136 : zeroV Try.prog 136 = .sc (.int .i32 0) := by kernel_rfl
theorem Try.zv137 : zeroV Try.prog 137 = .sc (.int .i32 0) := by kernel_rfl
theorem Try.zv138 : zeroV Try.prog 138 = .agg [.sc (.int .u64 0), .sc (.int .u64 0), .sc (.int .u32 0), .sc (.int .u8 0), .sc (.int .u8 0), .sc (.int .u8 0), .sc (.int .u8 0), .sc .nilFunc, .sc (.pointer none), .sc (.int .i32 0), .sc (.int .i32 0)] := by kernel_rfl
theorem Try.zv139 : zeroV Try.prog 139 = .agg [.sc (.int .u64 0), .sc (.int .u64 0), .sc (.int .u32 0), .sc (.int .u8 0), .sc (.int .u8 0), .sc (.int .u8 0), .sc (.int .u8 0), .sc .nilFunc, .sc (.pointer none), .sc (.int .i32 0), .sc (.int .i32 0)] := by kernel_rfl
theorem Try.zv140 : zeroV Try.prog 140 = .sc (.pointer none) := by kernel_rfl
theorem Try.eo1 : eqOk Try.prog 1 = true := by kernel_rfl
theorem Try.eo4 : eqOk Try.prog 4 = true := by kernel_rfl
theorem Try.eo7 : eqOk Try.prog 7 = true := by kernel_rfl
theorem Try.eo8 : eqOk Try.prog 8 = true := by kernel_rfl
theorem Try.eo13 : eqOk Try.prog 13 = true := by kernel_rfl
theorem Try.eo14 : eqOk Try.prog 14 = true := by kernel_rfl
theorem Try.eo15 : eqOk Try.prog 15 = true := by kernel_rfl
theorem Try.eo16 : eqOk Try.prog 16 = true := by kernel_rfl
theorem Try.eo17 : eqOk Try.prog 17 = true := by kernel_rfl
theorem Try.eo23 : eqOk Try.prog 23 = true := by kernel_rfl
theorem Try.eo24 : eqOk Try.prog 24 = true := by kernel_rfl
theorem Try.eo25 : eqOk Try.prog 25 = true := by kernel_rfl
theorem Try.eo26 : eqOk Try.prog 26 = true := by kernel_rfl
theorem Try.eo27 : eqOk Try.prog 27 = true := by kernel_rfl
theorem Try.eo28 : eqOk Try.prog 28 = true := by kernel_rfl
theorem Try.eo29 : eqOk Try.prog 29 = true := by kernel_rfl
theorem Try.eo30 : eqOk Try.prog 30 = true := by kernel_rfl
theorem Try.eo31 : eqOk Try.prog 31 = true := by kernel_rfl
theorem Try.eo34 : eqOk Try.prog 34 = true := by kernel_rfl
theorem Try.eo35 : eqOk Try.prog 35 = true := by kernel_rfl
theorem Try.eo36 : eqOk Try.prog 36 = true := by kernel_rfl
theorem Try.eo37 : eqOk Try.prog 37 = true := by kernel_rfl
theorem Try.eo38 : eqOk Try.prog 38 = true := by kernel_rfl
theorem Try.eo39 : eqOk Try.prog 39 = true := by kernel_rfl
theorem Try.eo40 : eqOk Try.prog 40 = true := by kernel_rfl
theorem Try.eo41 : eqOk Try.prog 41 = true := by kernel_rfl
theorem Try.eo46 : eqOk Try.prog 46 = true := by kernel_rfl
theorem Try.eo49 : eqOk Try.prog 49 = true := by kernel_rfl
theorem Try.eo51 : eqOk Try.prog 51 = true := by kernel_rfl
theorem Try.eo53 : eqOk Try.prog 53 = true := by kernel_rfl
theorem Try.eo54 : eqOk Try.prog 54 = true := by kernel_rfl
theorem Try.eo55 : eqOk Try.prog 55 = true := by kernel_rfl
theorem Try.eo56 : eqOk Try.prog 56 = true := by kernel_rfl
theorem Try.eo57 : eqOk Try.prog 57 = true := by kernel_rfl
theorem Try.eo58 : eqOk Try.prog 58 = true := by kernel_rfl
theorem Try.eo60 : eqOk Try.prog 60 = true := by kernel_rfl
theorem Try.eo61 : eqOk Try.prog 61 = true := by kernel_rfl
theorem Try.eo64 : eqOk Try.prog 64 = true := by kernel_rfl
theorem Try.eo65 : eqOk Try.prog 65 = true := by kernel_rfl
theorem Try.eo66 : eqOk Try.prog 66 = true := by kernel_rfl
theorem Try.eo67 : eqOk Try.prog 67 = true := by kernel_rfl
theorem Try.eo68 : eqOk Try.prog 68 = true := by kernel_rfl
theorem Try.eo70 : eqOk Try.prog 70 = true := by kernel_rfl
theorem Try.eo72 : eqOk Try.prog 72 = true := by kernel_rfl
theorem Try.eo73 : eqOk Try.prog 73 = true := by kernel_rfl
theorem Try.eo74 : eqOk Try.prog 74 = true := by kernel_rfl
theorem Try.eo75 : eqOk Try.prog 75 = true := by kernel_rfl
theorem Try.eo76 : eqOk Try.prog 76 = true := by kernel_rfl
theorem Try.eo77 : eqOk Try.prog 77 = true := by kernel_rfl
theorem Try.eo78 : eqOk Try.prog 78 = true := by kernel_rfl
theorem Try.eo79 : eqOk Try.prog 79 = true := by kernel_rfl
theorem Try.eo80 : eqOk Try.prog 80 = true := by kernel_rfl
theorem Try.eo83 : eqOk Try.prog 83 = true := by kernel_rfl
theorem Try.eo84 : eqOk Try.prog 84 = true := by kernel_rfl
theorem Try.eo86 : eqOk Try.prog 86 = true := by kernel_rfl
theorem Try.eo87 : eqOk Try.prog 87 = true := by kernel_rfl
theorem Try.eo88 : eqOk Try.prog 88 = true := by kernel_rfl
theorem Try.eo92 : eqOk Try.prog 92 = true := by kernel_rfl
theorem Try.eo93 : eqOk Try.prog 93 = true := by kernel_rfl
theorem Try.eo94 : eqOk Try.prog 94 = true := by kernel_rfl
theorem Try.eo95 : eqOk Try.prog 95 = true := by kernel_rfl
theorem Try.eo96 : eqOk Try.prog 96 = true := by kernel_rfl
theorem Try.eo97 : eqOk Try.prog 97 = true := by kernel_rfl
theorem Try.eo98 : eqOk Try.prog 98 = true := by kernel_rfl
theorem Try.eo99 : eqOk Try.prog 99 = true := by kernel_rfl
theorem Try.eo100 : eqOk Try.prog 100 = true := by kernel_rfl
theorem Try.eo102 : eqOk Try.prog 102 = true := by kernel_rfl
theorem Try.eo108 : eqOk Try.prog 108 = true := by kernel_rfl
theorem Try.eo110 : eqOk Try.prog 110 = true := by kernel_rfl
theorem Try.eo111 : eqOk Try.prog 111 = true := by kernel_rfl
theorem Try.eo112 : eqOk Try.prog 112 = true := by kernel_rfl
theorem Try.eo113 : eqOk Try.prog 113 = true := by kernel_rfl
theorem Try.eo114 : eqOk Try.prog 114 = true := by kernel_rfl
theorem Try.eo115 : eqOk Try.prog 115 = true := by kernel_rfl
theorem Try.eo116 : eqOk Try.prog 116 = true := by kernel_rfl
theorem Try.eo117 : eqOk Try.prog 117 = true := by kernel_rfl
theorem Try.eo118 : eqOk Try.prog 118 = true := by kernel_rfl
theorem Try.eo120 : eqOk Try.prog 120 = true := by kernel_rfl
theorem Try.eo121 : eqOk Try.prog 121 = true := by kernel_rfl
theorem Try.eo122 : eqOk Try.prog 122 = true := by kernel_rfl
theorem Try.eo123 : eqOk Try.prog 123 = true := by kernel_rfl
theorem Try.eo124 : eqOk Try.prog 124 = true := by kernel_rfl
theorem Try.eo125 : eqOk Try.prog 125 = true := by kernel_rfl
theorem Try.eo134 : eqOk Try.prog 134 = true := by kernel_rfl
theorem Try.eo135 : eqOk Try.prog 135 = true := by kernel_rfl
theorem Try.strTy : strTy Try.prog = some 9 := by kernel_rfl
theorem Try.z8_5 : zeOf Try.prog 5 = .int .u8 0 := by kernel_rfl
theorem Try.z8_6 : zeOf Try.prog 6 = .int .u8 0 := by kernel_rfl
theorem Try.z8_132 : zeOf Try.prog 132 = .int .u8 0 := by kernel_rfl
theorem Try.z8_133 : zeOf Try.prog 133 = .int .u8 0 := by kernel_rfl
theorem Try.ca3 : callable Try.prog 3 = true := by kernel_rfl
theorem Try.ca4 : callable Try.prog 4 = true := by kernel_rfl
theorem Try.ca5 : callable Try.prog 5 = true := by kernel_rfl
theorem Try.ca6 : callable Try.prog 6 = true := by kernel_rfl
theorem Try.ca7 : callable Try.prog 7 = true := by kernel_rfl
theorem Try.ca8 : callable Try.prog 8 = true := by kernel_rfl
theorem Try.ca9 : callable Try.prog 9 = true := by kernel_rfl
theorem Try.ca10 : callable Try.prog 10 = true := by kernel_rfl
theorem Try.ca11 : callable Try.prog 11 = true := by kernel_rfl
theorem Try.ca12 : callable Try.prog 12 = true := by kernel_rfl
theorem Try.ca13 : callable Try.prog 13 = true := by kernel_rfl
theorem Try.ca14 : callable Try.prog 14 = true := by kernel_rfl
theorem Try.ca15 : callable Try.prog 15 = true := by kernel_rfl
theorem Try.ca16 : callable Try.prog 16 = true := by kernel_rfl
theorem Try.ca17 : callable Try.prog 17 = true := by kernel_rfl
theorem Try.ca18 : callable Try.prog 18 = true := by kernel_rfl
theorem Try.ca19 : callable Try.prog 19 = true := by kernel_rfl
theorem Try.ca20 : callable Try.prog 20 = true := by kernel_rfl
theorem Try.ca21 : callable Try.prog 21 = true := by kernel_rfl
theorem Try.ca22 : callable Try.prog 22 = true := by kernel_rfl
theorem Try.ca23 : callable Try.prog 23 = true := by kernel_rfl
theorem Try.ca24 : callable Try.prog 24 = true := by kernel_rfl
theorem Try.ca25 : callable Try.prog 25 = true := by kernel_rfl
theorem Try.ca26 : callable Try.prog 26 = true := by kernel_rfl
theorem Try.ca27 : callable Try.prog 27 = true := by kernel_rfl
theorem Try.ca28 : callable Try.prog 28 = true := by kernel_rfl
theorem Try.ca29 : callable Try.prog 29 = true := by kernel_rfl
theorem Try.ca30 : callable Try.prog 30 = true := by kernel_rfl
theorem Try.ca31 : callable Try.prog 31 = true := by kernel_rfl
theorem Try.ca32 : callable Try.prog 32 = true := by kernel_rfl
theorem Try.ca33 : callable Try.prog 33 = true := by kernel_rfl
theorem Try.ca34 : callable Try.prog 34 = true := by kernel_rfl
theorem Try.ca35 : callable Try.prog 35 = true := by kernel_rfl
theorem Try.ca36 : callable Try.prog 36 = true := by kernel_rfl
theorem Try.ca37 : callable Try.prog 37 = true := by kernel_rfl
theorem Try.ca38 : callable Try.prog 38 = true := by kernel_rfl
theorem Try.ca39 : callable Try.prog 39 = true := by kernel_rfl
theorem Try.ca40 : callable Try.prog 40 = true := by kernel_rfl
theorem Try.ca41 : callable Try.prog 41 = true := by kernel_rfl
theorem Try.ca42 : callable Try.prog 42 = true := by kernel_rfl
theorem Try.ca43 : callable Try.prog 43 = true := by kernel_rfl
theorem Try.ca44 : callable Try.prog 44 = true := by kernel_rfl
theorem Try.ca45 : callable Try.prog 45 = true := by kernel_rfl
theorem Try.ca46 : callable Try.prog 46 = true := by kernel_rfl
theorem Try.ca47 : callable Try.prog 47 = true := by kernel_rfl
theorem Try.ca48 : callable Try.prog 48 = true := by kernel_rfl
theorem Try.ca49 : callable Try.prog 49 = true := by kernel_rfl
theorem Try.ca50 : callable Try.prog 50 = true := by kernel_rfl
theorem Try.ca51 : callable Try.prog 51 = true := by kernel_rfl
theorem Try.ca52 : callable Try.prog 52 = true := by kernel_rfl
theorem Try.ca53 : callable Try.prog 53 = true := by kernel_rfl
theorem Try.ca54 : callable Try.prog 54 = true := by kernel_rfl
theorem Try.ca55 : callable Try.prog 55 = true := by kernel_rfl
theorem Try.ca57 : callable Try.prog 57 = true := by kernel_rfl
theorem Try.ca58 : callable Try.prog 58 = true := by kernel_rfl
theorem Try.ca59 : callable Try.prog 59 = true := by kernel_rfl
theorem Try.ca60 : callable Try.prog 60 = true := by kernel_rfl
theorem Try.ca61 : callable Try.prog 61 = true := by kernel_rfl
theorem Try.ca62 : callable Try.prog 62 = true := by kernel_rfl
theorem Try.ca63 : callable Try.prog 63 = true := by kernel_rfl
theorem Try.ca64 : callable Try.prog 64 = true := by kernel_rfl
theorem Try.ca65 : callable Try.prog 65 = true := by kernel_rfl
theorem Try.ca66 : callable Try.prog 66 = true := by kernel_rfl
theorem Try.ca67 : callable Try.prog 67 = true := by kernel_rfl
theorem Try.ca68 : callable Try.prog 68 = true := by kernel_rfl
theorem Try.ca69 : callable Try.prog 69 = true := by kernel_rfl
theorem Try.ca70 : callable Try.prog 70 = true := by kernel_rfl
set_option maxRecDepth 100000 in
def Try.facts := And.intro Try.underlying1 <|
  And.intro Try.eo1 <|
  And.intro Try.underlying2 <|
  And.intro Try.sz2 <|
  And.intro Try.by2 <|
  And.intro Try.ha2 <|
  And.intro Try.ze2 <|
  And.intro Try.zn2 <|
  And.intro Try.zv2 <|
  And.intro Try.underlying3 <|
  And.intro Try.sz3 <|
  And.intro Try.by3 <|
  And.intro Try.ha3 <|
  And.intro Try.ze3 <|
  And.intro Try.zn3 <|
  And.intro Try.zv3 <|
  And.intro Try.underlying4 <|
  And.intro Try.sz4 <|
  And.intro Try.by4 <|
  And.intro Try.ha4 <|
  And.intro Try.eo4 <|
  And.intro Try.ze4 <|
  And.intro Try.zn4 <|
  And.intro Try.zv4 <|
  And.intro Try.underlying5 <|
  And.intro Try.z8_5 <|
  And.intro Try.sz5 <|
  And.intro Try.by5 <|
  And.intro Try.ha5 <|
  And.intro Try.ze5 <|
  And.intro Try.zn5 <|
  And.intro Try.zv5 <|
  And.intro Try.underlying9 <|
  And.intro Try.sz9 <|
  And.intro Try.by9 <|
  And.intro Try.ha9 <|
  And.intro Try.ze9 <|
  And.intro Try.zn9 <|
  And.intro Try.zv9 <|
  And.intro Try.underlying12 <|
  And.intro Try.sz12 <|
  And.intro Try.by12 <|
  And.intro Try.ha12 <|
  And.intro Try.ze12 <|
  And.intro Try.zn12 <|
  And.intro Try.zv12 <|
  And.intro Try.underlying21 <|
  And.intro Try.sz21 <|
  And.intro Try.by21 <|
  And.intro Try.ha21 <|
  And.intro Try.ze21 <|
  And.intro Try.zn21 <|
  And.intro Try.zv21 <|
  And.intro Try.underlying22 <|
  And.intro Try.sz22 <|
  And.intro Try.by22 <|
  And.intro Try.ha22 <|
  And.intro Try.ze22 <|
  And.intro Try.zn22 <|
  And.intro Try.zv22 <|
  And.intro Try.underlying23 <|
  And.intro Try.eo23 <|
  And.intro Try.underlying24 <|
  And.intro Try.sz24 <|
  And.intro Try.by24 <|
  And.intro Try.ha24 <|
  And.intro Try.eo24 <|
  And.intro Try.ze24 <|
  And.intro Try.zn24 <|
  And.intro Try.zv24 <|
  And.intro Try.underlying25 <|
  And.intro Try.eo25 <|
  And.intro Try.underlying26 <|
  And.intro Try.sz26 <|
  And.intro Try.by26 <|
  And.intro Try.ha26 <|
  And.intro Try.eo26 <|
  And.intro Try.ze26 <|
  And.intro Try.zn26 <|
  And.intro Try.zv26 <|
  And.intro Try.eq26 <|
  And.intro Try.ck26 <|
  And.intro Try.underlying27 <|
  And.intro Try.sz27 <|
  And.intro Try.by27 <|
  And.intro Try.ha27 <|
  And.intro Try.eo27 <|
  And.intro Try.ze27 <|
  And.intro Try.zn27 <|
  And.intro Try.zv27 <|
  And.intro Try.eq27 <|
  And.intro Try.ck27 <|
  And.intro Try.underlying28 <|
  And.intro Try.sz28 <|
  And.intro Try.by28 <|
  And.intro Try.ha28 <|
  And.intro Try.eo28 <|
  And.intro Try.ze28 <|
  And.intro Try.zn28 <|
  And.intro Try.zv28 <|
  And.intro Try.eq28 <|
  And.intro Try.ck28 <|
  And.intro Try.underlying29 <|
  And.intro Try.sz29 <|
  And.intro Try.by29 <|
  And.intro Try.ha29 <|
  And.intro Try.eo29 <|
  And.intro Try.ze29 <|
  And.intro Try.zn29 <|
  And.intro Try.zv29 <|
  And.intro Try.eq29 <|
  And.intro Try.ck29 <|
  And.intro Try.underlying30 <|
  And.intro Try.sz30 <|
  And.intro Try.by30 <|
  And.intro Try.ha30 <|
  And.intro Try.eo30 <|
  And.intro Try.ze30 <|
  And.intro Try.zn30 <|
  And.intro Try.zv30 <|
  And.intro Try.eq30 <|
  And.intro Try.ck30 <|
  And.intro Try.underlying31 <|
  And.intro Try.sz31 <|
  And.intro Try.by31 <|
  And.intro Try.ha31 <|
  And.intro Try.eo31 <|
  And.intro Try.ze31 <|
  And.intro Try.zn31 <|
  And.intro Try.zv31 <|
  And.intro Try.eq31 <|
  And.intro Try.ck31 <|
  And.intro Try.underlying32 <|
  And.intro Try.sz32 <|
  And.intro Try.by32 <|
  And.intro Try.ha32 <|
  And.intro Try.ze32 <|
  And.intro Try.zn32 <|
  And.intro Try.zv32 <|
  And.intro Try.underlying34 <|
  And.intro Try.eo34 <|
  And.intro Try.underlying35 <|
  And.intro Try.eo35 <|
  And.intro Try.underlying36 <|
  And.intro Try.eo36 <|
  And.intro Try.underlying37 <|
  And.intro Try.eo37 <|
  And.intro Try.underlying38 <|
  And.intro Try.eo38 <|
  And.intro Try.underlying39 <|
  And.intro Try.eo39 <|
  And.intro Try.underlying40 <|
  And.intro Try.eo40 <|
  And.intro Try.underlying41 <|
  And.intro Try.eo41 <|
  And.intro Try.underlying42 <|
  And.intro Try.sz42 <|
  And.intro Try.by42 <|
  And.intro Try.ha42 <|
  And.intro Try.ze42 <|
  And.intro Try.zn42 <|
  And.intro Try.zv42 <|
  And.intro Try.underlying43 <|
  And.intro Try.sz43 <|
  And.intro Try.by43 <|
  And.intro Try.ha43 <|
  And.intro Try.ze43 <|
  And.intro Try.zn43 <|
  And.intro Try.zv43 <|
  And.intro Try.underlying44 <|
  And.intro Try.sz44 <|
  And.intro Try.by44 <|
  And.intro Try.ha44 <|
  And.intro Try.ze44 <|
  And.intro Try.zn44 <|
  And.intro Try.zv44 <|
  And.intro Try.underlying45 <|
  And.intro Try.sz45 <|
  And.intro Try.by45 <|
  And.intro Try.ha45 <|
  And.intro Try.ze45 <|
  And.intro Try.zn45 <|
  And.intro Try.zv45 <|
  And.intro Try.underlying46 <|
  And.intro Try.sz46 <|
  And.intro Try.by46 <|
  And.intro Try.ha46 <|
  And.intro Try.eo46 <|
  And.intro Try.ze46 <|
  And.intro Try.zn46 <|
  And.intro Try.zv46 <|
  And.intro Try.underlying47 <|
  And.intro Try.sz47 <|
  And.intro Try.by47 <|
  And.intro Try.ha47 <|
  And.intro Try.ze47 <|
  And.intro Try.zn47 <|
  And.intro Try.zv47 <|
  And.intro Try.underlying49 <|
  And.intro Try.eo49 <|
  And.intro Try.underlying51 <|
  And.intro Try.eo51 <|
  And.intro Try.underlying52 <|
  And.intro Try.sz52 <|
  And.intro Try.by52 <|
  And.intro Try.ha52 <|
  And.intro Try.ze52 <|
  And.intro Try.zn52 <|
  And.intro Try.zv52 <|
  And.intro Try.underlying53 <|
  And.intro Try.eo53 <|
  And.intro Try.underlying54 <|
  And.intro Try.sz54 <|
  And.intro Try.by54 <|
  And.intro Try.ha54 <|
  And.intro Try.eo54 <|
  And.intro Try.ze54 <|
  And.intro Try.zn54 <|
  And.intro Try.zv54 <|
  And.intro Try.eq54 <|
  And.intro Try.ck54 <|
  And.intro Try.underlying55 <|
  And.intro Try.sz55 <|
  And.intro Try.by55 <|
  And.intro Try.ha55 <|
  And.intro Try.eo55 <|
  And.intro Try.ze55 <|
  And.intro Try.zn55 <|
  And.intro Try.zv55 <|
  And.intro Try.eq55 <|
  And.intro Try.ck55 <|
  And.intro Try.underlying56 <|
  And.intro Try.eo56 <|
  And.intro Try.underlying57 <|
  And.intro Try.eo57 <|
  And.intro Try.underlying58 <|
  And.intro Try.eo58 <|
  And.intro Try.underlying59 <|
  And.intro Try.sz59 <|
  And.intro Try.by59 <|
  And.intro Try.ha59 <|
  And.intro Try.ze59 <|
  And.intro Try.zn59 <|
  And.intro Try.zv59 <|
  And.intro Try.underlying60 <|
  And.intro Try.eo60 <|
  And.intro Try.underlying61 <|
  And.intro Try.eo61 <|
  And.intro Try.underlying62 <|
  And.intro Try.sz62 <|
  And.intro Try.by62 <|
  And.intro Try.ha62 <|
  And.intro Try.ze62 <|
  And.intro Try.zn62 <|
  And.intro Try.zv62 <|
  And.intro Try.underlying63 <|
  And.intro Try.sz63 <|
  And.intro Try.by63 <|
  And.intro Try.ha63 <|
  And.intro Try.ze63 <|
  And.intro Try.zn63 <|
  And.intro Try.zv63 <|
  And.intro Try.underlying64 <|
  And.intro Try.eo64 <|
  And.intro Try.underlying65 <|
  And.intro Try.sz65 <|
  And.intro Try.by65 <|
  And.intro Try.ha65 <|
  And.intro Try.eo65 <|
  And.intro Try.ze65 <|
  And.intro Try.zn65 <|
  And.intro Try.zv65 <|
  And.intro Try.underlying66 <|
  And.intro Try.sz66 <|
  And.intro Try.by66 <|
  And.intro Try.ha66 <|
  And.intro Try.eo66 <|
  And.intro Try.ze66 <|
  And.intro Try.zn66 <|
  And.intro Try.zv66 <|
  And.intro Try.underlying67 <|
  And.intro Try.eo67 <|
  And.intro Try.underlying68 <|
  And.intro Try.eo68 <|
  And.intro Try.underlying70 <|
  And.intro Try.eo70 <|
  And.intro Try.underlying72 <|
  And.intro Try.eo72 <|
  And.intro Try.underlying73 <|
  And.intro Try.eo73 <|
  And.intro Try.underlying74 <|
  And.intro Try.sz74 <|
  And.intro Try.by74 <|
  And.intro Try.ha74 <|
  And.intro Try.eo74 <|
  And.intro Try.ze74 <|
  And.intro Try.zn74 <|
  And.intro Try.zv74 <|
  And.intro Try.eq74 <|
  And.intro Try.ck74 <|
  And.intro Try.underlying75 <|
  And.intro Try.sz75 <|
  And.intro Try.by75 <|
  And.intro Try.ha75 <|
  And.intro Try.eo75 <|
  And.intro Try.ze75 <|
  And.intro Try.zn75 <|
  And.intro Try.zv75 <|
  And.intro Try.eq75 <|
  And.intro Try.ck75 <|
  And.intro Try.underlying76 <|
  And.intro Try.eo76 <|
  And.intro Try.underlying77 <|
  And.intro Try.sz77 <|
  And.intro Try.by77 <|
  And.intro Try.ha77 <|
  And.intro Try.eo77 <|
  And.intro Try.ze77 <|
  And.intro Try.zn77 <|
  And.intro Try.zv77 <|
  And.intro Try.eq77 <|
  And.intro Try.ck77 <|
  And.intro Try.underlying78 <|
  And.intro Try.sz78 <|
  And.intro Try.by78 <|
  And.intro Try.ha78 <|
  And.intro Try.eo78 <|
  And.intro Try.ze78 <|
  And.intro Try.zn78 <|
  And.intro Try.zv78 <|
  And.intro Try.eq78 <|
  And.intro Try.ck78 <|
  And.intro Try.underlying79 <|
  And.intro Try.eo79 <|
  And.intro Try.underlying80 <|
  And.intro Try.eo80 <|
  And.intro Try.underlying81 <|
  And.intro Try.sz81 <|
  And.intro Try.by81 <|
  And.intro Try.ha81 <|
  And.intro Try.ze81 <|
  And.intro Try.zn81 <|
  And.intro Try.zv81 <|
  And.intro Try.underlying82 <|
  And.intro Try.sz82 <|
  And.intro Try.by82 <|
  And.intro Try.ha82 <|
  And.intro Try.ze82 <|
  And.intro Try.zn82 <|
  And.intro Try.zv82 <|
  And.intro Try.underlying83 <|
  And.intro Try.eo83 <|
  And.intro Try.underlying84 <|
  And.intro Try.eo84 <|
  And.intro Try.underlying86 <|
  And.intro Try.eo86 <|
  And.intro Try.underlying87 <|
  And.intro Try.eo87 <|
  And.intro Try.underlying88 <|
  And.intro Try.eo88 <|
  And.intro Try.underlying89 <|
  And.intro Try.sz89 <|
  And.intro Try.by89 <|
  And.intro Try.ha89 <|
  And.intro Try.ze89 <|
  And.intro Try.zn89 <|
  And.intro Try.zv89 <|
  And.intro Try.underlying90 <|
  And.intro Try.sz90 <|
  And.intro Try.by90 <|
  And.intro Try.ha90 <|
  And.intro Try.ze90 <|
  And.intro Try.zn90 <|
  And.intro Try.zv90 <|
  And.intro Try.underlying92 <|
  And.intro Try.eo92 <|
  And.intro Try.underlying93 <|
  And.intro Try.eo93 <|
  And.intro Try.underlying94 <|
  And.intro Try.eo94 <|
  And.intro Try.underlying95 <|
  And.intro Try.sz95 <|
  And.intro Try.by95 <|
  And.intro Try.ha95 <|
  And.intro Try.eo95 <|
  And.intro Try.ze95 <|
  And.intro Try.zn95 <|
  And.intro Try.zv95 <|
  And.intro Try.underlying96 <|
  And.intro Try.eo96 <|
  And.intro Try.underlying97 <|
  And.intro Try.sz97 <|
  And.intro Try.by97 <|
  And.intro Try.ha97 <|
  And.intro Try.eo97 <|
  And.intro Try.ze97 <|
  And.intro Try.zn97 <|
  And.intro Try.zv97 <|
  And.intro Try.underlying98 <|
  And.intro Try.eo98 <|
  And.intro Try.underlying99 <|
  And.intro Try.eo99 <|
  And.intro Try.underlying100 <|
  And.intro Try.eo100 <|
  And.intro Try.underlying101 <|
  And.intro Try.sz101 <|
  And.intro Try.by101 <|
  And.intro Try.ha101 <|
  And.intro Try.ze101 <|
  And.intro Try.zn101 <|
  And.intro Try.zv101 <|
  And.intro Try.underlying102 <|
  And.intro Try.sz102 <|
  And.intro Try.by102 <|
  And.intro Try.ha102 <|
  And.intro Try.eo102 <|
  And.intro Try.ze102 <|
  And.intro Try.zn102 <|
  And.intro Try.zv102 <|
  And.intro Try.underlying103 <|
  And.intro Try.sz103 <|
  And.intro Try.by103 <|
  And.intro Try.ha103 <|
  And.intro Try.ze103 <|
  And.intro Try.zn103 <|
  And.intro Try.zv103 <|
  And.intro Try.underlying104 <|
  And.intro Try.sz104 <|
  And.intro Try.by104 <|
  And.intro Try.ha104 <|
  And.intro Try.ze104 <|
  And.intro Try.zn104 <|
  And.intro Try.zv104 <|
  And.intro Try.underlying105 <|
  And.intro Try.sz105 <|
  And.intro Try.by105 <|
  And.intro Try.ha105 <|
  And.intro Try.ze105 <|
  And.intro Try.zn105 <|
  And.intro Try.zv105 <|
  And.intro Try.underlying106 <|
  And.intro Try.sz106 <|
  And.intro Try.by106 <|
  And.intro Try.ha106 <|
  And.intro Try.ze106 <|
  And.intro Try.zn106 <|
  And.intro Try.zv106 <|
  And.intro Try.underlying107 <|
  And.intro Try.sz107 <|
  And.intro Try.by107 <|
  And.intro Try.ha107 <|
  And.intro Try.ze107 <|
  And.intro Try.zn107 <|
  And.intro Try.zv107 <|
  And.intro Try.underlying108 <|
  And.intro Try.eo108 <|
  And.intro Try.underlying110 <|
  And.intro Try.eo110 <|
  And.intro Try.underlying111 <|
  And.intro Try.eo111 <|
  And.intro Try.underlying112 <|
  And.intro Try.eo112 <|
  And.intro Try.underlying113 <|
  And.intro Try.eo113 <|
  And.intro Try.underlying114 <|
  And.intro Try.eo114 <|
  And.intro Try.underlying115 <|
  And.intro Try.eo115 <|
  And.intro Try.underlying116 <|
  And.intro Try.eo116 <|
  And.intro Try.underlying117 <|
  And.intro Try.sz117 <|
  And.intro Try.by117 <|
  And.intro Try.ha117 <|
  And.intro Try.eo117 <|
  And.intro Try.ze117 <|
  And.intro Try.zn117 <|
  And.intro Try.zv117 <|
  And.intro Try.eq117 <|
  And.intro Try.ck117 <|
  And.intro Try.underlying118 <|
  And.intro Try.sz118 <|
  And.intro Try.by118 <|
  And.intro Try.ha118 <|
  And.intro Try.eo118 <|
  And.intro Try.ze118 <|
  And.intro Try.zn118 <|
  And.intro Try.zv118 <|
  And.intro Try.eq118 <|
  And.intro Try.ck118 <|
  And.intro Try.underlying119 <|
  And.intro Try.sz119 <|
  And.intro Try.by119 <|
  And.intro Try.ha119 <|
  And.intro Try.ze119 <|
  And.intro Try.zn119 <|
  And.intro Try.zv119 <|
  And.intro Try.underlying120 <|
  And.intro Try.eo120 <|
  And.intro Try.underlying121 <|
  And.intro Try.eo121 <|
  And.intro Try.underlying122 <|
  And.intro Try.eo122 <|
  And.intro Try.underlying123 <|
  And.intro Try.eo123 <|
  And.intro Try.underlying124 <|
  And.intro Try.eo124 <|
  And.intro Try.underlying125 <|
  And.intro Try.eo125 <|
  And.intro Try.underlying131 <|
  And.intro Try.sz131 <|
  And.intro Try.by131 <|
  And.intro Try.ha131 <|
  And.intro Try.ze131 <|
  And.intro Try.zn131 <|
  And.intro Try.zv131 <|
  And.intro Try.underlying135 <|
  And.intro Try.sz135 <|
  And.intro Try.by135 <|
  And.intro Try.ha135 <|
  And.intro Try.eo135 <|
  And.intro Try.ze135 <|
  And.intro Try.zn135 <|
  And.intro Try.zv135 <|
  And.intro Try.strTy <|
  And.intro Try.ca3 <|
  And.intro Try.ca4 <|
  And.intro Try.ca5 <|
  And.intro Try.ca6 <|
  And.intro Try.ca7 <|
  And.intro Try.ca8 <|
  And.intro Try.ca9 <|
  And.intro Try.ca10 <|
  And.intro Try.ca11 <|
  And.intro Try.ca12 <|
  And.intro Try.ca13 <|
  And.intro Try.ca14 <|
  And.intro Try.ca15 <|
  And.intro Try.ca16 <|
  And.intro Try.ca17 <|
  And.intro Try.ca18 <|
  And.intro Try.ca19 <|
  And.intro Try.ca20 <|
  And.intro Try.ca21 <|
  And.intro Try.ca22 <|
  And.intro Try.ca23 <|
  And.intro Try.ca24 <|
  And.intro Try.ca25 <|
  And.intro Try.ca26 <|
  And.intro Try.ca27 <|
  And.intro Try.ca28 <|
  And.intro Try.ca29 <|
  And.intro Try.ca30 <|
  And.intro Try.ca31 <|
  And.intro Try.ca32 <|
  And.intro Try.ca33 <|
  And.intro Try.ca34 <|
  And.intro Try.ca35 <|
  And.intro Try.ca36 <|
  And.intro Try.ca37 <|
  And.intro Try.ca38 <|
  And.intro Try.ca39 <|
  And.intro Try.ca40 <|
  And.intro Try.ca41 <|
  And.intro Try.ca42 <|
  And.intro Try.ca43 <|
  And.intro Try.ca44 <|
  And.intro Try.ca45 <|
  And.intro Try.ca46 <|
  And.intro Try.ca47 <|
  And.intro Try.ca48 <|
  And.intro Try.ca49 <|
  And.intro Try.ca50 <|
  And.intro Try.ca51 <|
  And.intro Try.ca52 <|
  And.intro Try.ca53 <|
  And.intro Try.ca54 <|
  And.intro Try.ca55 <|
  And.intro Try.ca57 <|
  And.intro Try.ca58 <|
  And.intro Try.ca59 <|
  And.intro Try.ca60 <|
  And.intro Try.ca61 <|
  And.intro Try.ca62 <|
  And.intro Try.ca63 <|
  And.intro Try.ca64 <|
  And.intro Try.ca65 <|
  And.intro Try.ca66 <|
  And.intro Try.ca67 <|
  And.intro Try.ca68 <|
  And.intro Try.ca69 <| Try.ca70
end Go.Proofs
