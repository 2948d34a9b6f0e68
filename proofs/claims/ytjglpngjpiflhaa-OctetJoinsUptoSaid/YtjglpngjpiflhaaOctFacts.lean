/-
  Facts of the seat's program: sizes of types, functions that have bodies. By program.
  Conditions: none.
-/
import Derived.Test.YtjglpngjpiflhaaProg
import Derived.Test.YtjglpngjpiflhaaAbsRun
set_option linter.all false
set_option linter.unusedSimpArgs false
namespace Go.Proofs
open Go Go.Abs
theorem Try.mixed : Try.prog.follows .mixedOrders = true := by kernel_rfl
theorem Try.sz0 : szOf Try.prog 0 = 1 := by kernel_rfl
theorem Try.by0 : byOf Try.prog 0 = 0 := by kernel_rfl
theorem Try.sz1 : szOf Try.prog 1 = 1 := by kernel_rfl
theorem Try.by1 : byOf Try.prog 1 = 8 := by kernel_rfl
theorem Try.ze1 : zeroA Try.prog 1 = [.sc .nilFunc] := by kernel_rfl
theorem Try.ha1 : hasT Try.prog 1 = true := by kernel_rfl
theorem Try.sz2 : szOf Try.prog 2 = 1 := by kernel_rfl
theorem Try.by2 : byOf Try.prog 2 = 8 := by kernel_rfl
theorem Try.ze2 : zeroA Try.prog 2 = [.sc (.int .i64 0)] := by kernel_rfl
theorem Try.ha2 : hasT Try.prog 2 = true := by kernel_rfl
theorem Try.sz3 : szOf Try.prog 3 = 1 := by kernel_rfl
theorem Try.by3 : byOf Try.prog 3 = 8 := by kernel_rfl
theorem Try.ze3 : zeroA Try.prog 3 = [.sc (.int .i64 0)] := by kernel_rfl
theorem Try.ha3 : hasT Try.prog 3 = true := by kernel_rfl
theorem Try.sz4 : szOf Try.prog 4 = 1 := by kernel_rfl
theorem Try.by4 : byOf Try.prog 4 = 1 := by kernel_rfl
theorem Try.ze4 : zeroA Try.prog 4 = [.sc (.bool false)] := by kernel_rfl
theorem Try.ha4 : hasT Try.prog 4 = true := by kernel_rfl
theorem Try.sz5 : szOf Try.prog 5 = 1 := by kernel_rfl
theorem Try.by5 : byOf Try.prog 5 = 1 := by kernel_rfl
theorem Try.ze5 : zeroA Try.prog 5 = [.sc (.int .u8 0)] := by kernel_rfl
theorem Try.ha5 : hasT Try.prog 5 = true := by kernel_rfl
theorem Try.sz6 : szOf Try.prog 6 = 1 := by kernel_rfl
theorem Try.by6 : byOf Try.prog 6 = 1 := by kernel_rfl
theorem Try.ze6 : zeroA Try.prog 6 = [.sc (.int .u8 0)] := by kernel_rfl
theorem Try.ha6 : hasT Try.prog 6 = true := by kernel_rfl
theorem Try.sz7 : szOf Try.prog 7 = 4 := by kernel_rfl
theorem Try.by7 : byOf Try.prog 7 = 24 := by kernel_rfl
theorem Try.ze7 : zeroA Try.prog 7 = [.sc (.int .i64 0), .sc (.int .i64 0), .sc (.bool false), .sc (.int .u8 0)] := by kernel_rfl
theorem Try.ha7 : hasT Try.prog 7 = true := by kernel_rfl
theorem Try.sz8 : szOf Try.prog 8 = 4 := by kernel_rfl
theorem Try.by8 : byOf Try.prog 8 = 24 := by kernel_rfl
theorem Try.ze8 : zeroA Try.prog 8 = [.sc (.int .i64 0), .sc (.int .i64 0), .sc (.bool false), .sc (.int .u8 0)] := by kernel_rfl
theorem Try.ha8 : hasT Try.prog 8 = true := by kernel_rfl
theorem Try.sz9 : szOf Try.prog 9 = 1 := by kernel_rfl
theorem Try.by9 : byOf Try.prog 9 = 16 := by kernel_rfl
theorem Try.ze9 : zeroA Try.prog 9 = [.sc (.string ⟨#[]⟩)] := by kernel_rfl
theorem Try.ha9 : hasT Try.prog 9 = true := by kernel_rfl
theorem Try.sz10 : szOf Try.prog 10 = 1 := by kernel_rfl
theorem Try.by10 : byOf Try.prog 10 = 16 := by kernel_rfl
theorem Try.ze10 : zeroA Try.prog 10 = [.sc (.string ⟨#[]⟩)] := by kernel_rfl
theorem Try.ha10 : hasT Try.prog 10 = true := by kernel_rfl
theorem Try.sz11 : szOf Try.prog 11 = 1 := by kernel_rfl
theorem Try.by11 : byOf Try.prog 11 = 16 := by kernel_rfl
theorem Try.ze11 : zeroA Try.prog 11 = [.sc (.string ⟨#[]⟩)] := by kernel_rfl
theorem Try.ha11 : hasT Try.prog 11 = true := by kernel_rfl
theorem Try.sz12 : szOf Try.prog 12 = 1 := by kernel_rfl
theorem Try.by12 : byOf Try.prog 12 = 8 := by kernel_rfl
theorem Try.ze12 : zeroA Try.prog 12 = [.sc (.int .u64 0)] := by kernel_rfl
theorem Try.ha12 : hasT Try.prog 12 = true := by kernel_rfl
theorem Try.sz13 : szOf Try.prog 13 = 2 := by kernel_rfl
theorem Try.by13 : byOf Try.prog 13 = 24 := by kernel_rfl
theorem Try.ze13 : zeroA Try.prog 13 = [.sc (.string ⟨#[]⟩), .sc (.int .u64 0)] := by kernel_rfl
theorem Try.ha13 : hasT Try.prog 13 = true := by kernel_rfl
theorem Try.sz14 : szOf Try.prog 14 = 2 := by kernel_rfl
theorem Try.by14 : byOf Try.prog 14 = 24 := by kernel_rfl
theorem Try.ze14 : zeroA Try.prog 14 = [.sc (.string ⟨#[]⟩), .sc (.int .u64 0)] := by kernel_rfl
theorem Try.ha14 : hasT Try.prog 14 = true := by kernel_rfl
theorem Try.sz15 : szOf Try.prog 15 = 1 := by kernel_rfl
theorem Try.by15 : byOf Try.prog 15 = 8 := by kernel_rfl
theorem Try.ze15 : zeroA Try.prog 15 = [.sc (.pointer none)] := by kernel_rfl
theorem Try.ha15 : hasT Try.prog 15 = true := by kernel_rfl
theorem Try.sz16 : szOf Try.prog 16 = 1 := by kernel_rfl
theorem Try.by16 : byOf Try.prog 16 = 8 := by kernel_rfl
theorem Try.ze16 : zeroA Try.prog 16 = [.sc (.pointer none)] := by kernel_rfl
theorem Try.ha16 : hasT Try.prog 16 = true := by kernel_rfl
theorem Try.sz17 : szOf Try.prog 17 = 1 := by kernel_rfl
theorem Try.by17 : byOf Try.prog 17 = 8 := by kernel_rfl
theorem Try.ze17 : zeroA Try.prog 17 = [.sc (.pointer none)] := by kernel_rfl
theorem Try.ha17 : hasT Try.prog 17 = true := by kernel_rfl
theorem Try.sz18 : szOf Try.prog 18 = 1 := by kernel_rfl
theorem Try.by18 : byOf Try.prog 18 = 8 := by kernel_rfl
theorem Try.ze18 : zeroA Try.prog 18 = [.sc (.pointer none)] := by kernel_rfl
theorem Try.ha18 : hasT Try.prog 18 = true := by kernel_rfl
theorem Try.sz19 : szOf Try.prog 19 = 1 := by kernel_rfl
theorem Try.by19 : byOf Try.prog 19 = 8 := by kernel_rfl
theorem Try.ze19 : zeroA Try.prog 19 = [.sc (.pointer none)] := by kernel_rfl
theorem Try.ha19 : hasT Try.prog 19 = true := by kernel_rfl
theorem Try.sz20 : szOf Try.prog 20 = 1 := by kernel_rfl
theorem Try.by20 : byOf Try.prog 20 = 16 := by kernel_rfl
theorem Try.ze20 : zeroA Try.prog 20 = [.sc .nilIface] := by kernel_rfl
theorem Try.ha20 : hasT Try.prog 20 = true := by kernel_rfl
theorem Try.sz21 : szOf Try.prog 21 = 1 := by kernel_rfl
theorem Try.by21 : byOf Try.prog 21 = 4 := by kernel_rfl
theorem Try.ze21 : zeroA Try.prog 21 = [.sc (.int .i32 0)] := by kernel_rfl
theorem Try.ha21 : hasT Try.prog 21 = true := by kernel_rfl
theorem Try.sz22 : szOf Try.prog 22 = 1 := by kernel_rfl
theorem Try.by22 : byOf Try.prog 22 = 24 := by kernel_rfl
theorem Try.ze22 : zeroA Try.prog 22 = [.imm 0 [] 0] := by kernel_rfl
theorem Try.ha22 : hasT Try.prog 22 = true := by kernel_rfl
theorem Try.sz23 : szOf Try.prog 23 = 1 := by kernel_rfl
theorem Try.by23 : byOf Try.prog 23 = 8 := by kernel_rfl
theorem Try.ze23 : zeroA Try.prog 23 = [.sc .nilFunc] := by kernel_rfl
theorem Try.ha23 : hasT Try.prog 23 = true := by kernel_rfl
theorem Try.sz24 : szOf Try.prog 24 = 1 := by kernel_rfl
theorem Try.by24 : byOf Try.prog 24 = 8 := by kernel_rfl
theorem Try.ze24 : zeroA Try.prog 24 = [.sc .nilFunc] := by kernel_rfl
theorem Try.ha24 : hasT Try.prog 24 = true := by kernel_rfl
theorem Try.sz25 : szOf Try.prog 25 = 1 := by kernel_rfl
theorem Try.by25 : byOf Try.prog 25 = 8 := by kernel_rfl
theorem Try.ze25 : zeroA Try.prog 25 = [.sc .nilFunc] := by kernel_rfl
theorem Try.ha25 : hasT Try.prog 25 = true := by kernel_rfl
theorem Try.sz26 : szOf Try.prog 26 = 1 := by kernel_rfl
theorem Try.by26 : byOf Try.prog 26 = 8 := by kernel_rfl
theorem Try.ze26 : zeroA Try.prog 26 = [.sc (.int .i64 0)] := by kernel_rfl
theorem Try.ha26 : hasT Try.prog 26 = true := by kernel_rfl
theorem Try.sz27 : szOf Try.prog 27 = 1 := by kernel_rfl
theorem Try.by27 : byOf Try.prog 27 = 0 := by kernel_rfl
theorem Try.sz28 : szOf Try.prog 28 = 1 := by kernel_rfl
theorem Try.by28 : byOf Try.prog 28 = 8 := by kernel_rfl
theorem Try.ze28 : zeroA Try.prog 28 = [.sc .nilFunc] := by kernel_rfl
theorem Try.ha28 : hasT Try.prog 28 = true := by kernel_rfl
theorem Try.sz29 : szOf Try.prog 29 = 1 := by kernel_rfl
theorem Try.by29 : byOf Try.prog 29 = 8 := by kernel_rfl
theorem Try.ze29 : zeroA Try.prog 29 = [.sc .nilFunc] := by kernel_rfl
theorem Try.ha29 : hasT Try.prog 29 = true := by kernel_rfl
theorem Try.sz30 : szOf Try.prog 30 = 1 := by kernel_rfl
theorem Try.by30 : byOf Try.prog 30 = 8 := by kernel_rfl
theorem Try.ze30 : zeroA Try.prog 30 = [.sc .nilFunc] := by kernel_rfl
theorem Try.ha30 : hasT Try.prog 30 = true := by kernel_rfl
theorem Try.sz31 : szOf Try.prog 31 = 1 := by kernel_rfl
theorem Try.by31 : byOf Try.prog 31 = 24 := by kernel_rfl
theorem Try.ze31 : zeroA Try.prog 31 = [.imm 0 [] 0] := by kernel_rfl
theorem Try.ha31 : hasT Try.prog 31 = true := by kernel_rfl
theorem Try.sz32 : szOf Try.prog 32 = 1 := by kernel_rfl
theorem Try.by32 : byOf Try.prog 32 = 8 := by kernel_rfl
theorem Try.ze32 : zeroA Try.prog 32 = [.sc .nilFunc] := by kernel_rfl
theorem Try.ha32 : hasT Try.prog 32 = true := by kernel_rfl
theorem Try.sz33 : szOf Try.prog 33 = 1 := by kernel_rfl
theorem Try.by33 : byOf Try.prog 33 = 8 := by kernel_rfl
theorem Try.ze33 : zeroA Try.prog 33 = [.sc .nilFunc] := by kernel_rfl
theorem Try.ha33 : hasT Try.prog 33 = true := by kernel_rfl
theorem Try.sz34 : szOf Try.prog 34 = 1 := by kernel_rfl
theorem Try.by34 : byOf Try.prog 34 = 8 := by kernel_rfl
theorem Try.ze34 : zeroA Try.prog 34 = [.sc .nilFunc] := by kernel_rfl
theorem Try.ha34 : hasT Try.prog 34 = true := by kernel_rfl
theorem Try.sz35 : szOf Try.prog 35 = 1 := by kernel_rfl
theorem Try.by35 : byOf Try.prog 35 = 8 := by kernel_rfl
theorem Try.ze35 : zeroA Try.prog 35 = [.sc .nilFunc] := by kernel_rfl
theorem Try.ha35 : hasT Try.prog 35 = true := by kernel_rfl
theorem Try.sz36 : szOf Try.prog 36 = 1 := by kernel_rfl
theorem Try.by36 : byOf Try.prog 36 = 8 := by kernel_rfl
theorem Try.ze36 : zeroA Try.prog 36 = [.sc (.int .u64 0)] := by kernel_rfl
theorem Try.ha36 : hasT Try.prog 36 = true := by kernel_rfl
theorem Try.sz37 : szOf Try.prog 37 = 1 := by kernel_rfl
theorem Try.by37 : byOf Try.prog 37 = 0 := by kernel_rfl
theorem Try.sz38 : szOf Try.prog 38 = 1 := by kernel_rfl
theorem Try.by38 : byOf Try.prog 38 = 8 := by kernel_rfl
theorem Try.ze38 : zeroA Try.prog 38 = [.sc .nilFunc] := by kernel_rfl
theorem Try.ha38 : hasT Try.prog 38 = true := by kernel_rfl
theorem Try.sz39 : szOf Try.prog 39 = 1 := by kernel_rfl
theorem Try.by39 : byOf Try.prog 39 = 8 := by kernel_rfl
theorem Try.ze39 : zeroA Try.prog 39 = [.sc .nilFunc] := by kernel_rfl
theorem Try.ha39 : hasT Try.prog 39 = true := by kernel_rfl
theorem Try.sz40 : szOf Try.prog 40 = 1 := by kernel_rfl
theorem Try.by40 : byOf Try.prog 40 = 8 := by kernel_rfl
theorem Try.ze40 : zeroA Try.prog 40 = [.sc .nilFunc] := by kernel_rfl
theorem Try.ha40 : hasT Try.prog 40 = true := by kernel_rfl
theorem Try.sz41 : szOf Try.prog 41 = 1 := by kernel_rfl
theorem Try.by41 : byOf Try.prog 41 = 8 := by kernel_rfl
theorem Try.ze41 : zeroA Try.prog 41 = [.sc .nilFunc] := by kernel_rfl
theorem Try.ha41 : hasT Try.prog 41 = true := by kernel_rfl
theorem Try.sz42 : szOf Try.prog 42 = 1 := by kernel_rfl
theorem Try.by42 : byOf Try.prog 42 = 8 := by kernel_rfl
theorem Try.ze42 : zeroA Try.prog 42 = [.sc .nilFunc] := by kernel_rfl
theorem Try.ha42 : hasT Try.prog 42 = true := by kernel_rfl
theorem Try.sz43 : szOf Try.prog 43 = 1 := by kernel_rfl
theorem Try.by43 : byOf Try.prog 43 = 8 := by kernel_rfl
theorem Try.ze43 : zeroA Try.prog 43 = [.sc .nilFunc] := by kernel_rfl
theorem Try.ha43 : hasT Try.prog 43 = true := by kernel_rfl
theorem Try.sz44 : szOf Try.prog 44 = 1 := by kernel_rfl
theorem Try.by44 : byOf Try.prog 44 = 8 := by kernel_rfl
theorem Try.ze44 : zeroA Try.prog 44 = [.sc .nilFunc] := by kernel_rfl
theorem Try.ha44 : hasT Try.prog 44 = true := by kernel_rfl
theorem Try.sz45 : szOf Try.prog 45 = 1 := by kernel_rfl
theorem Try.by45 : byOf Try.prog 45 = 8 := by kernel_rfl
theorem Try.ze45 : zeroA Try.prog 45 = [.sc (.int .u64 0)] := by kernel_rfl
theorem Try.ha45 : hasT Try.prog 45 = true := by kernel_rfl
theorem Try.sz46 : szOf Try.prog 46 = 1 := by kernel_rfl
theorem Try.by46 : byOf Try.prog 46 = 8 := by kernel_rfl
theorem Try.ze46 : zeroA Try.prog 46 = [.sc .nilFunc] := by kernel_rfl
theorem Try.ha46 : hasT Try.prog 46 = true := by kernel_rfl
theorem Try.sz47 : szOf Try.prog 47 = 16 := by kernel_rfl
theorem Try.by47 : byOf Try.prog 47 = 16 := by kernel_rfl
theorem Try.ze47 : zeroA Try.prog 47 = [.sc (.int .u8 0), .sc (.int .u8 0), .sc (.int .u8 0), .sc (.int .u8 0), .sc (.int .u8 0), .sc (.int .u8 0), .sc (.int .u8 0), .sc (.int .u8 0), .sc (.int .u8 0), .sc (.int .u8 0), .sc (.int .u8 0), .sc (.int .u8 0), .sc (.int .u8 0), .sc (.int .u8 0), .sc (.int .u8 0), .sc (.int .u8 0)] := by kernel_rfl
theorem Try.ha47 : hasT Try.prog 47 = true := by kernel_rfl
theorem Try.sz48 : szOf Try.prog 48 = 1 := by kernel_rfl
theorem Try.by48 : byOf Try.prog 48 = 8 := by kernel_rfl
theorem Try.ze48 : zeroA Try.prog 48 = [.sc .nilFunc] := by kernel_rfl
theorem Try.ha48 : hasT Try.prog 48 = true := by kernel_rfl
theorem Try.sz49 : szOf Try.prog 49 = 1 := by kernel_rfl
theorem Try.by49 : byOf Try.prog 49 = 8 := by kernel_rfl
theorem Try.ze49 : zeroA Try.prog 49 = [.sc .nilFunc] := by kernel_rfl
theorem Try.ha49 : hasT Try.prog 49 = true := by kernel_rfl
theorem Try.sz50 : szOf Try.prog 50 = 1 := by kernel_rfl
theorem Try.by50 : byOf Try.prog 50 = 8 := by kernel_rfl
theorem Try.ze50 : zeroA Try.prog 50 = [.sc .nilFunc] := by kernel_rfl
theorem Try.ha50 : hasT Try.prog 50 = true := by kernel_rfl
theorem Try.sz51 : szOf Try.prog 51 = 1 := by kernel_rfl
theorem Try.by51 : byOf Try.prog 51 = 8 := by kernel_rfl
theorem Try.ze51 : zeroA Try.prog 51 = [.sc .nilFunc] := by kernel_rfl
theorem Try.ha51 : hasT Try.prog 51 = true := by kernel_rfl
theorem Try.sz52 : szOf Try.prog 52 = 4 := by kernel_rfl
theorem Try.by52 : byOf Try.prog 52 = 40 := by kernel_rfl
theorem Try.ze52 : zeroA Try.prog 52 = [.sc (.pointer none), .sc (.pointer none), .sc (.pointer none), .sc (.string ⟨#[]⟩)] := by kernel_rfl
theorem Try.ha52 : hasT Try.prog 52 = true := by kernel_rfl
theorem Try.sz53 : szOf Try.prog 53 = 4 := by kernel_rfl
theorem Try.by53 : byOf Try.prog 53 = 40 := by kernel_rfl
theorem Try.ze53 : zeroA Try.prog 53 = [.sc (.pointer none), .sc (.pointer none), .sc (.pointer none), .sc (.string ⟨#[]⟩)] := by kernel_rfl
theorem Try.ha53 : hasT Try.prog 53 = true := by kernel_rfl
theorem Try.sz54 : szOf Try.prog 54 = 0 := by kernel_rfl
theorem Try.by54 : byOf Try.prog 54 = 0 := by kernel_rfl
theorem Try.ze54 : zeroA Try.prog 54 = [] := by kernel_rfl
theorem Try.ha54 : hasT Try.prog 54 = true := by kernel_rfl
theorem Try.sz55 : szOf Try.prog 55 = 0 := by kernel_rfl
theorem Try.by55 : byOf Try.prog 55 = 0 := by kernel_rfl
theorem Try.ze55 : zeroA Try.prog 55 = [] := by kernel_rfl
theorem Try.ha55 : hasT Try.prog 55 = true := by kernel_rfl
theorem Try.sz56 : szOf Try.prog 56 = 0 := by kernel_rfl
theorem Try.by56 : byOf Try.prog 56 = 0 := by kernel_rfl
theorem Try.ze56 : zeroA Try.prog 56 = [] := by kernel_rfl
theorem Try.ha56 : hasT Try.prog 56 = true := by kernel_rfl
theorem Try.sz57 : szOf Try.prog 57 = 1 := by kernel_rfl
theorem Try.by57 : byOf Try.prog 57 = 8 := by kernel_rfl
theorem Try.ze57 : zeroA Try.prog 57 = [.sc .nilFunc] := by kernel_rfl
theorem Try.ha57 : hasT Try.prog 57 = true := by kernel_rfl
theorem Try.sz58 : szOf Try.prog 58 = 1 := by kernel_rfl
theorem Try.by58 : byOf Try.prog 58 = 4 := by kernel_rfl
theorem Try.ze58 : zeroA Try.prog 58 = [.sc (.int .u32 0)] := by kernel_rfl
theorem Try.ha58 : hasT Try.prog 58 = true := by kernel_rfl
theorem Try.sz59 : szOf Try.prog 59 = 1 := by kernel_rfl
theorem Try.by59 : byOf Try.prog 59 = 1 := by kernel_rfl
theorem Try.ze59 : zeroA Try.prog 59 = [.sc (.int .u8 0)] := by kernel_rfl
theorem Try.ha59 : hasT Try.prog 59 = true := by kernel_rfl
theorem Try.sz60 : szOf Try.prog 60 = 1 := by kernel_rfl
theorem Try.by60 : byOf Try.prog 60 = 1 := by kernel_rfl
theorem Try.ze60 : zeroA Try.prog 60 = [.sc (.int .u8 0)] := by kernel_rfl
theorem Try.ha60 : hasT Try.prog 60 = true := by kernel_rfl
theorem Try.sz61 : szOf Try.prog 61 = 1 := by kernel_rfl
theorem Try.by61 : byOf Try.prog 61 = 8 := by kernel_rfl
theorem Try.ze61 : zeroA Try.prog 61 = [.sc .nilFunc] := by kernel_rfl
theorem Try.ha61 : hasT Try.prog 61 = true := by kernel_rfl
theorem Try.sz62 : szOf Try.prog 62 = 1 := by kernel_rfl
theorem Try.by62 : byOf Try.prog 62 = 8 := by kernel_rfl
theorem Try.ze62 : zeroA Try.prog 62 = [.sc (.pointer none)] := by kernel_rfl
theorem Try.ha62 : hasT Try.prog 62 = true := by kernel_rfl
theorem Try.sz63 : szOf Try.prog 63 = 1 := by kernel_rfl
theorem Try.by63 : byOf Try.prog 63 = 4 := by kernel_rfl
theorem Try.ze63 : zeroA Try.prog 63 = [.sc (.int .i32 0)] := by kernel_rfl
theorem Try.ha63 : hasT Try.prog 63 = true := by kernel_rfl
theorem Try.sz64 : szOf Try.prog 64 = 1 := by kernel_rfl
theorem Try.by64 : byOf Try.prog 64 = 4 := by kernel_rfl
theorem Try.ze64 : zeroA Try.prog 64 = [.sc (.int .i32 0)] := by kernel_rfl
theorem Try.ha64 : hasT Try.prog 64 = true := by kernel_rfl
theorem Try.sz65 : szOf Try.prog 65 = 11 := by kernel_rfl
theorem Try.by65 : byOf Try.prog 65 = 48 := by kernel_rfl
theorem Try.ze65 : zeroA Try.prog 65 = [.sc (.int .u64 0), .sc (.int .u64 0), .sc (.int .u32 0), .sc (.int .u8 0), .sc (.int .u8 0), .sc (.int .u8 0), .sc (.int .u8 0), .sc .nilFunc, .sc (.pointer none), .sc (.int .i32 0), .sc (.int .i32 0)] := by kernel_rfl
theorem Try.ha65 : hasT Try.prog 65 = true := by kernel_rfl
theorem Try.sz66 : szOf Try.prog 66 = 11 := by kernel_rfl
theorem Try.by66 : byOf Try.prog 66 = 48 := by kernel_rfl
theorem Try.ze66 : zeroA Try.prog 66 = [.sc (.int .u64 0), .sc (.int .u64 0), .sc (.int .u32 0), .sc (.int .u8 0), .sc (.int .u8 0), .sc (.int .u8 0), .sc (.int .u8 0), .sc .nilFunc, .sc (.pointer none), .sc (.int .i32 0), .sc (.int .i32 0)] := by kernel_rfl
theorem Try.ha66 : hasT Try.prog 66 = true := by kernel_rfl
theorem Try.sz67 : szOf Try.prog 67 = 1 := by kernel_rfl
theorem Try.by67 : byOf Try.prog 67 = 8 := by kernel_rfl
theorem Try.ze67 : zeroA Try.prog 67 = [.sc (.pointer none)] := by kernel_rfl
theorem Try.ha67 : hasT Try.prog 67 = true := by kernel_rfl
theorem Try.eo4 : eqOk Try.prog 4 = true := by kernel_rfl
theorem Try.eo7 : eqOk Try.prog 7 = true := by kernel_rfl
theorem Try.eo8 : eqOk Try.prog 8 = true := by kernel_rfl
theorem Try.eo13 : eqOk Try.prog 13 = true := by kernel_rfl
theorem Try.eo14 : eqOk Try.prog 14 = true := by kernel_rfl
theorem Try.eo15 : eqOk Try.prog 15 = true := by kernel_rfl
theorem Try.eo16 : eqOk Try.prog 16 = true := by kernel_rfl
theorem Try.eo17 : eqOk Try.prog 17 = true := by kernel_rfl
theorem Try.eo62 : eqOk Try.prog 62 = true := by kernel_rfl
theorem Try.ca3 : callable Try.prog 3 = true := by kernel_rfl
theorem Try.ca4 : callable Try.prog 4 = true := by kernel_rfl
theorem Try.ca5 : callable Try.prog 5 = true := by kernel_rfl
theorem Try.ca6 : callable Try.prog 6 = true := by kernel_rfl
theorem Try.ca7 : callable Try.prog 7 = true := by kernel_rfl
theorem Try.ca8 : callable Try.prog 8 = true := by kernel_rfl
theorem Try.ca9 : callable Try.prog 9 = true := by kernel_rfl
theorem Try.ca10 : callable Try.prog 10 = true := by kernel_rfl
theorem Try.ca11 : callable Try.prog 11 = true := by kernel_rfl
theorem Try.ca12 : callable Try.prog 12 = true := by kernel_rfl
theorem Try.ca13 : callable Try.prog 13 = true := by kernel_rfl
theorem Try.ca14 : callable Try.prog 14 = true := by kernel_rfl
theorem Try.ca15 : callable Try.prog 15 = true := by kernel_rfl
theorem Try.ca16 : callable Try.prog 16 = true := by kernel_rfl
theorem Try.ca17 : callable Try.prog 17 = true := by kernel_rfl
theorem Try.ca18 : callable Try.prog 18 = true := by kernel_rfl
theorem Try.ca19 : callable Try.prog 19 = true := by kernel_rfl
theorem Try.ca20 : callable Try.prog 20 = true := by kernel_rfl
theorem Try.ca21 : callable Try.prog 21 = true := by kernel_rfl
theorem Try.ca22 : callable Try.prog 22 = true := by kernel_rfl
theorem Try.ca23 : callable Try.prog 23 = true := by kernel_rfl
theorem Try.ca24 : callable Try.prog 24 = true := by kernel_rfl
theorem Try.ca25 : callable Try.prog 25 = true := by kernel_rfl
theorem Try.ca26 : callable Try.prog 26 = true := by kernel_rfl
theorem Try.ca27 : callable Try.prog 27 = true := by kernel_rfl
theorem Try.ca28 : callable Try.prog 28 = true := by kernel_rfl
theorem Try.ca29 : callable Try.prog 29 = true := by kernel_rfl
theorem Try.ca30 : callable Try.prog 30 = true := by kernel_rfl
theorem Try.ca31 : callable Try.prog 31 = true := by kernel_rfl
theorem Try.ca32 : callable Try.prog 32 = true := by kernel_rfl
theorem Try.ca33 : callable Try.prog 33 = true := by kernel_rfl
theorem Try.ca34 : callable Try.prog 34 = true := by kernel_rfl
def Try.facts := And.intro Try.underlying2 <|
  And.intro Try.sz2 <|
  And.intro Try.by2 <|
  And.intro Try.ha2 <|
  And.intro Try.ze2 <|
  And.intro Try.underlying3 <|
  And.intro Try.sz3 <|
  And.intro Try.by3 <|
  And.intro Try.ha3 <|
  And.intro Try.ze3 <|
  And.intro Try.underlying4 <|
  And.intro Try.sz4 <|
  And.intro Try.by4 <|
  And.intro Try.ha4 <|
  And.intro Try.eo4 <|
  And.intro Try.ze4 <|
  And.intro Try.underlying5 <|
  And.intro Try.sz5 <|
  And.intro Try.by5 <|
  And.intro Try.ha5 <|
  And.intro Try.ze5 <|
  And.intro Try.underlying6 <|
  And.intro Try.sz6 <|
  And.intro Try.by6 <|
  And.intro Try.ha6 <|
  And.intro Try.ze6 <|
  And.intro Try.underlying7 <|
  And.intro Try.sz7 <|
  And.intro Try.by7 <|
  And.intro Try.ha7 <|
  And.intro Try.eo7 <|
  And.intro Try.ze7 <|
  And.intro Try.underlying8 <|
  And.intro Try.sz8 <|
  And.intro Try.by8 <|
  And.intro Try.ha8 <|
  And.intro Try.eo8 <|
  And.intro Try.ze8 <|
  And.intro Try.underlying9 <|
  And.intro Try.sz9 <|
  And.intro Try.by9 <|
  And.intro Try.ha9 <|
  And.intro Try.ze9 <|
  And.intro Try.underlying10 <|
  And.intro Try.sz10 <|
  And.intro Try.by10 <|
  And.intro Try.ha10 <|
  And.intro Try.ze10 <|
  And.intro Try.underlying11 <|
  And.intro Try.sz11 <|
  And.intro Try.by11 <|
  And.intro Try.ha11 <|
  And.intro Try.ze11 <|
  And.intro Try.underlying12 <|
  And.intro Try.sz12 <|
  And.intro Try.by12 <|
  And.intro Try.ha12 <|
  And.intro Try.ze12 <|
  And.intro Try.underlying13 <|
  And.intro Try.sz13 <|
  And.intro Try.by13 <|
  And.intro Try.ha13 <|
  And.intro Try.eo13 <|
  And.intro Try.ze13 <|
  And.intro Try.underlying14 <|
  And.intro Try.sz14 <|
  And.intro Try.by14 <|
  And.intro Try.ha14 <|
  And.intro Try.eo14 <|
  And.intro Try.ze14 <|
  And.intro Try.underlying15 <|
  And.intro Try.sz15 <|
  And.intro Try.by15 <|
  And.intro Try.ha15 <|
  And.intro Try.eo15 <|
  And.intro Try.ze15 <|
  And.intro Try.underlying16 <|
  And.intro Try.sz16 <|
  And.intro Try.by16 <|
  And.intro Try.ha16 <|
  And.intro Try.eo16 <|
  And.intro Try.ze16 <|
  And.intro Try.underlying17 <|
  And.intro Try.sz17 <|
  And.intro Try.by17 <|
  And.intro Try.ha17 <|
  And.intro Try.eo17 <|
  And.intro Try.ze17 <|
  And.intro Try.underlying18 <|
  And.intro Try.sz18 <|
  And.intro Try.by18 <|
  And.intro Try.ha18 <|
  And.intro Try.ze18 <|
  And.intro Try.underlying19 <|
  And.intro Try.sz19 <|
  And.intro Try.by19 <|
  And.intro Try.ha19 <|
  And.intro Try.ze19 <|
  And.intro Try.underlying21 <|
  And.intro Try.sz21 <|
  And.intro Try.by21 <|
  And.intro Try.ha21 <|
  And.intro Try.ze21 <|
  And.intro Try.underlying22 <|
  And.intro Try.sz22 <|
  And.intro Try.by22 <|
  And.intro Try.ha22 <|
  And.intro Try.ze22 <|
  And.intro Try.underlying26 <|
  And.intro Try.sz26 <|
  And.intro Try.by26 <|
  And.intro Try.ha26 <|
  And.intro Try.ze26 <|
  And.intro Try.underlying31 <|
  And.intro Try.sz31 <|
  And.intro Try.by31 <|
  And.intro Try.ha31 <|
  And.intro Try.ze31 <|
  And.intro Try.underlying36 <|
  And.intro Try.sz36 <|
  And.intro Try.by36 <|
  And.intro Try.ha36 <|
  And.intro Try.ze36 <|
  And.intro Try.underlying45 <|
  And.intro Try.sz45 <|
  And.intro Try.by45 <|
  And.intro Try.ha45 <|
  And.intro Try.ze45 <|
  And.intro Try.underlying47 <|
  And.intro Try.sz47 <|
  And.intro Try.by47 <|
  And.intro Try.ha47 <|
  And.intro Try.ze47 <|
  And.intro Try.underlying52 <|
  And.intro Try.sz52 <|
  And.intro Try.by52 <|
  And.intro Try.ha52 <|
  And.intro Try.ze52 <|
  And.intro Try.underlying53 <|
  And.intro Try.sz53 <|
  And.intro Try.by53 <|
  And.intro Try.ha53 <|
  And.intro Try.ze53 <|
  And.intro Try.underlying54 <|
  And.intro Try.sz54 <|
  And.intro Try.by54 <|
  And.intro Try.ha54 <|
  And.intro Try.ze54 <|
  And.intro Try.underlying55 <|
  And.intro Try.sz55 <|
  And.intro Try.by55 <|
  And.intro Try.ha55 <|
  And.intro Try.ze55 <|
  And.intro Try.underlying56 <|
  And.intro Try.sz56 <|
  And.intro Try.by56 <|
  And.intro Try.ha56 <|
  And.intro Try.ze56 <|
  And.intro Try.underlying58 <|
  And.intro Try.sz58 <|
  And.intro Try.by58 <|
  And.intro Try.ha58 <|
  And.intro Try.ze58 <|
  And.intro Try.underlying59 <|
  And.intro Try.sz59 <|
  And.intro Try.by59 <|
  And.intro Try.ha59 <|
  And.intro Try.ze59 <|
  And.intro Try.underlying60 <|
  And.intro Try.sz60 <|
  And.intro Try.by60 <|
  And.intro Try.ha60 <|
  And.intro Try.ze60 <|
  And.intro Try.underlying62 <|
  And.intro Try.sz62 <|
  And.intro Try.by62 <|
  And.intro Try.ha62 <|
  And.intro Try.eo62 <|
  And.intro Try.ze62 <|
  And.intro Try.underlying63 <|
  And.intro Try.sz63 <|
  And.intro Try.by63 <|
  And.intro Try.ha63 <|
  And.intro Try.ze63 <|
  And.intro Try.underlying64 <|
  And.intro Try.sz64 <|
  And.intro Try.by64 <|
  And.intro Try.ha64 <|
  And.intro Try.ze64 <|
  And.intro Try.underlying65 <|
  And.intro Try.sz65 <|
  And.intro Try.by65 <|
  And.intro Try.ha65 <|
  And.intro Try.ze65 <|
  And.intro Try.underlying66 <|
  And.intro Try.sz66 <|
  And.intro Try.by66 <|
  And.intro Try.ha66 <|
  And.intro Try.ze66 <|
  And.intro Try.underlying67 <|
  And.intro Try.sz67 <|
  And.intro Try.by67 <|
  And.intro Try.ha67 <|
  And.intro Try.ze67 <|
  And.intro Try.ca3 <|
  And.intro Try.ca4 <|
  And.intro Try.ca5 <|
  And.intro Try.ca6 <|
  And.intro Try.ca7 <|
  And.intro Try.ca8 <|
  And.intro Try.ca9 <|
  And.intro Try.ca10 <|
  And.intro Try.ca11 <|
  And.intro Try.ca12 <|
  And.intro Try.ca13 <|
  And.intro Try.ca14 <|
  And.intro Try.ca15 <|
  And.intro Try.ca16 <|
  And.intro Try.ca17 <|
  And.intro Try.ca18 <|
  And.intro Try.ca19 <|
  And.intro Try.ca20 <|
  And.intro Try.ca21 <|
  And.intro Try.ca22 <|
  And.intro Try.ca23 <|
  And.intro Try.ca24 <|
  And.intro Try.ca25 <|
  And.intro Try.ca26 <|
  And.intro Try.ca27 <|
  And.intro Try.ca28 <|
  And.intro Try.ca29 <|
  And.intro Try.ca30 <|
  And.intro Try.ca31 <|
  And.intro Try.ca32 <|
  And.intro Try.ca33 <| Try.ca34
end Go.Proofs
