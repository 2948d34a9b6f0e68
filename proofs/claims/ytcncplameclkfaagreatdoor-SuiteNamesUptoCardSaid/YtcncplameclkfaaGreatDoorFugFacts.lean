/-
  Facts of the seat's program: sizes of types, functions that have bodies. By program.
  Conditions: none.
-/
import Derived.Test.YtcncplameclkfaaGreatDoorProg
import Derived.Test.YtcncplameclkfaaGreatDoorAbsG5
set_option linter.all false
namespace Go.Proofs.Tryz
open Go Go.Abs
theorem mixed:prog.follows .mixedOrders=true:=by kernel_rfl
theorem sz3:ai0 prog 3=1:=by kernel_rfl
theorem by3:ay prog 3=8:=by kernel_rfl
theorem ze3:aq prog 3=[.sc (.int .i64 0)]:=by kernel_rfl
theorem ha3:ax prog 3=true:=by kernel_rfl
theorem sz5:ai0 prog 5=1:=by kernel_rfl
theorem by5:ay prog 5=1:=by kernel_rfl
theorem ze5:aq prog 5=[.sc (.int .u8 0)]:=by kernel_rfl
theorem ha5:ax prog 5=true:=by kernel_rfl
theorem sz22:ai0 prog 22=1:=by kernel_rfl
theorem by22:ay prog 22=24:=by kernel_rfl
theorem ze22:aq prog 22=[.imm 0 [] 0]:=by kernel_rfl
theorem ha22:ax prog 22=true:=by kernel_rfl
theorem zn39:ap prog 39=[.sc (.slice none 0 0),.sc (.int .i64 0)]:=by kernel_rfl
theorem ha39:ax prog 39=true:=by kernel_rfl
theorem sz46:ai0 prog 46=16:=by kernel_rfl
theorem zn46:ap prog 46=[.sc (.int .i64 0),.sc (.int .i64 0),.sc (.int .i64 0),.sc (.int .i64 0),.sc (.int .i64 0),.sc (.int .i64 0),.sc (.int .i64 0),.sc (.int .i64 0),.sc (.int .i64 0),.sc (.int .i64 0),.sc (.int .i64 0),.sc (.int .i64 0),.sc (.int .i64 0),.sc (.int .i64 0),.sc (.int .i64 0),.sc (.int .i64 0)]:=by kernel_rfl
theorem ha46:ax prog 46=true:=by kernel_rfl
theorem sz48:ai0 prog 48=48:=by kernel_rfl
theorem zn48:ap prog 48=[.sc (.int .i64 0),.sc (.int .i64 0),.sc (.int .i64 0),.sc (.int .i64 0),.sc (.int .i64 0),.sc (.int .i64 0),.sc (.int .i64 0),.sc (.int .i64 0),.sc (.int .i64 0),.sc (.int .i64 0),.sc (.int .i64 0),.sc (.int .i64 0),.sc (.int .i64 0),.sc (.int .i64 0),.sc (.int .i64 0),.sc (.int .i64 0),.sc (.int .i64 0),.sc (.int .i64 0),.sc (.int .i64 0),.sc (.int .i64 0),.sc (.int .i64 0),.sc (.int .i64 0),.sc (.int .i64 0),.sc (.int .i64 0),.sc (.int .i64 0),.sc (.int .i64 0),.sc (.int .i64 0),.sc (.int .i64 0),.sc (.int .i64 0),.sc (.int .i64 0),.sc (.int .i64 0),.sc (.int .i64 0),.sc (.int .i64 0),.sc (.int .i64 0),.sc (.int .i64 0),.sc (.int .i64 0),.sc (.int .i64 0),.sc (.int .i64 0),.sc (.int .i64 0),.sc (.int .i64 0),.sc (.int .i64 0),.sc (.int .i64 0),.sc (.int .i64 0),.sc (.int .i64 0),.sc (.int .i64 0),.sc (.int .i64 0),.sc (.int .i64 0),.sc (.int .i64 0)]:=by kernel_rfl
theorem ha48:ax prog 48=true:=by kernel_rfl
theorem sz56:ai0 prog 56=1:=by kernel_rfl
theorem by56:ay prog 56=8:=by kernel_rfl
theorem ze56:aq prog 56=[.sc (.int .u64 0)]:=by kernel_rfl
theorem ha56:ax prog 56=true:=by kernel_rfl
theorem sz58:ai0 prog 58=4:=by kernel_rfl
theorem zn58:ap prog 58=[.sc (.int .u64 0),.sc (.int .u64 0),.sc (.int .u64 0),.sc (.int .u64 0)]:=by kernel_rfl
theorem ha58:ax prog 58=true:=by kernel_rfl
theorem sz60:ai0 prog 60=8:=by kernel_rfl
theorem zn60:ap prog 60=[.sc (.int .u64 0),.sc (.int .u64 0),.sc (.int .u64 0),.sc (.int .u64 0),.sc (.int .u64 0),.sc (.int .u64 0),.sc (.int .u64 0),.sc (.int .u64 0)]:=by kernel_rfl
theorem ha60:ax prog 60=true:=by kernel_rfl
theorem sz62:ai0 prog 62=1:=by kernel_rfl
theorem ha62:ax prog 62=true:=by kernel_rfl
theorem sz63:ai0 prog 63=1:=by kernel_rfl
theorem ha63:ax prog 63=true:=by kernel_rfl
theorem sz65:ai0 prog 65=2:=by kernel_rfl
theorem zn65:ap prog 65=[.sc (.slice none 0 0),.sc (.map none)]:=by kernel_rfl
theorem ha65:ax prog 65=true:=by kernel_rfl
theorem zn67:ap prog 67=[.sc (.slice none 0 0),.sc (.map none),.sc (.int .i64 0)]:=by kernel_rfl
theorem ha67:ax prog 67=true:=by kernel_rfl
theorem sz70:ai0 prog 70=32:=by kernel_rfl
theorem zn70:ap prog 70=[.sc (.int .u8 0),.sc (.int .u8 0),.sc (.int .u8 0),.sc (.int .u8 0),.sc (.int .u8 0),.sc (.int .u8 0),.sc (.int .u8 0),.sc (.int .u8 0),.sc (.int .u8 0),.sc (.int .u8 0),.sc (.int .u8 0),.sc (.int .u8 0),.sc (.int .u8 0),.sc (.int .u8 0),.sc (.int .u8 0),.sc (.int .u8 0),.sc (.int .u8 0),.sc (.int .u8 0),.sc (.int .u8 0),.sc (.int .u8 0),.sc (.int .u8 0),.sc (.int .u8 0),.sc (.int .u8 0),.sc (.int .u8 0),.sc (.int .u8 0),.sc (.int .u8 0),.sc (.int .u8 0),.sc (.int .u8 0),.sc (.int .u8 0),.sc (.int .u8 0),.sc (.int .u8 0),.sc (.int .u8 0)]:=by kernel_rfl
theorem ha70:ax prog 70=true:=by kernel_rfl
theorem sz86:ai0 prog 86=4:=by kernel_rfl
theorem zn86:ap prog 86=[.sc (.int .u64 0),.sc (.int .u64 0),.sc (.int .u64 0),.sc (.int .u64 0)]:=by kernel_rfl
theorem ha86:ax prog 86=true:=by kernel_rfl
theorem sz108:ai0 prog 108=1:=by kernel_rfl
theorem ha108:ax prog 108=true:=by kernel_rfl
theorem sz110:ai0 prog 110=2:=by kernel_rfl
theorem by110:ay prog 110=32:=by kernel_rfl
theorem ze110:aq prog 110=[.sc (.int .u8 0),.imm 0 [] 0]:=by kernel_rfl
theorem zn110:ap prog 110=[.sc (.int .u8 0),.sc (.slice none 0 0)]:=by kernel_rfl
theorem ha110:ax prog 110=true:=by kernel_rfl
theorem sz116:ai0 prog 116=8:=by kernel_rfl
theorem zn116:ap prog 116=[.sc (.int .u64 0),.sc (.int .u64 0),.sc (.int .u64 0),.sc (.int .u64 0),.sc (.int .u64 0),.sc (.int .u64 0),.sc (.int .u64 0),.sc (.int .u64 0)]:=by kernel_rfl
theorem ha116:ax prog 116=true:=by kernel_rfl
theorem zn126:ap prog 126=[.sc (.int .i64 0),.sc (.int .i64 0),.sc (.int .i64 0),.sc (.int .i64 0),.sc (.int .i64 0),.sc (.int .i64 0),.sc (.int .i64 0),.sc (.int .i64 0),.sc (.int .i64 0),.sc (.int .i64 0),.sc (.int .i64 0),.sc (.int .i64 0),.sc (.int .i64 0),.sc (.int .i64 0),.sc (.int .i64 0),.sc (.int .i64 0),.sc (.int .i64 0),.sc (.int .i64 0),.sc (.int .i64 0),.sc (.int .i64 0),.sc (.int .i64 0),.sc (.int .i64 0),.sc (.int .i64 0),.sc (.int .i64 0),.sc (.int .i64 0),.sc (.int .i64 0),.sc (.int .i64 0),.sc (.int .i64 0),.sc (.int .i64 0),.sc (.int .i64 0),.sc (.int .i64 0)]:=by kernel_rfl
theorem ha126:ax prog 126=true:=by kernel_rfl
theorem sz136:ai0 prog 136=8:=by kernel_rfl
theorem zn136:ap prog 136=[.sc (.int .u64 0),.sc (.int .u64 0),.sc (.int .u64 0),.sc (.int .u64 0),.sc (.int .u64 0),.sc (.int .u64 0),.sc (.int .u64 0),.sc (.int .u64 0)]:=by kernel_rfl
theorem ha136:ax prog 136=true:=by kernel_rfl
theorem sz144:ai0 prog 144=16:=by kernel_rfl
theorem zn144:ap prog 144=[.sc (.int .u64 0),.sc (.int .u64 0),.sc (.int .u64 0),.sc (.int .u64 0),.sc (.int .u64 0),.sc (.int .u64 0),.sc (.int .u64 0),.sc (.int .u64 0),.sc (.int .u64 0),.sc (.int .u64 0),.sc (.int .u64 0),.sc (.int .u64 0),.sc (.int .u64 0),.sc (.int .u64 0),.sc (.int .u64 0),.sc (.int .u64 0)]:=by kernel_rfl
theorem ha144:ax prog 144=true:=by kernel_rfl
theorem sz150:ai0 prog 150=3:=by kernel_rfl
theorem zn150:ap prog 150=[.sc (.int .i64 0),.sc (.int .i64 0),.sc (.int .i64 0)]:=by kernel_rfl
theorem ha150:ax prog 150=true:=by kernel_rfl
theorem sz151:ai0 prog 151=1:=by kernel_rfl
theorem ha151:ax prog 151=true:=by kernel_rfl
theorem sz153:ai0 prog 153=16:=by kernel_rfl
theorem zn153:ap prog 153=[.sc (.int .i64 0),.sc (.int .i64 0),.sc (.int .i64 0),.sc (.int .i64 0),.sc (.int .i64 0),.sc (.int .i64 0),.sc (.int .i64 0),.sc (.int .i64 0),.sc (.int .i64 0),.sc (.int .i64 0),.sc (.int .i64 0),.sc (.int .i64 0),.sc (.int .i64 0),.sc (.int .i64 0),.sc (.slice none 0 0),.sc (.slice none 0 0)]:=by kernel_rfl
theorem ha153:ax prog 153=true:=by kernel_rfl
theorem sz161:ai0 prog 161=14:=by kernel_rfl
theorem ha161:ax prog 161=true:=by kernel_rfl
theorem zn168:ap prog 168=[.sc (.int .u64 0),.sc (.int .u64 0),.sc (.int .u64 0),.sc (.int .u64 0),.sc (.int .u64 0),.sc (.int .u64 0),.sc (.int .u64 0),.sc (.int .u64 0),.sc (.int .u64 0),.sc (.int .u64 0),.sc (.int .u64 0),.sc (.int .u64 0),.sc (.int .u64 0),.sc (.int .u64 0),.sc (.int .u64 0),.sc (.int .u64 0)]:=by kernel_rfl
theorem ha168:ax prog 168=true:=by kernel_rfl
theorem eq58(a1 b1:Int)(a2 b2:Int)(a3 b3:Int)(a4 b4:Int):eqG prog 6 58 (.agg [.sc (.int .u64 a1),.sc (.int .u64 a2),.sc (.int .u64 a3),.sc (.int .u64 a4)]) (.agg [.sc (.int .u64 b1),.sc (.int .u64 b2),.sc (.int .u64 b3),.sc (.int .u64 b4)])=some ((a1 == b1)&&((a2 == b2)&&((a3 == b3)&&((a4 == b4)&&true)))):=by kernel_rfl
theorem ck58(x0 x1 x2 x3:AV):cl0 prog 6 58 (.agg [x0,x1,x2,x3])=true:=by kernel_rfl
theorem eq60(a1 b1:Int)(a2 b2:Int)(a3 b3:Int)(a4 b4:Int)(a5 b5:Int)(a6 b6:Int)(a7 b7:Int)(a8 b8:Int):eqG prog 6 60 (.agg [.sc (.int .u64 a1),.sc (.int .u64 a2),.sc (.int .u64 a3),.sc (.int .u64 a4),.sc (.int .u64 a5),.sc (.int .u64 a6),.sc (.int .u64 a7),.sc (.int .u64 a8)]) (.agg [.sc (.int .u64 b1),.sc (.int .u64 b2),.sc (.int .u64 b3),.sc (.int .u64 b4),.sc (.int .u64 b5),.sc (.int .u64 b6),.sc (.int .u64 b7),.sc (.int .u64 b8)])=some (((a1 == b1)&&((a2 == b2)&&((a3 == b3)&&((a4 == b4)&&true))))&&(((a5 == b5)&&((a6 == b6)&&((a7 == b7)&&((a8 == b8)&&true))))&&true)):=by kernel_rfl
theorem ck60(x0 x1 x2 x3 x4 x5 x6 x7:AV):cl0 prog 6 60 (.agg [x0,x1,x2,x3,x4,x5,x6,x7])=true:=by kernel_rfl
theorem zv3:ar prog 3=.sc (.int .i64 0):=by kernel_rfl
theorem eo4:bB0 prog 4=true:=by kernel_rfl
theorem eo24:bB0 prog 24=true:=by kernel_rfl
theorem eo34:bB0 prog 34=true:=by kernel_rfl
theorem eo62:bB0 prog 62=true:=by kernel_rfl
theorem strTy:strTy prog=some 9:=by kernel_rfl
theorem z8_5:bk prog 5=.int .u8 0:=by kernel_rfl
set_option maxRecDepth 100000 in
def facts:=And.intro underlying3<|
 And.intro sz3<|
 And.intro by3<|
 And.intro ha3<|
 And.intro ze3<|
 And.intro zv3<|
 And.intro underlying4<|
 And.intro eo4<|
 And.intro underlying5<|
 And.intro z8_5<|
 And.intro sz5<|
 And.intro by5<|
 And.intro ha5<|
 And.intro ze5<|
 And.intro underlying9<|
 And.intro underlying22<|
 And.intro sz22<|
 And.intro by22<|
 And.intro ha22<|
 And.intro ze22<|
 And.intro underlying24<|
 And.intro eo24<|
 And.intro underlying34<|
 And.intro eo34<|
 And.intro underlying39<|
 And.intro ha39<|
 And.intro zn39<|
 And.intro underlying40<|
 And.intro underlying46<|
 And.intro sz46<|
 And.intro ha46<|
 And.intro zn46<|
 And.intro underlying48<|
 And.intro sz48<|
 And.intro ha48<|
 And.intro zn48<|
 And.intro underlying56<|
 And.intro sz56<|
 And.intro by56<|
 And.intro ha56<|
 And.intro ze56<|
 And.intro underlying58<|
 And.intro sz58<|
 And.intro ha58<|
 And.intro zn58<|
 And.intro underlying60<|
 And.intro sz60<|
 And.intro ha60<|
 And.intro zn60<|
 And.intro underlying62<|
 And.intro sz62<|
 And.intro ha62<|
 And.intro eo62<|
 And.intro underlying63<|
 And.intro sz63<|
 And.intro ha63<|
 And.intro underlying65<|
 And.intro sz65<|
 And.intro ha65<|
 And.intro zn65<|
 And.intro underlying67<|
 And.intro ha67<|
 And.intro zn67<|
 And.intro underlying70<|
 And.intro sz70<|
 And.intro ha70<|
 And.intro zn70<|
 And.intro underlying86<|
 And.intro sz86<|
 And.intro ha86<|
 And.intro zn86<|
 And.intro underlying108<|
 And.intro sz108<|
 And.intro ha108<|
 And.intro underlying110<|
 And.intro sz110<|
 And.intro by110<|
 And.intro ha110<|
 And.intro ze110<|
 And.intro zn110<|
 And.intro underlying116<|
 And.intro sz116<|
 And.intro ha116<|
 And.intro zn116<|
 And.intro underlying126<|
 And.intro ha126<|
 And.intro zn126<|
 And.intro underlying136<|
 And.intro sz136<|
 And.intro ha136<|
 And.intro zn136<|
 And.intro underlying144<|
 And.intro sz144<|
 And.intro ha144<|
 And.intro zn144<|
 And.intro underlying150<|
 And.intro sz150<|
 And.intro ha150<|
 And.intro zn150<|
 And.intro underlying151<|
 And.intro sz151<|
 And.intro ha151<|
 And.intro underlying153<|
 And.intro sz153<|
 And.intro ha153<|
 And.intro zn153<|
 And.intro underlying161<|
 And.intro sz161<|
 And.intro ha161<|
 And.intro underlying168<|
 And.intro ha168<|
 And.intro zn168<|
 And.intro underlying175<|
  strTy
end Go.Proofs.Tryz
namespace Go.Proofs
open Go Go.Abs
def kX:=And.intro aI zP
def kW:=And.intro aD<|And.intro zD Tryz.facts
end Go.Proofs
