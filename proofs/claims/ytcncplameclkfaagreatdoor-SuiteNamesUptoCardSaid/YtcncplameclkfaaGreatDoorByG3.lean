/-
  Several texts in one: each says what it proves.
  Conditions: none. Lemmas only.
-/
import Derived.Test.YtcncplameclkfaaGreatDoorByG2
import Derived.Test.YtcncplameclkfaaGreatDoorBxG1
set_option linter.all false
section
set_option maxRecDepth 20000
set_option maxHeartbeats 4000000
namespace Go.Proofs.YtcncplameclkfaaGreatDoor
open Go Go.Abs Go.Proofs Go.Box
theorem bin_andNot{P:Program}{t:TypeId}{k:IntKind}{a b:Int}{K:AV→Prop}:bY P .andNot t (.sc (.int k a)) (.sc (.int k b)) K=K (.sc (.int k (bits .andNot k a b))):=by simp[bY,binI,Req]
theorem bits_andNot64{a b:Nat}(ha:a<18446744073709551616)(hb:b<18446744073709551616):bits .andNot .u64 (a:Int) (b:Int)=((a &&& (18446744073709551615-b):Nat):Int):=by
 have e:=mJ (a:=a) (b:=18446744073709551615-b) ha (by omega)
 rw[←e]
 show IntKind.u64.wrap ((BitVec.ofInt 64 (a:Int) &&& ~~~ (BitVec.ofInt 64 (b:Int))).toNat:Int)=IntKind.u64.wrap ((BitVec.ofInt 64 (a:Int) &&& BitVec.ofInt 64 ((18446744073709551615-b:Nat):Int)).toNat:Int)
 congr 4
 apply BitVec.eq_of_toNat_eq
 rw[BitVec.toNat_not,BitVec.ofInt_natCast,BitVec.ofInt_natCast,BitVec.toNat_ofNat,BitVec.toNat_ofNat,Nat.mod_eq_of_lt (lt64 hb),Nat.mod_eq_of_lt (show 18446744073709551615-b<2^64 by omega)]
theorem wsub64{a b:Nat}(hb:b<18446744073709551616):IntKind.u64.wrap ((a:Int)-(b:Int))=(((a+18446744073709551616-b) % 18446744073709551616:Nat):Int):=by
 rw[IntKind.wrap_u64]
 omega
theorem frz3{H:AH}{k1 k2 k3:Nat}{a b:AObj}(h1:H k1=none)(h2:(H.set k1 a) k2=none)(h3:((H.set k1 a).set k2 b) k3=none):
    (∀c,(((H.set k1 a).set k2 b).set k3 c) k2=some b)∧(∀c,(((H.set k1 a).set k2 b).set k3 c).kill k2=(H.set k1 a).set k3 c)∧(∀c,((H.set k1 a).set k3 c) k1=some a)∧(∀c,((H.set k1 a).set k3 c).kill k1=H.set k3 c)∧¬k1=k3∧H k3=none:=by
 have n12:¬k1=k2:=bK0 h2
 have n23:¬k2=k3:=bK0 h3
 have h3':=am h3
 have n13:¬k1=k3:=bK0 h3'
 refine⟨fun c=>?_,fun c=>mD n23 h2,fun c=>?_,fun c=>mD n13 h1,n13,am h3'⟩
 ·first
   |(rw[aP n23];exact set_get)
   |(rw[aP (fun e=>n23 e.symm)];exact set_get)
 ·first
   |(rw[aP n13];exact set_get)
   |(rw[aP (fun e=>n13 e.symm)];exact set_get)
theorem qN(a b:Nat)(ha:a<18446744073709551616^4)(hb:b<18446744073709551616^4):APure Tryz.prog 111 [.agg (lH (kZ 4 a)),.agg (lH (kZ 4 b))] (.tup [.agg (lH (kZ 4 (a+b))),.sc (.int .u64 ((a+b)/18446744073709551616^4:Nat))]):=by
 have hal:(lH (kZ 4 a)).length=4:=by rw[lV,lL]
 have hbl:(lH (kZ 4 b)).length=4:=by rw[lV,lL]
 have hat:(lH (kZ 4 a)).take 4=lH (kZ 4 a):=List.take_of_length_le (by omega)
 have hbt:(lH (kZ 4 b)).take 4=lH (kZ 4 b):=List.take_of_length_le (by omega)
 have ga:=fun i (h:i<4)=>mf (l:=kZ 4 a) (i:=i) (by rw[lL];exact h)
 have gb:=fun i (h:i<4)=>mf (l:=kZ 4 b) (i:=i) (by rw[lL];exact h)
 have wa:=fun i h=>mT 4 a i h
 have wb:=fun i h=>mT 4 b i h
 have hst:=fun i=>carW_step a b i
 have hce:=carW_end ha hb
 have hc0:=carW_zero a b
 have hcl:=fun i=>carW_le a b i
 have p0:lH (qZ 4 (a+b) 0)=[.sc (.int .u64 0),.sc (.int .u64 0),.sc (.int .u64 0),.sc (.int .u64 0)]:=rfl
 have pe:=partW_end 4 (a+b)
 have pl:=pY 4 (a+b)
 have ps:=fun i h=>partW_set 4 (a+b) (i:=i) h
 rw[←hce,←pe]
 generalize qZ 4 (a+b)=F at *
 generalize kZ 4 a=A at *
 generalize kZ 4 b=B at *
 generalize carW a b=C at *
 refine az (c:=⟨Tryz.prog,46,[(6,[0,0,1,0,0,1,0,0,0,0]),(7,[0,0,1,0,0,1,0,0,0,1,0,0,1,0,0,0,0,0,0]),(1000000,[3,2])],[],[]⟩) (rs:=[ResultVar.cell 4 58,ResultVar.tmp 5]) Tryz.mixed Tryz.func111 rfl rfl rfl (Nat.le_of_ble_eq_true rfl) (by kernel_rfl) fun H=>?_
 simp(disch:=omega)only[↓kX,kW,aS,simprocAttr,hal,hbl,hat,hbt]
 intro k1 hk10 hk1 k2 hk20 hk2 k3 hk30 hk3
 obtain⟨q1,q2,q3,q4,n13,hk3'⟩:=frz3 hk1 hk2 hk3
 simp(disch:=omega)only[↓kX,kW,aS,simprocAttr,q1,q2,q3,q4,hal,hbl,hat,hbt]
 intro k4 hk40 hk4
 have n34:=bK0 hk4
 have hk4':=am hk4
 have v3:∀Y,((H.set k3 (.cells [.sc (.int .u64 0),.sc (.int .u64 0),.sc (.int .u64 0),.sc (.int .u64 0)] 58 4)).set k4 Y) k3=some (.cells [.sc (.int .u64 0),.sc (.int .u64 0),.sc (.int .u64 0),.sc (.int .u64 0)] 58 4):=fun Y=>by
  first
   |(rw[aP n34];exact set_get)
   |(rw[aP (fun e=>n34 e.symm)];exact set_get)
 refine br (c:=⟨Tryz.prog,46,[(6,[0,0,1,0,0,1,0,0,0,0]),(7,[0,0,1,0,0,1,0,0,0,1,0,0,1,0,0,0,0,0,0]),(1000000,[3,2])],[],[]⟩) Tryz.mixed (by kernel_rfl) (fun m σ H'=>∃i,i+m=4∧σ 2=.ip (lH A) 0∧σ 3=.ip (lH B) 0∧σ 4=.ptr k3 0∧σ 6=.ptr k4 0∧σ 7=.sc (.int .u64 (C i:Nat))∧σ 10=.sc (.int .i64 (i:Nat))∧H'=(H.set k3 (.cells [.sc (.int .u64 0),.sc (.int .u64 0),.sc (.int .u64 0),.sc (.int .u64 0)] 58 4)).set k4 (.cells (lH (F i)) 58 4)) 4 ?_ ?_
 ·refine⟨0,by omega,?_⟩
  rw[p0,hc0]
  simp(disch:=omega)only[↓kX,kW,aS,simprocAttr]
  first|rfl|exact⟨rfl,rfl⟩|trace_state
 ·rintro m σ H' ⟨i,hi,g2,g3,g4,g6,g7,g10,rfl⟩
  have hl:=pl i
  have hfl:(lH (F i)).length=4:=by rw[lV,hl]
  by_cases hlt:i<4
  ·have hb2:decide ((i:Int)<4)=true:=dT (by omega)
   have xa:=ga i hlt
   have xb:=gb i hlt
   rw[wa i hlt]at xa
   rw[wb i hlt]at xb
   have hput:=oL (l:=F i) (i:=i) (x:=(a+b)/18446744073709551616^i % 18446744073709551616) (by omega)
   rw[ps i hlt]at hput
   obtain⟨s1,s2⟩:=hst i
   have ma:a/18446744073709551616^i % 18446744073709551616<18446744073709551616:=Nat.mod_lt _ (by decide)
   have mb:b/18446744073709551616^i % 18446744073709551616<18446744073709551616:=Nat.mod_lt _ (by decide)
   have ms:(a+b)/18446744073709551616^i % 18446744073709551616<18446744073709551616:=Nat.mod_lt _ (by decide)
   have hc1:=hcl i
   generalize a/18446744073709551616^i % 18446744073709551616=ya at *
   generalize b/18446744073709551616^i % 18446744073709551616=yb at *
   generalize (a+b)/18446744073709551616^i % 18446744073709551616=ys at *
   generalize hC':C (i+1)=c' at *
   generalize C i=c at *
   have w1:IntKind.u64.wrap ((ya:Int)+(yb:Int))=(((ya+yb) % 18446744073709551616:Nat):Int):=mn
   have w2:IntKind.u64.wrap ((((ya+yb) % 18446744073709551616:Nat):Int)+(c:Int))=(ys:Int):=by
    rw[mn]
    congr 1
    omega
   have o1:=mJ ma mb
   have o2:=ou ma mb
   have l1:ya &&& yb<18446744073709551616:=Nat.lt_of_le_of_lt Nat.and_le_left ma
   have l2:ya ||| yb<18446744073709551616:=Nat.or_lt_two_pow (n:=64) ma mb
   have o3:=bits_andNot64 l2 ms
   have l3:(ya ||| yb) &&& (18446744073709551615-ys)<18446744073709551616:=Nat.lt_of_le_of_lt Nat.and_le_left l2
   have o4:=ou l1 l3
   unfold carM at s2
   generalize ya &&& yb=z1 at *
   generalize (ya ||| yb) &&& (18446744073709551615-ys)=z3 at *
   generalize ya ||| yb=z2 at *
   have hmin:min 63 64=63:=rfl
   have o5:((z1 ||| z3:Nat):Int).fdiv 9223372036854775808=(c':Int):=by rw[show(9223372036854775808:Int)=2^63 by decide,shrN,s2]
   generalize hF':F (i+1)=F' at *
   simp(disch:=omega)only[↓kX,kW,aS,simprocAttr,g2,g3,g4,g6,g7,g10,hb2,xa,xb,hal,hbl,w1,w2,bin_andNot,o1,o2,o3,o4,mS,hmin,o5,set_get,set_set,hfl,hput]
   exact⟨m-1,by omega,i+1,by omega,by rw[hC'],rfl,by rw[hF']⟩
  ·obtain rfl:i=4:=by omega
   have hb2:decide (((4:Nat):Int)<4)=false:=by decide
   have htk:(lH (F 4)).take 4=lH (F 4):=List.take_of_length_le (by omega)
   simp(disch:=omega)only[↓kX,kW,aS,simprocAttr,g2,g3,g4,g6,g7,g10,hb2,set_get,hfl,htk,v3,ah]
   refine⟨by rw[kY],?_⟩
   exact((Sub.set_new hk3').set_free hk4').set_free hk3'
theorem qp(a b:Nat)(ha:a<18446744073709551616^4)(hb:b<18446744073709551616^4):APure Tryz.prog 117 [.agg (lH (kZ 4 a)),.agg (lH (kZ 4 b))] (.tup [.agg (lH (kZ 4 (a+18446744073709551616^4-b))),.sc (.int .u64 (if a<b then 1 else 0:Nat))]):=by
 have hal:(lH (kZ 4 a)).length=4:=by rw[lV,lL]
 have hbl:(lH (kZ 4 b)).length=4:=by rw[lV,lL]
 have hat:(lH (kZ 4 a)).take 4=lH (kZ 4 a):=List.take_of_length_le (by omega)
 have hbt:(lH (kZ 4 b)).take 4=lH (kZ 4 b):=List.take_of_length_le (by omega)
 have ga:=fun i (h:i<4)=>mf (l:=kZ 4 a) (i:=i) (by rw[lL];exact h)
 have gb:=fun i (h:i<4)=>mf (l:=kZ 4 b) (i:=i) (by rw[lL];exact h)
 have wa:=fun i h=>mT 4 a i h
 have wb:=fun i h=>mT 4 b i h
 have hst:=fun i h=>borW_step a b 4 i h hb
 have hce:=borW_end ha hb
 have hc0:=borW_zero a b
 have hcl:=fun i=>borW_le a b i
 have p0:lH (qZ 4 (a+18446744073709551616^4-b) 0)=[.sc (.int .u64 0),.sc (.int .u64 0),.sc (.int .u64 0),.sc (.int .u64 0)]:=rfl
 have pe:=partW_end 4 (a+18446744073709551616^4-b)
 have pl:=pY 4 (a+18446744073709551616^4-b)
 have ps:=fun i h=>partW_set 4 (a+18446744073709551616^4-b) (i:=i) h
 rw[←hce,←pe]
 generalize qZ 4 (a+18446744073709551616^4-b)=F at *
 generalize kZ 4 a=A at *
 generalize kZ 4 b=B at *
 generalize borW a b=C at *
 refine az (c:=⟨Tryz.prog,48,[(6,[0,0,1,0,0,1,0,0,0,0]),(7,[0,0,1,0,0,0,1,0,0,0,1,0,0,1,0,0,0,0,0,0,0]),(1000000,[3,2])],[],[]⟩) (rs:=[ResultVar.cell 4 58,ResultVar.tmp 5]) Tryz.mixed Tryz.func117 rfl rfl rfl (Nat.le_of_ble_eq_true rfl) (by kernel_rfl) fun H=>?_
 simp(disch:=omega)only[↓kX,kW,aS,simprocAttr,hal,hbl,hat,hbt]
 intro k1 hk10 hk1 k2 hk20 hk2 k3 hk30 hk3
 obtain⟨q1,q2,q3,q4,n13,hk3'⟩:=frz3 hk1 hk2 hk3
 simp(disch:=omega)only[↓kX,kW,aS,simprocAttr,q1,q2,q3,q4,hal,hbl,hat,hbt]
 intro k4 hk40 hk4
 have n34:=bK0 hk4
 have hk4':=am hk4
 have v3:∀Y,((H.set k3 (.cells [.sc (.int .u64 0),.sc (.int .u64 0),.sc (.int .u64 0),.sc (.int .u64 0)] 58 4)).set k4 Y) k3=some (.cells [.sc (.int .u64 0),.sc (.int .u64 0),.sc (.int .u64 0),.sc (.int .u64 0)] 58 4):=fun Y=>by
  first
   |(rw[aP n34];exact set_get)
   |(rw[aP (fun e=>n34 e.symm)];exact set_get)
 refine br (c:=⟨Tryz.prog,48,[(6,[0,0,1,0,0,1,0,0,0,0]),(7,[0,0,1,0,0,0,1,0,0,0,1,0,0,1,0,0,0,0,0,0,0]),(1000000,[3,2])],[],[]⟩) Tryz.mixed (by kernel_rfl) (fun m σ H'=>∃i,i+m=4∧σ 2=.ip (lH A) 0∧σ 3=.ip (lH B) 0∧σ 4=.ptr k3 0∧σ 6=.ptr k4 0∧σ 7=.sc (.int .u64 (C i:Nat))∧σ 10=.sc (.int .i64 (i:Nat))∧H'=(H.set k3 (.cells [.sc (.int .u64 0),.sc (.int .u64 0),.sc (.int .u64 0),.sc (.int .u64 0)] 58 4)).set k4 (.cells (lH (F i)) 58 4)) 4 ?_ ?_
 ·refine⟨0,by omega,?_⟩
  rw[p0,hc0]
  simp(disch:=omega)only[↓kX,kW,aS,simprocAttr]
  first|rfl|exact⟨rfl,rfl⟩|trace_state
 ·rintro m σ H' ⟨i,hi,g2,g3,g4,g6,g7,g10,rfl⟩
  have hl:=pl i
  have hfl:(lH (F i)).length=4:=by rw[lV,hl]
  by_cases hlt:i<4
  ·have hb2:decide ((i:Int)<4)=true:=dT (by omega)
   have xa:=ga i hlt
   have xb:=gb i hlt
   rw[wa i hlt]at xa
   rw[wb i hlt]at xb
   have hput:=oL (l:=F i) (i:=i) (x:=(a+18446744073709551616^4-b)/18446744073709551616^i % 18446744073709551616) (by omega)
   rw[ps i hlt]at hput
   obtain⟨s1,s2⟩:=hst i hlt
   have ma:a/18446744073709551616^i % 18446744073709551616<18446744073709551616:=Nat.mod_lt _ (by decide)
   have mb:b/18446744073709551616^i % 18446744073709551616<18446744073709551616:=Nat.mod_lt _ (by decide)
   have ms:(a+18446744073709551616^4-b)/18446744073709551616^i % 18446744073709551616<18446744073709551616:=Nat.mod_lt _ (by decide)
   have hc1:=hcl i
   generalize a/18446744073709551616^i % 18446744073709551616=ya at *
   generalize b/18446744073709551616^i % 18446744073709551616=yb at *
   generalize (a+18446744073709551616^4-b)/18446744073709551616^i % 18446744073709551616=ys at *
   generalize hC':C (i+1)=c' at *
   generalize C i=c at *
   have w1:IntKind.u64.wrap ((ya:Int)-(yb:Int))=(((ya+18446744073709551616-yb) % 18446744073709551616:Nat):Int):=wsub64 mb
   have w2:IntKind.u64.wrap ((((ya+18446744073709551616-yb) % 18446744073709551616:Nat):Int)-(c:Int))=(ys:Int):=by
    rw[wsub64 (by omega)]
    congr 1
    omega
   have na:18446744073709551615-ya<18446744073709551616:=by omega
   have n1:=not64 ma
   have o1:=mJ na mb
   have o2:=mK ma mb
   have l1:(18446744073709551615-ya) &&& yb<18446744073709551616:=Nat.lt_of_le_of_lt Nat.and_le_left na
   have l2:ya ^^^ yb<18446744073709551616:=Nat.xor_lt_two_pow (n:=64) ma mb
   have n2:=not64 l2
   have nb:18446744073709551615-(ya ^^^ yb)<18446744073709551616:=by omega
   have o3:=mJ nb ms
   have l3:(18446744073709551615-(ya ^^^ yb)) &&& ys<18446744073709551616:=Nat.lt_of_le_of_lt Nat.and_le_left nb
   have o4:=ou l1 l3
   unfold borM at s2
   generalize (18446744073709551615-ya) &&& yb=z1 at *
   generalize (18446744073709551615-(ya ^^^ yb)) &&& ys=z3 at *
   generalize ya ^^^ yb=z2 at *
   have hmin:min 63 64=63:=rfl
   have o5:((z1 ||| z3:Nat):Int).fdiv 9223372036854775808=(c':Int):=by rw[show(9223372036854775808:Int)=2^63 by decide,shrN,s2]
   generalize hF':F (i+1)=F' at *
   simp(disch:=omega)only[↓kX,kW,aS,simprocAttr,g2,g3,g4,g6,g7,g10,hb2,xa,xb,hal,hbl,w1,w2,n1,n2,o1,o2,o3,o4,mS,hmin,o5,set_get,set_set,hfl,hput]
   exact⟨m-1,by omega,i+1,by omega,by rw[hC'],rfl,by rw[hF']⟩
  ·obtain rfl:i=4:=by omega
   have hb2:decide (((4:Nat):Int)<4)=false:=by decide
   have htk:(lH (F 4)).take 4=lH (F 4):=List.take_of_length_le (by omega)
   simp(disch:=omega)only[↓kX,kW,aS,simprocAttr,g2,g3,g4,g6,g7,g10,hb2,set_get,hfl,htk,v3,ah]
   refine⟨by rw[kY],?_⟩
   exact((Sub.set_new hk3').set_free hk4').set_free hk3'
theorem nQ(bit a b:Nat)(hbit:bit≤1):APure Tryz.prog 124 [.sc (.int .u64 bit),.agg (lH (kZ 4 a)),.agg (lH (kZ 4 b))] (.agg (lH (kZ 4 (if bit=0 then a else b)))):=by
 have hal:(lH (kZ 4 a)).length=4:=by rw[lV,lL]
 have hbl:(lH (kZ 4 b)).length=4:=by rw[lV,lL]
 have hat:(lH (kZ 4 a)).take 4=lH (kZ 4 a):=List.take_of_length_le (by omega)
 have hbt:(lH (kZ 4 b)).take 4=lH (kZ 4 b):=List.take_of_length_le (by omega)
 have gb:=fun i (h:i<4)=>mf (l:=kZ 4 b) (i:=i) (by rw[lL];exact h)
 have mA:=fun i=>wget 4 a i
 have mB:=fun i=>wget 4 b i
 have hR:kZ 4 (if bit=0 then a else b)=(if bit=0 then kZ 4 a else kZ 4 b):=by split<;>rfl
 rw[hR]
 have lA:=lL 4 a
 have lB:=lL 4 b
 generalize kZ 4 a=A at *
 generalize kZ 4 b=B at *
 have f0:=pickF_zero (a:=A) (if bit=0 then A else B) lA
 have fe:=pickF_end A (b:=if bit=0 then A else B) (by split<;>assumption)
 have fl:=rQ A (if bit=0 then A else B)
 have fg:=fun i h=>pickF_get A (if bit=0 then A else B) (i:=i) h
 have fs:=fun i h=>pickF_set A (if bit=0 then A else B) (i:=i) h
 rw[←fe]
 obtain⟨mk,hmk⟩:∃mk:Nat,mk=if bit=0 then 0 else 18446744073709551615:=⟨_,rfl⟩
 have hpick:∀i,(A.getD i 0) ^^^ (mk &&& ((A.getD i 0) ^^^ (B.getD i 0)))=(if bit=0 then A else B).getD i 0:=fun i=>by
  rw[hmk]
  split
  ·rw[Nat.zero_and,Nat.xor_zero]
  ·exact pick_one (mA i) (mB i)
 have hneg:IntKind.u64.wrap (0-(bit:Int))=(mk:Int):=by
  rw[hmk]
  have:bit=0∨bit=1:=by omega
  rcases this with rfl|rfl<;>decide
 have hor:bits .or .u64 (bit:Int) (mk:Int)=(mk:Int):=by
  rw[hmk]
  have:bit=0∨bit=1:=by omega
  rcases this with rfl|rfl<;>decide
 have hshr:((mk:Nat):Int).fdiv 9223372036854775808=(bit:Int):=by
  rw[hmk]
  have:bit=0∨bit=1:=by omega
  rcases this with rfl|rfl<;>decide
 have hml:mk<18446744073709551616:=by rw[hmk];split<;>decide
 clear hmk fe
 generalize hP:(if bit=0 then A else B)=P at *
 generalize rS A P=F at *
 refine az (c:=⟨Tryz.prog,34,[(5,[0,0,1,0,0,0,1,0,0,1,0,0,0,0,2]),(1000000,[5])],[],[]⟩) (rs:=[ResultVar.cell 6 58]) Tryz.mixed Tryz.func124 rfl rfl rfl (Nat.le_of_ble_eq_true rfl) (by kernel_rfl) fun H=>?_
 simp(disch:=omega)only[↓kX,kW,aS,simprocAttr,hal,hbl,hat,hbt]
 intro k1 hk10 hk1 k2 hk20 hk2 k3 hk30 hk3
 obtain⟨q1,q2,q3,q4,n13,hk3'⟩:=frz3 hk1 hk2 hk3
 have hmin:min 63 64=63:=rfl
 simp(disch:=omega)only[↓kX,kW,aS,simprocAttr,q1,q2,hal,hbl,hat,hbt,hneg,hor,mS,hmin,hshr]
 have v1:∀X Z,((H.set k1 X).set k3 Z) k1=some X:=fun X Z=>by
  first
   |(rw[aP n13];exact set_get)
   |(rw[aP (fun e=>n13 e.symm)];exact set_get)
 obtain⟨Z,hZ⟩:∃Z:AObj,Z=.cells [.sc (.int .u64 0),.sc (.int .u64 0),.sc (.int .u64 0),.sc (.int .u64 0)] 58 4:=⟨_,rfl⟩
 rw[←hZ]
 refine br (c:=⟨Tryz.prog,34,[(5,[0,0,1,0,0,0,1,0,0,1,0,0,0,0,2]),(1000000,[5])],[],[]⟩) Tryz.mixed (by kernel_rfl) (fun m σ H'=>∃i,i+m=4∧σ 4=.ptr k1 0∧σ 5=.ip (lH B) 0∧σ 6=.ptr k3 0∧σ 7=.sc (.int .u64 mk)∧σ 15=.sc (.int .i64 (i:Nat))∧H'=(H.set k1 (.cells (lH (F i)) 58 4)).set k3 Z) 4 ?_ ?_
 ·refine⟨0,by omega,?_⟩
  rw[f0]
  simp(disch:=omega)only[↓kX,kW,aS,simprocAttr]
  first|rfl|exact⟨rfl,rfl⟩|trace_state
 ·rintro m σ H' ⟨i,hi,g4,g5,g6,g7,g15,rfl⟩
  have hl:=fl i
  have hfl:(lH (F i)).length=4:=by rw[lV,hl]
  by_cases hlt:i<4
  ·have hb2:decide ((i:Int)<4)=true:=dT (by omega)
   have xa:=mf (l:=F i) (i:=i) (by omega)
   rw[fg i hlt]at xa
   have xb:=gb i hlt
   have hput:=oL (l:=F i) (i:=i) (x:=P.getD i 0) (by omega)
   rw[fs i hlt]at hput
   have hpi:=hpick i
   have m1:=mA i
   have m2:=mB i
   generalize P.getD i 0=z at *
   generalize A.getD i 0=x at *
   generalize B.getD i 0=y at *
   have o1:=mK m1 m2
   have l1:x ^^^ y<18446744073709551616:=Nat.xor_lt_two_pow (n:=64) m1 m2
   have o2:=mJ hml l1
   have l2:mk &&& (x ^^^ y)<18446744073709551616:=Nat.lt_of_le_of_lt Nat.and_le_left hml
   have o3:=mK m1 l2
   rw[hpi]at o3
   generalize hF':F (i+1)=F' at *
   simp(disch:=omega)only[↓kX,kW,aS,simprocAttr,g4,g5,g6,g7,g15,hb2,xa,xb,hfl,hbl,o1,o2,o3,v1,mG n13,hput]
   exact⟨m-1,by omega,i+1,by omega,rfl,by rw[hF']⟩
  ·obtain rfl:i=4:=by omega
   have hb2:decide (((4:Nat):Int)<4)=false:=by decide
   have htk:(lH (F 4)).take 4=lH (F 4):=List.take_of_length_le (by omega)
   rw[hZ]
   simp(disch:=omega)only[↓kX,kW,aS,simprocAttr,g4,g5,g6,g7,g15,hb2,v1,set_get,set_set,hfl,htk,ah]
   refine⟨by rw[kY],?_⟩
   exact(Sub.set_new hk1).set_free hk3'
end Go.Proofs.YtcncplameclkfaaGreatDoor
end
