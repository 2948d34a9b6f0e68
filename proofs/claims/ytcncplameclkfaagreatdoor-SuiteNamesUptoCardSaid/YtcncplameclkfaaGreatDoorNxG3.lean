/-
  Several texts in one: each says what it proves.
  Conditions: none. Lemmas only.
-/
import Derived.Test.YtcncplameclkfaaGreatDoorNxG2
import Derived.Test.YtcncplameclkfaaGreatDoorNmG2
import Derived.Test.YtcncplameclkfaaGreatDoorSgG4
import Derived.Test.YtcncplameclkfaaGreatDoorByG2
set_option linter.all false
section
set_option maxRecDepth 20000
set_option maxHeartbeats 4000000
namespace Go.Proofs.YtcncplameclkfaaGreatDoor
open Go Go.Abs Go.Proofs Go.Box
open Go.Nam (p25 Fq dE W3 Pt pU wnought nj On mF basP qK qL zeroP mZ inv mN lJ lT)
theorem eqX(a b:Fq):eqG Tryz.prog 6 46 (.agg (cF a)) (.agg (cF b))=some (decide (a=b)):=by
 have h:=eqF (lT a.val) (lT b.val)
 rw[show decide (lJ a.val=lJ b.val)=decide (a=b) by
  rw[decide_eq_decide,digX_inj a.isLt b.isLt]
  exact⟨Fin.ext,fun h=>by rw[h]⟩]at h
 exact h
theorem ckX(a:Fq):cl0 Tryz.prog 6 46 (.agg (cF a))=true:=ckF (lT a.val)
theorem eoX:bB0 Tryz.prog 46=true:=by kernel_rfl
abbrev noneW:W3:=⟨0,0,0⟩
def withV:Option Pt→AV
 |none=>.tup [.agg (cV noneW),.sc (.bool false)]
 |some p=>.tup [.agg (cV (nj p)),.sc (.bool true)]
theorem cV_none:cV noneW=[.sc (.int .i64 0),.sc (.int .i64 0),.sc (.int .i64 0),.sc (.int .i64 0),.sc (.int .i64 0),.sc (.int .i64 0),.sc (.int .i64 0),.sc (.int .i64 0),.sc (.int .i64 0),.sc (.int .i64 0),.sc (.int .i64 0),.sc (.int .i64 0),.sc (.int .i64 0),.sc (.int .i64 0),.sc (.int .i64 0),.sc (.int .i64 0),.sc (.int .i64 0),.sc (.int .i64 0),.sc (.int .i64 0),.sc (.int .i64 0),.sc (.int .i64 0),.sc (.int .i64 0),.sc (.int .i64 0),.sc (.int .i64 0),.sc (.int .i64 0),.sc (.int .i64 0),.sc (.int .i64 0),.sc (.int .i64 0),.sc (.int .i64 0),.sc (.int .i64 0),.sc (.int .i64 0),.sc (.int .i64 0),.sc (.int .i64 0),.sc (.int .i64 0),.sc (.int .i64 0),.sc (.int .i64 0),.sc (.int .i64 0),.sc (.int .i64 0),.sc (.int .i64 0),.sc (.int .i64 0),.sc (.int .i64 0),.sc (.int .i64 0),.sc (.int .i64 0),.sc (.int .i64 0),.sc (.int .i64 0),.sc (.int .i64 0),.sc (.int .i64 0),.sc (.int .i64 0)]:=rfl
theorem dwith(y:Fq)(bit:Nat)(hb:bit≤1):APure Tryz.prog 79 [.agg (cF y),.sc (.int .i64 bit)] (withV (withQ y bit)):=by
 have sl:=nN
 have st:=pR
 have sp:=cF_put
 have zx:=sX
 have vl:=pS
 have vt:=qJ
 have z48:=rI
 have vmk:=cV_mk
 have m1:=rO y y
 have i1:=rint1
 have i0:=rint0
 have m2:=rsub (y*y) 1
 have m3:=rd
 have m4:=rO dE (y*y)
 have m5:=radd 1 (dE*(y*y))
 have m6:=rinv (1+dE*(y*y))
 have m7:=rO (y*y-1) (inv (1+dE*(y*y)))
 have m8:=droot_q ((y*y-1)*inv (1+dE*(y*y)))
 unfold withQ
 have eo:=eoX
 have vz:=cV_none
 generalize rootQ ((y*y-1)*inv (1+dE*(y*y)))=ro at *
 generalize (y*y-1)*inv (1+dE*(y*y))=u at *
 generalize inv (1+dE*(y*y))=r1 at *
 generalize 1+dE*(y*y)=r2 at *
 generalize dE*(y*y)=r3 at *
 generalize dE=r4 at *
 generalize y*y-1=r5 at *
 generalize y*y=yy at *
 obtain⟨Z,hZ⟩:∃Z:AObj,Z=.cells [.sc (.int .i64 0),.sc (.int .i64 0),.sc (.int .i64 0),.sc (.int .i64 0),.sc (.int .i64 0),.sc (.int .i64 0),.sc (.int .i64 0),.sc (.int .i64 0),.sc (.int .i64 0),.sc (.int .i64 0),.sc (.int .i64 0),.sc (.int .i64 0),.sc (.int .i64 0),.sc (.int .i64 0),.sc (.int .i64 0),.sc (.int .i64 0),.sc (.int .i64 0),.sc (.int .i64 0),.sc (.int .i64 0),.sc (.int .i64 0),.sc (.int .i64 0),.sc (.int .i64 0),.sc (.int .i64 0),.sc (.int .i64 0),.sc (.int .i64 0),.sc (.int .i64 0),.sc (.int .i64 0),.sc (.int .i64 0),.sc (.int .i64 0),.sc (.int .i64 0),.sc (.int .i64 0),.sc (.int .i64 0),.sc (.int .i64 0),.sc (.int .i64 0),.sc (.int .i64 0),.sc (.int .i64 0),.sc (.int .i64 0),.sc (.int .i64 0),.sc (.int .i64 0),.sc (.int .i64 0),.sc (.int .i64 0),.sc (.int .i64 0),.sc (.int .i64 0),.sc (.int .i64 0),.sc (.int .i64 0),.sc (.int .i64 0),.sc (.int .i64 0),.sc (.int .i64 0)] 48 48:=⟨_,rfl⟩
 cases ro with
 |none=>
  unfold rootD' at m8
  simp only[withV]
  rw[vz]
  refine az (c:=⟨Tryz.prog,46,[(2,[0,0,0,0,0,0,0,0,0,0,0,0,0,0,2,2,0]),(3,[0,0,0,1,0,0,0,0,0,0,0]),(7,[1,1,0,0,2,0]),(1000000,[2]),(1000001,[6])],[],[]⟩) (rs:=[ResultVar.cell 4 48,ResultVar.tmp 5]) Tryz.mixed Tryz.func79 rfl rfl rfl (Nat.le_of_ble_eq_true rfl) (by kernel_rfl) fun H=>?_
  simp(disch:=omega)only[↓kX,kW,aS,simprocAttr,sl,st]
  intro k2 hk20 hk2 k4 hk40 hk4
  rw[←hZ]
  have n24:=bK0 hk4
  have hk4':=am hk4
  have v2:∀X Y,((H.set k2 X).set k4 Y) k2=some X:=fun X Y=>lE n24
  simp(disch:=omega)only[↓kX,kW,aS,simprocAttr,v2,mD n24 hk2,sl,st,ku,vl,vt]
  first|refine CallK.p (m1) ?_|refine CallP.i (m1) ?_
  simp(disch:=omega)only[↓kX,kW,aS,simprocAttr,sl,st,ku,vl,vt]
  intro k6 hk60 hk6
  rw[zx,aj hk6]
  try simp(disch:=omega)only[↓kX,kW,aS,simprocAttr,sl,st,ku,vl,vt]
  first|refine CallK.p (i1) ?_|refine CallP.i (i1) ?_
  simp(disch:=omega)only[↓kX,kW,aS,simprocAttr,sl,st,ku,vl,vt]
  first|refine CallK.p (m2) ?_|refine CallP.i (m2) ?_
  simp(disch:=omega)only[↓kX,kW,aS,simprocAttr,sl,st,ku,vl,vt]
  first|refine CallK.p (i1) ?_|refine CallP.i (i1) ?_
  simp(disch:=omega)only[↓kX,kW,aS,simprocAttr,sl,st,ku,vl,vt]
  first|refine CallK.p (m3) ?_|refine CallP.i (m3) ?_
  simp(disch:=omega)only[↓kX,kW,aS,simprocAttr,sl,st,ku,vl,vt]
  first|refine CallK.p (m4) ?_|refine CallP.i (m4) ?_
  simp(disch:=omega)only[↓kX,kW,aS,simprocAttr,sl,st,ku,vl,vt]
  first|refine CallK.p (m5) ?_|refine CallP.i (m5) ?_
  simp(disch:=omega)only[↓kX,kW,aS,simprocAttr,sl,st,ku,vl,vt]
  first|refine CallK.p (m6) ?_|refine CallP.i (m6) ?_
  simp(disch:=omega)only[↓kX,kW,aS,simprocAttr,sl,st,ku,vl,vt]
  first|refine CallK.p (m7) ?_|refine CallP.i (m7) ?_
  simp(disch:=omega)only[↓kX,kW,aS,simprocAttr,sl,st,ku,vl,vt]
  first|refine CallK.p (m8) ?_|refine CallP.i (m8) ?_
  simp(disch:=omega)only[↓kX,kW,aS,simprocAttr,sl,st,ku,vl,vt]
  intro k7 hk70 hk7
  rw[zx]
  have n47:=bK0 hk7
  have hk7':=am hk7
  have v4:∀X Y,((H.set k4 X).set k7 Y) k4=some X:=fun X Y=>lE n47
  have s4:∀X Y X',((H.set k4 X).set k7 Y).set k4 X'=(H.set k4 X').set k7 Y:=fun X Y X'=>mG n47
  rw[hZ]
  simp(disch:=omega)only[↓kX,kW,aS,simprocAttr,v4,s4,set_get,set_set,ah,sl,st,ku,vl,vt]
  first|exact(Sub.set_new hk4').set_free hk7'|exact⟨rfl,(Sub.set_new hk4').set_free hk7'⟩|trace_state
 |some x=>
  unfold rootD' at m8
  have c5:=rneg x
  have q1:=eqX x 0
  have k1':=ckX x
  have k2':=ckX 0
  simp only
  have hbc:bit=0∨bit=1:=by omega
  by_cases hx0:x=0
  ·rw[decide_eq_true hx0]at q1
   rcases hbc with hb0|hb1
   ·rw[if_neg (fun h=>by have:=h.2;omega),if_pos hb0]
    simp only[withV,nj]
    have bs:((bit:Int) == 1)=false:=by rw[hb0];rfl
    refine az (c:=⟨Tryz.prog,46,[(2,[0,0,0,0,0,0,0,0,0,0,0,0,0,0,2,2,0]),(3,[0,0,0,1,0,0,0,0,0,0,0]),(7,[1,1,0,0,2,0]),(1000000,[2]),(1000001,[6])],[],[]⟩) (rs:=[ResultVar.cell 4 48,ResultVar.tmp 5]) Tryz.mixed Tryz.func79 rfl rfl rfl (Nat.le_of_ble_eq_true rfl) (by kernel_rfl) fun H=>?_
    simp(disch:=omega)only[↓kX,kW,aS,simprocAttr,sl,st]
    intro k2 hk20 hk2 k4 hk40 hk4
    rw[←hZ]
    have n24:=bK0 hk4
    have hk4':=am hk4
    have v2:∀X Y,((H.set k2 X).set k4 Y) k2=some X:=fun X Y=>lE n24
    simp(disch:=omega)only[↓kX,kW,aS,simprocAttr,v2,mD n24 hk2,sl,st,ku,vl,vt]
    first|refine CallK.p (m1) ?_|refine CallP.i (m1) ?_
    simp(disch:=omega)only[↓kX,kW,aS,simprocAttr,sl,st,ku,vl,vt]
    intro k6 hk60 hk6
    rw[zx,aj hk6]
    try simp(disch:=omega)only[↓kX,kW,aS,simprocAttr,sl,st,ku,vl,vt]
    first|refine CallK.p (i1) ?_|refine CallP.i (i1) ?_
    simp(disch:=omega)only[↓kX,kW,aS,simprocAttr,sl,st,ku,vl,vt]
    first|refine CallK.p (m2) ?_|refine CallP.i (m2) ?_
    simp(disch:=omega)only[↓kX,kW,aS,simprocAttr,sl,st,ku,vl,vt]
    first|refine CallK.p (i1) ?_|refine CallP.i (i1) ?_
    simp(disch:=omega)only[↓kX,kW,aS,simprocAttr,sl,st,ku,vl,vt]
    first|refine CallK.p (m3) ?_|refine CallP.i (m3) ?_
    simp(disch:=omega)only[↓kX,kW,aS,simprocAttr,sl,st,ku,vl,vt]
    first|refine CallK.p (m4) ?_|refine CallP.i (m4) ?_
    simp(disch:=omega)only[↓kX,kW,aS,simprocAttr,sl,st,ku,vl,vt]
    first|refine CallK.p (m5) ?_|refine CallP.i (m5) ?_
    simp(disch:=omega)only[↓kX,kW,aS,simprocAttr,sl,st,ku,vl,vt]
    first|refine CallK.p (m6) ?_|refine CallP.i (m6) ?_
    simp(disch:=omega)only[↓kX,kW,aS,simprocAttr,sl,st,ku,vl,vt]
    first|refine CallK.p (m7) ?_|refine CallP.i (m7) ?_
    simp(disch:=omega)only[↓kX,kW,aS,simprocAttr,sl,st,ku,vl,vt]
    first|refine CallK.p (m8) ?_|refine CallP.i (m8) ?_
    simp(disch:=omega)only[↓kX,kW,aS,simprocAttr,sl,st,ku,vl,vt]
    intro k7 hk70 hk7
    rw[zx]
    have n47:=bK0 hk7
    have hk7':=am hk7
    have v4:∀X Y,((H.set k4 X).set k7 Y) k4=some X:=fun X Y=>lE n47
    have s4:∀X Y X',((H.set k4 X).set k7 Y).set k4 X'=(H.set k4 X').set k7 Y:=fun X Y X'=>mG n47
    rw[hZ]
    simp(disch:=omega)only[↓kX,kW,aS,simprocAttr,bs,v4,s4,set_get,set_set,sl,st,ku,vl,vt]
    first|refine CallK.p (i0) ?_|refine CallP.i (i0) ?_
    simp(disch:=omega)only[↓kX,kW,aS,simprocAttr,q1,k1',k2',eo,bs,v4,s4,set_get,set_set,sl,st,ku,vl,vt]
    first|refine CallK.p (i1) ?_|refine CallP.i (i1) ?_
    simp(disch:=omega)only[↓kX,kW,aS,simprocAttr,bs,v4,s4,set_get,set_set,sl,st,ku,vl,vt,dt16,dt32,dd32,dd48,List.append_assoc,List.append_nil,List.length_append,List.length_cons,List.length_nil,vmk,z48]
    first|exact(Sub.set_new hk4').set_free hk7'|exact⟨rfl,(Sub.set_new hk4').set_free hk7'⟩|trace_state
   ·rw[if_pos ⟨hx0,hb1⟩]
    simp only[withV]
    have bs:((bit:Int) == 1)=true:=by rw[hb1];rfl
    rw[vz]
    refine az (c:=⟨Tryz.prog,46,[(2,[0,0,0,0,0,0,0,0,0,0,0,0,0,0,2,2,0]),(3,[0,0,0,1,0,0,0,0,0,0,0]),(7,[1,1,0,0,2,0]),(1000000,[2]),(1000001,[6])],[],[]⟩) (rs:=[ResultVar.cell 4 48,ResultVar.tmp 5]) Tryz.mixed Tryz.func79 rfl rfl rfl (Nat.le_of_ble_eq_true rfl) (by kernel_rfl) fun H=>?_
    simp(disch:=omega)only[↓kX,kW,aS,simprocAttr,sl,st]
    intro k2 hk20 hk2 k4 hk40 hk4
    rw[←hZ]
    have n24:=bK0 hk4
    have hk4':=am hk4
    have v2:∀X Y,((H.set k2 X).set k4 Y) k2=some X:=fun X Y=>lE n24
    simp(disch:=omega)only[↓kX,kW,aS,simprocAttr,v2,mD n24 hk2,sl,st,ku,vl,vt]
    first|refine CallK.p (m1) ?_|refine CallP.i (m1) ?_
    simp(disch:=omega)only[↓kX,kW,aS,simprocAttr,sl,st,ku,vl,vt]
    intro k6 hk60 hk6
    rw[zx,aj hk6]
    try simp(disch:=omega)only[↓kX,kW,aS,simprocAttr,sl,st,ku,vl,vt]
    first|refine CallK.p (i1) ?_|refine CallP.i (i1) ?_
    simp(disch:=omega)only[↓kX,kW,aS,simprocAttr,sl,st,ku,vl,vt]
    first|refine CallK.p (m2) ?_|refine CallP.i (m2) ?_
    simp(disch:=omega)only[↓kX,kW,aS,simprocAttr,sl,st,ku,vl,vt]
    first|refine CallK.p (i1) ?_|refine CallP.i (i1) ?_
    simp(disch:=omega)only[↓kX,kW,aS,simprocAttr,sl,st,ku,vl,vt]
    first|refine CallK.p (m3) ?_|refine CallP.i (m3) ?_
    simp(disch:=omega)only[↓kX,kW,aS,simprocAttr,sl,st,ku,vl,vt]
    first|refine CallK.p (m4) ?_|refine CallP.i (m4) ?_
    simp(disch:=omega)only[↓kX,kW,aS,simprocAttr,sl,st,ku,vl,vt]
    first|refine CallK.p (m5) ?_|refine CallP.i (m5) ?_
    simp(disch:=omega)only[↓kX,kW,aS,simprocAttr,sl,st,ku,vl,vt]
    first|refine CallK.p (m6) ?_|refine CallP.i (m6) ?_
    simp(disch:=omega)only[↓kX,kW,aS,simprocAttr,sl,st,ku,vl,vt]
    first|refine CallK.p (m7) ?_|refine CallP.i (m7) ?_
    simp(disch:=omega)only[↓kX,kW,aS,simprocAttr,sl,st,ku,vl,vt]
    first|refine CallK.p (m8) ?_|refine CallP.i (m8) ?_
    simp(disch:=omega)only[↓kX,kW,aS,simprocAttr,sl,st,ku,vl,vt]
    intro k7 hk70 hk7
    rw[zx]
    have n47:=bK0 hk7
    have hk7':=am hk7
    have v4:∀X Y,((H.set k4 X).set k7 Y) k4=some X:=fun X Y=>lE n47
    have s4:∀X Y X',((H.set k4 X).set k7 Y).set k4 X'=(H.set k4 X').set k7 Y:=fun X Y X'=>mG n47
    rw[hZ]
    simp(disch:=omega)only[↓kX,kW,aS,simprocAttr,bs,v4,s4,set_get,set_set,sl,st,ku,vl,vt]
    first|refine CallK.p (i0) ?_|refine CallP.i (i0) ?_
    simp(disch:=omega)only[↓kX,kW,aS,simprocAttr,q1,k1',k2',eo,bs,v4,s4,set_get,set_set,ah,sl,st,ku,vl,vt]
    first|exact(Sub.set_new hk4').set_free hk7'|exact⟨rfl,(Sub.set_new hk4').set_free hk7'⟩|trace_state
  ·rw[decide_eq_false hx0]at q1
   rw[if_neg (fun h=>hx0 h.1)]
   rcases hbc with hb0|hb1
   ·rw[if_pos hb0]
    simp only[withV,nj]
    have bs:((bit:Int) == 1)=false:=by rw[hb0];rfl
    refine az (c:=⟨Tryz.prog,46,[(2,[0,0,0,0,0,0,0,0,0,0,0,0,0,0,2,2,0]),(3,[0,0,0,1,0,0,0,0,0,0,0]),(7,[1,1,0,0,2,0]),(1000000,[2]),(1000001,[6])],[],[]⟩) (rs:=[ResultVar.cell 4 48,ResultVar.tmp 5]) Tryz.mixed Tryz.func79 rfl rfl rfl (Nat.le_of_ble_eq_true rfl) (by kernel_rfl) fun H=>?_
    simp(disch:=omega)only[↓kX,kW,aS,simprocAttr,sl,st]
    intro k2 hk20 hk2 k4 hk40 hk4
    rw[←hZ]
    have n24:=bK0 hk4
    have hk4':=am hk4
    have v2:∀X Y,((H.set k2 X).set k4 Y) k2=some X:=fun X Y=>lE n24
    simp(disch:=omega)only[↓kX,kW,aS,simprocAttr,v2,mD n24 hk2,sl,st,ku,vl,vt]
    first|refine CallK.p (m1) ?_|refine CallP.i (m1) ?_
    simp(disch:=omega)only[↓kX,kW,aS,simprocAttr,sl,st,ku,vl,vt]
    intro k6 hk60 hk6
    rw[zx,aj hk6]
    try simp(disch:=omega)only[↓kX,kW,aS,simprocAttr,sl,st,ku,vl,vt]
    first|refine CallK.p (i1) ?_|refine CallP.i (i1) ?_
    simp(disch:=omega)only[↓kX,kW,aS,simprocAttr,sl,st,ku,vl,vt]
    first|refine CallK.p (m2) ?_|refine CallP.i (m2) ?_
    simp(disch:=omega)only[↓kX,kW,aS,simprocAttr,sl,st,ku,vl,vt]
    first|refine CallK.p (i1) ?_|refine CallP.i (i1) ?_
    simp(disch:=omega)only[↓kX,kW,aS,simprocAttr,sl,st,ku,vl,vt]
    first|refine CallK.p (m3) ?_|refine CallP.i (m3) ?_
    simp(disch:=omega)only[↓kX,kW,aS,simprocAttr,sl,st,ku,vl,vt]
    first|refine CallK.p (m4) ?_|refine CallP.i (m4) ?_
    simp(disch:=omega)only[↓kX,kW,aS,simprocAttr,sl,st,ku,vl,vt]
    first|refine CallK.p (m5) ?_|refine CallP.i (m5) ?_
    simp(disch:=omega)only[↓kX,kW,aS,simprocAttr,sl,st,ku,vl,vt]
    first|refine CallK.p (m6) ?_|refine CallP.i (m6) ?_
    simp(disch:=omega)only[↓kX,kW,aS,simprocAttr,sl,st,ku,vl,vt]
    first|refine CallK.p (m7) ?_|refine CallP.i (m7) ?_
    simp(disch:=omega)only[↓kX,kW,aS,simprocAttr,sl,st,ku,vl,vt]
    first|refine CallK.p (m8) ?_|refine CallP.i (m8) ?_
    simp(disch:=omega)only[↓kX,kW,aS,simprocAttr,sl,st,ku,vl,vt]
    intro k7 hk70 hk7
    rw[zx]
    have n47:=bK0 hk7
    have hk7':=am hk7
    have v4:∀X Y,((H.set k4 X).set k7 Y) k4=some X:=fun X Y=>lE n47
    have s4:∀X Y X',((H.set k4 X).set k7 Y).set k4 X'=(H.set k4 X').set k7 Y:=fun X Y X'=>mG n47
    rw[hZ]
    simp(disch:=omega)only[↓kX,kW,aS,simprocAttr,bs,v4,s4,set_get,set_set,sl,st,ku,vl,vt]
    first|refine CallK.p (i0) ?_|refine CallP.i (i0) ?_
    simp(disch:=omega)only[↓kX,kW,aS,simprocAttr,q1,k1',k2',eo,bs,v4,s4,set_get,set_set,sl,st,ku,vl,vt]
    first|refine CallK.p (i1) ?_|refine CallP.i (i1) ?_
    simp(disch:=omega)only[↓kX,kW,aS,simprocAttr,bs,v4,s4,set_get,set_set,sl,st,ku,vl,vt,dt16,dt32,dd32,dd48,List.append_assoc,List.append_nil,List.length_append,List.length_cons,List.length_nil,vmk,z48]
    first|exact(Sub.set_new hk4').set_free hk7'|exact⟨rfl,(Sub.set_new hk4').set_free hk7'⟩|trace_state
   ·rw[if_neg (by omega)]
    simp only[withV,nj]
    have bs:((bit:Int) == 1)=true:=by rw[hb1];rfl
    generalize -x=nx at *
    refine az (c:=⟨Tryz.prog,46,[(2,[0,0,0,0,0,0,0,0,0,0,0,0,0,0,2,2,0]),(3,[0,0,0,1,0,0,0,0,0,0,0]),(7,[1,1,0,0,2,0]),(1000000,[2]),(1000001,[6])],[],[]⟩) (rs:=[ResultVar.cell 4 48,ResultVar.tmp 5]) Tryz.mixed Tryz.func79 rfl rfl rfl (Nat.le_of_ble_eq_true rfl) (by kernel_rfl) fun H=>?_
    simp(disch:=omega)only[↓kX,kW,aS,simprocAttr,sl,st]
    intro k2 hk20 hk2 k4 hk40 hk4
    rw[←hZ]
    have n24:=bK0 hk4
    have hk4':=am hk4
    have v2:∀X Y,((H.set k2 X).set k4 Y) k2=some X:=fun X Y=>lE n24
    simp(disch:=omega)only[↓kX,kW,aS,simprocAttr,v2,mD n24 hk2,sl,st,ku,vl,vt]
    first|refine CallK.p (m1) ?_|refine CallP.i (m1) ?_
    simp(disch:=omega)only[↓kX,kW,aS,simprocAttr,sl,st,ku,vl,vt]
    intro k6 hk60 hk6
    rw[zx,aj hk6]
    try simp(disch:=omega)only[↓kX,kW,aS,simprocAttr,sl,st,ku,vl,vt]
    first|refine CallK.p (i1) ?_|refine CallP.i (i1) ?_
    simp(disch:=omega)only[↓kX,kW,aS,simprocAttr,sl,st,ku,vl,vt]
    first|refine CallK.p (m2) ?_|refine CallP.i (m2) ?_
    simp(disch:=omega)only[↓kX,kW,aS,simprocAttr,sl,st,ku,vl,vt]
    first|refine CallK.p (i1) ?_|refine CallP.i (i1) ?_
    simp(disch:=omega)only[↓kX,kW,aS,simprocAttr,sl,st,ku,vl,vt]
    first|refine CallK.p (m3) ?_|refine CallP.i (m3) ?_
    simp(disch:=omega)only[↓kX,kW,aS,simprocAttr,sl,st,ku,vl,vt]
    first|refine CallK.p (m4) ?_|refine CallP.i (m4) ?_
    simp(disch:=omega)only[↓kX,kW,aS,simprocAttr,sl,st,ku,vl,vt]
    first|refine CallK.p (m5) ?_|refine CallP.i (m5) ?_
    simp(disch:=omega)only[↓kX,kW,aS,simprocAttr,sl,st,ku,vl,vt]
    first|refine CallK.p (m6) ?_|refine CallP.i (m6) ?_
    simp(disch:=omega)only[↓kX,kW,aS,simprocAttr,sl,st,ku,vl,vt]
    first|refine CallK.p (m7) ?_|refine CallP.i (m7) ?_
    simp(disch:=omega)only[↓kX,kW,aS,simprocAttr,sl,st,ku,vl,vt]
    first|refine CallK.p (m8) ?_|refine CallP.i (m8) ?_
    simp(disch:=omega)only[↓kX,kW,aS,simprocAttr,sl,st,ku,vl,vt]
    intro k7 hk70 hk7
    rw[zx]
    have n47:=bK0 hk7
    have hk7':=am hk7
    have v4:∀X Y,((H.set k4 X).set k7 Y) k4=some X:=fun X Y=>lE n47
    have s4:∀X Y X',((H.set k4 X).set k7 Y).set k4 X'=(H.set k4 X').set k7 Y:=fun X Y X'=>mG n47
    rw[hZ]
    simp(disch:=omega)only[↓kX,kW,aS,simprocAttr,bs,v4,s4,set_get,set_set,sl,st,ku,vl,vt]
    first|refine CallK.p (i0) ?_|refine CallP.i (i0) ?_
    simp(disch:=omega)only[↓kX,kW,aS,simprocAttr,q1,k1',k2',eo,bs,v4,s4,set_get,set_set,sl,st,ku,vl,vt]
    first|refine CallK.p (c5) ?_|refine CallP.i (c5) ?_
    simp(disch:=omega)only[↓kX,kW,aS,simprocAttr,bs,v4,s4,set_get,set_set,sp,sl,st,ku,vl,vt]
    first|refine CallK.p (i1) ?_|refine CallP.i (i1) ?_
    simp(disch:=omega)only[↓kX,kW,aS,simprocAttr,bs,v4,s4,set_get,set_set,sl,st,ku,vl,vt,dt16,dt32,dd32,dd48,List.append_assoc,List.append_nil,List.length_append,List.length_cons,List.length_nil,vmk,z48]
    first|exact(Sub.set_new hk4').set_free hk7'|exact⟨rfl,(Sub.set_new hk4').set_free hk7'⟩|trace_state
theorem rootQ_of{u:Fq}{n r0 v:Nat}(hu:u.val=n)(hp:n^((p25+3)/8) % p25=r0)(h1:mU r0 Go.Nam.turnN n*mU r0 Go.Nam.turnN n % p25=n)(h2:rootV (mU r0 Go.Nam.turnN n)=v)(hv:v<p25):rootQ u=some ⟨v,hv⟩:=by
 have hs:sqrB u.val:=by
  rw[hu]
  unfold sqrB
  rw[hp]
  exact h1
 have hw:sqrV u.val=v:=by
  rw[hu]
  unfold sqrV
  rw[hp]
  exact h2
 unfold rootQ
 rw[if_pos hs]
 congr 1
 exact Fin.ext hw
theorem withQ_bas:withQ basP.y 0=some basP:=by
 unfold withQ
 rw[Go.Nam.u_is,rootQ_of (n:=Go.Nam.uN) (r0:=Go.Nam.r0N) (v:=basP.x.val) rfl Go.Nam.u_pow (by decide +kernel) (by decide +kernel) basP.x.isLt]
 simp only
 rw[if_neg (fun h=>absurd h.2 (by decide)),if_pos trivial]
theorem dbase:APure Tryz.prog 37 [] (.agg (cV (nj basP))):=by
 have i4:APure Tryz.prog 47 [.sc (.int .i64 4)] (.agg (cF 4)):=nJ 4 (by decide)
 have i5:APure Tryz.prog 47 [.sc (.int .i64 5)] (.agg (cF 5)):=nJ 5 (by decide)
 have c1:=rinv 5
 have c2:=rO 4 (inv 5)
 rw[Go.Nam.bas_y]at c2
 have c3:=dwith basP.y 0 (by decide)
 rw[withQ_bas]at c3
 simp only[withV]at c3
 have sl:=nN
 have st:=pR
 have zx:=sX
 have vl:=pS
 have vt:=qJ
 have z48:=rI
 generalize nj basP=R at *
 generalize basP.y=y at *
 generalize inv 5=v at *
 generalize (4:Fq)=a at *
 generalize (5:Fq)=b at *
 refine az (c:=⟨Tryz.prog,14,[(1000001,[1]),(1000002,[2])],[],[]⟩) (rs:=[ResultVar.cell 0 48]) Tryz.mixed Tryz.func37 rfl rfl rfl (Nat.le_of_ble_eq_true rfl) (by kernel_rfl) fun H=>?_
 simp(disch:=omega)only[↓kX,kW,aS,simprocAttr]
 intro k0 hk00 hk0
 first|refine CallK.p (i4) ?_|refine CallP.i (i4) ?_
 simp(disch:=omega)only[↓kX,kW,aS,simprocAttr,sl,st,ku,vl,vt]
 first|refine CallK.p (i5) ?_|refine CallP.i (i5) ?_
 simp(disch:=omega)only[↓kX,kW,aS,simprocAttr,sl,st,ku,vl,vt]
 first|refine CallK.p (c1) ?_|refine CallP.i (c1) ?_
 simp(disch:=omega)only[↓kX,kW,aS,simprocAttr,sl,st,ku,vl,vt]
 first|refine CallK.p (c2) ?_|refine CallP.i (c2) ?_
 simp(disch:=omega)only[↓kX,kW,aS,simprocAttr,sl,st,ku,vl,vt]
 intro k1 hk10 hk1
 rw[zx,aj hk1]
 try simp(disch:=omega)only[↓kX,kW,aS,simprocAttr,sl,st,ku,vl,vt]
 first|refine CallK.p (c3) ?_|refine CallP.i (c3) ?_
 simp(disch:=omega)only[↓kX,kW,aS,simprocAttr,sl,st,ku,vl,vt,lD]
 intro k2 hk20 hk2
 rw[z48,aj hk2]
 simp(disch:=omega)only[↓kX,kW,aS,simprocAttr,set_get,set_set,z48,sl,st,ku,vl,vt,lD]
 first|exact Sub.set_new hk0|exact⟨rfl,Sub.set_new hk0⟩|trace_state
def decV(r:Pt × Nat):AV:=.tup [.agg (cV (if r.2=0 then nj r.1 else noneW)),.sc (.int .i64 r.2)]
theorem ddecode(b:List UInt8):APure Tryz.prog 32 [eu b] (decV (pK b)):=by
 have sl:=nN
 have st:=pR
 have zx:=sX
 have vl:=pS
 have vt:=qJ
 have z48:=rI
 have vz:=cV_none
 by_cases h32:b.length=32
 ·have hd:pK b=if h:lY b % 57896044618658097711785492504343953926634992332820282019728792003956564819968<p25 then (match withQ ⟨lY b % 57896044618658097711785492504343953926634992332820282019728792003956564819968, h⟩ (lY b/57896044618658097711785492504343953926634992332820282019728792003956564819968) with|none=>(⟨0, 0⟩, 7)|some p=>(p, 0)) else (⟨0, 0⟩, 6):=by
   unfold pK
   rw[if_neg (by simp[h32])]
   rfl
  rw[hd]
  clear hd
  have b1:((b.length:Int) != 32)=false:=by rw[h32];rfl
  have hel:=gz b
  have a31:=nX (l:=b) (i:=31) (by omega)
  have p31:=oT (l:=b) (i:=31) (b:=b.getD 31 0 % 128) (by omega)
  have n31:((b.getD 31 0).toNat % 128:Nat)=(b.getD 31 0 % 128).toNat:=by simp
  have w31:IntKind.u8.wrap ((b.getD 31 0 % 128).toNat:Int)=((b.getD 31 0 % 128).toNat:Int):=wrapU8 (by have:=(b.getD 31 0 % 128).toNat_lt;omega)
  have hLl:(b.set 31 (b.getD 31 0 % 128)).length=32:=by rw[List.length_set,h32]
  have hULe:=gz (b.set 31 (b.getD 31 0 % 128))
  have c1:=fdecode_pure (b.set 31 (b.getD 31 0 % 128)) (by rw[hLl];decide)
  have hdec:decF (b.set 31 (b.getD 31 0 % 128))=if lY b % 57896044618658097711785492504343953926634992332820282019728792003956564819968<p25 then (lY b % 57896044618658097711785492504343953926634992332820282019728792003956564819968,0) else (0,6):=by
   unfold decF
   rw[if_neg (by rw[hLl];simp),Go.Nam.numL_top b h32]
  rw[hdec]at c1
  have hsg:(b.getD 31 0).toNat/128=lY b/57896044618658097711785492504343953926634992332820282019728792003956564819968:=by
   have h1:=Go.Nam.numL_split b h32
   have h2:=pq (b.take 31)
   rw[List.length_take,h32]at h2
   have h2:lY (b.take 31)<256^31:=h2
   have h3:=(b.getD 31 0).toNat_lt
   rw[h1]
   generalize (b.getD 31 0).toNat=x at *
   generalize lY (b.take 31)=z at *
   clear h1 hdec
   omega
  have hs1:lY b/57896044618658097711785492504343953926634992332820282019728792003956564819968≤1:=by
   rw[←hsg]
   have:=(b.getD 31 0).toNat_lt
   omega
  have w8:IntKind.u8.wrap ((lY b/57896044618658097711785492504343953926634992332820282019728792003956564819968:Nat):Int)=((lY b/57896044618658097711785492504343953926634992332820282019728792003956564819968:Nat):Int):=wrapU8 (by omega)
  have w9:IntKind.i64.wrap ((lY b/57896044618658097711785492504343953926634992332820282019728792003956564819968:Nat):Int)=((lY b/57896044618658097711785492504343953926634992332820282019728792003956564819968:Nat):Int):=iw (by omega)
  generalize b.set 31 (b.getD 31 0 % 128)=UL at *
  generalize b.getD 31 0 % 128=y2 at *
  generalize b.getD 31 0=y1 at *
  generalize lY b/57896044618658097711785492504343953926634992332820282019728792003956564819968=sg at *
  generalize lY b % 57896044618658097711785492504343953926634992332820282019728792003956564819968=yv at *
  unfold eu at *
  rw[hLl]at c1
  by_cases hy:yv<p25
  ·rw[dif_pos hy]
   rw[if_pos hy]at c1
   have hc:fA yv=.agg (cF ⟨yv,hy⟩):=rfl
   simp only at c1
   rw[hc]at c1
   have c2:=dwith ⟨yv,hy⟩ sg hs1
   generalize (⟨yv,hy⟩:Fq)=y at *
   generalize withQ y sg=wq at *
   obtain⟨Z,hZ⟩:∃Z:AObj,Z=.cells [.sc (.int .i64 0),.sc (.int .i64 0),.sc (.int .i64 0),.sc (.int .i64 0),.sc (.int .i64 0),.sc (.int .i64 0),.sc (.int .i64 0),.sc (.int .i64 0),.sc (.int .i64 0),.sc (.int .i64 0),.sc (.int .i64 0),.sc (.int .i64 0),.sc (.int .i64 0),.sc (.int .i64 0),.sc (.int .i64 0),.sc (.int .i64 0),.sc (.int .i64 0),.sc (.int .i64 0),.sc (.int .i64 0),.sc (.int .i64 0),.sc (.int .i64 0),.sc (.int .i64 0),.sc (.int .i64 0),.sc (.int .i64 0),.sc (.int .i64 0),.sc (.int .i64 0),.sc (.int .i64 0),.sc (.int .i64 0),.sc (.int .i64 0),.sc (.int .i64 0),.sc (.int .i64 0),.sc (.int .i64 0),.sc (.int .i64 0),.sc (.int .i64 0),.sc (.int .i64 0),.sc (.int .i64 0),.sc (.int .i64 0),.sc (.int .i64 0),.sc (.int .i64 0),.sc (.int .i64 0),.sc (.int .i64 0),.sc (.int .i64 0),.sc (.int .i64 0),.sc (.int .i64 0),.sc (.int .i64 0),.sc (.int .i64 0),.sc (.int .i64 0),.sc (.int .i64 0)] 48 48:=⟨_,rfl⟩
   cases wq with
   |none=>
    simp only[withV]at c2
    simp only[decV]
    rw[if_neg (show ¬(7:Nat)=0 by decide),vz]
    refine az (c:=⟨Tryz.prog,45,[(8,[0,0,0,0,0,0,0,0,0,0,2,2,0]),(1000005,[5]),(1000008,[7])],[1000013,1000015],[]⟩) (rs:=[ResultVar.cell 2 48,ResultVar.tmp 3]) Tryz.mixed Tryz.func32 rfl rfl rfl (Nat.le_of_ble_eq_true rfl) (by kernel_rfl) fun H=>?_
    simp(disch:=omega)only[↓kX,kW,aS,simprocAttr,b1]
    intro k2 hk20 hk2
    rw[←hZ]
    obtain⟨E,hE⟩:∃E,E=H.set k2 Z:=⟨_,rfl⟩
    rw[←hE]
    have e2:E k2=some Z:=by rw[hE,set_get]
    have eS:∀X,E.set k2 X=H.set k2 X:=fun X=>by rw[hE,set_set]
    intro kz hkz0 hkz kw hkw
    have hwn:E kw=none:=by
     rcases hkw with rfl|⟨_,h⟩
     ·exact hkz
     ·exact am h
    try rw[ef hkz]
    simp(disch:=omega)only[↓kX,kW,aS,simprocAttr,set_get,set_set,hel,h32,a31,p31,n31,w31,jd,hULe,hLl]
    refine CallK.i (give_row hLl.symm c1 hwn) ?_
    rintro v' E' ⟨hv',hE'⟩
    subst hv'
    rw[hE']
    simp(disch:=omega)only[↓kX,kW,aS,simprocAttr,sl,st,ku,lD,vl,vt]
    intro k5 hk50 hk5
    rw[zx,aj hk5]
    try simp(disch:=omega)only[↓kX,kW,aS,simprocAttr,sl,st,ku,lD,vl,vt]
    simp(disch:=omega)only[↓kX,kW,aS,simprocAttr,hel,h32,a31,hsg,nC,w8,w9,sl,st,ku,lD,vl,vt]
    first|refine CallK.p (c2) ?_|refine CallP.i (c2) ?_
    simp(disch:=omega)only[↓kX,kW,aS,simprocAttr,sl,st,ku,lD,vl,vt]
    intro k7 hk70 hk7
    rw[z48,aj hk7]
    rw[hZ]at e2
    simp(disch:=omega)only[↓kX,kW,aS,simprocAttr,e2,eS,set_get,set_set,ah,sl,st,ku,lD,vl,vt]
    first|exact Sub.set_new hk2|exact⟨rfl,Sub.set_new hk2⟩|trace_state
   |some p=>
    simp only[withV]at c2
    simp only[decV]
    rw[if_pos trivial]
    generalize nj p=R at *
    refine az (c:=⟨Tryz.prog,45,[(8,[0,0,0,0,0,0,0,0,0,0,2,2,0]),(1000005,[5]),(1000008,[7])],[1000013,1000015],[]⟩) (rs:=[ResultVar.cell 2 48,ResultVar.tmp 3]) Tryz.mixed Tryz.func32 rfl rfl rfl (Nat.le_of_ble_eq_true rfl) (by kernel_rfl) fun H=>?_
    simp(disch:=omega)only[↓kX,kW,aS,simprocAttr,b1]
    intro k2 hk20 hk2
    rw[←hZ]
    obtain⟨E,hE⟩:∃E,E=H.set k2 Z:=⟨_,rfl⟩
    rw[←hE]
    have e2:E k2=some Z:=by rw[hE,set_get]
    have eS:∀X,E.set k2 X=H.set k2 X:=fun X=>by rw[hE,set_set]
    intro kz hkz0 hkz kw hkw
    have hwn:E kw=none:=by
     rcases hkw with rfl|⟨_,h⟩
     ·exact hkz
     ·exact am h
    try rw[ef hkz]
    simp(disch:=omega)only[↓kX,kW,aS,simprocAttr,set_get,set_set,hel,h32,a31,p31,n31,w31,jd,hULe,hLl]
    refine CallK.i (give_row hLl.symm c1 hwn) ?_
    rintro v' E' ⟨hv',hE'⟩
    subst hv'
    rw[hE']
    simp(disch:=omega)only[↓kX,kW,aS,simprocAttr,sl,st,ku,lD,vl,vt]
    intro k5 hk50 hk5
    rw[zx,aj hk5]
    try simp(disch:=omega)only[↓kX,kW,aS,simprocAttr,sl,st,ku,lD,vl,vt]
    simp(disch:=omega)only[↓kX,kW,aS,simprocAttr,hel,h32,a31,hsg,nC,w8,w9,sl,st,ku,lD,vl,vt]
    first|refine CallK.p (c2) ?_|refine CallP.i (c2) ?_
    simp(disch:=omega)only[↓kX,kW,aS,simprocAttr,sl,st,ku,lD,vl,vt]
    intro k7 hk70 hk7
    rw[z48,aj hk7]
    rw[hZ]at e2
    simp(disch:=omega)only[↓kX,kW,aS,simprocAttr,e2,eS,set_get,set_set,z48,sl,st,ku,lD,vl,vt]
    first|exact Sub.set_new hk2|exact⟨rfl,Sub.set_new hk2⟩|trace_state
  ·rw[dif_neg hy]
   rw[if_neg hy]at c1
   simp only[decV]
   rw[if_neg (show ¬(6:Nat)=0 by decide),vz]
   simp only at c1
   rw[show fA 0=.agg (cF 0) from rfl]at c1
   obtain⟨Z,hZ⟩:∃Z:AObj,Z=.cells [.sc (.int .i64 0),.sc (.int .i64 0),.sc (.int .i64 0),.sc (.int .i64 0),.sc (.int .i64 0),.sc (.int .i64 0),.sc (.int .i64 0),.sc (.int .i64 0),.sc (.int .i64 0),.sc (.int .i64 0),.sc (.int .i64 0),.sc (.int .i64 0),.sc (.int .i64 0),.sc (.int .i64 0),.sc (.int .i64 0),.sc (.int .i64 0),.sc (.int .i64 0),.sc (.int .i64 0),.sc (.int .i64 0),.sc (.int .i64 0),.sc (.int .i64 0),.sc (.int .i64 0),.sc (.int .i64 0),.sc (.int .i64 0),.sc (.int .i64 0),.sc (.int .i64 0),.sc (.int .i64 0),.sc (.int .i64 0),.sc (.int .i64 0),.sc (.int .i64 0),.sc (.int .i64 0),.sc (.int .i64 0),.sc (.int .i64 0),.sc (.int .i64 0),.sc (.int .i64 0),.sc (.int .i64 0),.sc (.int .i64 0),.sc (.int .i64 0),.sc (.int .i64 0),.sc (.int .i64 0),.sc (.int .i64 0),.sc (.int .i64 0),.sc (.int .i64 0),.sc (.int .i64 0),.sc (.int .i64 0),.sc (.int .i64 0),.sc (.int .i64 0),.sc (.int .i64 0)] 48 48:=⟨_,rfl⟩
   refine az (c:=⟨Tryz.prog,45,[(8,[0,0,0,0,0,0,0,0,0,0,2,2,0]),(1000005,[5]),(1000008,[7])],[1000013,1000015],[]⟩) (rs:=[ResultVar.cell 2 48,ResultVar.tmp 3]) Tryz.mixed Tryz.func32 rfl rfl rfl (Nat.le_of_ble_eq_true rfl) (by kernel_rfl) fun H=>?_
   simp(disch:=omega)only[↓kX,kW,aS,simprocAttr,b1]
   intro k2 hk20 hk2
   rw[←hZ]
   obtain⟨E,hE⟩:∃E,E=H.set k2 Z:=⟨_,rfl⟩
   rw[←hE]
   have e2:E k2=some Z:=by rw[hE,set_get]
   have eS:∀X,E.set k2 X=H.set k2 X:=fun X=>by rw[hE,set_set]
   intro kz hkz0 hkz kw hkw
   have hwn:E kw=none:=by
    rcases hkw with rfl|⟨_,h⟩
    ·exact hkz
    ·exact am h
   try rw[ef hkz]
   simp(disch:=omega)only[↓kX,kW,aS,simprocAttr,set_get,set_set,hel,h32,a31,p31,n31,w31,jd,hULe,hLl]
   refine CallK.i (give_row hLl.symm c1 hwn) ?_
   rintro v' E' ⟨hv',hE'⟩
   subst hv'
   rw[hE']
   simp(disch:=omega)only[↓kX,kW,aS,simprocAttr,sl,st,ku,lD,vl,vt]
   intro k5 hk50 hk5
   rw[zx,aj hk5]
   try simp(disch:=omega)only[↓kX,kW,aS,simprocAttr,sl,st,ku,lD,vl,vt]
   rw[hZ]at e2
   try simp(disch:=omega)only[↓kX,kW,aS,simprocAttr,e2,eS,set_get,set_set,ah,sl,st,ku,lD,vl,vt]
   first|exact Sub.set_new hk2|exact⟨rfl,Sub.set_new hk2⟩|trace_state
 ·have hd:pK b=(⟨0, 0⟩, 1):=by
   unfold pK
   rw[if_pos h32]
  rw[hd]
  have b1:((b.length:Int) != 32)=true:=nT (by omega)
  simp only[decV]
  rw[if_neg (show ¬(1:Nat)=0 by decide),vz]
  unfold eu
  refine az (c:=⟨Tryz.prog,45,[(8,[0,0,0,0,0,0,0,0,0,0,2,2,0]),(1000005,[5]),(1000008,[7])],[1000013,1000015],[]⟩) (rs:=[ResultVar.cell 2 48,ResultVar.tmp 3]) Tryz.mixed Tryz.func32 rfl rfl rfl (Nat.le_of_ble_eq_true rfl) (by kernel_rfl) fun H=>?_
  simp(disch:=omega)only[↓kX,kW,aS,simprocAttr,b1]
  intro k2 hk20 hk2
  simp(disch:=omega)only[↓kX,kW,aS,simprocAttr,set_get,set_set,ah]
  first|exact Sub.set_new hk2|exact⟨rfl,Sub.set_new hk2⟩|trace_state
theorem told_live(n k:Nat)(hk:k≤1000)(hk1:0<k)(hn:(digs n).length≤1000)(H:AH):ACalls Tryz.prog 55 [D n,.sc (.int .i64 k)] H (OwnB (lQ k n) H):=by
 have c1:=fun i=>qi (digs n) i
 simp only[oP]at c1
 have hTs:∀i,i<k→(lQ k n).take (i+1)=(lQ k n).take i++[UInt8.ofNat (n/256^i % 256)]:=fun i h=>by
  rw[List.take_succ_eq_append_getElem (by rw[mL];exact h),qx]
 have hTl:=mL k n
 have hTt:∀i,i≤k→(bw ((lQ k n).take i)).length=i:=fun i h=>by rw[gz,List.length_take,hTl];omega
 unfold D pZ at *
 generalize lQ k n=T at *
 generalize digs n=A at *
 refine ao0 (c:=⟨Tryz.prog,20,[],[1000018],[]⟩) (rs:=[ResultVar.tmp 4]) Tryz.mixed Tryz.func55 rfl rfl rfl (Nat.le_of_ble_eq_true rfl) (by kernel_rfl) ?_
 simp(disch:=omega)only[↓kX,kW,aS,Nat.reduceBEq,Nat.reduceLT,reduceCtorEq,↓reduceIte,Nat.reduceMul,Nat.reduceAdd,Nat.reduceLeDiff,Nat.reduceEqDiff,Int.reduceToNat,Nat.reduceSub,Nat.reduceMod,Nat.reduceDiv,Int.reducePow,Int.reduceLE,Int.reduceNeg,Int.reduceLT,Int.reduceBEq,Int.reduceBNe,Int.reduceEq]
 refine br (c:=⟨Tryz.prog,20,[],[1000018],[]⟩) Tryz.mixed (by kernel_rfl) (fun m σ H'=>∃i,i+m=k∧σ 0=.imm 0 (lM A) A.length∧σ 1=.sc (.int .i64 k)∧σ 6=.sc (.int .i64 (i:Nat))∧((i=0∧σ 5=.sc (.slice none 0 0)∧H'=H)∨(∃kt,kt≠0∧H kt=none∧σ 5=.own kt 0 i∧H'=H.set kt (.cells (bw (T.take i)) 5 1)))) k ?_ ?_
 ·refine⟨0,by omega,?_⟩
  simp(disch:=omega)only[↓kX,kW,aS,Nat.reduceBEq,Nat.reduceLT,reduceCtorEq,↓reduceIte,Nat.reduceMul,Nat.reduceAdd,Nat.reduceLeDiff,Nat.reduceEqDiff,Int.reduceToNat,Nat.reduceSub,Nat.reduceMod,Nat.reduceDiv,Int.reducePow,Int.reduceLE,Int.reduceNeg,Int.reduceLT,Int.reduceBEq,Int.reduceBNe,Int.reduceEq]
  first|exact .inl ⟨rfl,rfl,rfl⟩|exact .inl ⟨rfl,rfl⟩|exact .inl trivial|trace_state
 ·rintro m σ H' ⟨i,hi,g0,g1,g6,hor⟩
  have htl:=hTt i (by omega)
  by_cases hlt:i<k
  ·have hb2:decide ((i:Int)<(k:Int))=true:=dT (by omega)
   have hts:=hTs i hlt
   have cA:=c1 i
   have w1:IntKind.i64.wrap ((i:Int)+1)=((i+1:Nat):Int):=by rw[iw (by omega)];rfl
   rcases hor with⟨rfl,g5,rfl⟩|⟨kt,hk0,hkt,g5,rfl⟩
   ·have hb0:decide ((0:Int)<(k:Int))=true:=dT (by omega)
    have w0:IntKind.i64.wrap ((0:Int)+1)=((0+1:Nat):Int):=rfl
    simp(disch:=omega)only[↓kX,kW,aS,Nat.reduceBEq,Nat.reduceLT,reduceCtorEq,↓reduceIte,Nat.reduceMul,Nat.reduceAdd,Nat.reduceLeDiff,Nat.reduceEqDiff,Int.reduceToNat,Nat.reduceSub,Nat.reduceMod,Nat.reduceDiv,Int.reducePow,Int.reduceLE,Int.reduceNeg,Int.reduceLT,Int.reduceBEq,Int.reduceBNe,Int.reduceEq,g0,g1,g5,g6,hb0]
    first|refine CallK.p (cA) ?_|refine CallP.i (cA) ?_
    simp(disch:=omega)only[↓kX,kW,aS,Nat.reduceBEq,Nat.reduceLT,reduceCtorEq,↓reduceIte,Nat.reduceMul,Nat.reduceAdd,Nat.reduceLeDiff,Nat.reduceEqDiff,Int.reduceToNat,Nat.reduceSub,Nat.reduceMod,Nat.reduceDiv,Int.reducePow,Int.reduceLE,Int.reduceNeg,Int.reduceLT,Int.reduceBEq,Int.reduceBNe,Int.reduceEq,g0,g1,g5,g6,↓jC,w0]
    intro k' hk0' hk'
    exact⟨m-1,by omega,0+1,by omega,rfl,.inr ⟨k',hk0',hk',rfl,by rw[hts,List.take_zero,List.nil_append];rfl⟩⟩
   ·simp(disch:=omega)only[↓kX,kW,aS,Nat.reduceBEq,Nat.reduceLT,reduceCtorEq,↓reduceIte,Nat.reduceMul,Nat.reduceAdd,Nat.reduceLeDiff,Nat.reduceEqDiff,Int.reduceToNat,Nat.reduceSub,Nat.reduceMod,Nat.reduceDiv,Int.reducePow,Int.reduceLE,Int.reduceNeg,Int.reduceLT,Int.reduceBEq,Int.reduceBNe,Int.reduceEq,g0,g1,g5,g6,hb2]
    first|refine CallK.p (cA) ?_|refine CallP.i (cA) ?_
    simp(disch:=omega)only[↓kX,kW,aS,Nat.reduceBEq,Nat.reduceLT,reduceCtorEq,↓reduceIte,Nat.reduceMul,Nat.reduceAdd,Nat.reduceLeDiff,Nat.reduceEqDiff,Int.reduceToNat,Nat.reduceSub,Nat.reduceMod,Nat.reduceDiv,Int.reducePow,Int.reduceLE,Int.reduceNeg,Int.reduceLT,Int.reduceBEq,Int.reduceBNe,Int.reduceEq,g0,g1,g5,g6,↓jC,w1,htl]
    intro k' hk'
    obtain⟨hk0',hk'⟩:=iW hk0 hkt hk'
    exact⟨m-1,by omega,i+1,by omega,rfl,.inr ⟨k',hk0',hk',rfl,by rw[hts,List.take_of_length_le (by omega),←rY]⟩⟩
  ·obtain rfl:i=k:=by omega
   have hb2:decide ((i:Int)<(i:Int))=false:=by simp
   rcases hor with⟨h0,g5,rfl⟩|⟨kt,hk0,hkt,g5,rfl⟩
   ·omega
   ·have hTf:T.take i=T:=List.take_of_length_le (by omega)
    rw[hTf]
    simp(disch:=omega)only[↓kX,kW,aS,Nat.reduceBEq,Nat.reduceLT,reduceCtorEq,↓reduceIte,Nat.reduceMul,Nat.reduceAdd,Nat.reduceLeDiff,Nat.reduceEqDiff,Int.reduceToNat,Nat.reduceSub,Nat.reduceMod,Nat.reduceDiv,Int.reducePow,Int.reduceLE,Int.reduceNeg,Int.reduceLT,Int.reduceBEq,Int.reduceBNe,Int.reduceEq,g0,g1,g5,g6,hb2]
    exact⟨_,rfl,_,Abs.Sub.refl _,kt,hk0,hkt,by rw[hTl],rfl⟩
theorem rencode_live(a:Fq)(H:AH):ACalls Tryz.prog 52 [.agg (cF a)] H (OwnB (lQ 32 a.val) H):=by
 have hlt:a.val<256^32:=Nat.lt_trans a.isLt (by decide)
 have c1:=qW a.val hlt
 have c2:=fun E=>told_live a.val 32 (by decide) (by decide) (by have:=dlen (n:=a.val) (k:=32) hlt;omega) E
 rw[show lM (lJ a.val)=cF a from rfl]at c1
 have sl:=nN
 have st:=pR
 refine ao0 (c:=⟨Tryz.prog,6,[(1000000,[1])],[],[]⟩) (rs:=[ResultVar.tmp 2]) Tryz.mixed Tryz.func52 rfl rfl rfl (Nat.le_of_ble_eq_true rfl) (by kernel_rfl) ?_
 simp(disch:=omega)only[↓kX,kW,aS,Nat.reduceBEq,Nat.reduceLT,reduceCtorEq,↓reduceIte,Nat.reduceMul,Nat.reduceAdd,Nat.reduceLeDiff,Nat.reduceEqDiff,Int.reduceToNat,Nat.reduceSub,Nat.reduceMod,Nat.reduceDiv,Int.reducePow,Int.reduceLE,Int.reduceNeg,Int.reduceLT,Int.reduceBEq,Int.reduceBNe,Int.reduceEq,sl,st]
 intro k1 hk10 hk1
 rw[aj hk1]
 try simp(disch:=omega)only[↓kX,kW,aS,Nat.reduceBEq,Nat.reduceLT,reduceCtorEq,↓reduceIte,Nat.reduceMul,Nat.reduceAdd,Nat.reduceLeDiff,Nat.reduceEqDiff,Int.reduceToNat,Nat.reduceSub,Nat.reduceMod,Nat.reduceDiv,Int.reducePow,Int.reduceLE,Int.reduceNeg,Int.reduceLT,Int.reduceBEq,Int.reduceBNe,Int.reduceEq,ku]
 first|refine CallK.p (c1) ?_|refine CallP.i (c1) ?_
 simp(disch:=omega)only[↓kX,kW,aS,Nat.reduceBEq,Nat.reduceLT,reduceCtorEq,↓reduceIte,Nat.reduceMul,Nat.reduceAdd,Nat.reduceLeDiff,Nat.reduceEqDiff,Int.reduceToNat,Nat.reduceSub,Nat.reduceMod,Nat.reduceDiv,Int.reducePow,Int.reduceLE,Int.reduceNeg,Int.reduceLT,Int.reduceBEq,Int.reduceBNe,Int.reduceEq,ku]
 refine CallK.i (c2 _) ?_
 rintro v E ⟨k,hk0,hk,rfl,rfl⟩
 simp(disch:=omega)only[↓kX,kW,aS,Nat.reduceBEq,Nat.reduceLT,reduceCtorEq,↓reduceIte,Nat.reduceMul,Nat.reduceAdd,Nat.reduceLeDiff,Nat.reduceEqDiff,Int.reduceToNat,Nat.reduceSub,Nat.reduceMod,Nat.reduceDiv,Int.reducePow,Int.reduceLE,Int.reduceNeg,Int.reduceLT,Int.reduceBEq,Int.reduceBNe,Int.reduceEq]
 exact⟨_,rfl,_,Abs.Sub.refl _,k,hk0,hk,rfl,rfl⟩
theorem set_same{l:List UInt8}{i:Nat}(h:i<l.length):l.set i (l.getD i 0+UInt8.ofNat (0*128))=l:=by
 rw[show UInt8.ofNat (0*128)=0 from rfl,UInt8.add_zero]
 simp[List.getD,h]
theorem rpencode_live(p:Pt)(H:AH):ACalls Tryz.prog 109 [.agg (cP p)] H (OwnB (qg p) H):=by
 have c1:=rof p.y
 have c2:=fun E=>rencode_live p.y E
 have hl:=mL 32 p.y.val
 have hel:=gz (lQ 32 p.y.val)
 have a31:=nX (l:=lQ 32 p.y.val) (i:=31) (by omega)
 have p31:=fun b=>oT (l:=lQ 32 p.y.val) (i:=31) (b:=b) (by omega)
 have he:qg p=(lQ 32 p.y.val).set 31 ((lQ 32 p.y.val).getD 31 0+UInt8.ofNat (p.x.val % 2*128)):=rfl
 have hss:=set_same (l:=lQ 32 p.y.val) (i:=31) (by omega)
 have hRl:=rX p
 have pl:=oV
 have pt:=oF
 have px:=cP_x
 have py:=cP_y
 have sl:=mO
 have st:=om
 have fl:=nN
 have ft:=pR
 have a0:(cP p)[0]? = some (.sc (.int .u64 (p.x.val % 18446744073709551616:Nat))):=rfl
 have hm2:p.x.val % 18446744073709551616 % 2=p.x.val % 2:=by omega
 have hb2:p.x.val % 2<2:=Nat.mod_lt _ (by decide)
 generalize p.x.val % 18446744073709551616=w0 at *
 generalize p.x.val % 2=bt at *
 generalize (lQ 32 p.y.val).getD 31 0=z at *
 generalize lQ 32 p.y.val=L at *
 generalize qg p=R at *
 have wm:IntKind.u64.wrap ((w0 % 2:Nat):Int)=((w0 % 2:Nat):Int):=jw (by omega)
 by_cases h1:bt=1
 ·have bs:(((w0 % 2:Nat):Int) == 1)=true:=by rw[hm2,h1];rfl
  rw[h1]at he
  have s31:IntKind.u8.wrap ((z.toNat:Int)+128)=((z+UInt8.ofNat (1*128)).toNat:Int):=n8wadd z 128
  have q31:=p31 (z+UInt8.ofNat (1*128))
  rw[←he]at q31
  refine ao0 (c:=⟨Tryz.prog,19,[(1000000,[1])],[],[]⟩) (rs:=[ResultVar.tmp 2]) Tryz.mixed Tryz.func109 rfl rfl rfl (Nat.le_of_ble_eq_true rfl) (by kernel_rfl) ?_
  simp(disch:=omega)only[↓kX,kW,aS,Nat.reduceBEq,Nat.reduceLT,reduceCtorEq,↓reduceIte,Nat.reduceMul,Nat.reduceAdd,Nat.reduceLeDiff,Nat.reduceEqDiff,Int.reduceToNat,Nat.reduceSub,Nat.reduceMod,Nat.reduceDiv,Int.reducePow,Int.reduceLE,Int.reduceNeg,Int.reduceLT,Int.reduceBEq,Int.reduceBNe,Int.reduceEq,pl,pt]
  intro k1 hk10 hk1
  rw[aj hk1]
  try simp(disch:=omega)only[↓kX,kW,aS,Nat.reduceBEq,Nat.reduceLT,reduceCtorEq,↓reduceIte,Nat.reduceMul,Nat.reduceAdd,Nat.reduceLeDiff,Nat.reduceEqDiff,Int.reduceToNat,Nat.reduceSub,Nat.reduceMod,Nat.reduceDiv,Int.reducePow,Int.reduceLE,Int.reduceNeg,Int.reduceLT,Int.reduceBEq,Int.reduceBNe,Int.reduceEq,pl,pt,px,py,sl,st,lG,kg]
  first|refine CallK.p (c1) ?_|refine CallP.i (c1) ?_
  simp(disch:=omega)only[↓kX,kW,aS,Nat.reduceBEq,Nat.reduceLT,reduceCtorEq,↓reduceIte,Nat.reduceMul,Nat.reduceAdd,Nat.reduceLeDiff,Nat.reduceEqDiff,Int.reduceToNat,Nat.reduceSub,Nat.reduceMod,Nat.reduceDiv,Int.reducePow,Int.reduceLE,Int.reduceNeg,Int.reduceLT,Int.reduceBEq,Int.reduceBNe,Int.reduceEq,pl,pt,px,py,sl,st,fl,ft,ku,lG,kg]
  refine CallK.i (c2 _) ?_
  rintro v E ⟨k,hk0,hk,rfl,rfl⟩
  simp(disch:=omega)only[↓kX,kW,aS,Nat.reduceBEq,Nat.reduceLT,reduceCtorEq,↓reduceIte,Nat.reduceMul,Nat.reduceAdd,Nat.reduceLeDiff,Nat.reduceEqDiff,Int.reduceToNat,Nat.reduceSub,Nat.reduceMod,Nat.reduceDiv,Int.reducePow,Int.reduceLE,Int.reduceNeg,Int.reduceLT,Int.reduceBEq,Int.reduceBNe,Int.reduceEq,set_get,set_set,pl,pt,px,py,sl,st,lG,kg,a0,jd,wm,bs,a31,hel,hl,s31,q31]
  exact⟨_,rfl,_,Abs.Sub.refl _,k,hk0,hk,by rw[hRl],rfl⟩
 ·have h0:bt=0:=by omega
  have bs:(((w0 % 2:Nat):Int) == 1)=false:=by rw[hm2,h0];rfl
  rw[h0,hss]at he
  refine ao0 (c:=⟨Tryz.prog,19,[(1000000,[1])],[],[]⟩) (rs:=[ResultVar.tmp 2]) Tryz.mixed Tryz.func109 rfl rfl rfl (Nat.le_of_ble_eq_true rfl) (by kernel_rfl) ?_
  simp(disch:=omega)only[↓kX,kW,aS,Nat.reduceBEq,Nat.reduceLT,reduceCtorEq,↓reduceIte,Nat.reduceMul,Nat.reduceAdd,Nat.reduceLeDiff,Nat.reduceEqDiff,Int.reduceToNat,Nat.reduceSub,Nat.reduceMod,Nat.reduceDiv,Int.reducePow,Int.reduceLE,Int.reduceNeg,Int.reduceLT,Int.reduceBEq,Int.reduceBNe,Int.reduceEq,pl,pt]
  intro k1 hk10 hk1
  rw[aj hk1]
  try simp(disch:=omega)only[↓kX,kW,aS,Nat.reduceBEq,Nat.reduceLT,reduceCtorEq,↓reduceIte,Nat.reduceMul,Nat.reduceAdd,Nat.reduceLeDiff,Nat.reduceEqDiff,Int.reduceToNat,Nat.reduceSub,Nat.reduceMod,Nat.reduceDiv,Int.reducePow,Int.reduceLE,Int.reduceNeg,Int.reduceLT,Int.reduceBEq,Int.reduceBNe,Int.reduceEq,pl,pt,px,py,sl,st,lG,kg]
  first|refine CallK.p (c1) ?_|refine CallP.i (c1) ?_
  simp(disch:=omega)only[↓kX,kW,aS,Nat.reduceBEq,Nat.reduceLT,reduceCtorEq,↓reduceIte,Nat.reduceMul,Nat.reduceAdd,Nat.reduceLeDiff,Nat.reduceEqDiff,Int.reduceToNat,Nat.reduceSub,Nat.reduceMod,Nat.reduceDiv,Int.reducePow,Int.reduceLE,Int.reduceNeg,Int.reduceLT,Int.reduceBEq,Int.reduceBNe,Int.reduceEq,pl,pt,px,py,sl,st,fl,ft,ku,lG,kg]
  refine CallK.i (c2 _) ?_
  rintro v E ⟨k,hk0,hk,rfl,rfl⟩
  simp(disch:=omega)only[↓kX,kW,aS,Nat.reduceBEq,Nat.reduceLT,reduceCtorEq,↓reduceIte,Nat.reduceMul,Nat.reduceAdd,Nat.reduceLeDiff,Nat.reduceEqDiff,Int.reduceToNat,Nat.reduceSub,Nat.reduceMod,Nat.reduceDiv,Int.reducePow,Int.reduceLE,Int.reduceNeg,Int.reduceLT,Int.reduceBEq,Int.reduceBNe,Int.reduceEq,set_get,set_set,pl,pt,px,py,sl,st,lG,kg,a0,jd,wm,bs]
  exact⟨_,rfl,_,Abs.Sub.refl _,k,hk0,hk,by rw[he],by rw[he]⟩
theorem rpencode(p:Pt):APure Tryz.prog 109 [.agg (cP p)] (eu (qg p)):=OwnB.pure fun H=>rpencode_live p H
end Go.Proofs.YtcncplameclkfaaGreatDoor
end
section
set_option maxRecDepth 20000
set_option maxHeartbeats 4000000
namespace Go.Proofs.YtcncplameclkfaaGreatDoor
open Go Go.Abs Go.Proofs Go.Box
open Go.Nam (p25 Fq dE W3 Pt On mF basP qK qL zeroP mZ lN oU)
open Go.Shg (nR pI)
def nY(seed:List UInt8):Nat:=lY (mu ((nR seed).take 32))
def ol(seed:List UInt8):List UInt8:=(nR seed).drop 32
theorem pi(b:List UInt8):((nR b).take 32).length=32:=by rw[List.length_take,pI];rfl
theorem secN_lt(seed:List UInt8):nY seed<2^256:=by
 have h:=pq (mu ((nR seed).take 32))
 rw[ni,pi]at h
 exact h
theorem secP_len(seed:List UInt8):(ol seed).length=32:=by unfold ol;rw[List.length_drop,pI]
theorem ssecret_pure(seed:List UInt8)(h32:seed.length=32):APure Tryz.prog 56 [eu seed] (.tup [nA (nY seed),eu (ol seed),.sc (.int .i64 0)]):=by
 have b1:((seed.length:Int) != 32)=false:=by rw[h32];rfl
 have c1:=psum512_pure seed (by omega)
 have c2:=pclamp_pure ((nR seed).take 32) (pi seed)
 have c3:=qr (mu ((nR seed).take 32)) (by rw[ni,pi];decide)
 have hcl:(mu ((nR seed).take 32)).length=32:=by rw[ni,pi]
 have hpl:=secP_len seed
 have hsl:=pI seed
 have htl:=pi seed
 unfold nY
 have hP:ol seed=(nR seed).drop 32:=rfl
 have et:(bw (nR seed)).take 32=bw ((nR seed).take 32):=qO _ _
 have ed:(bw (nR seed)).drop 32=bw ((nR seed).drop 32):=qP _ _
 rw[←hP]at ed
 generalize ol seed=pf at *
 have sl:=mI
 have st:=mH
 have zq:=fun x=>mP (sl x)
 unfold nA eu at *
 rw[htl]at c2
 rw[hcl]at c2 c3
 rw[hsl]at c1
 have eel:=gz (nR seed)
 have epl:=gz pf
 have hpt:(bw pf).take 32=bw pf:=List.take_of_length_le (by rw[epl,hpl];decide)
 rw[hpl]
 generalize mu ((nR seed).take 32)=cl at *
 generalize (nR seed).take 32=t32 at *
 generalize nR seed=sm at *
 generalize lY cl=n at *
 refine az (c:=⟨Tryz.prog,30,[(6,[1,0,0,2,0,0]),(1000005,[8])],[],[]⟩) (rs:=[ResultVar.cell 2 58,ResultVar.tmp 3,ResultVar.tmp 4]) Tryz.mixed Tryz.func56 rfl rfl rfl (Nat.le_of_ble_eq_true rfl) (by kernel_rfl) fun H=>?_
 simp(disch:=omega)only[↓kX,kW,aS,simprocAttr,b1]
 intro k2 hk20 hk2
 first|refine CallK.p (c1) ?_|refine CallP.i (c1) ?_
 simp(disch:=omega)only[↓kX,kW,aS,simprocAttr,et,ed,eel,hsl,sl,st]
 first|refine CallK.p (c2) ?_|refine CallP.i (c2) ?_
 simp(disch:=omega)only[↓kX,kW,aS,simprocAttr,et,ed,eel,hsl,sl,st]
 first|refine CallK.p (c3) ?_|refine CallP.i (c3) ?_
 simp(disch:=omega)only[↓kX,kW,aS,simprocAttr,et,ed,eel,hsl,sl,st,kY]
 intro k8 hk80 hk8
 rw[zq,aj hk8]
 simp(disch:=omega)only[↓kX,kW,aS,simprocAttr,et,ed,hpt,eel,hsl,sl,st,zq,set_get,set_set,kY]
 first|exact Sub.set_new hk2|exact⟨rfl,Sub.set_new hk2⟩|trace_state
theorem ssecret_bad(seed:List UInt8)(h32:seed.length≠32):APure Tryz.prog 56 [eu seed] (.tup [nA 0,eu [],.sc (.int .i64 1)]):=by
 have b1:((seed.length:Int) != 32)=true:=nT (by omega)
 unfold nA eu
 rw[show lH (kZ 4 0)=[.sc (.int .u64 0),.sc (.int .u64 0),.sc (.int .u64 0),.sc (.int .u64 0)] from rfl]
 refine az (c:=⟨Tryz.prog,30,[(6,[1,0,0,2,0,0]),(1000005,[8])],[],[]⟩) (rs:=[ResultVar.cell 2 58,ResultVar.tmp 3,ResultVar.tmp 4]) Tryz.mixed Tryz.func56 rfl rfl rfl (Nat.le_of_ble_eq_true rfl) (by kernel_rfl) fun H=>?_
 simp(disch:=omega)only[↓kX,kW,aS,simprocAttr,b1]
 intro k2 hk20 hk2
 simp(disch:=omega)only[↓kX,kW,aS,simprocAttr,set_get,set_set,ah]
 first|exact Sub.set_new hk2|exact⟨rfl,Sub.set_new hk2⟩|trace_state
def iZ(l:List UInt8):Nat:=lY (nR l) % lN
theorem digM_lt(l:List UInt8):iZ l<lN:=Nat.mod_lt _ oU
theorem sH(ls:List (List UInt8))(hl:ls.length≤1000)(hf:ls.flatten.length≤10000000):APure Tryz.prog 60 [fZ ls] (nA (iZ ls.flatten)):=by
 have c1:=sjoin_pure ls hl hf
 have c2:=psum512_pure ls.flatten (by omega)
 have c3:=sof_pure (nR ls.flatten) (by rw[pI];decide)
 unfold iZ
 have sl:=mI
 have st:=mH
 have zq:=fun x=>mP (sl x)
 unfold nA at *
 generalize lY (nR ls.flatten) % lN=r at *
 generalize nR ls.flatten=sm at *
 generalize ls.flatten=fl at *
 unfold eu at *
 have hrs:(fZ ls).strip=fZ ls:=rfl
 generalize fZ ls=rv at *
 refine az (c:=⟨Tryz.prog,13,[(1000001,[3])],[],[]⟩) (rs:=[ResultVar.cell 2 86]) Tryz.mixed Tryz.func60 rfl rfl rfl (Nat.le_of_ble_eq_true rfl) (by kernel_rfl) fun H=>?_
 simp(disch:=omega)only[↓kX,kW,aS,simprocAttr]
 intro k2 hk20 hk2
 rw[hrs]
 first|refine CallK.p (c1) ?_|refine CallP.i (c1) ?_
 simp(disch:=omega)only[↓kX,kW,aS,simprocAttr]
 first|refine CallK.p (c2) ?_|refine CallP.i (c2) ?_
 simp(disch:=omega)only[↓kX,kW,aS,simprocAttr]
 first|refine CallK.p (c3) ?_|refine CallP.i (c3) ?_
 simp(disch:=omega)only[↓kX,kW,aS,simprocAttr,sl,st,kY]
 intro k3 hk30 hk3
 rw[zq,aj hk3]
 simp(disch:=omega)only[↓kX,kW,aS,simprocAttr,set_get,set_set,sl,st,zq,kY]
 first|exact Sub.set_new hk2|exact⟨rfl,Sub.set_new hk2⟩|trace_state
def qe(seed:List UInt8):List UInt8:=qg (mF (nY seed) basP)
theorem spublic_pure(seed:List UInt8):APure Tryz.prog 26 [eu seed] (if seed.length=32 then .tup [eu (qe seed),.sc (.int .i64 0)] else .tup [eu [],.sc (.int .i64 1)]):=by
 have sl:=mI
 have st:=mH
 have zq:=fun x=>mP (sl x)
 by_cases h:seed.length=32
 ·rw[if_pos h]
  have c1:=ssecret_pure seed h
  have c2:=qsigpoint (nY seed) (secN_lt seed)
  rw[show qg (mF (nY seed) basP)=qe seed from rfl]at c2
  generalize qe seed=R at *
  generalize nY seed=n at *
  generalize ol seed=pf at *
  unfold nA eu at *
  refine az (c:=⟨Tryz.prog,18,[(1000001,[4])],[],[]⟩) (rs:=[ResultVar.tmp 2,ResultVar.tmp 3]) Tryz.mixed Tryz.func26 rfl rfl rfl (Nat.le_of_ble_eq_true rfl) (by kernel_rfl) fun H=>?_
  simp(disch:=omega)only[↓kX,kW,aS,simprocAttr]
  first|refine CallK.p (c1) ?_|refine CallP.i (c1) ?_
  simp(disch:=omega)only[↓kX,kW,aS,simprocAttr,sl,st,kY]
  intro k4 hk40 hk4
  rw[zq,aj hk4]
  try simp(disch:=omega)only[↓kX,kW,aS,simprocAttr,sl,st,kY]
  first|refine CallK.p (c2) ?_|refine CallP.i (c2) ?_
  simp(disch:=omega)only[↓kX,kW,aS,simprocAttr]
  first|exact Abs.Sub.refl _|exact⟨rfl,Abs.Sub.refl _⟩|trace_state
 ·rw[if_neg h]
  have c1:=ssecret_bad seed h
  unfold nA eu at *
  refine az (c:=⟨Tryz.prog,18,[(1000001,[4])],[],[]⟩) (rs:=[ResultVar.tmp 2,ResultVar.tmp 3]) Tryz.mixed Tryz.func26 rfl rfl rfl (Nat.le_of_ble_eq_true rfl) (by kernel_rfl) fun H=>?_
  simp(disch:=omega)only[↓kX,kW,aS,simprocAttr]
  first|refine CallK.p (c1) ?_|refine CallP.i (c1) ?_
  simp(disch:=omega)only[↓kX,kW,aS,simprocAttr,sl,st,kY]
  intro k4 hk40 hk4
  rw[zq,aj hk4]
  try simp(disch:=omega)only[↓kX,kW,aS,simprocAttr,sl,st,kY]
  first|exact Abs.Sub.refl _|exact⟨rfl,Abs.Sub.refl _⟩|trace_state
def sT(seed b:List UInt8):List UInt8:=qg (mF (iZ (ol seed++b)) basP)
def rV(seed b:List UInt8):Nat:=iZ (sT seed b++(qe seed++b))
def essM(seed b:List UInt8):Nat:=(iZ (ol seed++b)+rV seed b*(nY seed % lN) % lN) % lN
def sigM(seed b:List UInt8):List UInt8:=sT seed b++lQ 32 (essM seed b)
theorem firM_len(seed b:List UInt8):(sT seed b).length=32:=rX _
theorem sigM_len(seed b:List UInt8):(sigM seed b).length=64:=by
 unfold sigM
 rw[List.length_append,firM_len,mL]
theorem lt_B{n:Nat}(h:n<lN):n<lX:=Nat.lt_trans h (by decide)
theorem ssign_pure(seed b:List UInt8)(hb:b.length≤1000000):APure Tryz.prog 28 [eu seed,eu b] (if seed.length=32 then .tup [eu (sigM seed b),.sc (.int .i64 0)] else .tup [eu [],.sc (.int .i64 1)]):=by
 have sl:=mI
 have st:=mH
 have zq:=fun x=>mP (sl x)
 by_cases h:seed.length=32
 ·rw[if_pos h]
  have c1:=ssecret_pure seed h
  have hpf:=secP_len seed
  have hfl:=firM_len seed b
  have hpl:=rX (mF (nY seed) basP)
  rw[show qg (mF (nY seed) basP)=qe seed from rfl]at hpl
  have c2:=sH [ol seed,b] (by simp) (by simp[hpf];omega)
  rw[show [ol seed,b].flatten=ol seed++b by simp]at c2
  have r1:=digM_lt (ol seed++b)
  have c3:=pW (iZ (ol seed++b)) (lt_B r1)
  rw[Nat.mod_eq_of_lt r1]at c3
  have c4:=qsigpoint (iZ (ol seed++b)) (lt_B r1)
  rw[show qg (mF (iZ (ol seed++b)) basP)=sT seed b from rfl]at c4
  have c5:=qsigpoint (nY seed) (secN_lt seed)
  rw[show qg (mF (nY seed) basP)=qe seed from rfl]at c5
  have c6:=sH [sT seed b,qe seed,b] (by simp) (by simp[hfl,hpl];omega)
  rw[show [sT seed b,qe seed,b].flatten=sT seed b++(qe seed++b) by simp,show iZ (sT seed b++(qe seed++b))=rV seed b from rfl]at c6
  have r2:rV seed b<lN:=digM_lt _
  have hnB:nY seed<lX:=secN_lt seed
  have c7:=rz (nY seed) hnB
  have r3:nY seed % lN<lN:=Nat.mod_lt _ oU
  have c8:=smul_pure (rV seed b) (nY seed % lN) (lt_B r2) (lt_B r3)
  rw[Nat.mod_eq_of_lt r2,Nat.mod_mod]at c8
  have r4:rV seed b*(nY seed % lN) % lN<lN:=Nat.mod_lt _ oU
  have c9:=sadd_pure (iZ (ol seed++b)) (rV seed b*(nY seed % lN) % lN) (lt_B r1) (lt_B r4)
  rw[Nat.mod_eq_of_lt r1,Nat.mod_mod,show(iZ (ol seed++b)+rV seed b*(nY seed % lN) % lN) % lN=essM seed b from rfl]at c9
  have r5:essM seed b<lN:=Nat.mod_lt _ oU
  have c10:=sbytes_pure (essM seed b) (lt_B r5)
  rw[Nat.mod_eq_of_lt r5]at c10
  have c11:=sjoin_pure [sT seed b,lQ 32 (essM seed b)] (by simp) (by simp[hfl,mL])
  rw[show [sT seed b,lQ 32 (essM seed b)].flatten=sigM seed b by unfold sigM;simp]at c11
  have hsl:=sigM_len seed b
  generalize sigM seed b=SG at *
  generalize lQ 32 (essM seed b)=sb at *
  generalize essM seed b=es at *
  generalize rV seed b*(nY seed % lN) % lN=p1 at *
  generalize nY seed % lN=p2 at *
  generalize rV seed b=ky at *
  generalize sT seed b=fi at *
  generalize qe seed=pu at *
  generalize iZ (ol seed++b)=rr at *
  generalize nY seed=n at *
  generalize ol seed=pf at *
  have t2:∀x y:List UInt8,fZ [x,y]=.imm 0 [.imm 0 (bw x) x.length,.imm 0 (bw y) y.length] 2:=fun _ _=>rfl
  have t3:∀x y z:List UInt8,fZ [x,y,z]=.imm 0 [.imm 0 (bw x) x.length,.imm 0 (bw y) y.length,.imm 0 (bw z) z.length] 3:=fun _ _ _=>rfl
  rw[t2]at c2 c11
  rw[t3]at c6
  unfold nA eu at *
  refine az (c:=⟨Tryz.prog,44,[(7,[0,1,1,1,0,0,0,0,0,0,0,0]),(1000001,[6]),(1000004,[9]),(1000006,[11])],[],[]⟩) (rs:=[ResultVar.tmp 4,ResultVar.tmp 5]) Tryz.mixed Tryz.func28 rfl rfl rfl (Nat.le_of_ble_eq_true rfl) (by kernel_rfl) fun H=>?_
  simp(disch:=omega)only[↓kX,kW,aS,simprocAttr]
  first|refine CallK.p (c1) ?_|refine CallP.i (c1) ?_
  simp(disch:=omega)only[↓kX,kW,aS,simprocAttr,sl,st,kY]
  intro k6 hk60 hk6
  rw[zq,aj hk6]
  try simp(disch:=omega)only[↓kX,kW,aS,simprocAttr,sl,st,kY]
  first|refine CallK.p (c2) ?_|refine CallP.i (c2) ?_
  simp(disch:=omega)only[↓kX,kW,aS,simprocAttr,sl,st,kY]
  intro k9 hk90 hk9
  rw[zq,aj hk9]
  try simp(disch:=omega)only[↓kX,kW,aS,simprocAttr,sl,st,kY]
  first|refine CallK.p (c3) ?_|refine CallP.i (c3) ?_
  simp(disch:=omega)only[↓kX,kW,aS,simprocAttr,sl,st,kY]
  first|refine CallK.p (c4) ?_|refine CallP.i (c4) ?_
  simp(disch:=omega)only[↓kX,kW,aS,simprocAttr,sl,st,kY]
  first|refine CallK.p (c5) ?_|refine CallP.i (c5) ?_
  simp(disch:=omega)only[↓kX,kW,aS,simprocAttr,sl,st,kY]
  first|refine CallK.p (c6) ?_|refine CallP.i (c6) ?_
  simp(disch:=omega)only[↓kX,kW,aS,simprocAttr,sl,st,kY]
  intro k11 hk110 hk11
  rw[zq,aj hk11]
  try simp(disch:=omega)only[↓kX,kW,aS,simprocAttr,sl,st,kY]
  first|refine CallK.p (c7) ?_|refine CallP.i (c7) ?_
  simp(disch:=omega)only[↓kX,kW,aS,simprocAttr,sl,st,kY]
  first|refine CallK.p (c8) ?_|refine CallP.i (c8) ?_
  simp(disch:=omega)only[↓kX,kW,aS,simprocAttr,sl,st,kY]
  first|refine CallK.p (c9) ?_|refine CallP.i (c9) ?_
  simp(disch:=omega)only[↓kX,kW,aS,simprocAttr,sl,st,kY]
  first|refine CallK.p (c10) ?_|refine CallP.i (c10) ?_
  simp(disch:=omega)only[↓kX,kW,aS,simprocAttr,sl,st,kY]
  first|refine CallK.p (c11) ?_|refine CallP.i (c11) ?_
  simp(disch:=omega)only[↓kX,kW,aS,simprocAttr]
  first|exact Abs.Sub.refl _|exact⟨rfl,Abs.Sub.refl _⟩|trace_state
 ·rw[if_neg h]
  have c1:=ssecret_bad seed h
  unfold nA eu at *
  refine az (c:=⟨Tryz.prog,44,[(7,[0,1,1,1,0,0,0,0,0,0,0,0]),(1000001,[6]),(1000004,[9]),(1000006,[11])],[],[]⟩) (rs:=[ResultVar.tmp 4,ResultVar.tmp 5]) Tryz.mixed Tryz.func28 rfl rfl rfl (Nat.le_of_ble_eq_true rfl) (by kernel_rfl) fun H=>?_
  simp(disch:=omega)only[↓kX,kW,aS,simprocAttr]
  first|refine CallK.p (c1) ?_|refine CallP.i (c1) ?_
  simp(disch:=omega)only[↓kX,kW,aS,simprocAttr,sl,st,kY]
  intro k4 hk40 hk4
  rw[zq,aj hk4]
  try simp(disch:=omega)only[↓kX,kW,aS,simprocAttr,sl,st,kY]
  first|exact Abs.Sub.refl _|exact⟨rfl,Abs.Sub.refl _⟩|trace_state
def kayV(key b sig:List UInt8):Nat:=iZ (sig.take 32++(key++b))
noncomputable def verM(key b sig:List UInt8):Nat:=
 if key.length≠32∨sig.length≠64 then 1 else
 if (rC (sig.drop 32)).2≠0 then (rC (sig.drop 32)).2 else
 if (pK key).2≠0 then (pK key).2 else
 if mF 8 (pK key).1=zeroP then 7 else
 if (pK (sig.take 32)).2≠0 then (pK (sig.take 32)).2 else
 if mZ (mF (rC (sig.drop 32)).1 basP) (mF (kayV key b sig) (qL (pK key).1))=(pK (sig.take 32)).1 then 0 else 10
theorem sdecM_lt{b:List UInt8}(h:(rC b).2=0):(rC b).1<lN:=by
 unfold rC at *
 split
 ·exact oU
 ·split
  ·assumption
  ·rename_i h1 h2
   rw[if_neg h1,if_neg h2]at h
   cases h
theorem qR{e:Nat}(h:¬e=0):((e:Int) != 0)=true:=by
 rw[bne,Bool.not_eq_true',beq_eq_false_iff_ne]
 omega
theorem sverify_pure(key b sig:List UInt8)(hk:key.length≤1000000000)(hs:sig.length≤1000000000)(hb:b.length≤1000000):APure Tryz.prog 30 [eu key,eu b,eu sig] (.sc (.int .i64 (verM key b sig))):=by
 have nl:=mI
 have nt:=mH
 have zn:=fun x=>mP (nl x)
 have pl:=oV
 have pt:=oF
 have z8:=qh
 have hkl:=gz key
 have hsl:=gz sig
 unfold verM
 by_cases h32:key.length=32
 ·by_cases h64:sig.length=64
  ·rw[if_neg (by omega)]
   have b1:((key.length:Int) != 32)=false:=by rw[h32];rfl
   have b2:((sig.length:Int) != 64)=false:=by rw[h64];rfl
   have ed:(bw sig).drop 32=bw (sig.drop 32):=qP _ _
   have et:(bw sig).take 32=bw (sig.take 32):=qO _ _
   have hdl:(sig.drop 32).length=32:=by rw[List.length_drop,h64]
   have htl:(sig.take 32).length=32:=by rw[List.length_take,h64];rfl
   have edl:=gz (sig.drop 32)
   have hdt:(bw (sig.drop 32)).take 32=bw (sig.drop 32):=List.take_of_length_le (by rw[edl,hdl];decide)
   have hsub:sig.length-32=32:=by omega
   have h64le:32≤sig.length:=by omega
   have c1:=sdecode_pure (sig.drop 32)
   have c2:=qdecode key
   have c3:=qdecode (sig.take 32)
   have hs1:=@sdecM_lt (sig.drop 32)
   have hp1:=@pdecM_on key
   have hp2:=@pdecM_on (sig.take 32)
   have c4:=sH [sig.take 32,key,b] (by simp) (by simp[h64];omega)
   rw[show [sig.take 32,key,b].flatten=sig.take 32++(key++b) by simp,show iZ (sig.take 32++(key++b))=kayV key b sig from rfl]at c4
   have rk:kayV key b sig<lN:=digM_lt _
   generalize kayV key b sig=ky at *
   generalize rC (sig.drop 32)=sd at *
   generalize pK key=pk at *
   generalize pK (sig.take 32)=pr at *
   obtain⟨s,es⟩:=sd
   obtain⟨A,ea⟩:=pk
   obtain⟨R,er⟩:=pr
   simp only at c1 c2 c3 hs1 ⊢
   have t3:∀x y z:List UInt8,fZ [x,y,z]=.imm 0 [.imm 0 (bw x) x.length,.imm 0 (bw y) y.length,.imm 0 (bw z) z.length] 3:=fun _ _ _=>rfl
   rw[t3]at c4
   unfold nA eu at *
   rw[hdl]at c1
   rw[htl]at c3 c4
   by_cases hes:es=0
   ·rw[if_neg (by simp[hes])]
    have be:((es:Int) != 0)=false:=by rw[hes];rfl
    by_cases hea:ea=0
    ·rw[if_neg (by simp[hea])]
     have bf:((ea:Int) != 0)=false:=by rw[hea];rfl
     have oA:A.on:=hp1 (by rw[hea])
     have c5:=qsmall A oA
     by_cases hsm:mF 8 A=zeroP
     ·rw[if_pos hsm]
      rw[decide_eq_true hsm]at c5
      refine az (c:=⟨Tryz.prog,79,[(17,[0,0,0,0,0,0,0,0,0,0,0,0,0,0,0,2,2,0]),(1000003,[7]),(1000006,[9]),(1000013,[10]),(1000016,[11]),(1000017,[13]),(4000017,[10,13]),(4000016,[0,1,2,7,10,11]),(4000013,[0,1,2,7,8,9,10]),(4000006,[0,1,2,7,8,9]),(4000003,[0,1,2,7,8]),(4000001,[0,1,2,22])],[],[]⟩) (rs:=[ResultVar.tmp 6]) Tryz.mixed Tryz.func30 rfl rfl rfl (Nat.le_of_ble_eq_true rfl) (by kernel_rfl) fun H=>?_
      simp(disch:=omega)only[↓kX,kW,aS,simprocAttr,b1,b2,hsub,ed,et,hdt,hkl,hsl,h64le,nl,nt,pl,pt,kY,kg]
      first|refine CallK.p (c1) ?_|refine CallP.i (c1) ?_
      simp(disch:=omega)only[↓kX,kW,aS,simprocAttr,hsub,ed,et,hdt,hkl,hsl,h64le,nl,nt,pl,pt,kY,kg]
      intro k7 hk70 hk7
      rw[zn,aj hk7]
      try simp(disch:=omega)only[↓kX,kW,aS,simprocAttr,be,hsub,ed,et,hdt,hkl,hsl,h64le,nl,nt,pl,pt,kY,kg]
      first|refine CallK.p (c2) ?_|refine CallP.i (c2) ?_
      simp(disch:=omega)only[↓kX,kW,aS,simprocAttr,hsub,ed,et,hdt,hkl,hsl,h64le,nl,nt,pl,pt,kY,kg]
      intro k9 hk90 hk9
      rw[z8,aj hk9]
      try simp(disch:=omega)only[↓kX,kW,aS,simprocAttr,bf,hsub,ed,et,hdt,hkl,hsl,h64le,nl,nt,pl,pt,kY,kg]
      first|refine CallK.p (c5) ?_|refine CallP.i (c5) ?_
      simp(disch:=omega)only[↓kX,kW,aS,simprocAttr,bf,hsub,ed,et,hdt,hkl,hsl,h64le,nl,nt,pl,pt,kY,kg]
      first|exact Abs.Sub.refl _|exact⟨rfl,Abs.Sub.refl _⟩|trace_state
     ·rw[if_neg hsm]
      rw[decide_eq_false hsm]at c5
      by_cases her:er=0
      ·rw[if_neg (by simp[her])]
       have bg:((er:Int) != 0)=false:=by rw[her];rfl
       have oR:R.on:=hp2 (by rw[her])
       have c6:=qnegp A oA
       have oN:=Go.Nam.neg_on oA
       have hsL:=hs1 hes
       have c7:=pW s (lt_B hsL)
       rw[Nat.mod_eq_of_lt hsL]at c7
       have c8:=qbase
       have c9:=pW ky (lt_B rk)
       rw[Nat.mod_eq_of_lt rk]at c9
       have c10:=qboth s (lt_B hsL) basP qK ky (lt_B rk) (qL A) oN
       have q1:=eqP (mZ (mF s basP) (mF ky (qL A))) R
       have k1':=ckP (mZ (mF s basP) (mF ky (qL A)))
       have k2':=ckP R
       have eo:=eoP
       unfold nA at *
       generalize mZ (mF s basP) (mF ky (qL A))=IS at *
       generalize qL A=NA at *
       generalize basP=B at *
       by_cases hq:IS=R
       ·rw[if_pos hq]
        rw[decide_eq_true hq]at q1
        refine az (c:=⟨Tryz.prog,79,[(17,[0,0,0,0,0,0,0,0,0,0,0,0,0,0,0,2,2,0]),(1000003,[7]),(1000006,[9]),(1000013,[10]),(1000016,[11]),(1000017,[13]),(4000017,[10,13]),(4000016,[0,1,2,7,10,11]),(4000013,[0,1,2,7,8,9,10]),(4000006,[0,1,2,7,8,9]),(4000003,[0,1,2,7,8]),(4000001,[0,1,2,22])],[],[]⟩) (rs:=[ResultVar.tmp 6]) Tryz.mixed Tryz.func30 rfl rfl rfl (Nat.le_of_ble_eq_true rfl) (by kernel_rfl) fun H=>?_
        simp(disch:=omega)only[↓kX,kW,aS,simprocAttr,b1,b2,hsub,ed,et,hdt,hkl,hsl,h64le,nl,nt,pl,pt,kY,kg]
        first|refine CallK.p (c1) ?_|refine CallP.i (c1) ?_
        simp(disch:=omega)only[↓kX,kW,aS,simprocAttr,hsub,ed,et,hdt,hkl,hsl,h64le,nl,nt,pl,pt,kY,kg]
        intro k7 hk70 hk7
        rw[zn,aj hk7]
        try simp(disch:=omega)only[↓kX,kW,aS,simprocAttr,be,hsub,ed,et,hdt,hkl,hsl,h64le,nl,nt,pl,pt,kY,kg]
        first|refine CallK.p (c2) ?_|refine CallP.i (c2) ?_
        simp(disch:=omega)only[↓kX,kW,aS,simprocAttr,hsub,ed,et,hdt,hkl,hsl,h64le,nl,nt,pl,pt,kY,kg]
        intro k9 hk90 hk9
        rw[z8,aj hk9]
        try simp(disch:=omega)only[↓kX,kW,aS,simprocAttr,bf,hsub,ed,et,hdt,hkl,hsl,h64le,nl,nt,pl,pt,kY,kg]
        first|refine CallK.p (c5) ?_|refine CallP.i (c5) ?_
        simp(disch:=omega)only[↓kX,kW,aS,simprocAttr,bf,hsub,ed,et,hdt,hkl,hsl,h64le,nl,nt,pl,pt,kY,kg]
        first|refine CallK.p (c3) ?_|refine CallP.i (c3) ?_
        simp(disch:=omega)only[↓kX,kW,aS,simprocAttr,hsub,ed,et,hdt,hkl,hsl,h64le,nl,nt,pl,pt,kY,kg]
        intro k10 hk100 hk10
        rw[z8,aj hk10]
        try simp(disch:=omega)only[↓kX,kW,aS,simprocAttr,bg,hsub,ed,et,hdt,hkl,hsl,h64le,nl,nt,pl,pt,kY,kg]
        first|refine CallK.p (c6) ?_|refine CallP.i (c6) ?_
        simp(disch:=omega)only[↓kX,kW,aS,simprocAttr,hsub,ed,et,hdt,hkl,hsl,h64le,nl,nt,pl,pt,kY,kg]
        intro k11 hk110 hk11
        rw[z8,aj hk11]
        try simp(disch:=omega)only[↓kX,kW,aS,simprocAttr,hsub,ed,et,hdt,hkl,hsl,h64le,nl,nt,pl,pt,kY,kg]
        first|refine CallK.p (c7) ?_|refine CallP.i (c7) ?_
        simp(disch:=omega)only[↓kX,kW,aS,simprocAttr,hsub,ed,et,hdt,hkl,hsl,h64le,nl,nt,pl,pt,kY,kg]
        first|refine CallK.p (c8) ?_|refine CallP.i (c8) ?_
        simp(disch:=omega)only[↓kX,kW,aS,simprocAttr,hsub,ed,et,hdt,hkl,hsl,h64le,nl,nt,pl,pt,kY,kg]
        first|refine CallK.p (c4) ?_|refine CallP.i (c4) ?_
        simp(disch:=omega)only[↓kX,kW,aS,simprocAttr,hsub,ed,et,hdt,hkl,hsl,h64le,nl,nt,pl,pt,kY,kg]
        first|refine CallK.p (c9) ?_|refine CallP.i (c9) ?_
        simp(disch:=omega)only[↓kX,kW,aS,simprocAttr,hsub,ed,et,hdt,hkl,hsl,h64le,nl,nt,pl,pt,kY,kg]
        first|refine CallK.p (c10) ?_|refine CallP.i (c10) ?_
        simp(disch:=omega)only[↓kX,kW,aS,simprocAttr,hsub,ed,et,hdt,hkl,hsl,h64le,nl,nt,pl,pt,kY,kg]
        intro k13 hk130 hk13
        rw[z8,aj hk13]
        try simp(disch:=omega)only[↓kX,kW,aS,simprocAttr,q1,k1',k2',eo,hsub,ed,et,hdt,hkl,hsl,h64le,nl,nt,pl,pt,kY,kg]
        first|exact Abs.Sub.refl _|exact⟨rfl,Abs.Sub.refl _⟩|trace_state
       ·rw[if_neg hq]
        rw[decide_eq_false hq]at q1
        refine az (c:=⟨Tryz.prog,79,[(17,[0,0,0,0,0,0,0,0,0,0,0,0,0,0,0,2,2,0]),(1000003,[7]),(1000006,[9]),(1000013,[10]),(1000016,[11]),(1000017,[13]),(4000017,[10,13]),(4000016,[0,1,2,7,10,11]),(4000013,[0,1,2,7,8,9,10]),(4000006,[0,1,2,7,8,9]),(4000003,[0,1,2,7,8]),(4000001,[0,1,2,22])],[],[]⟩) (rs:=[ResultVar.tmp 6]) Tryz.mixed Tryz.func30 rfl rfl rfl (Nat.le_of_ble_eq_true rfl) (by kernel_rfl) fun H=>?_
        simp(disch:=omega)only[↓kX,kW,aS,simprocAttr,b1,b2,hsub,ed,et,hdt,hkl,hsl,h64le,nl,nt,pl,pt,kY,kg]
        first|refine CallK.p (c1) ?_|refine CallP.i (c1) ?_
        simp(disch:=omega)only[↓kX,kW,aS,simprocAttr,hsub,ed,et,hdt,hkl,hsl,h64le,nl,nt,pl,pt,kY,kg]
        intro k7 hk70 hk7
        rw[zn,aj hk7]
        try simp(disch:=omega)only[↓kX,kW,aS,simprocAttr,be,hsub,ed,et,hdt,hkl,hsl,h64le,nl,nt,pl,pt,kY,kg]
        first|refine CallK.p (c2) ?_|refine CallP.i (c2) ?_
        simp(disch:=omega)only[↓kX,kW,aS,simprocAttr,hsub,ed,et,hdt,hkl,hsl,h64le,nl,nt,pl,pt,kY,kg]
        intro k9 hk90 hk9
        rw[z8,aj hk9]
        try simp(disch:=omega)only[↓kX,kW,aS,simprocAttr,bf,hsub,ed,et,hdt,hkl,hsl,h64le,nl,nt,pl,pt,kY,kg]
        first|refine CallK.p (c5) ?_|refine CallP.i (c5) ?_
        simp(disch:=omega)only[↓kX,kW,aS,simprocAttr,bf,hsub,ed,et,hdt,hkl,hsl,h64le,nl,nt,pl,pt,kY,kg]
        first|refine CallK.p (c3) ?_|refine CallP.i (c3) ?_
        simp(disch:=omega)only[↓kX,kW,aS,simprocAttr,hsub,ed,et,hdt,hkl,hsl,h64le,nl,nt,pl,pt,kY,kg]
        intro k10 hk100 hk10
        rw[z8,aj hk10]
        try simp(disch:=omega)only[↓kX,kW,aS,simprocAttr,bg,hsub,ed,et,hdt,hkl,hsl,h64le,nl,nt,pl,pt,kY,kg]
        first|refine CallK.p (c6) ?_|refine CallP.i (c6) ?_
        simp(disch:=omega)only[↓kX,kW,aS,simprocAttr,hsub,ed,et,hdt,hkl,hsl,h64le,nl,nt,pl,pt,kY,kg]
        intro k11 hk110 hk11
        rw[z8,aj hk11]
        try simp(disch:=omega)only[↓kX,kW,aS,simprocAttr,hsub,ed,et,hdt,hkl,hsl,h64le,nl,nt,pl,pt,kY,kg]
        first|refine CallK.p (c7) ?_|refine CallP.i (c7) ?_
        simp(disch:=omega)only[↓kX,kW,aS,simprocAttr,hsub,ed,et,hdt,hkl,hsl,h64le,nl,nt,pl,pt,kY,kg]
        first|refine CallK.p (c8) ?_|refine CallP.i (c8) ?_
        simp(disch:=omega)only[↓kX,kW,aS,simprocAttr,hsub,ed,et,hdt,hkl,hsl,h64le,nl,nt,pl,pt,kY,kg]
        first|refine CallK.p (c4) ?_|refine CallP.i (c4) ?_
        simp(disch:=omega)only[↓kX,kW,aS,simprocAttr,hsub,ed,et,hdt,hkl,hsl,h64le,nl,nt,pl,pt,kY,kg]
        first|refine CallK.p (c9) ?_|refine CallP.i (c9) ?_
        simp(disch:=omega)only[↓kX,kW,aS,simprocAttr,hsub,ed,et,hdt,hkl,hsl,h64le,nl,nt,pl,pt,kY,kg]
        first|refine CallK.p (c10) ?_|refine CallP.i (c10) ?_
        simp(disch:=omega)only[↓kX,kW,aS,simprocAttr,hsub,ed,et,hdt,hkl,hsl,h64le,nl,nt,pl,pt,kY,kg]
        intro k13 hk130 hk13
        rw[z8,aj hk13]
        try simp(disch:=omega)only[↓kX,kW,aS,simprocAttr,q1,k1',k2',eo,hsub,ed,et,hdt,hkl,hsl,h64le,nl,nt,pl,pt,kY,kg]
        first|exact Abs.Sub.refl _|exact⟨rfl,Abs.Sub.refl _⟩|trace_state
      ·rw[if_pos (by simp[her])]
       have bg:((er:Int) != 0)=true:=qR her
       refine az (c:=⟨Tryz.prog,79,[(17,[0,0,0,0,0,0,0,0,0,0,0,0,0,0,0,2,2,0]),(1000003,[7]),(1000006,[9]),(1000013,[10]),(1000016,[11]),(1000017,[13]),(4000017,[10,13]),(4000016,[0,1,2,7,10,11]),(4000013,[0,1,2,7,8,9,10]),(4000006,[0,1,2,7,8,9]),(4000003,[0,1,2,7,8]),(4000001,[0,1,2,22])],[],[]⟩) (rs:=[ResultVar.tmp 6]) Tryz.mixed Tryz.func30 rfl rfl rfl (Nat.le_of_ble_eq_true rfl) (by kernel_rfl) fun H=>?_
       simp(disch:=omega)only[↓kX,kW,aS,simprocAttr,b1,b2,hsub,ed,et,hdt,hkl,hsl,h64le,nl,nt,pl,pt,kY,kg]
       first|refine CallK.p (c1) ?_|refine CallP.i (c1) ?_
       simp(disch:=omega)only[↓kX,kW,aS,simprocAttr,hsub,ed,et,hdt,hkl,hsl,h64le,nl,nt,pl,pt,kY,kg]
       intro k7 hk70 hk7
       rw[zn,aj hk7]
       try simp(disch:=omega)only[↓kX,kW,aS,simprocAttr,be,hsub,ed,et,hdt,hkl,hsl,h64le,nl,nt,pl,pt,kY,kg]
       first|refine CallK.p (c2) ?_|refine CallP.i (c2) ?_
       simp(disch:=omega)only[↓kX,kW,aS,simprocAttr,hsub,ed,et,hdt,hkl,hsl,h64le,nl,nt,pl,pt,kY,kg]
       intro k9 hk90 hk9
       rw[z8,aj hk9]
       try simp(disch:=omega)only[↓kX,kW,aS,simprocAttr,bf,hsub,ed,et,hdt,hkl,hsl,h64le,nl,nt,pl,pt,kY,kg]
       first|refine CallK.p (c5) ?_|refine CallP.i (c5) ?_
       simp(disch:=omega)only[↓kX,kW,aS,simprocAttr,bf,hsub,ed,et,hdt,hkl,hsl,h64le,nl,nt,pl,pt,kY,kg]
       first|refine CallK.p (c3) ?_|refine CallP.i (c3) ?_
       simp(disch:=omega)only[↓kX,kW,aS,simprocAttr,hsub,ed,et,hdt,hkl,hsl,h64le,nl,nt,pl,pt,kY,kg]
       intro k10 hk100 hk10
       rw[z8,aj hk10]
       try simp(disch:=omega)only[↓kX,kW,aS,simprocAttr,bg,hsub,ed,et,hdt,hkl,hsl,h64le,nl,nt,pl,pt,kY,kg]
       first|exact Abs.Sub.refl _|exact⟨rfl,Abs.Sub.refl _⟩|trace_state
    ·rw[if_pos (by simp[hea])]
     have bf:((ea:Int) != 0)=true:=qR hea
     refine az (c:=⟨Tryz.prog,79,[(17,[0,0,0,0,0,0,0,0,0,0,0,0,0,0,0,2,2,0]),(1000003,[7]),(1000006,[9]),(1000013,[10]),(1000016,[11]),(1000017,[13]),(4000017,[10,13]),(4000016,[0,1,2,7,10,11]),(4000013,[0,1,2,7,8,9,10]),(4000006,[0,1,2,7,8,9]),(4000003,[0,1,2,7,8]),(4000001,[0,1,2,22])],[],[]⟩) (rs:=[ResultVar.tmp 6]) Tryz.mixed Tryz.func30 rfl rfl rfl (Nat.le_of_ble_eq_true rfl) (by kernel_rfl) fun H=>?_
     simp(disch:=omega)only[↓kX,kW,aS,simprocAttr,b1,b2,hsub,ed,et,hdt,hkl,hsl,h64le,nl,nt,pl,pt,kY,kg]
     first|refine CallK.p (c1) ?_|refine CallP.i (c1) ?_
     simp(disch:=omega)only[↓kX,kW,aS,simprocAttr,hsub,ed,et,hdt,hkl,hsl,h64le,nl,nt,pl,pt,kY,kg]
     intro k7 hk70 hk7
     rw[zn,aj hk7]
     try simp(disch:=omega)only[↓kX,kW,aS,simprocAttr,be,hsub,ed,et,hdt,hkl,hsl,h64le,nl,nt,pl,pt,kY,kg]
     first|refine CallK.p (c2) ?_|refine CallP.i (c2) ?_
     simp(disch:=omega)only[↓kX,kW,aS,simprocAttr,hsub,ed,et,hdt,hkl,hsl,h64le,nl,nt,pl,pt,kY,kg]
     intro k9 hk90 hk9
     rw[z8,aj hk9]
     try simp(disch:=omega)only[↓kX,kW,aS,simprocAttr,bf,hsub,ed,et,hdt,hkl,hsl,h64le,nl,nt,pl,pt,kY,kg]
     first|exact Abs.Sub.refl _|exact⟨rfl,Abs.Sub.refl _⟩|trace_state
   ·rw[if_pos (by simp[hes])]
    have be:((es:Int) != 0)=true:=qR hes
    refine az (c:=⟨Tryz.prog,79,[(17,[0,0,0,0,0,0,0,0,0,0,0,0,0,0,0,2,2,0]),(1000003,[7]),(1000006,[9]),(1000013,[10]),(1000016,[11]),(1000017,[13]),(4000017,[10,13]),(4000016,[0,1,2,7,10,11]),(4000013,[0,1,2,7,8,9,10]),(4000006,[0,1,2,7,8,9]),(4000003,[0,1,2,7,8]),(4000001,[0,1,2,22])],[],[]⟩) (rs:=[ResultVar.tmp 6]) Tryz.mixed Tryz.func30 rfl rfl rfl (Nat.le_of_ble_eq_true rfl) (by kernel_rfl) fun H=>?_
    simp(disch:=omega)only[↓kX,kW,aS,simprocAttr,b1,b2,hsub,ed,et,hdt,hkl,hsl,h64le,nl,nt,pl,pt,kY,kg]
    first|refine CallK.p (c1) ?_|refine CallP.i (c1) ?_
    simp(disch:=omega)only[↓kX,kW,aS,simprocAttr,hsub,ed,et,hdt,hkl,hsl,h64le,nl,nt,pl,pt,kY,kg]
    intro k7 hk70 hk7
    rw[zn,aj hk7]
    try simp(disch:=omega)only[↓kX,kW,aS,simprocAttr,be,hsub,ed,et,hdt,hkl,hsl,h64le,nl,nt,pl,pt,kY,kg]
    first|exact Abs.Sub.refl _|exact⟨rfl,Abs.Sub.refl _⟩|trace_state
  ·rw[if_pos (.inr h64)]
   have b1:((key.length:Int) != 32)=false:=by rw[h32];rfl
   have b2:((sig.length:Int) != 64)=true:=nT (by omega)
   unfold eu at *
   refine az (c:=⟨Tryz.prog,79,[(17,[0,0,0,0,0,0,0,0,0,0,0,0,0,0,0,2,2,0]),(1000003,[7]),(1000006,[9]),(1000013,[10]),(1000016,[11]),(1000017,[13]),(4000017,[10,13]),(4000016,[0,1,2,7,10,11]),(4000013,[0,1,2,7,8,9,10]),(4000006,[0,1,2,7,8,9]),(4000003,[0,1,2,7,8]),(4000001,[0,1,2,22])],[],[]⟩) (rs:=[ResultVar.tmp 6]) Tryz.mixed Tryz.func30 rfl rfl rfl (Nat.le_of_ble_eq_true rfl) (by kernel_rfl) fun H=>?_
   simp(disch:=omega)only[↓kX,kW,aS,simprocAttr,b1,b2]
   first|exact Abs.Sub.refl _|exact⟨rfl,Abs.Sub.refl _⟩|trace_state
 ·rw[if_pos (.inl h32)]
  have b1:((key.length:Int) != 32)=true:=nT (by omega)
  unfold eu at *
  refine az (c:=⟨Tryz.prog,79,[(17,[0,0,0,0,0,0,0,0,0,0,0,0,0,0,0,2,2,0]),(1000003,[7]),(1000006,[9]),(1000013,[10]),(1000016,[11]),(1000017,[13]),(4000017,[10,13]),(4000016,[0,1,2,7,10,11]),(4000013,[0,1,2,7,8,9,10]),(4000006,[0,1,2,7,8,9]),(4000003,[0,1,2,7,8]),(4000001,[0,1,2,22])],[],[]⟩) (rs:=[ResultVar.tmp 6]) Tryz.mixed Tryz.func30 rfl rfl rfl (Nat.le_of_ble_eq_true rfl) (by kernel_rfl) fun H=>?_
  simp(disch:=omega)only[↓kX,kW,aS,simprocAttr,b1]
  first|exact Abs.Sub.refl _|exact⟨rfl,Abs.Sub.refl _⟩|trace_state
end Go.Proofs.YtcncplameclkfaaGreatDoor
end
