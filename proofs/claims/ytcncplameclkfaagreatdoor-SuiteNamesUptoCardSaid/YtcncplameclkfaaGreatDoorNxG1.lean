/-
  Several texts in one: each says what it proves.
  Conditions: none. Lemmas only.
-/
import Derived.Test.YtcncplameclkfaaGreatDoorNwG7
import Derived.Test.YtcncplameclkfaaGreatDoorNwG4
import Derived.Test.YtcncplameclkfaaGreatDoorNwG3
import Derived.Test.YtcncplameclkfaaGreatDoorNwW
import Derived.Test.YtcncplameclkfaaGreatDoorNmG1
import Derived.Test.YtcncplameclkfaaGreatDoorNmG2
set_option linter.all false
section
set_option maxRecDepth 20000
set_option maxHeartbeats 4000000
namespace Go.Proofs.YtcncplameclkfaaGreatDoor
open Go Go.Abs Go.Proofs Go.Box
open Go.Nam (p25 Fq lJ lT nc nV mQ dE)
def cN(a:Fq):List AV:=lH (kZ 4 a.val)
def cF(a:Fq):List AV:=lM (lJ a.val)
theorem mO(a:Fq):(cN a).length=4:=mI a.val
theorem om(a:Fq):(cN a).take 4=cN a:=mH a.val
theorem lG(a:Fq):(cN a).map AV.strip0=cN a:=kY _
theorem cN_zero(a:Fq):bG [.sc (.int .u64 0),.sc (.int .u64 0),.sc (.int .u64 0),.sc (.int .u64 0)] 0 (cN a)=cN a:=mP (mO a)
theorem nN(a:Fq):(cF a).length=16:=nU a.val
theorem pR(a:Fq):(cF a).take 16=cF a:=mz a.val
theorem cF_put(a b:Fq):bG (cF a) 0 (cF b)=cF b:=oX (by rw[nN,nN])
theorem ku(a:Fq):(cF a).map AV.strip0=cF a:=ke _
theorem sX(a:Fq):bG [.sc (.int .i64 0),.sc (.int .i64 0),.sc (.int .i64 0),.sc (.int .i64 0),.sc (.int .i64 0),.sc (.int .i64 0),.sc (.int .i64 0),.sc (.int .i64 0),.sc (.int .i64 0),.sc (.int .i64 0),.sc (.int .i64 0),.sc (.int .i64 0),.sc (.int .i64 0),.sc (.int .i64 0),.sc (.int .i64 0),.sc (.int .i64 0)] 0 (cF a)=cF a:=nO (nN a)
theorem fq_b(a:Fq):a.val<lX:=Nat.lt_trans a.isLt (by decide)
theorem fq_neg(a:Fq):(p25-a.val % p25) % p25=(-a).val:=by
 rw[Nat.mod_eq_of_lt a.isLt]
 rfl
theorem fq_sub(a b:Fq):nV a.val b.val=(a-b).val:=by
 unfold nV
 rw[Nat.mod_eq_of_lt b.isLt]
 show(a.val+(p25-b.val) % p25) % p25=(p25-b.val+a.val) % p25
 rw[Nat.add_mod_mod,Nat.add_comm]
theorem qadd(a b:Fq):APure Tryz.prog 122 [.agg (cN a),.agg (cN b)] (.agg (cN (a+b))):=cadd a.val b.val (fq_b a) (fq_b b)
theorem sL(a b:Fq):APure Tryz.prog 93 [.agg (cN a),.agg (cN b)] (.agg (cN (a*b))):=cmul a.val b.val (fq_b a) (fq_b b)
theorem qsub(a b:Fq):APure Tryz.prog 121 [.agg (cN a),.agg (cN b)] (.agg (cN (a-b))):=by
 have h:=csub a.val b.val (fq_b a) (fq_b b)
 rw[fq_sub]at h
 exact h
theorem qneg(a:Fq):APure Tryz.prog 125 [.agg (cN a)] (.agg (cN (-a))):=by
 have h:=pneg_pure a.val (fq_b a)
 rw[fq_neg]at h
 exact h
theorem qinv(a:Fq):APure Tryz.prog 94 [.agg (cN a)] (.agg (cN (Go.Nam.inv a))):=pinv_pure a.val (fq_b a)
theorem qright(a:Fq):APure Tryz.prog 119 [.agg (cN a)] (.sc (.bool true)):=by
 have h:=pright_pure a.val (fq_b a)
 rw[decide_eq_true a.isLt]at h
 exact h
theorem qpick(bit:Nat)(a b:Fq)(hb:bit≤1):APure Tryz.prog 124 [.sc (.int .u64 bit),.agg (cN a),.agg (cN b)] (.agg (cN (if bit=0 then a else b))):=by
 have h:=nQ bit a.val b.val hb
 rw[show(if bit=0 then a.val else b.val)=(if bit=0 then a else b).val by split<;>rfl]at h
 exact h
theorem qeq(a b:Fq):eqG Tryz.prog 6 58 (.agg (cN a)) (.agg (cN b))=some (decide (a=b)):=by
 have h:=eqN (fq_b a) (fq_b b)
 rw[show decide (a.val=b.val)=decide (a=b) from decide_eq_decide.2 ⟨Fin.ext,fun h=>by rw[h]⟩]at h
 exact h
theorem qck(a:Fq):cl0 Tryz.prog 6 58 (.agg (cN a))=true:=ckN a.val
theorem cN_one:cN 1=[.sc (.int .u64 1),.sc (.int .u64 0),.sc (.int .u64 0),.sc (.int .u64 0)]:=rfl
theorem cN_nought:cN 0=[.sc (.int .u64 0),.sc (.int .u64 0),.sc (.int .u64 0),.sc (.int .u64 0)]:=rfl
theorem qd:APure Tryz.prog 123 [] (.agg (cN dE)):=by
 rw[show cN dE=[.sc (.int .u64 8496970652267935907),.sc (.int .u64 31536524315187371),.sc (.int .u64 10144147576115030168),.sc (.int .u64 5909686906226998899)] from rfl]
 refine az (c:=⟨Tryz.prog,2,[],[],[]⟩) (rs:=[ResultVar.cell 0 58]) Tryz.mixed Tryz.func123 rfl rfl rfl (Nat.le_of_ble_eq_true rfl) (by kernel_rfl) fun H=>?_
 simp(disch:=omega)only[↓kX,kW,aS,simprocAttr]
 intro k hk0 hk
 exact⟨rfl,Sub.set_new hk⟩
theorem radd(a b:Fq):APure Tryz.prog 49 [.agg (cF a),.agg (cF b)] (.agg (cF (a+b))):=gadd a.val b.val a.isLt b.isLt
theorem rO(a b:Fq):APure Tryz.prog 51 [.agg (cF a),.agg (cF b)] (.agg (cF (a*b))):=qy a.val b.val a.isLt b.isLt
theorem rsub(a b:Fq):APure Tryz.prog 50 [.agg (cF a),.agg (cF b)] (.agg (cF (a-b))):=by
 have h:=gsub a.val b.val a.isLt b.isLt
 rw[fq_sub]at h
 exact h
theorem rneg(a:Fq):APure Tryz.prog 101 [.agg (cF a)] (.agg (cF (-a))):=fneg_pure a.val a.isLt
theorem rinv(a:Fq):APure Tryz.prog 53 [.agg (cF a)] (.agg (cF (Go.Nam.inv a))):=finv_pure a.val a.isLt
theorem rint0:APure Tryz.prog 47 [.sc (.int .i64 0)] (.agg (cF 0)):=nJ 0 (by decide)
theorem rint1:APure Tryz.prog 47 [.sc (.int .i64 1)] (.agg (cF 1)):=nJ 1 (by decide)
theorem rnum(a:Fq):APure Tryz.prog 84 [.agg (cF a)] (.agg (cN a)):=fnum_pure a.val (Nat.lt_trans a.isLt (by decide))
theorem rof(a:Fq):APure Tryz.prog 45 [.agg (cN a)] (.agg (cF a)):=by
 have h:=fof_pure a.val (Nat.lt_trans a.isLt (by decide))
 rw[Nat.mod_eq_of_lt a.isLt]at h
 exact h
theorem d_is : -(121665:Fq)*Go.Nam.inv 121666=dE:=by
 have hn:(121666:Fq)≠0:=by decide +kernel
 refine Go.Nam.cancel hn ?_
 rw[Go.Nam.inv_den hn]
 decide +kernel
theorem rd:APure Tryz.prog 82 [] (.agg (cF dE)):=by
 have i1:APure Tryz.prog 47 [.sc (.int .i64 65535)] (.agg (cF 65535)):=nJ 65535 (by decide)
 have i2:APure Tryz.prog 47 [.sc (.int .i64 56130)] (.agg (cF 56130)):=nJ 56130 (by decide)
 have c1:=radd 65535 56130
 rw[show(65535:Fq)+56130=121665 by decide +kernel]at c1
 have c2:=rneg 121665
 have c3:=radd 121665 1
 rw[show(121665:Fq)+1=121666 by decide +kernel]at c3
 have c4:=rinv 121666
 have c5:=rO (-121665) (Go.Nam.inv 121666)
 rw[d_is]at c5
 have i3:=rint1
 have sl:=nN
 have st:=pR
 have zx:=sX
 generalize (65535:Fq)=a at *
 generalize (56130:Fq)=b at *
 generalize -(121665:Fq)=m at *
 generalize (121665:Fq)=c at *
 generalize Go.Nam.inv 121666=v at *
 generalize (121666:Fq)=d at *
 generalize dE=D at *
 refine az (c:=⟨Tryz.prog,12,[(2,[1,0,1,0,0,0,0,2]),(1000001,[1])],[],[]⟩) (rs:=[ResultVar.cell 0 46]) Tryz.mixed Tryz.func82 rfl rfl rfl (Nat.le_of_ble_eq_true rfl) (by kernel_rfl) fun H=>?_
 simp(disch:=omega)only[↓kX,kW,aS,simprocAttr]
 intro k0 hk00 hk0
 first|refine CallK.p (i1) ?_|refine CallP.i (i1) ?_
 simp(disch:=omega)only[↓kX,kW,aS,simprocAttr]
 first|refine CallK.p (i2) ?_|refine CallP.i (i2) ?_
 simp(disch:=omega)only[↓kX,kW,aS,simprocAttr]
 first|refine CallK.p (c1) ?_|refine CallP.i (c1) ?_
 simp(disch:=omega)only[↓kX,kW,aS,simprocAttr,sl,st,ku]
 intro k1 hk10 hk1
 rw[zx,aj hk1]
 simp(disch:=omega)only[↓kX,kW,aS,simprocAttr,sl,st,ku]
 first|refine CallK.p (c2) ?_|refine CallP.i (c2) ?_
 simp(disch:=omega)only[↓kX,kW,aS,simprocAttr,sl,st,ku]
 first|refine CallK.p (i3) ?_|refine CallP.i (i3) ?_
 simp(disch:=omega)only[↓kX,kW,aS,simprocAttr,sl,st,ku]
 first|refine CallK.p (c3) ?_|refine CallP.i (c3) ?_
 simp(disch:=omega)only[↓kX,kW,aS,simprocAttr,sl,st,ku]
 first|refine CallK.p (c4) ?_|refine CallP.i (c4) ?_
 simp(disch:=omega)only[↓kX,kW,aS,simprocAttr,sl,st,ku]
 first|refine CallK.p (c5) ?_|refine CallP.i (c5) ?_
 simp(disch:=omega)only[↓kX,kW,aS,simprocAttr,set_get,set_set,sl,st,zx,ku]
 first|exact Sub.set_new hk0|exact⟨rfl,Sub.set_new hk0⟩|trace_state
end Go.Proofs.YtcncplameclkfaaGreatDoor
end
section
set_option maxRecDepth 20000
set_option maxHeartbeats 4000000
namespace Go.Proofs.YtcncplameclkfaaGreatDoor
open Go Go.Abs Go.Proofs Go.Box
open Go.Nam (p25 Fq dE W4 Pt rM wzero og)
def cP(p:Pt):List AV:=cN p.x++cN p.y
def cW(w:W4):List AV:=cN w.x++(cN w.y++(cN w.z++cN w.t))
theorem oV(p:Pt):(cP p).length=8:=by unfold cP;rw[List.length_append,mO,mO]
theorem oF(p:Pt):(cP p).take 8=cP p:=List.take_of_length_le (by rw[oV];omega)
theorem cP_x(p:Pt):(cP p).take 4=cN p.x:=List.take_left' (mO _)
theorem cP_y(p:Pt):((cP p).drop 4).take 4=cN p.y:=by
 unfold cP
 rw[List.drop_left' (mO _),om]
theorem kg(p:Pt):(cP p).map AV.strip0=cP p:=by unfold cP;rw[List.map_append,lG,lG]
theorem qh(p:Pt):bG [.sc (.int .u64 0),.sc (.int .u64 0),.sc (.int .u64 0),.sc (.int .u64 0),.sc (.int .u64 0),.sc (.int .u64 0),.sc (.int .u64 0),.sc (.int .u64 0)] 0 (cP p)=cP p:=oX (by rw[oV];rfl)
theorem cP_mk(a b:Fq):cN a++cN b=cP ⟨a,b⟩:=rfl
theorem cW_len(w:W4):(cW w).length=16:=by unfold cW;simp only[List.length_append,mO]
theorem cW_take(w:W4):(cW w).take 16=cW w:=List.take_of_length_le (by rw[cW_len];omega)
theorem cW_x(w:W4):(cW w).take 4=cN w.x:=List.take_left' (mO _)
theorem cW_y(w:W4):((cW w).drop 4).take 4=cN w.y:=by
 unfold cW
 rw[List.drop_left' (mO _),List.take_left' (mO _)]
theorem cW_z(w:W4):((cW w).drop 8).take 4=cN w.z:=by
 unfold cW
 rw[←List.append_assoc,List.drop_left' (by rw[List.length_append,mO,mO]),List.take_left' (mO _)]
theorem cW_t(w:W4):((cW w).drop 12).take 4=cN w.t:=by
 unfold cW
 rw[←List.append_assoc,←List.append_assoc,List.drop_left' (by simp only[List.length_append,mO]),om]
theorem lU(w:W4):(cW w).map AV.strip0=cW w:=by unfold cW;simp only[List.map_append,lG]
theorem cW_zero(w:W4):bG [.sc (.int .u64 0),.sc (.int .u64 0),.sc (.int .u64 0),.sc (.int .u64 0),.sc (.int .u64 0),.sc (.int .u64 0),.sc (.int .u64 0),.sc (.int .u64 0),.sc (.int .u64 0),.sc (.int .u64 0),.sc (.int .u64 0),.sc (.int .u64 0),.sc (.int .u64 0),.sc (.int .u64 0),.sc (.int .u64 0),.sc (.int .u64 0)] 0 (cW w)=cW w:=oX (by rw[cW_len];rfl)
theorem cW_put(w v:W4):bG (cW w) 0 (cW v)=cW v:=oX (by rw[cW_len,cW_len])
theorem bt4(a:Fq)(L:List AV):List.take 4 (cN a++L)=cN a:=List.take_left' (mO a)
theorem bt8(a b:Fq)(L:List AV):List.take 8 (cN a++(cN b++L))=cN a++cN b:=by
 rw[←List.append_assoc]
 exact List.take_left' (by rw[List.length_append,mO,mO])
theorem bt12(a b c:Fq)(L:List AV):List.take 12 (cN a++(cN b++(cN c++L)))=cN a++(cN b++cN c):=by
 rw[←List.append_assoc,←List.append_assoc,←List.append_assoc]
 exact List.take_left' (by simp only[List.length_append,mO])
theorem bd8(a:Fq):List.drop 8 (cN a++[.sc (.int .u64 0),.sc (.int .u64 0),.sc (.int .u64 0),.sc (.int .u64 0),.sc (.int .u64 0),.sc (.int .u64 0),.sc (.int .u64 0),.sc (.int .u64 0),.sc (.int .u64 0),.sc (.int .u64 0),.sc (.int .u64 0),.sc (.int .u64 0)])=[.sc (.int .u64 0),.sc (.int .u64 0),.sc (.int .u64 0),.sc (.int .u64 0),.sc (.int .u64 0),.sc (.int .u64 0),.sc (.int .u64 0),.sc (.int .u64 0)]:=by
 rw[List.drop_append,List.drop_of_length_le (by rw[mO];decide),mO]
 rfl
theorem bd12(a b:Fq):List.drop 12 (cN a++(cN b++[.sc (.int .u64 0),.sc (.int .u64 0),.sc (.int .u64 0),.sc (.int .u64 0),.sc (.int .u64 0),.sc (.int .u64 0),.sc (.int .u64 0),.sc (.int .u64 0)]))=[.sc (.int .u64 0),.sc (.int .u64 0),.sc (.int .u64 0),.sc (.int .u64 0)]:=by
 rw[←List.append_assoc,List.drop_append,List.drop_of_length_le (by rw[List.length_append,mO,mO];decide),List.length_append,mO,mO]
 rfl
theorem bd16(a b c:Fq):List.drop 16 (cN a++(cN b++(cN c++[.sc (.int .u64 0),.sc (.int .u64 0),.sc (.int .u64 0),.sc (.int .u64 0)])))=[]:=List.drop_of_length_le (by simp only[List.length_append,mO,List.length_cons,List.length_nil];decide)
theorem bd8'(a:Fq):List.drop 8 (cN a++[.sc (.int .u64 0),.sc (.int .u64 0),.sc (.int .u64 0),.sc (.int .u64 0)])=[]:=List.drop_of_length_le (by simp only[List.length_append,mO,List.length_cons,List.length_nil];decide)
abbrev cE(a:Fq):AObj:=.cells (cN a) 58 4
theorem qwadd(p q:W4):APure Tryz.prog 129 [.agg (cW p),.agg (cW q)] (.agg (cW (rM p q))):=by
 have sl:=mO
 have st:=om
 have zq:=cN_zero
 have wl:=cW_len
 have wt:=cW_take
 have wx:=cW_x
 have wy:=cW_y
 have wz:=cW_z
 have ww:=cW_t
 have z16:=cW_zero
 have wmk:∀a b c d,cN a++(cN b++(cN c++cN d))=cW ⟨a,b,c,d⟩:=fun _ _ _ _=>rfl
 unfold rM
 simp only
 have c1:=qsub p.y p.x
 have c2:=qsub q.y q.x
 have c3:=sL (p.y-p.x) (q.y-q.x)
 generalize (p.y-p.x)*(q.y-q.x)=a at *
 generalize p.y-p.x=a1 at *
 generalize q.y-q.x=a2 at *
 have c4:=qadd p.y p.x
 have c5:=qadd q.y q.x
 have c6:=sL (p.y+p.x) (q.y+q.x)
 generalize (p.y+p.x)*(q.y+q.x)=b at *
 generalize p.y+p.x=b1 at *
 generalize q.y+q.x=b2 at *
 have c7:=qd
 have c8:=qadd dE dE
 have c9:=sL (dE+dE) q.t
 have c10:=sL p.t ((dE+dE)*q.t)
 generalize p.t*((dE+dE)*q.t)=c at *
 generalize (dE+dE)*q.t=cc1 at *
 generalize dE+dE=cc2 at *
 generalize dE=cc3 at *
 have c11:=qadd q.z q.z
 have c12:=sL p.z (q.z+q.z)
 generalize p.z*(q.z+q.z)=d at *
 generalize q.z+q.z=d1 at *
 have c13:=qsub b a
 have c14:=qsub d c
 have c15:=qadd d c
 have c16:=qadd b a
 generalize b-a=e at *
 generalize d-c=f at *
 generalize d+c=g at *
 generalize b+a=h at *
 have c17:=sL e f
 have c18:=sL g h
 have c19:=sL f g
 have c20:=sL e h
 generalize e*f=r1 at *
 generalize g*h=r2 at *
 generalize f*g=r3 at *
 generalize e*h=r4 at *
 refine az (c:=⟨Tryz.prog,77,[(1,[0,0,0,0,0,0,0,0,0,0,0,2,2]),(2,[0,0,0,0,0,0,0,0,0,0,0,2,2]),(3,[0,0,0,0,0,0,0,0,0,2,2]),(4,[0,0,0,0,0,0,0,0,2,2]),(5,[0,0,0,0,0,0,0,0,0,0,0,0,2,2,2,2,2,2,2,2]),(6,[1,1,0,1,1,0,1,1,0,1,1,0,0,2]),(1000000,[3,2]),(1000001,[5]),(1000002,[6]),(1000003,[7]),(1000004,[8]),(1000005,[12,11,10,9]),(4000006,[4]),(4000005,[4,9,10,11,12]),(4000004,[4,5,6,7,8]),(4000003,[2,3,4,5,6,7]),(4000002,[2,3,4,5,6]),(4000001,[2,3,4,5])],[],[(5,(.op 0 0 (.op 1 0 (.op 2 0 (.op 3 0 (.op 4 0 (.op 5 0 (.op 6 0 (.op 7 0 (.op 8 0 (.op 9 0 (.op 10 0 (.op 11 0 (.or (.op 12 3 (.or (.op 13 3 (.or (.op 14 3 (.op 15 3 (.op 16 2 (.op 17 2 (.op 18 2 (.op 19 2 .nil)))))) (.op 15 3 (.op 14 3 (.op 16 2 (.op 17 2 (.op 18 2 (.op 19 2 .nil)))))))) (.or (.op 14 3 (.or (.op 13 3 (.op 15 3 (.op 16 2 (.op 17 2 (.op 18 2 (.op 19 2 .nil)))))) (.op 15 3 (.op 13 3 (.op 16 2 (.op 17 2 (.op 18 2 (.op 19 2 .nil)))))))) (.op 15 3 (.or (.op 13 3 (.op 14 3 (.op 16 2 (.op 17 2 (.op 18 2 (.op 19 2 .nil)))))) (.op 14 3 (.op 13 3 (.op 16 2 (.op 17 2 (.op 18 2 (.op 19 2 .nil))))))))))) (.or (.op 13 3 (.or (.op 12 3 (.or (.op 14 3 (.op 15 3 (.op 16 2 (.op 17 2 (.op 18 2 (.op 19 2 .nil)))))) (.op 15 3 (.op 14 3 (.op 16 2 (.op 17 2 (.op 18 2 (.op 19 2 .nil)))))))) (.or (.op 14 3 (.or (.op 12 3 (.op 15 3 (.op 16 2 (.op 17 2 (.op 18 2 (.op 19 2 .nil)))))) (.op 15 3 (.op 12 3 (.op 16 2 (.op 17 2 (.op 18 2 (.op 19 2 .nil)))))))) (.op 15 3 (.or (.op 12 3 (.op 14 3 (.op 16 2 (.op 17 2 (.op 18 2 (.op 19 2 .nil)))))) (.op 14 3 (.op 12 3 (.op 16 2 (.op 17 2 (.op 18 2 (.op 19 2 .nil))))))))))) (.or (.op 14 3 (.or (.op 12 3 (.or (.op 13 3 (.op 15 3 (.op 16 2 (.op 17 2 (.op 18 2 (.op 19 2 .nil)))))) (.op 15 3 (.op 13 3 (.op 16 2 (.op 17 2 (.op 18 2 (.op 19 2 .nil)))))))) (.or (.op 13 3 (.or (.op 12 3 (.op 15 3 (.op 16 2 (.op 17 2 (.op 18 2 (.op 19 2 .nil)))))) (.op 15 3 (.op 12 3 (.op 16 2 (.op 17 2 (.op 18 2 (.op 19 2 .nil)))))))) (.op 15 3 (.or (.op 12 3 (.op 13 3 (.op 16 2 (.op 17 2 (.op 18 2 (.op 19 2 .nil)))))) (.op 13 3 (.op 12 3 (.op 16 2 (.op 17 2 (.op 18 2 (.op 19 2 .nil))))))))))) (.op 15 3 (.or (.op 12 3 (.or (.op 13 3 (.op 14 3 (.op 16 2 (.op 17 2 (.op 18 2 (.op 19 2 .nil)))))) (.op 14 3 (.op 13 3 (.op 16 2 (.op 17 2 (.op 18 2 (.op 19 2 .nil)))))))) (.or (.op 13 3 (.or (.op 12 3 (.op 14 3 (.op 16 2 (.op 17 2 (.op 18 2 (.op 19 2 .nil)))))) (.op 14 3 (.op 12 3 (.op 16 2 (.op 17 2 (.op 18 2 (.op 19 2 .nil)))))))) (.op 14 3 (.or (.op 12 3 (.op 13 3 (.op 16 2 (.op 17 2 (.op 18 2 (.op 19 2 .nil)))))) (.op 13 3 (.op 12 3 (.op 16 2 (.op 17 2 (.op 18 2 (.op 19 2 .nil)))))))))))))))))))))))))))]⟩) (rs:=[ResultVar.cell 4 144]) Tryz.mixed Tryz.func129 rfl rfl rfl (Nat.le_of_ble_eq_true rfl) (by kernel_rfl) fun H=>?_
 simp(disch:=omega)only[↓kX,kW,aS,simprocAttr,wl,wt]
 intro k2 hk20 hk2 k3 hk30 hk3 k4 hk40 hk4
 obtain⟨q1,q2,q3,q4,n24,hk4'⟩:=frz3 hk2 hk3 hk4
 obtain⟨Z,hZ⟩:∃Z:AObj,Z=.cells [.sc (.int .u64 0),.sc (.int .u64 0),.sc (.int .u64 0),.sc (.int .u64 0),.sc (.int .u64 0),.sc (.int .u64 0),.sc (.int .u64 0),.sc (.int .u64 0),.sc (.int .u64 0),.sc (.int .u64 0),.sc (.int .u64 0),.sc (.int .u64 0),.sc (.int .u64 0),.sc (.int .u64 0),.sc (.int .u64 0),.sc (.int .u64 0)] 144 16:=⟨_,rfl⟩
 rw[←hZ]
 simp(disch:=omega)only[↓kX,kW,aS,simprocAttr,q1,q2,q3,q4,wl,wt,wx,wy,wz,ww,sl,st,lG,lU]
 first|refine CallK.p (c1) ?_|refine CallP.i (c1) ?_
 simp(disch:=omega)only[↓kX,kW,aS,simprocAttr,wl,wt,wx,wy,wz,ww,sl,st,lG,lU]
 first|refine CallK.p (c2) ?_|refine CallP.i (c2) ?_
 simp(disch:=omega)only[↓kX,kW,aS,simprocAttr,wl,wt,wx,wy,wz,ww,sl,st,lG,lU]
 first|refine CallK.p (c3) ?_|refine CallP.i (c3) ?_
 simp(disch:=omega)only[↓kX,kW,aS,simprocAttr,wl,wt,wx,wy,wz,ww,sl,st,lG,lU]
 intro k5 hk50 hk5
 rw[zq,aj hk5]
 clear hk5 hk50
 try simp(disch:=omega)only[↓kX,kW,aS,simprocAttr,wl,wt,wx,wy,wz,ww,sl,st,lG,lU]
 first|refine CallK.p (c4) ?_|refine CallP.i (c4) ?_
 simp(disch:=omega)only[↓kX,kW,aS,simprocAttr,wl,wt,wx,wy,wz,ww,sl,st,lG,lU]
 first|refine CallK.p (c5) ?_|refine CallP.i (c5) ?_
 simp(disch:=omega)only[↓kX,kW,aS,simprocAttr,wl,wt,wx,wy,wz,ww,sl,st,lG,lU]
 first|refine CallK.p (c6) ?_|refine CallP.i (c6) ?_
 simp(disch:=omega)only[↓kX,kW,aS,simprocAttr,wl,wt,wx,wy,wz,ww,sl,st,lG,lU]
 intro k6 hk60 hk6
 rw[zq,aj hk6]
 clear hk6 hk60
 try simp(disch:=omega)only[↓kX,kW,aS,simprocAttr,wl,wt,wx,wy,wz,ww,sl,st,lG,lU]
 first|refine CallK.p (c7) ?_|refine CallP.i (c7) ?_
 simp(disch:=omega)only[↓kX,kW,aS,simprocAttr,wl,wt,wx,wy,wz,ww,sl,st,lG,lU]
 first|refine CallK.p (c7) ?_|refine CallP.i (c7) ?_
 simp(disch:=omega)only[↓kX,kW,aS,simprocAttr,wl,wt,wx,wy,wz,ww,sl,st,lG,lU]
 first|refine CallK.p (c8) ?_|refine CallP.i (c8) ?_
 simp(disch:=omega)only[↓kX,kW,aS,simprocAttr,wl,wt,wx,wy,wz,ww,sl,st,lG,lU]
 first|refine CallK.p (c9) ?_|refine CallP.i (c9) ?_
 simp(disch:=omega)only[↓kX,kW,aS,simprocAttr,wl,wt,wx,wy,wz,ww,sl,st,lG,lU]
 first|refine CallK.p (c10) ?_|refine CallP.i (c10) ?_
 simp(disch:=omega)only[↓kX,kW,aS,simprocAttr,wl,wt,wx,wy,wz,ww,sl,st,lG,lU]
 intro k7 hk70 hk7
 rw[zq,aj hk7]
 clear hk7 hk70
 try simp(disch:=omega)only[↓kX,kW,aS,simprocAttr,wl,wt,wx,wy,wz,ww,sl,st,lG,lU]
 first|refine CallK.p (c11) ?_|refine CallP.i (c11) ?_
 simp(disch:=omega)only[↓kX,kW,aS,simprocAttr,wl,wt,wx,wy,wz,ww,sl,st,lG,lU]
 first|refine CallK.p (c12) ?_|refine CallP.i (c12) ?_
 simp(disch:=omega)only[↓kX,kW,aS,simprocAttr,wl,wt,wx,wy,wz,ww,sl,st,lG,lU]
 intro k8 hk80 hk8
 rw[zq,aj hk8]
 clear hk8 hk80
 obtain⟨E,hE⟩:∃E,E=H.set k4 Z:=⟨_,rfl⟩
 rw[←hE]
 have hE4:E k4=some Z:=by rw[hE,set_get]
 refine eI00 (fun σ F=>∃bA bB bC bD,σ 4=.ptr k4 0∧σ 9=.ptr bA 0∧σ 10=.ptr bB 0∧σ 11=.ptr bC 0∧σ 12=.ptr bD 0∧D4 E bA bB bC bD∧F=F4 E bA bB bC bD (cE e) (cE f) (cE g) (cE h)) ?_ ?_
 ·simp(disch:=omega)only[↓kX,kW,aS,simprocAttr,wl,wt,wx,wy,wz,ww,sl,st,lG,lU]
  first|refine CallK.p (c13) ?_|refine CallP.i (c13) ?_
  simp(disch:=omega)only[↓kX,kW,aS,simprocAttr,wl,wt,wx,wy,wz,ww,sl,st,lG,lU]
  first|refine CallK.p (c14) ?_|refine CallP.i (c14) ?_
  simp(disch:=omega)only[↓kX,kW,aS,simprocAttr,wl,wt,wx,wy,wz,ww,sl,st,lG,lU]
  first|refine CallK.p (c15) ?_|refine CallP.i (c15) ?_
  simp(disch:=omega)only[↓kX,kW,aS,simprocAttr,wl,wt,wx,wy,wz,ww,sl,st,lG,lU]
  first|refine CallK.p (c16) ?_|refine CallP.i (c16) ?_
  simp(disch:=omega)only[↓kX,kW,aS,simprocAttr,wl,wt,wx,wy,wz,ww,sl,st,lG,lU]
  all_goals (repeat' (refine And.intro ?_ ?_))
  all_goals (intro ka ha0 ha)
  all_goals (repeat' (refine And.intro ?_ ?_))
  all_goals (intro kb hb0 hb)
  all_goals (repeat' (refine And.intro ?_ ?_))
  all_goals (intro kc hc0 hc kd hd0 hd)
  all_goals
   have d:=D4.of4 ha hb hc hd
   have hF:∀X Y Z W,(((E.set ka X).set kb Y).set kc Z).set kd W=F4 E ka kb kc kd X Y Z W:=fun _ _ _ _=>rfl
   rw[hF]
   simp(disch:=omega)only[↓kX,kW,aS,simprocAttr,hF,d.getA,d.getR,d.getW,D4.getS,d.setA,d.setR,d.setW,D4.setS,sl,st,zq]
  all_goals
   refine⟨_,_,_,_,rfl,rfl,rfl,rfl,?_,?_⟩
   ·constructor<;>first|exact d.na|exact d.nr|exact d.nw|exact d.ns|exact d.e1|exact d.e2|exact d.e3|exact d.e4|exact d.e5|exact d.e6|exact d.e1.symm|exact d.e2.symm|exact d.e3.symm|exact d.e4.symm|exact d.e5.symm|exact d.e6.symm
   ·refine F4.same ?_ ?_ ?_ ?_ ?_ (fun z h1 h2 h3 h4=>d.else _ _ _ _ (by assumption) (by assumption) (by assumption) (by assumption))
    ·constructor<;>first|exact d.na|exact d.nr|exact d.nw|exact d.ns|exact d.e1|exact d.e2|exact d.e3|exact d.e4|exact d.e5|exact d.e6|exact d.e1.symm|exact d.e2.symm|exact d.e3.symm|exact d.e4.symm|exact d.e5.symm|exact d.e6.symm
    all_goals first|exact d.getA _ _ _ _|exact d.getR _ _ _ _|exact d.getW _ _ _ _|exact D4.getS _ _ _ _
 ·rintro σ F ⟨bA,bB,bC,bD,g4,g9,g10,g11,g12,d,rfl⟩
  have kD:=d.killS
  have kC:=d.killW
  have kB:=d.killR
  have kA:=d.killA
  simp(disch:=omega)only[↓kX,kW,aS,simprocAttr,g4,g9,g10,g11,g12,D4.getS,kD,kC,kB,kA,set_get,wl,wt,wx,wy,wz,ww,sl,st,lG,lU]
  first|refine CallK.p (c17) ?_|refine CallP.i (c17) ?_
  simp(disch:=omega)only[↓kX,kW,aS,simprocAttr,wl,wt,wx,wy,wz,ww,sl,st,lG,lU,bt4,bt8,bt12,bd8,bd12,bd16,List.append_assoc,List.append_nil,List.length_append,List.length_cons,List.length_nil,wmk,z16,set_get,set_set,hE4,hZ]
  first|refine CallK.p (c18) ?_|refine CallP.i (c18) ?_
  simp(disch:=omega)only[↓kX,kW,aS,simprocAttr,wl,wt,wx,wy,wz,ww,sl,st,lG,lU,bt4,bt8,bt12,bd8,bd12,bd16,List.append_assoc,List.append_nil,List.length_append,List.length_cons,List.length_nil,wmk,z16,set_get,set_set,hE4,hZ]
  first|refine CallK.p (c19) ?_|refine CallP.i (c19) ?_
  simp(disch:=omega)only[↓kX,kW,aS,simprocAttr,wl,wt,wx,wy,wz,ww,sl,st,lG,lU,bt4,bt8,bt12,bd8,bd12,bd16,List.append_assoc,List.append_nil,List.length_append,List.length_cons,List.length_nil,wmk,z16,set_get,set_set,hE4,hZ]
  first|refine CallK.p (c20) ?_|refine CallP.i (c20) ?_
  simp(disch:=omega)only[↓kX,kW,aS,simprocAttr,wl,wt,wx,wy,wz,ww,sl,st,lG,lU,bt4,bt8,bt12,bd8,bd12,bd16,List.append_assoc,List.append_nil,List.length_append,List.length_cons,List.length_nil,wmk,z16,set_get,set_set,hE4,hZ]
  rw[hE]
  first|exact(Sub.set_new hk4').set_free hk4'|exact⟨rfl,(Sub.set_new hk4').set_free hk4'⟩|trace_state
end Go.Proofs.YtcncplameclkfaaGreatDoor
end
section
set_option maxRecDepth 20000
set_option maxHeartbeats 4000000
namespace Go.Proofs.YtcncplameclkfaaGreatDoor
open Go Go.Abs Go.Proofs Go.Box
open Go.Nam (p25 Fq dE W4 Pt rM wzero og On mF)
theorem qwiden(p:Pt):APure Tryz.prog 127 [.agg (cP p)] (.agg (cW (og p))):=by
 have sl:=mO
 have st:=om
 have zq:=cN_zero
 have pl:=oV
 have pt:=oF
 have px:=cP_x
 have py:=cP_y
 have z16:=cW_zero
 have wl:=cW_len
 have wt:=cW_take
 have wmk:∀a b c d,cN a++(cN b++(cN c++cN d))=cW ⟨a,b,c,d⟩:=fun _ _ _ _=>rfl
 have c1:=sL p.x p.y
 have o1:=cN_one.symm
 unfold og
 generalize p.x*p.y=t at *
 refine az (c:=⟨Tryz.prog,14,[(1,[0,1,0,1,0,0,1,0,1,0,0,2]),(1000000,[1])],[],[]⟩) (rs:=[ResultVar.cell 2 144]) Tryz.mixed Tryz.func127 rfl rfl rfl (Nat.le_of_ble_eq_true rfl) (by kernel_rfl) fun H=>?_
 simp(disch:=omega)only[↓kX,kW,aS,simprocAttr,pl,pt]
 intro k1 hk10 hk1 k2 hk20 hk2
 have n12:=bK0 hk2
 have hk2':=am hk2
 have v1:∀X Y,((H.set k1 X).set k2 Y) k1=some X:=fun X Y=>lE n12
 simp(disch:=omega)only[↓kX,kW,aS,simprocAttr,v1,mD n12 hk1,pl,pt,px,py,sl,st,lG,kg,o1]
 first|refine CallK.p (c1) ?_|refine CallP.i (c1) ?_
 simp(disch:=omega)only[↓kX,kW,aS,simprocAttr,sl,st,lG,o1,bt4,bt8,bt12,bd8,bd12,bd16,List.append_assoc,List.append_nil,List.length_append,List.length_cons,List.length_nil,wmk,z16,set_get,set_set,wl,wt]
 first|exact Sub.set_new hk2'|exact⟨rfl,Sub.set_new hk2'⟩|trace_state
theorem qpoint(w:W4):APure Tryz.prog 130 [.agg (cW w)] (.agg (cP w.pt)):=by
 have sl:=mO
 have st:=om
 have zq:=cN_zero
 have wl:=cW_len
 have wt:=cW_take
 have wx:=cW_x
 have wy:=cW_y
 have wz:=cW_z
 have pl:=oV
 have pt:=oF
 have z8:=qh
 have pmk:=cP_mk
 have c1:=qinv w.z
 have c2:=sL w.x (Go.Nam.inv w.z)
 have c3:=sL w.y (Go.Nam.inv w.z)
 unfold W4.pt
 generalize w.x*Go.Nam.inv w.z=a at *
 generalize w.y*Go.Nam.inv w.z=b at *
 generalize Go.Nam.inv w.z=v at *
 refine az (c:=⟨Tryz.prog,16,[(2,[0,1,1,0,0,1,1,0,0,2]),(1000000,[1]),(1000001,[3])],[],[]⟩) (rs:=[ResultVar.cell 2 60]) Tryz.mixed Tryz.func130 rfl rfl rfl (Nat.le_of_ble_eq_true rfl) (by kernel_rfl) fun H=>?_
 simp(disch:=omega)only[↓kX,kW,aS,simprocAttr,wl,wt]
 intro k1 hk10 hk1 k2 hk20 hk2
 have n12:=bK0 hk2
 have hk2':=am hk2
 have v1:∀X Y,((H.set k1 X).set k2 Y) k1=some X:=fun X Y=>lE n12
 simp(disch:=omega)only[↓kX,kW,aS,simprocAttr,v1,mD n12 hk1,wl,wt,wx,wy,wz,sl,st,lG,lU]
 first|refine CallK.p (c1) ?_|refine CallP.i (c1) ?_
 simp(disch:=omega)only[↓kX,kW,aS,simprocAttr,sl,st,lG]
 intro k3 hk30 hk3
 rw[zq,aj hk3]
 try simp(disch:=omega)only[↓kX,kW,aS,simprocAttr,wl,wt,wx,wy,wz,sl,st,lG]
 first|refine CallK.p (c2) ?_|refine CallP.i (c2) ?_
 simp(disch:=omega)only[↓kX,kW,aS,simprocAttr,wl,wt,wx,wy,wz,sl,st,lG]
 first|refine CallK.p (c3) ?_|refine CallP.i (c3) ?_
 simp(disch:=omega)only[↓kX,kW,aS,simprocAttr,sl,st,lG,bt4,bd8',List.append_assoc,List.append_nil,List.length_append,List.length_cons,List.length_nil,pmk,z8,set_get,set_set,pl,pt]
 first|exact Sub.set_new hk2'|exact⟨rfl,Sub.set_new hk2'⟩|trace_state
theorem qtimes(n:Nat)(w:W4):APure Tryz.prog 128 [.agg (cW w),nA n] (.agg (cW (Go.Nam.timesW n w 256))):=by
 unfold nA
 have nl:=mI n
 have nt:=mH n
 have sl:=mO
 have st:=om
 have wl:=cW_len
 have wt:=cW_take
 have wx:=cW_x
 have wy:=cW_y
 have wz:=cW_z
 have ww:=cW_t
 have z16:=cW_zero
 have wp:=cW_put
 have wmk:∀a b c d,cN a++(cN b++(cN c++cN d))=cW ⟨a,b,c,d⟩:=fun _ _ _ _=>rfl
 have hw0:cW wzero=[.sc (.int .u64 0),.sc (.int .u64 0),.sc (.int .u64 0),.sc (.int .u64 0),.sc (.int .u64 1),.sc (.int .u64 0),.sc (.int .u64 0),.sc (.int .u64 0),.sc (.int .u64 1),.sc (.int .u64 0),.sc (.int .u64 0),.sc (.int .u64 0),.sc (.int .u64 0),.sc (.int .u64 0),.sc (.int .u64 0),.sc (.int .u64 0)]:=rfl
 have h0:Go.Nam.timesW n w 0=wzero:=rfl
 have hS:∀i,Go.Nam.timesW n w (i+1)=if n/2^(255-i) % 2=0 then rM (Go.Nam.timesW n w i) (Go.Nam.timesW n w i) else rM (rM (Go.Nam.timesW n w i) (Go.Nam.timesW n w i)) w:=fun _=>rfl
 have cB:=fun i (h:i<256)=>sbit_pure n i h
 have hb2:∀j,n/2^j % 2≤1:=fun j=>by omega
 unfold nA at cB
 generalize Go.Nam.timesW n w=S at *
 generalize kZ 4 n=W at *
 obtain⟨Z,hZ⟩:∃Z:AObj,Z=.cells [.sc (.int .u64 0),.sc (.int .u64 0),.sc (.int .u64 0),.sc (.int .u64 0),.sc (.int .u64 0),.sc (.int .u64 0),.sc (.int .u64 0),.sc (.int .u64 0),.sc (.int .u64 0),.sc (.int .u64 0),.sc (.int .u64 0),.sc (.int .u64 0),.sc (.int .u64 0),.sc (.int .u64 0),.sc (.int .u64 0),.sc (.int .u64 0)] 144 16:=⟨_,rfl⟩
 refine az (c:=⟨Tryz.prog,55,[(7,[0,0,0,0,0,0,0,2,2,0]),(8,[0,0,1,0,1,0,0,0,1,0,1,0,0,0,1,0,1,0,0,0,1,0,1,0,0,2]),(1000000,[3,2]),(1000007,[8])],[],[]⟩) (rs:=[ResultVar.cell 4 144]) Tryz.mixed Tryz.func128 rfl rfl rfl (Nat.le_of_ble_eq_true rfl) (by kernel_rfl) fun H=>?_
 simp(disch:=omega)only[↓kX,kW,aS,simprocAttr,wl,wt,nl,nt]
 intro k2 hk20 hk2 k3 hk30 hk3 k4 hk40 hk4
 obtain⟨q1,q2,q3,q4,n24,hk4'⟩:=frz3 hk2 hk3 hk4
 rw[←hZ]
 simp(disch:=omega)only[↓kX,kW,aS,simprocAttr,q1,q2,q3,q4,wl,wt,nl,nt]
 intro k5 hk50 hk5
 have n45:=bK0 hk5
 have hk5':=am hk5
 have v4:∀X Y,((H.set k4 X).set k5 Y) k4=some X:=fun X Y=>lE n45
 refine br (c:=⟨Tryz.prog,55,[(7,[0,0,0,0,0,0,0,2,2,0]),(8,[0,0,1,0,1,0,0,0,1,0,1,0,0,0,1,0,1,0,0,0,1,0,1,0,0,2]),(1000000,[3,2]),(1000007,[8])],[],[]⟩) Tryz.mixed (by kernel_rfl) (fun m σ H'=>∃i:Nat,i+m=256∧σ 2=.ip (cW w) 0∧σ 3=.ip (lH W) 0∧σ 4=.ptr k4 0∧σ 5=.ptr k5 0∧σ 13=.sc (.int .i64 i)∧H'=(H.set k4 Z).set k5 (.cells (cW (S i)) 144 16)) 256 ?_ ?_
 ·refine⟨0,by omega,?_⟩
  rw[h0,hw0]
  simp(disch:=omega)only[↓kX,kW,aS,simprocAttr]
  first|rfl|exact⟨rfl,rfl⟩|trace_state
 ·rintro m σ H' ⟨i,hi,g2,g3,g4,g5,g13,rfl⟩
  by_cases hm0:m=0
  ·subst hm0
   obtain rfl:i=256:=by omega
   have hb:decide (((256:Nat):Int)<256)=false:=by decide
   rw[hZ]
   simp(disch:=omega)only[↓kX,kW,aS,simprocAttr,g2,g3,g4,g5,g13,hb,v4,set_get,set_set,wl,wt,z16,lU]
   first|exact((Sub.set_new hk4').set_free hk5').set_free hk4'|exact⟨rfl,((Sub.set_new hk4').set_free hk5').set_free hk4'⟩|trace_state
  ·have hb:decide ((i:Int)<256)=true:=dT (by omega)
   have w1:IntKind.i64.wrap ((i:Int)+1)=((i+1:Nat):Int):=by rw[iw (by omega)];rfl
   have w2:IntKind.i64.wrap (255-(i:Int))=((255-i:Nat):Int):=by rw[iw (by omega)];omega
   have hs:=hS i
   have c2:=cB (255-i) (by omega)
   have hbb:=hb2 (255-i)
   generalize n/2^(255-i) % 2=bt at *
   generalize hsn:S (i+1)=sn at *
   generalize S i=s at *
   have c1:=qwadd s s
   have c3:=qwadd (rM s s) w
   generalize rM s s=d at *
   generalize rM d w=e at *
   have c4:=qpick bt d.x e.x hbb
   have c5:=qpick bt d.y e.y hbb
   have c6:=qpick bt d.z e.z hbb
   have c7:=qpick bt d.t e.t hbb
   have e1:(if bt=0 then d.x else e.x)=sn.x:=by rw[hs];split<;>rfl
   have e2:(if bt=0 then d.y else e.y)=sn.y:=by rw[hs];split<;>rfl
   have e3:(if bt=0 then d.z else e.z)=sn.z:=by rw[hs];split<;>rfl
   have e4:(if bt=0 then d.t else e.t)=sn.t:=by rw[hs];split<;>rfl
   rw[e1]at c4
   rw[e2]at c5
   rw[e3]at c6
   rw[e4]at c7
   simp(disch:=omega)only[↓kX,kW,aS,simprocAttr,g2,g3,g4,g5,g13,hb,v4,set_get,set_set,wl,wt,wp,lU]
   first|refine CallK.p (c1) ?_|refine CallP.i (c1) ?_
   simp(disch:=omega)only[↓kX,kW,aS,simprocAttr,g2,g3,g4,g5,g13,v4,set_get,set_set,wl,wt,wp,lU]
   first|refine CallK.p (c3) ?_|refine CallP.i (c3) ?_
   simp(disch:=omega)only[↓kX,kW,aS,simprocAttr,g2,g3,g4,g5,g13,v4,set_get,set_set,wl,wt,wp,nl,nt,w2,lU,kY]
   first|refine CallK.p (c2) ?_|refine CallP.i (c2) ?_
   simp(disch:=omega)only[↓kX,kW,aS,simprocAttr,g2,g3,g4,g5,g13,v4,set_get,set_set,wl,wt,wp,lU]
   intro k8 hk80 hk8
   rw[z16,aj hk8]
   simp(disch:=omega)only[↓kX,kW,aS,simprocAttr,g2,g3,g4,g5,g13,v4,set_get,set_set,wl,wt,wx,wy,wz,ww,wp,sl,st,lG,lU]
   first|refine CallK.p (c4) ?_|refine CallP.i (c4) ?_
   simp(disch:=omega)only[↓kX,kW,aS,simprocAttr,g2,g3,g4,g5,g13,v4,set_get,set_set,wl,wt,wx,wy,wz,ww,wp,sl,st,lG,lU]
   first|refine CallK.p (c5) ?_|refine CallP.i (c5) ?_
   simp(disch:=omega)only[↓kX,kW,aS,simprocAttr,g2,g3,g4,g5,g13,v4,set_get,set_set,wl,wt,wx,wy,wz,ww,wp,sl,st,lG,lU]
   first|refine CallK.p (c6) ?_|refine CallP.i (c6) ?_
   simp(disch:=omega)only[↓kX,kW,aS,simprocAttr,g2,g3,g4,g5,g13,v4,set_get,set_set,wl,wt,wx,wy,wz,ww,wp,sl,st,lG,lU]
   first|refine CallK.p (c7) ?_|refine CallP.i (c7) ?_
   simp(disch:=omega)only[↓kX,kW,aS,simprocAttr,g2,g3,g4,g5,g13,v4,set_get,set_set,wl,wt,wx,wy,wz,ww,wp,sl,st,lG,lU,bt4,bt8,bt12,bd8,bd12,bd16,List.append_assoc,List.append_nil,List.length_append,List.length_cons,List.length_nil,wmk,w1]
   exact⟨m-1,by omega,i+1,by omega,rfl,by rw[hsn]⟩
end Go.Proofs.YtcncplameclkfaaGreatDoor
end
section
set_option maxRecDepth 20000
set_option maxHeartbeats 4000000
namespace Go.Proofs.YtcncplameclkfaaGreatDoor
open Go Go.Abs Go.Proofs Go.Box
open Go.Nam (p25 Fq dE W4 Pt rM wzero og On mF basP qK qL zeroP mZ)
instance:DecidableEq Pt:=fun p q=>if h:p.x=q.x∧p.y=q.y then isTrue (Go.Nam.Pt.eq h.1 h.2) else isFalse fun e=>h (by rw[e];exact⟨rfl,rfl⟩)
theorem eqL8{l m l' m':List Nat}(h1:l.length=4)(h2:m.length=4)(h3:l'.length=4)(h4:m'.length=4):eqG Tryz.prog 6 60 (.agg (lH l++lH m)) (.agg (lH l'++lH m'))=some (decide (l=l'∧m=m')):=by
 match l,h1,m,h2,l',h3,m',h4 with
 |[a0,a1,a2,a3],_,[a4,a5,a6,a7],_,[b0,b1,b2,b3],_,[b4,b5,b6,b7],_=>
  show eqG Tryz.prog 6 60 (.agg [.sc (.int .u64 (a0:Nat)),.sc (.int .u64 (a1:Nat)),.sc (.int .u64 (a2:Nat)),.sc (.int .u64 (a3:Nat)),.sc (.int .u64 (a4:Nat)),.sc (.int .u64 (a5:Nat)),.sc (.int .u64 (a6:Nat)),.sc (.int .u64 (a7:Nat))]) (.agg [.sc (.int .u64 (b0:Nat)),.sc (.int .u64 (b1:Nat)),.sc (.int .u64 (b2:Nat)),.sc (.int .u64 (b3:Nat)),.sc (.int .u64 (b4:Nat)),.sc (.int .u64 (b5:Nat)),.sc (.int .u64 (b6:Nat)),.sc (.int .u64 (b7:Nat))])=_
  rw[Tryz.eq60]
  congr 1
  rw[Bool.eq_iff_iff]
  simp only[Bool.and_eq_true,beq_iff_eq,decide_eq_true_eq,List.cons.injEq,and_true,Int.ofNat_inj,Int.natCast_inj,and_assoc]
theorem words_fq{a b:Fq}:kZ 4 a.val=kZ 4 b.val↔a=b:=by
 rw[words_inj (fq_b a) (fq_b b)]
 exact⟨Fin.ext,fun h=>by rw[h]⟩
theorem eqP(p q:Pt):eqG Tryz.prog 6 60 (.agg (cP p)) (.agg (cP q))=some (decide (p=q)):=by
 unfold cP cN
 rw[eqL8 (lL 4 _) (lL 4 _) (lL 4 _) (lL 4 _)]
 congr 1
 rw[decide_eq_decide,words_fq,words_fq]
 exact⟨fun h=>Go.Nam.Pt.eq h.1 h.2,fun h=>by rw[h];exact⟨rfl,rfl⟩⟩
theorem ckP(p:Pt):cl0 Tryz.prog 6 60 (.agg (cP p))=true:=by
 unfold cP cN
 obtain⟨a0,a1,a2,a3,h1⟩:∃a0 a1 a2 a3,kZ 4 p.x.val=[a0,a1,a2,a3]:=⟨_,_,_,_,rfl⟩
 obtain⟨b0,b1,b2,b3,h2⟩:∃a0 a1 a2 a3,kZ 4 p.y.val=[a0,a1,a2,a3]:=⟨_,_,_,_,rfl⟩
 rw[h1,h2]
 exact Tryz.ck60 _ _ _ _ _ _ _ _
theorem eoP:bB0 Tryz.prog 60=true:=by kernel_rfl
theorem qbase:APure Tryz.prog 75 [] (.agg (cP basP)):=by
 rw[show cP basP=[.sc (.int .u64 14507833142362363162),.sc (.int .u64 7578651490590762930),.sc (.int .u64 13881468655802702940),.sc (.int .u64 2407515759118799870),.sc (.int .u64 7378697629483820632),.sc (.int .u64 7378697629483820646),.sc (.int .u64 7378697629483820646),.sc (.int .u64 7378697629483820646)] from rfl]
 refine az (c:=⟨Tryz.prog,4,[],[],[]⟩) (rs:=[ResultVar.cell 0 60]) Tryz.mixed Tryz.func75 rfl rfl rfl (Nat.le_of_ble_eq_true rfl) (by kernel_rfl) fun H=>?_
 simp(disch:=omega)only[↓kX,kW,aS,simprocAttr]
 intro k hk0 hk
 first|exact⟨rfl,Sub.set_new hk⟩|exact Sub.set_new hk|trace_state
theorem qon(p:Pt)(h:p.on):APure Tryz.prog 126 [.agg (cP p)] (.sc (.bool true)):=by
 have sl:=mO
 have st:=om
 have zq:=cN_zero
 have pl:=oV
 have pt:=oF
 have px:=cP_x
 have py:=cP_y
 have c1:=sL p.x p.x
 have c2:=sL p.y p.y
 have c3:=qd
 have c4:=sL (p.x*p.x) (p.y*p.y)
 have c5:=sL dE (p.x*p.x*(p.y*p.y))
 have c6:=qadd 1 (dE*(p.x*p.x*(p.y*p.y)))
 have c7:=qright p.x
 have c8:=qright p.y
 have c9:=qsub (p.y*p.y) (p.x*p.x)
 have he:p.y*p.y-p.x*p.x=1+dE*(p.x*p.x*(p.y*p.y)):=by
  have h':p.y*p.y-p.x*p.x=1+dE*p.x*p.x*p.y*p.y:=h
  rw[h']
  generalize dE=d
  grind -lia -linarith
 rw[he]at c9
 have q1:=qeq (1+dE*(p.x*p.x*(p.y*p.y))) (1+dE*(p.x*p.x*(p.y*p.y)))
 rw[decide_eq_true rfl]at q1
 have k1':=qck (1+dE*(p.x*p.x*(p.y*p.y)))
 have eo:=eoN
 have o1:=cN_one.symm
 clear he
 generalize 1+dE*(p.x*p.x*(p.y*p.y))=r at *
 generalize dE*(p.x*p.x*(p.y*p.y))=m2 at *
 generalize p.x*p.x*(p.y*p.y)=m1 at *
 generalize p.x*p.x=xx at *
 generalize p.y*p.y=yy at *
 generalize dE=D at *
 refine az (c:=⟨Tryz.prog,38,[(1,[0,0,0,0,0,0,0,0,0,0,2,2,2,2]),(2,[0,0,0,0,0,0,0,2,2]),(3,[0,1,0,0,0,1,0,0,0,1,1,0,1,0,0,0]),(1000000,[1]),(1000001,[4,3]),(1000002,[5])],[],[(1,(.op 0 0 (.op 1 0 (.op 2 0 (.op 3 0 (.op 4 0 (.op 5 0 (.op 6 0 (.op 7 0 (.op 8 0 (.op 9 0 (.or (.op 10 3 (.op 11 3 (.op 12 2 (.op 13 2 .nil)))) (.op 11 3 (.op 10 3 (.op 12 2 (.op 13 2 .nil))))))))))))))))]⟩) (rs:=[ResultVar.tmp 2]) Tryz.mixed Tryz.func126 rfl rfl rfl (Nat.le_of_ble_eq_true rfl) (by kernel_rfl) fun H=>?_
 simp(disch:=omega)only[↓kX,kW,aS,simprocAttr,pl,pt]
 intro k1 hk10 hk1
 simp(disch:=omega)only[↓kX,kW,aS,simprocAttr,aj hk1,pl,pt,px,py,sl,st,lG,kg]
 refine eI00 (fun σ F=>∃bA bB,σ 1=.ip (cP p) 0∧σ 3=.ptr bA 0∧σ 4=.ptr bB 0∧¬bA=bB∧H bA=none∧H bB=none∧F=(H.set bA (cE xx)).set bB (cE yy)) ?_ ?_
 ·simp(disch:=omega)only[↓kX,kW,aS,simprocAttr,pl,pt,px,py,sl,st,lG,kg]
  first|refine CallK.p (c1) ?_|refine CallP.i (c1) ?_
  simp(disch:=omega)only[↓kX,kW,aS,simprocAttr,pl,pt,px,py,sl,st,lG,kg]
  first|refine CallK.p (c2) ?_|refine CallP.i (c2) ?_
  simp(disch:=omega)only[↓kX,kW,aS,simprocAttr,pl,pt,px,py,sl,st,lG,kg]
  refine⟨?_,?_⟩
  ·intro bA hA0 hA bB hB0 hB
   have n67:=bK0 hB
   have hB':=am hB
   have u1:∀X Y,((H.set bA X).set bB Y) bA=some X:=fun X Y=>lE n67
   have u2:∀X Y X',((H.set bA X).set bB Y).set bA X'=(H.set bA X').set bB Y:=fun X Y X'=>mG n67
   simp(disch:=omega)only[↓kX,kW,aS,simprocAttr,u1,u2,set_get,set_set,sl,zq]
   exact⟨bA,bB,rfl,rfl,n67,hA,hB',rfl⟩
  ·intro bB hB0 hB bA hA0 hA
   have n76:=bK0 hA
   have hA':=am hA
   have u1:∀X Y,((H.set bB X).set bA Y) bB=some X:=fun X Y=>lE n76
   have u2:∀X Y X',((H.set bB X).set bA Y).set bB X'=(H.set bB X').set bA Y:=fun X Y X'=>mG n76
   simp(disch:=omega)only[↓kX,kW,aS,simprocAttr,u1,u2,set_get,set_set,sl,zq]
   exact⟨bA,bB,rfl,rfl,fun e=>n76 e.symm,hA',hB,by first|exact fD n76|exact fD (fun e=>n76 e.symm)|exact(fD n76).symm|exact(fD (fun e=>n76 e.symm)).symm⟩
 ·rintro σ F ⟨bA,bB,g1,g3,g4,nAB,hA,hB,rfl⟩
  have hB':=qn (x:=cE xx) nAB hB
  have vA:∀X Y,((H.set bA X).set bB Y) bA=some X:=fun X Y=>lE nAB
  simp(disch:=omega)only[↓kX,kW,aS,simprocAttr,g1,g3,g4,vA,set_get,aj hB',aj hA,pl,pt,px,py,sl,st,lG,kg,o1]
  first|refine CallK.p (c3) ?_|refine CallP.i (c3) ?_
  simp(disch:=omega)only[↓kX,kW,aS,simprocAttr,g1,g3,g4,pl,pt,px,py,sl,st,lG,kg,o1]
  first|refine CallK.p (c4) ?_|refine CallP.i (c4) ?_
  simp(disch:=omega)only[↓kX,kW,aS,simprocAttr,g1,g3,g4,pl,pt,px,py,sl,st,lG,kg,o1]
  first|refine CallK.p (c5) ?_|refine CallP.i (c5) ?_
  simp(disch:=omega)only[↓kX,kW,aS,simprocAttr,g1,g3,g4,pl,pt,px,py,sl,st,lG,kg,o1]
  first|refine CallK.p (c6) ?_|refine CallP.i (c6) ?_
  simp(disch:=omega)only[↓kX,kW,aS,simprocAttr,g1,g3,g4,pl,pt,px,py,sl,st,lG,kg,o1]
  intro k5 hk50 hk5
  rw[zq,aj hk5]
  try simp(disch:=omega)only[↓kX,kW,aS,simprocAttr,g1,g3,g4,pl,pt,px,py,sl,st,lG,kg]
  first|refine CallK.p (c7) ?_|refine CallP.i (c7) ?_
  simp(disch:=omega)only[↓kX,kW,aS,simprocAttr,g1,g3,g4,pl,pt,px,py,sl,st,lG,kg]
  first|refine CallK.p (c8) ?_|refine CallP.i (c8) ?_
  simp(disch:=omega)only[↓kX,kW,aS,simprocAttr,g1,g3,g4,pl,pt,px,py,sl,st,lG,kg]
  first|refine CallK.p (c9) ?_|refine CallP.i (c9) ?_
  simp(disch:=omega)only[↓kX,kW,aS,simprocAttr,g1,g3,g4,pl,pt,px,py,sl,st,lG,kg,q1,k1',eo]
  first|exact Abs.Sub.refl _|exact⟨rfl,Abs.Sub.refl _⟩|trace_state
theorem qmult(n:Nat)(hn:n<2^256)(p:Pt)(h:p.on):APure Tryz.prog 107 [nA n,.agg (cP p)] (.tup [.agg (cP (mF n p)),.sc (.int .i64 0)]):=by
 have c1:=qon p h
 have c2:=qwiden p
 have c3:=qtimes n (og p)
 have c4:=qpoint (Go.Nam.timesW n (og p) 256)
 rw[(Go.Nam.timesW_all hn (Go.Nam.wide4_rep p) h).pt]at c4
 unfold nA at *
 have nl:=mI n
 have nt:=mH n
 have pl:=oV
 have pt:=oF
 have z8:=qh
 generalize mF n p=R at *
 generalize Go.Nam.timesW n (og p) 256=T at *
 generalize og p=w at *
 generalize kZ 4 n=W at *
 refine az (c:=⟨Tryz.prog,15,[(3,[1,0,1,0,0,2,0]),(1000000,[3,2])],[],[]⟩) (rs:=[ResultVar.cell 4 60,ResultVar.tmp 5]) Tryz.mixed Tryz.func107 rfl rfl rfl (Nat.le_of_ble_eq_true rfl) (by kernel_rfl) fun H=>?_
 simp(disch:=omega)only[↓kX,kW,aS,simprocAttr,pl,pt,nl,nt]
 intro k2 hk20 hk2 k3 hk30 hk3 k4 hk40 hk4
 obtain⟨q1,q2,q3,q4,n24,hk4'⟩:=frz3 hk2 hk3 hk4
 simp(disch:=omega)only[↓kX,kW,aS,simprocAttr,q1,q2,q3,q4,pl,pt,nl,nt,kg,kY]
 first|refine CallK.p (c1) ?_|refine CallP.i (c1) ?_
 simp(disch:=omega)only[↓kX,kW,aS,simprocAttr,pl,pt,nl,nt,kg,lU,kY]
 first|refine CallK.p (c2) ?_|refine CallP.i (c2) ?_
 simp(disch:=omega)only[↓kX,kW,aS,simprocAttr,pl,pt,nl,nt,kg,lU,kY]
 first|refine CallK.p (c3) ?_|refine CallP.i (c3) ?_
 simp(disch:=omega)only[↓kX,kW,aS,simprocAttr,pl,pt,nl,nt,kg,lU,kY]
 first|refine CallK.p (c4) ?_|refine CallP.i (c4) ?_
 simp(disch:=omega)only[↓kX,kW,aS,simprocAttr,set_get,set_set,pl,pt,z8,kg]
 first|exact Sub.set_new hk4'|exact⟨rfl,Sub.set_new hk4'⟩|trace_state
theorem qnegp(p:Pt)(h:p.on):APure Tryz.prog 73 [.agg (cP p)] (.tup [.agg (cP (qL p)),.sc (.int .i64 0)]):=by
 have c1:=qon p h
 have c2:=qneg p.x
 have pl:=oV
 have pt:=oF
 have px:=cP_x
 have py:=cP_y
 have sl:=mO
 have st:=om
 have z8:=qh
 have pmk:=cP_mk
 unfold qL
 generalize -p.x=m at *
 refine az (c:=⟨Tryz.prog,14,[(3,[0,1,0,0,1,0,2,0]),(1000000,[1])],[],[]⟩) (rs:=[ResultVar.cell 2 60,ResultVar.tmp 3]) Tryz.mixed Tryz.func73 rfl rfl rfl (Nat.le_of_ble_eq_true rfl) (by kernel_rfl) fun H=>?_
 simp(disch:=omega)only[↓kX,kW,aS,simprocAttr,pl,pt]
 intro k1 hk10 hk1 k2 hk20 hk2
 have n12:=bK0 hk2
 have hk2':=am hk2
 have v1:∀X Y,((H.set k1 X).set k2 Y) k1=some X:=fun X Y=>lE n12
 simp(disch:=omega)only[↓kX,kW,aS,simprocAttr,v1,mD n12 hk1,pl,pt,px,py,sl,st,lG,kg]
 first|refine CallK.p (c1) ?_|refine CallP.i (c1) ?_
 simp(disch:=omega)only[↓kX,kW,aS,simprocAttr,pl,pt,px,py,sl,st,lG,kg]
 first|refine CallK.p (c2) ?_|refine CallP.i (c2) ?_
 simp(disch:=omega)only[↓kX,kW,aS,simprocAttr,pl,pt,px,py,sl,st,lG,kg,bt4,bd8',List.append_assoc,List.append_nil,List.length_append,List.length_cons,List.length_nil,pmk,z8,set_get,set_set]
 first|exact Sub.set_new hk2'|exact⟨rfl,Sub.set_new hk2'⟩|trace_state
theorem qboth(a:Nat)(ha:a<2^256)(p:Pt)(hp:p.on)(b:Nat)(hb:b<2^256)(q:Pt)(hq:q.on):APure Tryz.prog 74 [nA a,.agg (cP p),nA b,.agg (cP q)] (.tup [.agg (cP (mZ (mF a p) (mF b q))),.sc (.int .i64 0)]):=by
 have c1:=qon p hp
 have c2:=qon q hq
 have c3:=qwiden p
 have c4:=qtimes a (og p)
 have c5:=qwiden q
 have c6:=qtimes b (og q)
 have r1:=Go.Nam.timesW_all ha (Go.Nam.wide4_rep p) hp
 have r2:=Go.Nam.timesW_all hb (Go.Nam.wide4_rep q) hq
 have c7:=qwadd (Go.Nam.timesW a (og p) 256) (Go.Nam.timesW b (og q) 256)
 have c8:=qpoint (rM (Go.Nam.timesW a (og p) 256) (Go.Nam.timesW b (og q) 256))
 rw[(Go.Nam.wadd_rep r1 r2 (Go.Nam.smul_on hp a) (Go.Nam.smul_on hq b)).pt]at c8
 clear r1 r2
 unfold nA at *
 have nl:=mI
 have nt:=mH
 have pl:=oV
 have pt:=oF
 have z8:=qh
 generalize mZ (mF a p) (mF b q)=R at *
 generalize rM (Go.Nam.timesW a (og p) 256) (Go.Nam.timesW b (og q) 256)=S at *
 generalize Go.Nam.timesW a (og p) 256=T at *
 generalize Go.Nam.timesW b (og q) 256=U at *
 generalize og p=w at *
 generalize og q=v at *
 refine az (c:=⟨Tryz.prog,29,[(3,[1,0,1,0,1,0,1,0,0,0,2,0]),(1000000,[7,6,5,4])],[],[]⟩) (rs:=[ResultVar.cell 8 60,ResultVar.tmp 9]) Tryz.mixed Tryz.func74 rfl rfl rfl (Nat.le_of_ble_eq_true rfl) (by kernel_rfl) fun H=>?_
 simp(disch:=omega)only[↓kX,kW,aS,simprocAttr,pl,pt,nl,nt]
 intro k4 hk40 hk4 k5 hk50 hk5 k6 hk60 hk6 k7 hk70 hk7 k8 hk80 hk8
 have n78:=bK0 hk8
 have f7:=am hk8
 have n68:=bK0 f7
 have f6:=am f7
 have n58:=bK0 f6
 have f5:=am f6
 have n48:=bK0 f5
 have hk8':=am f5
 have v7:∀X Y,((((((H.set k4 (.cells (lH (kZ 4 a)) 58 4)).set k5 (.cells (cP p) 60 8)).set k6 (.cells (lH (kZ 4 b)) 58 4)).set k7 X).set k8 Y)) k7=some X:=fun X Y=>lE n78
 have v6:∀X Y,(((((H.set k4 (.cells (lH (kZ 4 a)) 58 4)).set k5 (.cells (cP p) 60 8)).set k6 X).set k8 Y)) k6=some X:=fun X Y=>lE n68
 have v5:∀X Y,((((H.set k4 (.cells (lH (kZ 4 a)) 58 4)).set k5 X).set k8 Y)) k5=some X:=fun X Y=>lE n58
 have v4:∀X Y,(((H.set k4 X).set k8 Y)) k4=some X:=fun X Y=>lE n48
 simp(disch:=omega)only[↓kX,kW,aS,simprocAttr,v7,v6,v5,v4,mD n78 hk7,mD n68 hk6,mD n58 hk5,mD n48 hk4,pl,pt,nl,nt,kg,kY]
 first|refine CallK.p (c1) ?_|refine CallP.i (c1) ?_
 simp(disch:=omega)only[↓kX,kW,aS,simprocAttr,pl,pt,nl,nt,kg,lU,kY]
 first|refine CallK.p (c2) ?_|refine CallP.i (c2) ?_
 simp(disch:=omega)only[↓kX,kW,aS,simprocAttr,pl,pt,nl,nt,kg,lU,kY]
 first|refine CallK.p (c3) ?_|refine CallP.i (c3) ?_
 simp(disch:=omega)only[↓kX,kW,aS,simprocAttr,pl,pt,nl,nt,kg,lU,kY]
 first|refine CallK.p (c4) ?_|refine CallP.i (c4) ?_
 simp(disch:=omega)only[↓kX,kW,aS,simprocAttr,pl,pt,nl,nt,kg,lU,kY]
 first|refine CallK.p (c5) ?_|refine CallP.i (c5) ?_
 simp(disch:=omega)only[↓kX,kW,aS,simprocAttr,pl,pt,nl,nt,kg,lU,kY]
 first|refine CallK.p (c6) ?_|refine CallP.i (c6) ?_
 simp(disch:=omega)only[↓kX,kW,aS,simprocAttr,pl,pt,nl,nt,kg,lU,kY]
 first|refine CallK.p (c7) ?_|refine CallP.i (c7) ?_
 simp(disch:=omega)only[↓kX,kW,aS,simprocAttr,pl,pt,nl,nt,kg,lU,kY]
 first|refine CallK.p (c8) ?_|refine CallP.i (c8) ?_
 simp(disch:=omega)only[↓kX,kW,aS,simprocAttr,set_get,set_set,pl,pt,z8,kg]
 first|exact Sub.set_new hk8'|exact⟨rfl,Sub.set_new hk8'⟩|trace_state
theorem qsmall(p:Pt)(h:p.on):APure Tryz.prog 72 [.agg (cP p)] (.sc (.bool (decide (mF 8 p=zeroP)))):=by
 have c1:=qmult 8 (by decide) p h
 have e1:=eqP (mF 8 p) zeroP
 have k1':=ckP (mF 8 p)
 have k2':=ckP zeroP
 have eo:=eoP
 rw[show cP zeroP=[.sc (.int .u64 0),.sc (.int .u64 0),.sc (.int .u64 0),.sc (.int .u64 0),.sc (.int .u64 1),.sc (.int .u64 0),.sc (.int .u64 0),.sc (.int .u64 0)] from rfl]at e1 k2'
 rw[show nA 8=.agg [.sc (.int .u64 8),.sc (.int .u64 0),.sc (.int .u64 0),.sc (.int .u64 0)] from rfl]at c1
 have pl:=oV
 have pt:=oF
 have z8:=qh
 generalize decide (mF 8 p=zeroP)=b at *
 generalize mF 8 p=R at *
 refine az (c:=⟨Tryz.prog,19,[(1000000,[1]),(1000001,[3])],[],[]⟩) (rs:=[ResultVar.tmp 2]) Tryz.mixed Tryz.func72 rfl rfl rfl (Nat.le_of_ble_eq_true rfl) (by kernel_rfl) fun H=>?_
 simp(disch:=omega)only[↓kX,kW,aS,simprocAttr,pl,pt]
 intro k1 hk10 hk1
 simp(disch:=omega)only[↓kX,kW,aS,simprocAttr,aj hk1,pl,pt,kg]
 first|refine CallK.p (c1) ?_|refine CallP.i (c1) ?_
 simp(disch:=omega)only[↓kX,kW,aS,simprocAttr,pl,pt,kg]
 intro k3 hk30 hk3
 rw[z8,aj hk3]
 simp(disch:=omega)only[↓kX,kW,aS,simprocAttr,e1,k1',k2',eo,pl,pt,kg]
 first|exact Abs.Sub.refl _|exact⟨rfl,Abs.Sub.refl _⟩|trace_state
end Go.Proofs.YtcncplameclkfaaGreatDoor
end
