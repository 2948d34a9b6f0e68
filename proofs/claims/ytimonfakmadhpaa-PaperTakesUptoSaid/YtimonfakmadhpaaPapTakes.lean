/-
  PaperTakes: the walk, and the call, of the arguments as they are read.
  Conditions: none. Lemmas only.
-/
import Derived.Test.YtimonfakmadhpaaPapGE
import Derived.Test.YtimonfakmadhpaaPapG4
import Derived.Test.YtimonfakmadhpaaPapGA
import Derived.Test.YtimonfakmadhpaaPapG7
set_option linter.all false
set_option linter.unusedSimpArgs false
set_option linter.unusedVariables false
set_option maxRecDepth 20000
set_option maxHeartbeats 8000000
namespace Go.Proofs.Ytimonfakmadhpaa
open Go Go.Abs Go.Proofs Go.Fug
theorem ops_rel (B H : AH) (h : PH) (s : PS) (P : List Opn) (p : IsP B H h s) (r : Rel P s) (t : InvP s) :
    ACalls Try.prog 43 [.ptr h.p 0] H fun v H' => v = opsV (rOps P) ∧ H' = H := by
  refine (ops_live B H h s p (fun i hi => ?_) t.dok).mono ?_
  · have := t.ok i hi
    unfold insO at this
    simp only [Bool.and_eq_true] at this
    exact this.1.1
  · rintro v H' ⟨rfl,O,hO,rfl⟩
    rw [ops_eq r p.g hO]
    exact ⟨rfl,rfl⟩
theorem takes_walk (l : List (List Opn)) (o : Opn) (a : Int) (hl : l.length ≤ 1100000) : APure Try.prog 9 [opssV l,.agg (opC o),.sc (.int .i64 a)] (.sc (.bool true)) := by
  have haw := awake_pure
  have hlo : 19 ≤ (opC o).length := Nat.le_of_eq (opC_len o).symm
  have htk : (opC o).take 19 = opC o := List.take_of_length_le (Nat.le_of_eq (opC_len o))
  have hsp := small_pure l (by omega)
  cases hsm : smallB l
  · rw [hsm] at hsp
    refine az (c := ⟨Try.prog,63,[(2000004,[0,1,2,4,3,5,6,7,8,9,11,10,12,13,14,15,16,17,19,20,18,21,22,23,24,25,26,28,29,27,30,31,32,33,34,35,36,37,38,39,40,41,42,43]),(4,[0,0,0,0,2,0,0,0,0,0,0,2,0,0,0,0,0,0,0,0,2,0,0,0,0,0,0,0,0,2,0,0,0,0,0,0,0,0,0,0,0,2,0,0]),(1000000,[4]),(1000003,[8]),(4000004,[6]),(4000003,[2,4,7,8,9])],[],[]⟩) (rs := [ResultVar.tmp 6]) Try.mixed Try.func9 rfl rfl rfl (Nat.le_of_ble_eq_true rfl) (by kernel_rfl) fun H => ?_
    simp (disch := omega) only [↓aI,aD,aG,ixA,aX,aV,ag,aT,ae,mkA,ab,bnd,aS,aH,aK,cvO,aJ,aY,↓aO,aW,aE,aF,aM,aA,aC,aB,aN,ad,frz,aR,aL,AV.cellsOf,AV.fine,AV.one,aQ,indexK.aggOf,simprocAttr,aZ,aU,Try.facts,dT,dF,qT,qF,nT,nF,Bool.false_and,Bool.and_false]
    intro k hk0 hk
    simp (disch := omega) only [↓aI,aD,aG,ixA,aX,aV,ag,aT,ae,mkA,ab,bnd,aS,aH,aK,cvO,aJ,aY,↓aO,aW,aE,aF,aM,aA,aC,aB,aN,ad,frz,aR,aL,AV.cellsOf,AV.fine,AV.one,aQ,indexK.aggOf,simprocAttr,aZ,aU,Try.facts,dT,dF,qT,qF,nT,nF,Bool.false_and,Bool.and_false,aj hk]
    first | refine CallK.p (hsp) ?_ | refine CallP.i (hsp) ?_
    simp (disch := omega) only [↓aI,aD,aG,ixA,aX,aV,ag,aT,ae,mkA,ab,bnd,aS,aH,aK,cvO,aJ,aY,↓aO,aW,aE,aF,aM,aA,aC,aB,aN,ad,frz,aR,aL,AV.cellsOf,AV.fine,AV.one,aQ,indexK.aggOf,simprocAttr,aZ,aU,Try.facts,dT,dF,qT,qF,nT,nF,Bool.false_and,Bool.and_false,aj hk]
    first | refine CallK.p (haw) ?_ | refine CallP.i (haw) ?_
    simp (disch := omega) only [↓aI,aD,aG,ixA,aX,aV,ag,aT,ae,mkA,ab,bnd,aS,aH,aK,cvO,aJ,aY,↓aO,aW,aE,aF,aM,aA,aC,aB,aN,ad,frz,aR,aL,AV.cellsOf,AV.fine,AV.one,aQ,indexK.aggOf,simprocAttr,aZ,aU,Try.facts,dT,dF,qT,qF,nT,nF,Bool.false_and,Bool.and_false]
    exact Abs.Sub.refl _
  · rw [hsm] at hsp
    have hsum := smallF_sum l 0 (by simpa [smallB] using hsm)
    obtain ⟨inv,hz⟩ := both_inv l (by omega)
    obtain ⟨rel,hok⟩ := both_rel l
    have hbl := fun H => both_live H l (by omega) (by omega)
    rw [hok] at hbl
    have hrz := rel.size
    have hro := rops_pure (bothR l) (by omega)
    have hrw := rwait_pure (bothR l) (by omega)
    have hrk := rknows_pure (bothR l) o (by omega)
    have hrc := rcount_pure (bothR l) a (by omega)
    have hr1 := pright_pure o
    have hr2 := rright18_pure o
    have hrl : (rOps (bothR l)).length ≤ 3000000 := by rw [(rOps_sorted _ rel.ok rel.nd).2.length_eq]; omega
    have hsa := same_pure (rOps (bothR l)) (rOps (bothR l)) hrl hrl
    rw [decide_eq_true rfl] at hsa
    have hke := knows_eq rel o
    have hce := count_eq rel a
    generalize bothS l = S at *
    generalize bothR l = P at *
    refine az (c := ⟨Try.prog,63,[(2000004,[0,1,2,4,3,5,6,7,8,9,11,10,12,13,14,15,16,17,19,20,18,21,22,23,24,25,26,28,29,27,30,31,32,33,34,35,36,37,38,39,40,41,42,43]),(4,[0,0,0,0,2,0,0,0,0,0,0,2,0,0,0,0,0,0,0,0,2,0,0,0,0,0,0,0,0,2,0,0,0,0,0,0,0,0,0,0,0,2,0,0]),(1000000,[4]),(1000003,[8]),(4000004,[6]),(4000003,[2,4,7,8,9])],[],[]⟩) (rs := [ResultVar.tmp 6]) Try.mixed Try.func9 rfl rfl rfl (Nat.le_of_ble_eq_true rfl) (by kernel_rfl) fun H => ?_
    simp (disch := omega) only [↓aI,aD,aG,ixA,aX,aV,ag,aT,ae,mkA,ab,bnd,aS,aH,aK,cvO,aJ,aY,↓aO,aW,aE,aF,aM,aA,aC,aB,aN,ad,frz,aR,aL,AV.cellsOf,AV.fine,AV.one,aQ,indexK.aggOf,simprocAttr,aZ,aU,Try.facts,dT,dF,qT,qF,nT,nF,Bool.false_and,Bool.and_false]
    intro k hk0 hk
    simp (disch := omega) only [↓aI,aD,aG,ixA,aX,aV,ag,aT,ae,mkA,ab,bnd,aS,aH,aK,cvO,aJ,aY,↓aO,aW,aE,aF,aM,aA,aC,aB,aN,ad,frz,aR,aL,AV.cellsOf,AV.fine,AV.one,aQ,indexK.aggOf,simprocAttr,aZ,aU,Try.facts,dT,dF,qT,qF,nT,nF,Bool.false_and,Bool.and_false,aj hk]
    first | refine CallK.p (hsp) ?_ | refine CallP.i (hsp) ?_
    simp (disch := omega) only [↓aI,aD,aG,ixA,aX,aV,ag,aT,ae,mkA,ab,bnd,aS,aH,aK,cvO,aJ,aY,↓aO,aW,aE,aF,aM,aA,aC,aB,aN,ad,frz,aR,aL,AV.cellsOf,AV.fine,AV.one,aQ,indexK.aggOf,simprocAttr,aZ,aU,Try.facts,dT,dF,qT,qF,nT,nF,Bool.false_and,Bool.and_false,aj hk]
    refine CallK.i (hbl _) ?_
    rintro v H1 ⟨h,hh0,rfl,p⟩
    have hop := ops_rel _ _ h S P p rel inv
    have hwt := wait_live _ _ h S p
    have hkn := knows_live _ _ h S o p
    have hct := count_live _ _ h S a p
    rw [wait_eq rel inv p.t.g p.nd (by omega)] at hwt
    rw [hke] at hkn
    rw [hce] at hct
    simp (disch := omega) only [↓aI,aD,aG,ixA,aX,aV,ag,aT,ae,mkA,ab,bnd,aS,aH,aK,cvO,aJ,aY,↓aO,aW,aE,aF,aM,aA,aC,aB,aN,ad,frz,aR,aL,AV.cellsOf,AV.fine,AV.one,aQ,indexK.aggOf,simprocAttr,aZ,aU,Try.facts,dT,dF,qT,qF,nT,nF,Bool.false_and,Bool.and_false]
    intro k6 hk60 hk6
    try simp (disch := omega) only [↓aI,aD,aG,ixA,aX,aV,ag,aT,ae,mkA,ab,bnd,aS,aH,aK,cvO,aJ,aY,↓aO,aW,aE,aF,aM,aA,aC,aB,aN,ad,frz,aR,aL,AV.cellsOf,AV.fine,AV.one,aQ,indexK.aggOf,simprocAttr,aZ,aU,Try.facts,dT,dF,qT,qF,nT,nF,Bool.false_and,Bool.and_false,aj hk6,ah]
    refine CallK.i hop ?_
    rintro v E ⟨rfl,rfl⟩
    simp (disch := omega) only [↓aI,aD,aG,ixA,aX,aV,ag,aT,ae,mkA,ab,bnd,aS,aH,aK,cvO,aJ,aY,↓aO,aW,aE,aF,aM,aA,aC,aB,aN,ad,frz,aR,aL,AV.cellsOf,AV.fine,AV.one,aQ,indexK.aggOf,simprocAttr,aZ,aU,Try.facts,dT,dF,qT,qF,nT,nF,Bool.false_and,Bool.and_false,ah,beq_self_eq_true,hlo,htk]
    first | refine CallK.p (hro) ?_ | refine CallP.i (hro) ?_
    simp (disch := omega) only [↓aI,aD,aG,ixA,aX,aV,ag,aT,ae,mkA,ab,bnd,aS,aH,aK,cvO,aJ,aY,↓aO,aW,aE,aF,aM,aA,aC,aB,aN,ad,frz,aR,aL,AV.cellsOf,AV.fine,AV.one,aQ,indexK.aggOf,simprocAttr,aZ,aU,Try.facts,dT,dF,qT,qF,nT,nF,Bool.false_and,Bool.and_false,ah,beq_self_eq_true,hlo,htk]
    first | refine CallK.p (hsa) ?_ | refine CallP.i (hsa) ?_
    simp (disch := omega) only [↓aI,aD,aG,ixA,aX,aV,ag,aT,ae,mkA,ab,bnd,aS,aH,aK,cvO,aJ,aY,↓aO,aW,aE,aF,aM,aA,aC,aB,aN,ad,frz,aR,aL,AV.cellsOf,AV.fine,AV.one,aQ,indexK.aggOf,simprocAttr,aZ,aU,Try.facts,dT,dF,qT,qF,nT,nF,Bool.false_and,Bool.and_false,ah,beq_self_eq_true,hlo,htk]
    refine CallK.i hwt ?_
    rintro v E ⟨rfl,rfl⟩
    simp (disch := omega) only [↓aI,aD,aG,ixA,aX,aV,ag,aT,ae,mkA,ab,bnd,aS,aH,aK,cvO,aJ,aY,↓aO,aW,aE,aF,aM,aA,aC,aB,aN,ad,frz,aR,aL,AV.cellsOf,AV.fine,AV.one,aQ,indexK.aggOf,simprocAttr,aZ,aU,Try.facts,dT,dF,qT,qF,nT,nF,Bool.false_and,Bool.and_false,ah,beq_self_eq_true,hlo,htk]
    first | refine CallK.p (hrw) ?_ | refine CallP.i (hrw) ?_
    simp (disch := omega) only [↓aI,aD,aG,ixA,aX,aV,ag,aT,ae,mkA,ab,bnd,aS,aH,aK,cvO,aJ,aY,↓aO,aW,aE,aF,aM,aA,aC,aB,aN,ad,frz,aR,aL,AV.cellsOf,AV.fine,AV.one,aQ,indexK.aggOf,simprocAttr,aZ,aU,Try.facts,dT,dF,qT,qF,nT,nF,Bool.false_and,Bool.and_false,ah,beq_self_eq_true,hlo,htk]
    refine CallK.i hkn ?_
    rintro v E ⟨rfl,rfl⟩
    simp (disch := omega) only [↓aI,aD,aG,ixA,aX,aV,ag,aT,ae,mkA,ab,bnd,aS,aH,aK,cvO,aJ,aY,↓aO,aW,aE,aF,aM,aA,aC,aB,aN,ad,frz,aR,aL,AV.cellsOf,AV.fine,AV.one,aQ,indexK.aggOf,simprocAttr,aZ,aU,Try.facts,dT,dF,qT,qF,nT,nF,Bool.false_and,Bool.and_false,ah,beq_self_eq_true,hlo,htk]
    first | refine CallK.p (hrk) ?_ | refine CallP.i (hrk) ?_
    simp (disch := omega) only [↓aI,aD,aG,ixA,aX,aV,ag,aT,ae,mkA,ab,bnd,aS,aH,aK,cvO,aJ,aY,↓aO,aW,aE,aF,aM,aA,aC,aB,aN,ad,frz,aR,aL,AV.cellsOf,AV.fine,AV.one,aQ,indexK.aggOf,simprocAttr,aZ,aU,Try.facts,dT,dF,qT,qF,nT,nF,Bool.false_and,Bool.and_false,ah,beq_self_eq_true,hlo,htk]
    refine CallK.i hct ?_
    rintro v E ⟨rfl,rfl⟩
    simp (disch := omega) only [↓aI,aD,aG,ixA,aX,aV,ag,aT,ae,mkA,ab,bnd,aS,aH,aK,cvO,aJ,aY,↓aO,aW,aE,aF,aM,aA,aC,aB,aN,ad,frz,aR,aL,AV.cellsOf,AV.fine,AV.one,aQ,indexK.aggOf,simprocAttr,aZ,aU,Try.facts,dT,dF,qT,qF,nT,nF,Bool.false_and,Bool.and_false,ah,beq_self_eq_true,hlo,htk]
    first | refine CallK.p (hrc) ?_ | refine CallP.i (hrc) ?_
    simp (disch := omega) only [↓aI,aD,aG,ixA,aX,aV,ag,aT,ae,mkA,ab,bnd,aS,aH,aK,cvO,aJ,aY,↓aO,aW,aE,aF,aM,aA,aC,aB,aN,ad,frz,aR,aL,AV.cellsOf,AV.fine,AV.one,aQ,indexK.aggOf,simprocAttr,aZ,aU,Try.facts,dT,dF,qT,qF,nT,nF,Bool.false_and,Bool.and_false,ah,beq_self_eq_true,hlo,htk]
    first | refine CallK.p (hr1) ?_ | refine CallP.i (hr1) ?_
    simp (disch := omega) only [↓aI,aD,aG,ixA,aX,aV,ag,aT,ae,mkA,ab,bnd,aS,aH,aK,cvO,aJ,aY,↓aO,aW,aE,aF,aM,aA,aC,aB,aN,ad,frz,aR,aL,AV.cellsOf,AV.fine,AV.one,aQ,indexK.aggOf,simprocAttr,aZ,aU,Try.facts,dT,dF,qT,qF,nT,nF,Bool.false_and,Bool.and_false,ah,beq_self_eq_true,hlo,htk]
    first | refine CallK.p (hr2) ?_ | refine CallP.i (hr2) ?_
    simp (disch := omega) only [↓aI,aD,aG,ixA,aX,aV,ag,aT,ae,mkA,ab,bnd,aS,aH,aK,cvO,aJ,aY,↓aO,aW,aE,aF,aM,aA,aC,aB,aN,ad,frz,aR,aL,AV.cellsOf,AV.fine,AV.one,aQ,indexK.aggOf,simprocAttr,aZ,aU,Try.facts,dT,dF,qT,qF,nT,nF,Bool.false_and,Bool.and_false,ah,beq_self_eq_true,hlo,htk]
    first | refine CallK.p (haw) ?_ | refine CallP.i (haw) ?_
    simp (disch := omega) only [↓aI,aD,aG,ixA,aX,aV,ag,aT,ae,mkA,ab,bnd,aS,aH,aK,cvO,aJ,aY,↓aO,aW,aE,aF,aM,aA,aC,aB,aN,ad,frz,aR,aL,AV.cellsOf,AV.fine,AV.one,aQ,indexK.aggOf,simprocAttr,aZ,aU,Try.facts,dT,dF,qT,qF,nT,nF,Bool.false_and,Bool.and_false,ah,beq_self_eq_true,hlo,htk]
    exact p.sub
theorem paper_takes (x0 : List (List OpX)) (x1 : OpX) (x2 : Int) (hb : Try.ty22.size x0 + Try.ty84.size x1 + Try.ty3.size x2 ≤ 1048576) : APure Try.prog 9 [(Try.ty22.enc x0).getD 0 .any,.agg (Try.ty84.enc x1),.sc (.int .i64 x2)] (.sc (.bool true)) := by
  have h1 := opss_len x0
  rw [opss_enc,op_enc]
  exact takes_walk _ _ _ (by omega)
end Go.Proofs.Ytimonfakmadhpaa
