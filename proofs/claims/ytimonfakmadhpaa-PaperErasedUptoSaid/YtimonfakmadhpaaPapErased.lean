/-
  PaperErased: the walk, and the call, of the arguments as they are read.
  Conditions: none. Lemmas only.
-/
import Derived.Test.YtimonfakmadhpaaPapGA
import Derived.Test.YtimonfakmadhpaaPapG9
import Derived.Test.YtimonfakmadhpaaPapG4
set_option linter.all false
set_option linter.unusedSimpArgs false
set_option linter.unusedVariables false
set_option maxRecDepth 20000
set_option maxHeartbeats 8000000
namespace Go.Proofs.Ytimonfakmadhpaa
open Go Go.Abs Go.Proofs Go.Fug
theorem erased_walk (l : List (List Opn)) (at_ n : Int) (hl : l.length ≤ 1100000) : APure Try.prog 4 [opssV l,.sc (.int .i64 at_),.sc (.int .i64 n)] (.sc (.bool true)) := by
  have haw := awake_pure
  have hsp := small_pure l (by omega)
  cases hsm : smallB l
  · rw [hsm] at hsp
    refine az (c := ⟨Try.prog,109,[(2000010,[1,2,3,5,6,7,8,9,0,4,10,11]),(10,[0,0,0,0,0,0,0,0,2,2,2,0]),(2000011,[0,2,3,1,4,5,6,7,8]),(11,[0,0,0,2,0,0,2,0,0]),(1000003,[8]),(4000011,[6]),(4000010,[7,13]),(4000008,[1,2,7,10,89]),(4000007,[6]),(4000005,[1,2,7,10,11,12]),(4000003,[1,2,7])],[90],[]⟩) (rs := [ResultVar.tmp 6]) Try.mixed Try.func4 rfl rfl rfl (Nat.le_of_ble_eq_true rfl) (by kernel_rfl) fun H => ?_
    simp (disch := omega) only [↓aI,aD,aG,ixA,aX,aV,ag,aT,ae,mkA,ab,bnd,aS,aH,aK,cvO,aJ,aY,↓aO,aW,aE,aF,aM,aA,aC,aB,aN,ad,frz,aR,Nat.reduceBEq,Nat.reduceLT,reduceCtorEq,↓reduceIte,aL,AV.cellsOf,AV.fine,AV.one,aQ,Nat.reduceMul,Nat.reduceAdd,Nat.reduceLeDiff,Nat.reduceEqDiff,Int.reduceToNat,Nat.reduceSub,Nat.reduceMod,Nat.reduceDiv,indexK.aggOf,Int.reducePow,Int.reduceLE,Int.reduceNeg,Int.reduceLT,Int.reduceBEq,Int.reduceBNe,Int.reduceEq,aZ,aU,Try.facts,dT,dF,qT,qF,nT,nF,Bool.false_and,Bool.and_false]
    first | refine CallK.p (hsp) ?_ | refine CallP.i (hsp) ?_
    simp (disch := omega) only [↓aI,aD,aG,ixA,aX,aV,ag,aT,ae,mkA,ab,bnd,aS,aH,aK,cvO,aJ,aY,↓aO,aW,aE,aF,aM,aA,aC,aB,aN,ad,frz,aR,Nat.reduceBEq,Nat.reduceLT,reduceCtorEq,↓reduceIte,aL,AV.cellsOf,AV.fine,AV.one,aQ,Nat.reduceMul,Nat.reduceAdd,Nat.reduceLeDiff,Nat.reduceEqDiff,Int.reduceToNat,Nat.reduceSub,Nat.reduceMod,Nat.reduceDiv,indexK.aggOf,Int.reducePow,Int.reduceLE,Int.reduceNeg,Int.reduceLT,Int.reduceBEq,Int.reduceBNe,Int.reduceEq,aZ,aU,Try.facts,dT,dF,qT,qF,nT,nF,Bool.false_and,Bool.and_false]
    first | refine CallK.p (haw) ?_ | refine CallP.i (haw) ?_
    simp (disch := omega) only [↓aI,aD,aG,ixA,aX,aV,ag,aT,ae,mkA,ab,bnd,aS,aH,aK,cvO,aJ,aY,↓aO,aW,aE,aF,aM,aA,aC,aB,aN,ad,frz,aR,Nat.reduceBEq,Nat.reduceLT,reduceCtorEq,↓reduceIte,aL,AV.cellsOf,AV.fine,AV.one,aQ,Nat.reduceMul,Nat.reduceAdd,Nat.reduceLeDiff,Nat.reduceEqDiff,Int.reduceToNat,Nat.reduceSub,Nat.reduceMod,Nat.reduceDiv,indexK.aggOf,Int.reducePow,Int.reduceLE,Int.reduceNeg,Int.reduceLT,Int.reduceBEq,Int.reduceBNe,Int.reduceEq,aZ,aU,Try.facts,dT,dF,qT,qF,nT,nF,Bool.false_and,Bool.and_false]
    exact Abs.Sub.refl _
  · rw [hsm] at hsp
    have hsum := smallF_sum l 0 (by simpa [smallB] using hsm)
    obtain ⟨inv,hz⟩ := both_inv l (by omega)
    have hlet : ∀ i ∈ (bothS l).L,letO i.rune = true := fun i hi => by
      have := inv.ok i (inv.mid.pm.mem_iff.1 (by simp [hi]))
      unfold insO at this
      simp only [Bool.and_eq_true] at this
      exact this.1.2
    have hbl := fun H => both_live H l (by omega) (by omega)
    generalize bothS l = S at *
    generalize bothR l = R at *
    generalize bothOk l = OK at *
    refine az (c := ⟨Try.prog,109,[(2000010,[1,2,3,5,6,7,8,9,0,4,10,11]),(10,[0,0,0,0,0,0,0,0,2,2,2,0]),(2000011,[0,2,3,1,4,5,6,7,8]),(11,[0,0,0,2,0,0,2,0,0]),(1000003,[8]),(4000011,[6]),(4000010,[7,13]),(4000008,[1,2,7,10,89]),(4000007,[6]),(4000005,[1,2,7,10,11,12]),(4000003,[1,2,7])],[90],[]⟩) (rs := [ResultVar.tmp 6]) Try.mixed Try.func4 rfl rfl rfl (Nat.le_of_ble_eq_true rfl) (by kernel_rfl) fun H => ?_
    simp (disch := omega) only [↓aI,aD,aG,ixA,aX,aV,ag,aT,ae,mkA,ab,bnd,aS,aH,aK,cvO,aJ,aY,↓aO,aW,aE,aF,aM,aA,aC,aB,aN,ad,frz,aR,Nat.reduceBEq,Nat.reduceLT,reduceCtorEq,↓reduceIte,aL,AV.cellsOf,AV.fine,AV.one,aQ,Nat.reduceMul,Nat.reduceAdd,Nat.reduceLeDiff,Nat.reduceEqDiff,Int.reduceToNat,Nat.reduceSub,Nat.reduceMod,Nat.reduceDiv,indexK.aggOf,Int.reducePow,Int.reduceLE,Int.reduceNeg,Int.reduceLT,Int.reduceBEq,Int.reduceBNe,Int.reduceEq,aZ,aU,Try.facts,dT,dF,qT,qF,nT,nF,Bool.false_and,Bool.and_false]
    first | refine CallK.p (hsp) ?_ | refine CallP.i (hsp) ?_
    simp (disch := omega) only [↓aI,aD,aG,ixA,aX,aV,ag,aT,ae,mkA,ab,bnd,aS,aH,aK,cvO,aJ,aY,↓aO,aW,aE,aF,aM,aA,aC,aB,aN,ad,frz,aR,Nat.reduceBEq,Nat.reduceLT,reduceCtorEq,↓reduceIte,aL,AV.cellsOf,AV.fine,AV.one,aQ,Nat.reduceMul,Nat.reduceAdd,Nat.reduceLeDiff,Nat.reduceEqDiff,Int.reduceToNat,Nat.reduceSub,Nat.reduceMod,Nat.reduceDiv,indexK.aggOf,Int.reducePow,Int.reduceLE,Int.reduceNeg,Int.reduceLT,Int.reduceBEq,Int.reduceBNe,Int.reduceEq,aZ,aU,Try.facts,dT,dF,qT,qF,nT,nF,Bool.false_and,Bool.and_false]
    refine CallK.i (hbl _) ?_
    rintro v H1 ⟨h,hh0,rfl,p⟩
    have her := erase_live _ _ h S at_ n p hh0
    have htx := ptext_live _ _ h S p
    have hLs : S.L.length ≤ 60 := by
      have h1 := inv.mid.pm.length_eq
      rw [List.length_append] at h1
      have h2 : S.I.length ≤ sizP S := by unfold sizP; omega
      omega
    have hMs : S.l.length ≤ 400 := by unfold sizP at hz; omega
    have hrn := nodes_let (G := S.G) hlet p.t.g.nd
    have hwas := runesS_enc (runesN (bF S.L S.G)) hrn
    rw [← textP_runes] at hwas
    have hll : (live (bF S.L S.G)).length = S.L.length - S.G.length := live_len p.t.g p.t.gs p.t.gn
    have htl : (textP S).length ≤ 1000000 := by
      have h1 := runesB_len (live (bF S.L S.G))
      unfold textP
      omega
    have hr1 := runes_pure ⟨(textP S).toArray⟩ (by simp [ByteArray.size]; omega)
    rw [hwas] at hr1
    have hlen : (runesN (bF S.L S.G)).length = S.L.length - S.G.length := by
      unfold runesN; rw [List.length_map]; exact hll
    have hNl := ed (runesN (bF S.L S.G))
    simp (disch := omega) only [↓aI,aD,aG,ixA,aX,aV,ag,aT,ae,mkA,ab,bnd,aS,aH,aK,cvO,aJ,aY,↓aO,aW,aE,aF,aM,aA,aC,aB,aN,ad,frz,aR,Nat.reduceBEq,Nat.reduceLT,reduceCtorEq,↓reduceIte,aL,AV.cellsOf,AV.fine,AV.one,aQ,Nat.reduceMul,Nat.reduceAdd,Nat.reduceLeDiff,Nat.reduceEqDiff,Int.reduceToNat,Nat.reduceSub,Nat.reduceMod,Nat.reduceDiv,indexK.aggOf,Int.reducePow,Int.reduceLE,Int.reduceNeg,Int.reduceLT,Int.reduceBEq,Int.reduceBNe,Int.reduceEq,aZ,aU,Try.facts,dT,dF,qT,qF,nT,nF,Bool.false_and,Bool.and_false]
    intro k6 hk60 hk6
    try simp (disch := omega) only [↓aI,aD,aG,ixA,aX,aV,ag,aT,ae,mkA,ab,bnd,aS,aH,aK,cvO,aJ,aY,↓aO,aW,aE,aF,aM,aA,aC,aB,aN,ad,frz,aR,Nat.reduceBEq,Nat.reduceLT,reduceCtorEq,↓reduceIte,aL,AV.cellsOf,AV.fine,AV.one,aQ,Nat.reduceMul,Nat.reduceAdd,Nat.reduceLeDiff,Nat.reduceEqDiff,Int.reduceToNat,Nat.reduceSub,Nat.reduceMod,Nat.reduceDiv,indexK.aggOf,Int.reducePow,Int.reduceLE,Int.reduceNeg,Int.reduceLT,Int.reduceBEq,Int.reduceBNe,Int.reduceEq,aZ,aU,Try.facts,dT,dF,qT,qF,nT,nF,Bool.false_and,Bool.and_false,aj hk6,ah]
    refine CallK.i htx ?_
    rintro v E ⟨rfl,rfl⟩
    simp (disch := omega) only [↓aI,aD,aG,ixA,aX,aV,ag,aT,ae,mkA,ab,bnd,aS,aH,aK,cvO,aJ,aY,↓aO,aW,aE,aF,aM,aA,aC,aB,aN,ad,frz,aR,Nat.reduceBEq,Nat.reduceLT,reduceCtorEq,↓reduceIte,aL,AV.cellsOf,AV.fine,AV.one,aQ,Nat.reduceMul,Nat.reduceAdd,Nat.reduceLeDiff,Nat.reduceEqDiff,Int.reduceToNat,Nat.reduceSub,Nat.reduceMod,Nat.reduceDiv,indexK.aggOf,Int.reducePow,Int.reduceLE,Int.reduceNeg,Int.reduceLT,Int.reduceBEq,Int.reduceBNe,Int.reduceEq,aZ,aU,Try.facts,dT,dF,qT,qF,nT,nF,Bool.false_and,Bool.and_false]
    first | refine CallK.p (hr1) ?_ | refine CallP.i (hr1) ?_
    simp (disch := omega) only [↓aI,aD,aG,ixA,aX,aV,ag,aT,ae,mkA,ab,bnd,aS,aH,aK,cvO,aJ,aY,↓aO,aW,aE,aF,aM,aA,aC,aB,aN,ad,frz,aR,Nat.reduceBEq,Nat.reduceLT,reduceCtorEq,↓reduceIte,aL,AV.cellsOf,AV.fine,AV.one,aQ,Nat.reduceMul,Nat.reduceAdd,Nat.reduceLeDiff,Nat.reduceEqDiff,Int.reduceToNat,Nat.reduceSub,Nat.reduceMod,Nat.reduceDiv,indexK.aggOf,Int.reducePow,Int.reduceLE,Int.reduceNeg,Int.reduceLT,Int.reduceBEq,Int.reduceBNe,Int.reduceEq,aZ,aU,Try.facts,dT,dF,qT,qF,nT,nF,Bool.false_and,Bool.and_false]
    refine CallK.i her ?_
    rintro v H2 ⟨rfl,hs2⟩
    have p2 := p.mono hs2
    by_cases hin : 0 ≤ at_ ∧ 0 ≤ n ∧ at_ ≤ ((S.L.length - S.G.length : Nat) : Int) ∧ n ≤ ((S.L.length - S.G.length : Nat) : Int) - at_
    · obtain ⟨c1,c2,c3,c4⟩ := hin
      obtain ⟨a,rfl⟩ : ∃ a : Nat,at_ = (a : Int) := ⟨at_.toNat,by omega⟩
      obtain ⟨m,rfl⟩ : ∃ m : Nat,n = (m : Int) := ⟨n.toNat,by omega⟩
      have hep : eraseP S (a : Int) (m : Int) = ((((live (bF S.L S.G)).drop a).take m).map fun x => opD x.id,0) := by
        unfold eraseP withinP
        rw [decide_eq_true ⟨c1,c2,c3,c4⟩,if_neg (by simp),if_neg (by omega)]
        simp only [Int.toNat_natCast]
      obtain ⟨hd0,hfin⟩ := erased_law inv p.t.g p.t.gs p.t.gn (by omega) hep (by omega) hMs
      have hO60 : (eraseP S (a : Int) (m : Int)).1.length ≤ 100 := by
        rw [hep]
        simp only [List.length_map,List.length_take,List.length_drop]
        omega
      have he0 : (eraseP S (a : Int) (m : Int)).2 = 0 := by rw [hep]
      have hdo := do_live _ _ h S (eraseP S (a : Int) (m : Int)).1 p2 (by omega) (by omega)
      rw [hd0] at hdo
      generalize (eraseP S (a : Int) (m : Int)).1 = O at *
      generalize (eraseP S (a : Int) (m : Int)).2 = e at *
      subst he0
      generalize hDS : (doP S O).2 = DS at *
      generalize hN : runesN (bF S.L S.G) = N at *
      have hol := cq O
      have htD : textP DS = (N.take a ++ N.drop (a + m)).flatMap dQ := by rw [textP_runes,hfin]
      have htk : (N.take a).length = a := by rw [List.length_take]; omega
      have hdk : (N.drop (a + m)).length = N.length - (a + m) := List.length_drop
      have hdt : (N.drop (a + m)).take (N.length - (a + m)) = N.drop (a + m) := List.take_of_length_le (by omega)
      have hkk : a ≤ 9223372036854775807 ∧ a * 4 ≤ 140737488355328 := ⟨by omega,by omega⟩
      have hkt : a + (N.length - (a + m)) ≤ 9223372036854775807 ∧ (a + (N.length - (a + m))) * 4 ≤ 140737488355328 := ⟨by omega,by omega⟩
      simp (disch := omega) only [↓aI,aD,aG,ixA,aX,aV,ag,aT,ae,mkA,ab,bnd,aS,aH,aK,cvO,aJ,aY,↓aO,aW,aE,aF,aM,aA,aC,aB,aN,ad,frz,aR,Nat.reduceBEq,Nat.reduceLT,reduceCtorEq,↓reduceIte,aL,AV.cellsOf,AV.fine,AV.one,aQ,Nat.reduceMul,Nat.reduceAdd,Nat.reduceLeDiff,Nat.reduceEqDiff,Int.reduceToNat,Nat.reduceSub,Nat.reduceMod,Nat.reduceDiv,indexK.aggOf,Int.reducePow,Int.reduceLE,Int.reduceNeg,Int.reduceLT,Int.reduceBEq,Int.reduceBNe,Int.reduceEq,aZ,aU,Try.facts,dT,dF,qT,qF,nT,nF,Bool.false_and,Bool.and_false,hol,hNl]
      refine CallK.i hdo ?_
      rintro v H3 ⟨rfl,p3⟩
      have htx2 := fun H' p => ptext_live H H' h DS p
      rw [htD] at htx2
      simp (disch := omega) only [↓aI,aD,aG,ixA,aX,aV,ag,aT,ae,mkA,ab,bnd,aS,aH,aK,cvO,aJ,aY,↓aO,aW,aE,aF,aM,aA,aC,aB,aN,ad,frz,aR,Nat.reduceBEq,Nat.reduceLT,reduceCtorEq,↓reduceIte,aL,AV.cellsOf,AV.fine,AV.one,aQ,Nat.reduceMul,Nat.reduceAdd,Nat.reduceLeDiff,Nat.reduceEqDiff,Int.reduceToNat,Nat.reduceSub,Nat.reduceMod,Nat.reduceDiv,indexK.aggOf,Int.reducePow,Int.reduceLE,Int.reduceNeg,Int.reduceLT,Int.reduceBEq,Int.reduceBNe,Int.reduceEq,aZ,aU,Try.facts,dT,dF,qT,qF,nT,nF,Bool.false_and,Bool.and_false,hol,hNl]
      intro ka hka0 hka
      simp (disch := omega) only [↓aI,aD,aG,ixA,aX,aV,ag,aT,ae,mkA,ab,bnd,aS,aH,aK,cvO,aJ,aY,↓aO,aW,aE,aF,aM,aA,aC,aB,aN,ad,frz,aR,Nat.reduceBEq,Nat.reduceLT,reduceCtorEq,↓reduceIte,aL,AV.cellsOf,AV.fine,AV.one,aQ,Nat.reduceMul,Nat.reduceAdd,Nat.reduceLeDiff,Nat.reduceEqDiff,Int.reduceToNat,Nat.reduceSub,Nat.reduceMod,Nat.reduceDiv,indexK.aggOf,Int.reducePow,Int.reduceLE,Int.reduceNeg,Int.reduceLT,Int.reduceBEq,Int.reduceBNe,Int.reduceEq,aZ,aU,Try.facts,dT,dF,qT,qF,nT,nF,Bool.false_and,Bool.and_false,hNl,rnC32_take,rnC32_drop,ed,htk,hdk,hdt,Nat.sub_zero,hkk,hka0]
      intro kb ob hkb0 hkb hob
      simp (disch := omega) only [↓aI,aD,aG,ixA,aX,aV,ag,aT,ae,mkA,ab,bnd,aS,aH,aK,cvO,aJ,aY,↓aO,aW,aE,aF,aM,aA,aC,aB,aN,ad,frz,aR,Nat.reduceBEq,Nat.reduceLT,reduceCtorEq,↓reduceIte,aL,AV.cellsOf,AV.fine,AV.one,aQ,Nat.reduceMul,Nat.reduceAdd,Nat.reduceLeDiff,Nat.reduceEqDiff,Int.reduceToNat,Nat.reduceSub,Nat.reduceMod,Nat.reduceDiv,indexK.aggOf,Int.reducePow,Int.reduceLE,Int.reduceNeg,Int.reduceLT,Int.reduceBEq,Int.reduceBNe,Int.reduceEq,aZ,aU,Try.facts,dT,dF,qT,qF,nT,nF,Bool.false_and,Bool.and_false,hNl,rnC32_take,rnC32_drop,ed,htk,hdk,hdt,Nat.sub_zero,hkb0,hob,set_get,rnC32_app,hkt]
      intro kc oc hkc0 hkc hoc
      try simp (disch := omega) only [↓aI,aD,aG,ixA,aX,aV,ag,aT,ae,mkA,ab,bnd,aS,aH,aK,cvO,aJ,aY,↓aO,aW,aE,aF,aM,aA,aC,aB,aN,ad,frz,aR,Nat.reduceBEq,Nat.reduceLT,reduceCtorEq,↓reduceIte,aL,AV.cellsOf,AV.fine,AV.one,aQ,Nat.reduceMul,Nat.reduceAdd,Nat.reduceLeDiff,Nat.reduceEqDiff,Int.reduceToNat,Nat.reduceSub,Nat.reduceMod,Nat.reduceDiv,indexK.aggOf,Int.reducePow,Int.reduceLE,Int.reduceNeg,Int.reduceLT,Int.reduceBEq,Int.reduceBNe,Int.reduceEq,aZ,aU,Try.facts,dT,dF,qT,qF,nT,nF,Bool.false_and,Bool.and_false,hNl,rnC32_take,rnC32_drop,ed,htk,hdk,hdt,Nat.sub_zero,hkc0,hoc,set_get,rnC32_app,rnC32_all,rnC32_bytes]
      have hkbH : H3 kb = none := by first | exact hkb | exact am hkb
      have hkcH := am hkc
      rw [aj hkbH]
      have p4 := p3.mono (Sub.set_new (o := oc) hkcH)
      refine CallK.i (htx2 _ p4) ?_
      rintro v E3 ⟨rfl,rfl⟩
      simp (disch := omega) only [↓aI,aD,aG,ixA,aX,aV,ag,aT,ae,mkA,ab,bnd,aS,aH,aK,cvO,aJ,aY,↓aO,aW,aE,aF,aM,aA,aC,aB,aN,ad,frz,aR,Nat.reduceBEq,Nat.reduceLT,reduceCtorEq,↓reduceIte,aL,AV.cellsOf,AV.fine,AV.one,aQ,Nat.reduceMul,Nat.reduceAdd,Nat.reduceLeDiff,Nat.reduceEqDiff,Int.reduceToNat,Nat.reduceSub,Nat.reduceMod,Nat.reduceDiv,indexK.aggOf,Int.reducePow,Int.reduceLE,Int.reduceNeg,Int.reduceLT,Int.reduceBEq,Int.reduceBNe,Int.reduceEq,aZ,aU,Try.facts,dT,dF,qT,qF,nT,nF,Bool.false_and,Bool.and_false,rnC32_bytes,beq_self_eq_true]
      first | refine CallK.p (haw) ?_ | refine CallP.i (haw) ?_
      simp (disch := omega) only [↓aI,aD,aG,ixA,aX,aV,ag,aT,ae,mkA,ab,bnd,aS,aH,aK,cvO,aJ,aY,↓aO,aW,aE,aF,aM,aA,aC,aB,aN,ad,frz,aR,Nat.reduceBEq,Nat.reduceLT,reduceCtorEq,↓reduceIte,aL,AV.cellsOf,AV.fine,AV.one,aQ,Nat.reduceMul,Nat.reduceAdd,Nat.reduceLeDiff,Nat.reduceEqDiff,Int.reduceToNat,Nat.reduceSub,Nat.reduceMod,Nat.reduceDiv,indexK.aggOf,Int.reducePow,Int.reduceLE,Int.reduceNeg,Int.reduceLT,Int.reduceBEq,Int.reduceBNe,Int.reduceEq,aZ,aU,Try.facts,dT,dF,qT,qF,nT,nF,Bool.false_and,Bool.and_false]
      exact p3.sub.trans (Sub.set_new hkcH)
    · have hep : eraseP S at_ n = ([], 6) := by
        unfold eraseP withinP
        rw [decide_eq_false hin,if_pos rfl]
      rw [hep]
      simp only
      have hlen2 : ((runesN (bF S.L S.G)).length : Int) = ((S.L.length - S.G.length : Nat) : Int) := by rw [hlen]
      have hx : at_ < 0 ∨ (¬ at_ < 0 ∧ n < 0) ∨ (¬ at_ < 0 ∧ ¬ n < 0 ∧ ((runesN (bF S.L S.G)).length : Int) < at_) ∨ (¬ at_ < 0 ∧ ¬ n < 0 ∧ ¬ ((runesN (bF S.L S.G)).length : Int) < at_ ∧ ((runesN (bF S.L S.G)).length : Int) - at_ < n) := by omega
      generalize runesN (bF S.L S.G) = N at *
      rcases hx with c1 | ⟨c1,c2⟩ | ⟨c1,c2,c3⟩ | ⟨c1,c2,c3,c4⟩
      all_goals
        simp (disch := omega) only [↓aI,aD,aG,ixA,aX,aV,ag,aT,ae,mkA,ab,bnd,aS,aH,aK,cvO,aJ,aY,↓aO,aW,aE,aF,aM,aA,aC,aB,aN,ad,frz,aR,Nat.reduceBEq,Nat.reduceLT,reduceCtorEq,↓reduceIte,aL,AV.cellsOf,AV.fine,AV.one,aQ,Nat.reduceMul,Nat.reduceAdd,Nat.reduceLeDiff,Nat.reduceEqDiff,Int.reduceToNat,Nat.reduceSub,Nat.reduceMod,Nat.reduceDiv,indexK.aggOf,Int.reducePow,Int.reduceLE,Int.reduceNeg,Int.reduceLT,Int.reduceBEq,Int.reduceBNe,Int.reduceEq,aZ,aU,Try.facts,dT,dF,qT,qF,nT,nF,Bool.false_and,Bool.and_false,hNl,dL,List.flatMap_nil]
        first | refine CallK.p (haw) ?_ | refine CallP.i (haw) ?_
        simp (disch := omega) only [↓aI,aD,aG,ixA,aX,aV,ag,aT,ae,mkA,ab,bnd,aS,aH,aK,cvO,aJ,aY,↓aO,aW,aE,aF,aM,aA,aC,aB,aN,ad,frz,aR,Nat.reduceBEq,Nat.reduceLT,reduceCtorEq,↓reduceIte,aL,AV.cellsOf,AV.fine,AV.one,aQ,Nat.reduceMul,Nat.reduceAdd,Nat.reduceLeDiff,Nat.reduceEqDiff,Int.reduceToNat,Nat.reduceSub,Nat.reduceMod,Nat.reduceDiv,indexK.aggOf,Int.reducePow,Int.reduceLE,Int.reduceNeg,Int.reduceLT,Int.reduceBEq,Int.reduceBNe,Int.reduceEq,aZ,aU,Try.facts,dT,dF,qT,qF,nT,nF,Bool.false_and,Bool.and_false]
        exact p2.sub
theorem paper_erased (x0 : List (List OpX)) (a n : Int) (m : Nat) (hb : Try.ty22.size x0 + m + Try.ty3.size n ≤ 1048576) : APure Try.prog 4 [(Try.ty22.enc x0).getD 0 .any,.sc (.int .i64 a),.sc (.int .i64 n)] (.sc (.bool true)) := by
  have h1 := opss_len x0
  rw [opss_enc]
  exact erased_walk _ a n (by omega)
end Go.Proofs.Ytimonfakmadhpaa
