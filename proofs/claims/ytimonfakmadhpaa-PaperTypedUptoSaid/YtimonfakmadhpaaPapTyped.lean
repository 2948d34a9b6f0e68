/-
  PaperTyped: the walk, and the call, of the arguments as they are read.
  Conditions: none. Lemmas only.
-/
import Derived.Test.YtimonfakmadhpaaPapG9
import Derived.Test.YtimonfakmadhpaaPapGA
import Derived.Test.YtimonfakmadhpaaPapG4
set_option linter.all false
set_option linter.unusedSimpArgs false
set_option linter.unusedVariables false
set_option maxRecDepth 20000
set_option maxHeartbeats 8000000
namespace Go.Proofs.Ytimonfakmadhpaa
open Go Go.Abs Go.Proofs Go.Fug
theorem rnC32_all (l : List Int) : (rnC32 l).all isI32 = true := by
  rw [List.all_eq_true]
  intro x hx
  obtain ⟨r,-,rfl⟩ := List.mem_map.1 hx
  rfl
theorem rnC32_bytes (l : List Int) : ((rnC32 l).map runeA).flatMap dQ = l.flatMap dQ := by
  unfold rnC32
  rw [List.map_map]
  congr 1
  exact (List.map_congr_left fun r _ => rfl).trans (List.map_id _)
theorem rnC32_app (l m : List Int) : rnC32 l ++ rnC32 m = rnC32 (l ++ m) := by simp [rnC32]
theorem rnC32_take (l : List Int) (k : Nat) : (rnC32 l).take k = rnC32 (l.take k) := by simp [rnC32,List.map_take]
theorem rnC32_drop (l : List Int) (k : Nat) : (rnC32 l).drop k = rnC32 (l.drop k) := by simp [rnC32,List.map_drop]
theorem textP_runes (s : PS) : textP s = (runesN (bF s.L s.G)).flatMap dQ := by
  unfold textP cW runesN
  rw [List.flatMap_map]
  rfl
theorem nodes_let {L : List Ins} {G : List EId} (h : ∀ i ∈ L,letO i.rune = true) (nd : (L.map (·.id)).Nodup) : ∀ r ∈ runesN (bF L G),letO r = true := fun r hr => by
  obtain ⟨n,hn,rfl⟩ := List.mem_map.1 hr
  obtain ⟨y,hy,e⟩ := mem_below (List.mem_filter.1 hn).1
  obtain ⟨i,hi,rfl⟩ := List.mem_map.1 hy
  rw [e,ndOf_mem nd G hi]
  exact h i hi
theorem typeP_len (s : PS) (at_ : Int) (txt : ByteArray) (author : Int) : (typeP s at_ txt author).1.length ≤ 64 := by
  unfold typeP
  repeat' split
  all_goals first | (simp; done) | skip
  rw [typeOps_ins,List.length_map,typeIns_len]
  omega
theorem typed_walk (l : List (List Opn)) (w : Wsh) (hl : l.length ≤ 1100000) (hw : w.txt.length ≤ 1100000) : APure Try.prog 3 [opssV l,.agg (wishC w)] (.sc (.bool true)) := by
  have haw := awake_pure
  have hsp := small_pure l (by omega)
  obtain ⟨at_,n,name,value,author,txt⟩ := w
  simp only at hw
  simp only [wishC]
  have hTs : (⟨txt.toArray⟩ : ByteArray).size = txt.length := by simp [ByteArray.size]
  generalize hT : (⟨txt.toArray⟩ : ByteArray) = T at *
  cases hsm : smallB l
  · rw [hsm] at hsp
    refine az (c := ⟨Try.prog,100,[(2000012,[1,2,3,4,6,7,10,11,12,13,0,5,8,9,14,15]),(12,[0,0,0,0,0,0,0,0,0,0,2,2,0,2,2,0]),(2000013,[0,2,3,1,4,5,6,8,9,7,10,11,12,13,14,15]),(13,[0,0,0,2,0,0,0,0,0,2,0,0,0,2,0,0]),(1000000,[3]),(1000003,[6]),(4000013,[4]),(4000012,[5,11]),(4000010,[3,5,8,69]),(4000009,[4]),(4000008,[3,5,8,9,53]),(4000007,[3,5,8,9,10]),(4000003,[3,5]),(4000001,[0,3,20])],[70],[]⟩) (rs := [ResultVar.tmp 4]) Try.mixed Try.func3 rfl rfl rfl (Nat.le_of_ble_eq_true rfl) (by kernel_rfl) fun H => ?_
    simp (disch := omega) only [↓aI,aD,aG,ixA,aX,aV,ag,aT,ae,mkA,ab,bnd,aS,aH,aK,cvO,aJ,aY,↓aO,aW,aE,aF,aM,aA,aC,aB,aN,ad,frz,aR,Nat.reduceBEq,Nat.reduceLT,reduceCtorEq,↓reduceIte,aL,AV.cellsOf,AV.fine,AV.one,aQ,Nat.reduceMul,Nat.reduceAdd,Nat.reduceLeDiff,Nat.reduceEqDiff,Int.reduceToNat,Nat.reduceSub,Nat.reduceMod,Nat.reduceDiv,indexK.aggOf,Int.reducePow,Int.reduceLE,Int.reduceNeg,Int.reduceLT,Int.reduceBEq,Int.reduceBNe,Int.reduceEq,aZ,aU,Try.facts,dT,dF,qT,qF,nT,nF,Bool.false_and,Bool.and_false]
    intro k hk0 hk
    simp (disch := omega) only [↓aI,aD,aG,ixA,aX,aV,ag,aT,ae,mkA,ab,bnd,aS,aH,aK,cvO,aJ,aY,↓aO,aW,aE,aF,aM,aA,aC,aB,aN,ad,frz,aR,Nat.reduceBEq,Nat.reduceLT,reduceCtorEq,↓reduceIte,aL,AV.cellsOf,AV.fine,AV.one,aQ,Nat.reduceMul,Nat.reduceAdd,Nat.reduceLeDiff,Nat.reduceEqDiff,Int.reduceToNat,Nat.reduceSub,Nat.reduceMod,Nat.reduceDiv,indexK.aggOf,Int.reducePow,Int.reduceLE,Int.reduceNeg,Int.reduceLT,Int.reduceBEq,Int.reduceBNe,Int.reduceEq,aZ,aU,Try.facts,dT,dF,qT,qF,nT,nF,Bool.false_and,Bool.and_false,aj hk]
    first | refine CallK.p (hsp) ?_ | refine CallP.i (hsp) ?_
    simp (disch := omega) only [↓aI,aD,aG,ixA,aX,aV,ag,aT,ae,mkA,ab,bnd,aS,aH,aK,cvO,aJ,aY,↓aO,aW,aE,aF,aM,aA,aC,aB,aN,ad,frz,aR,Nat.reduceBEq,Nat.reduceLT,reduceCtorEq,↓reduceIte,aL,AV.cellsOf,AV.fine,AV.one,aQ,Nat.reduceMul,Nat.reduceAdd,Nat.reduceLeDiff,Nat.reduceEqDiff,Int.reduceToNat,Nat.reduceSub,Nat.reduceMod,Nat.reduceDiv,indexK.aggOf,Int.reducePow,Int.reduceLE,Int.reduceNeg,Int.reduceLT,Int.reduceBEq,Int.reduceBNe,Int.reduceEq,aZ,aU,Try.facts,dT,dF,qT,qF,nT,nF,Bool.false_and,Bool.and_false,aj hk]
    first | refine CallK.p (haw) ?_ | refine CallP.i (haw) ?_
    simp (disch := omega) only [↓aI,aD,aG,ixA,aX,aV,ag,aT,ae,mkA,ab,bnd,aS,aH,aK,cvO,aJ,aY,↓aO,aW,aE,aF,aM,aA,aC,aB,aN,ad,frz,aR,Nat.reduceBEq,Nat.reduceLT,reduceCtorEq,↓reduceIte,aL,AV.cellsOf,AV.fine,AV.one,aQ,Nat.reduceMul,Nat.reduceAdd,Nat.reduceLeDiff,Nat.reduceEqDiff,Int.reduceToNat,Nat.reduceSub,Nat.reduceMod,Nat.reduceDiv,indexK.aggOf,Int.reducePow,Int.reduceLE,Int.reduceNeg,Int.reduceLT,Int.reduceBEq,Int.reduceBNe,Int.reduceEq,aZ,aU,Try.facts,dT,dF,qT,qF,nT,nF,Bool.false_and,Bool.and_false]
    exact Abs.Sub.refl _
  · rw [hsm] at hsp
    by_cases hbig : 1000 < txt.length
    · refine az (c := ⟨Try.prog,100,[(2000012,[1,2,3,4,6,7,10,11,12,13,0,5,8,9,14,15]),(12,[0,0,0,0,0,0,0,0,0,0,2,2,0,2,2,0]),(2000013,[0,2,3,1,4,5,6,8,9,7,10,11,12,13,14,15]),(13,[0,0,0,2,0,0,0,0,0,2,0,0,0,2,0,0]),(1000000,[3]),(1000003,[6]),(4000013,[4]),(4000012,[5,11]),(4000010,[3,5,8,69]),(4000009,[4]),(4000008,[3,5,8,9,53]),(4000007,[3,5,8,9,10]),(4000003,[3,5]),(4000001,[0,3,20])],[70],[]⟩) (rs := [ResultVar.tmp 4]) Try.mixed Try.func3 rfl rfl rfl (Nat.le_of_ble_eq_true rfl) (by kernel_rfl) fun H => ?_
      simp (disch := omega) only [↓aI,aD,aG,ixA,aX,aV,ag,aT,ae,mkA,ab,bnd,aS,aH,aK,cvO,aJ,aY,↓aO,aW,aE,aF,aM,aA,aC,aB,aN,ad,frz,aR,Nat.reduceBEq,Nat.reduceLT,reduceCtorEq,↓reduceIte,aL,AV.cellsOf,AV.fine,AV.one,aQ,Nat.reduceMul,Nat.reduceAdd,Nat.reduceLeDiff,Nat.reduceEqDiff,Int.reduceToNat,Nat.reduceSub,Nat.reduceMod,Nat.reduceDiv,indexK.aggOf,Int.reducePow,Int.reduceLE,Int.reduceNeg,Int.reduceLT,Int.reduceBEq,Int.reduceBNe,Int.reduceEq,aZ,aU,Try.facts,dT,dF,qT,qF,nT,nF,Bool.false_and,Bool.and_false]
      intro k hk0 hk
      simp (disch := omega) only [↓aI,aD,aG,ixA,aX,aV,ag,aT,ae,mkA,ab,bnd,aS,aH,aK,cvO,aJ,aY,↓aO,aW,aE,aF,aM,aA,aC,aB,aN,ad,frz,aR,Nat.reduceBEq,Nat.reduceLT,reduceCtorEq,↓reduceIte,aL,AV.cellsOf,AV.fine,AV.one,aQ,Nat.reduceMul,Nat.reduceAdd,Nat.reduceLeDiff,Nat.reduceEqDiff,Int.reduceToNat,Nat.reduceSub,Nat.reduceMod,Nat.reduceDiv,indexK.aggOf,Int.reducePow,Int.reduceLE,Int.reduceNeg,Int.reduceLT,Int.reduceBEq,Int.reduceBNe,Int.reduceEq,aZ,aU,Try.facts,dT,dF,qT,qF,nT,nF,Bool.false_and,Bool.and_false,aj hk,hTs]
      first | refine CallK.p (hsp) ?_ | refine CallP.i (hsp) ?_
      simp (disch := omega) only [↓aI,aD,aG,ixA,aX,aV,ag,aT,ae,mkA,ab,bnd,aS,aH,aK,cvO,aJ,aY,↓aO,aW,aE,aF,aM,aA,aC,aB,aN,ad,frz,aR,Nat.reduceBEq,Nat.reduceLT,reduceCtorEq,↓reduceIte,aL,AV.cellsOf,AV.fine,AV.one,aQ,Nat.reduceMul,Nat.reduceAdd,Nat.reduceLeDiff,Nat.reduceEqDiff,Int.reduceToNat,Nat.reduceSub,Nat.reduceMod,Nat.reduceDiv,indexK.aggOf,Int.reducePow,Int.reduceLE,Int.reduceNeg,Int.reduceLT,Int.reduceBEq,Int.reduceBNe,Int.reduceEq,aZ,aU,Try.facts,dT,dF,qT,qF,nT,nF,Bool.false_and,Bool.and_false,aj hk,hTs]
      first | refine CallK.p (haw) ?_ | refine CallP.i (haw) ?_
      simp (disch := omega) only [↓aI,aD,aG,ixA,aX,aV,ag,aT,ae,mkA,ab,bnd,aS,aH,aK,cvO,aJ,aY,↓aO,aW,aE,aF,aM,aA,aC,aB,aN,ad,frz,aR,Nat.reduceBEq,Nat.reduceLT,reduceCtorEq,↓reduceIte,aL,AV.cellsOf,AV.fine,AV.one,aQ,Nat.reduceMul,Nat.reduceAdd,Nat.reduceLeDiff,Nat.reduceEqDiff,Int.reduceToNat,Nat.reduceSub,Nat.reduceMod,Nat.reduceDiv,indexK.aggOf,Int.reducePow,Int.reduceLE,Int.reduceNeg,Int.reduceLT,Int.reduceBEq,Int.reduceBNe,Int.reduceEq,aZ,aU,Try.facts,dT,dF,qT,qF,nT,nF,Bool.false_and,Bool.and_false]
      exact Abs.Sub.refl _
    · have hsum := smallF_sum l 0 (by simpa [smallB] using hsm)
      obtain ⟨inv,hz⟩ := both_inv l (by omega)
      have hI : ∀ i ∈ (bothS l).I,i.id.2 ≤ 1099511627776 := fun i hi => by
        have := inv.ok i hi
        unfold insO elO at this
        simp only [Bool.and_eq_true,decide_eq_true_eq] at this
        exact this.1.1.2
      have hlet : ∀ i ∈ (bothS l).L,letO i.rune = true := fun i hi => by
        have := inv.ok i (inv.mid.pm.mem_iff.1 (by simp [hi]))
        unfold insO at this
        simp only [Bool.and_eq_true] at this
        exact this.1.2
      have hbl := fun H => both_live H l (by omega) (by omega)
      generalize bothS l = S at *
      generalize bothR l = R at *
      generalize bothOk l = O at *
      refine az (c := ⟨Try.prog,100,[(2000012,[1,2,3,4,6,7,10,11,12,13,0,5,8,9,14,15]),(12,[0,0,0,0,0,0,0,0,0,0,2,2,0,2,2,0]),(2000013,[0,2,3,1,4,5,6,8,9,7,10,11,12,13,14,15]),(13,[0,0,0,2,0,0,0,0,0,2,0,0,0,2,0,0]),(1000000,[3]),(1000003,[6]),(4000013,[4]),(4000012,[5,11]),(4000010,[3,5,8,69]),(4000009,[4]),(4000008,[3,5,8,9,53]),(4000007,[3,5,8,9,10]),(4000003,[3,5]),(4000001,[0,3,20])],[70],[]⟩) (rs := [ResultVar.tmp 4]) Try.mixed Try.func3 rfl rfl rfl (Nat.le_of_ble_eq_true rfl) (by kernel_rfl) fun H => ?_
      simp (disch := omega) only [↓aI,aD,aG,ixA,aX,aV,ag,aT,ae,mkA,ab,bnd,aS,aH,aK,cvO,aJ,aY,↓aO,aW,aE,aF,aM,aA,aC,aB,aN,ad,frz,aR,Nat.reduceBEq,Nat.reduceLT,reduceCtorEq,↓reduceIte,aL,AV.cellsOf,AV.fine,AV.one,aQ,Nat.reduceMul,Nat.reduceAdd,Nat.reduceLeDiff,Nat.reduceEqDiff,Int.reduceToNat,Nat.reduceSub,Nat.reduceMod,Nat.reduceDiv,indexK.aggOf,Int.reducePow,Int.reduceLE,Int.reduceNeg,Int.reduceLT,Int.reduceBEq,Int.reduceBNe,Int.reduceEq,aZ,aU,Try.facts,dT,dF,qT,qF,nT,nF,Bool.false_and,Bool.and_false]
      intro k hk0 hk
      simp (disch := omega) only [↓aI,aD,aG,ixA,aX,aV,ag,aT,ae,mkA,ab,bnd,aS,aH,aK,cvO,aJ,aY,↓aO,aW,aE,aF,aM,aA,aC,aB,aN,ad,frz,aR,Nat.reduceBEq,Nat.reduceLT,reduceCtorEq,↓reduceIte,aL,AV.cellsOf,AV.fine,AV.one,aQ,Nat.reduceMul,Nat.reduceAdd,Nat.reduceLeDiff,Nat.reduceEqDiff,Int.reduceToNat,Nat.reduceSub,Nat.reduceMod,Nat.reduceDiv,indexK.aggOf,Int.reducePow,Int.reduceLE,Int.reduceNeg,Int.reduceLT,Int.reduceBEq,Int.reduceBNe,Int.reduceEq,aZ,aU,Try.facts,dT,dF,qT,qF,nT,nF,Bool.false_and,Bool.and_false,aj hk,hTs]
      first | refine CallK.p (hsp) ?_ | refine CallP.i (hsp) ?_
      simp (disch := omega) only [↓aI,aD,aG,ixA,aX,aV,ag,aT,ae,mkA,ab,bnd,aS,aH,aK,cvO,aJ,aY,↓aO,aW,aE,aF,aM,aA,aC,aB,aN,ad,frz,aR,Nat.reduceBEq,Nat.reduceLT,reduceCtorEq,↓reduceIte,aL,AV.cellsOf,AV.fine,AV.one,aQ,Nat.reduceMul,Nat.reduceAdd,Nat.reduceLeDiff,Nat.reduceEqDiff,Int.reduceToNat,Nat.reduceSub,Nat.reduceMod,Nat.reduceDiv,indexK.aggOf,Int.reducePow,Int.reduceLE,Int.reduceNeg,Int.reduceLT,Int.reduceBEq,Int.reduceBNe,Int.reduceEq,aZ,aU,Try.facts,dT,dF,qT,qF,nT,nF,Bool.false_and,Bool.and_false,aj hk,hTs]
      refine CallK.i (hbl _) ?_
      rintro v H1 ⟨h,hh0,rfl,p⟩
      have hty := type_live _ _ h S at_ T author p hh0 (by omega) hI
      have hwt := wait_live _ _ h S p
      have htx := ptext_live _ _ h S p
      have hlaw := typed_law inv p.t.g p.t.gs p.t.gn p.nd (by omega) (at_ := at_) (txt := T) (author := author)
      have hrn := nodes_let (G := S.G) hlet p.t.g.nd
      have hwas := runesS_enc (runesN (bF S.L S.G)) hrn
      rw [← textP_runes] at hwas
      have hLs : S.L.length ≤ 60 := by
        have h1 := inv.mid.pm.length_eq
        rw [List.length_append] at h1
        have h2 : S.I.length ≤ sizP S := by unfold sizP; omega
        omega
      have htl : (textP S).length ≤ 1000000 := by
        have h1 := runesB_len (live (bF S.L S.G))
        have h2 : (live (bF S.L S.G)).length = S.L.length - S.G.length := live_len p.t.g p.t.gs p.t.gn
        unfold textP
        omega
      have hr1 := runes_pure ⟨(textP S).toArray⟩ (by simp [ByteArray.size]; omega)
      rw [hwas] at hr1
      have hr2 := runes_pure T (by omega)
      generalize hN : runesN (bF S.L S.G) = N at *
      generalize hTX : (textP S) = TX at *
      have hlen : N.length = S.L.length - S.G.length := by
        rw [← hN]; unfold runesN; rw [List.length_map]; exact live_len p.t.g p.t.gs p.t.gn
      generalize hQ : typeP S at_ T author = Q at *
      obtain ⟨O,e⟩ := Q
      simp only at hlaw hty
      have hol := cq O
      have hO64 : O.length ≤ 64 := by
        have := typeP_len S at_ T author
        rw [hQ] at this
        exact this
      have hrT : (dO T).length ≤ T.size := by have := runesAt_len T T.size 0; simpa [dO] using this
      simp (disch := omega) only [↓aI,aD,aG,ixA,aX,aV,ag,aT,ae,mkA,ab,bnd,aS,aH,aK,cvO,aJ,aY,↓aO,aW,aE,aF,aM,aA,aC,aB,aN,ad,frz,aR,Nat.reduceBEq,Nat.reduceLT,reduceCtorEq,↓reduceIte,aL,AV.cellsOf,AV.fine,AV.one,aQ,Nat.reduceMul,Nat.reduceAdd,Nat.reduceLeDiff,Nat.reduceEqDiff,Int.reduceToNat,Nat.reduceSub,Nat.reduceMod,Nat.reduceDiv,indexK.aggOf,Int.reducePow,Int.reduceLE,Int.reduceNeg,Int.reduceLT,Int.reduceBEq,Int.reduceBNe,Int.reduceEq,aZ,aU,Try.facts,dT,dF,qT,qF,nT,nF,Bool.false_and,Bool.and_false]
      intro k6 hk60 hk6
      try simp (disch := omega) only [↓aI,aD,aG,ixA,aX,aV,ag,aT,ae,mkA,ab,bnd,aS,aH,aK,cvO,aJ,aY,↓aO,aW,aE,aF,aM,aA,aC,aB,aN,ad,frz,aR,Nat.reduceBEq,Nat.reduceLT,reduceCtorEq,↓reduceIte,aL,AV.cellsOf,AV.fine,AV.one,aQ,Nat.reduceMul,Nat.reduceAdd,Nat.reduceLeDiff,Nat.reduceEqDiff,Int.reduceToNat,Nat.reduceSub,Nat.reduceMod,Nat.reduceDiv,indexK.aggOf,Int.reducePow,Int.reduceLE,Int.reduceNeg,Int.reduceLT,Int.reduceBEq,Int.reduceBNe,Int.reduceEq,aZ,aU,Try.facts,dT,dF,qT,qF,nT,nF,Bool.false_and,Bool.and_false,aj hk6,ah]
      refine CallK.i hwt ?_
      rintro v E ⟨rfl,rfl⟩
      by_cases hw0 : waitN S = 0
      · have hlaw := hlaw hw0
        simp (disch := omega) only [↓aI,aD,aG,ixA,aX,aV,ag,aT,ae,mkA,ab,bnd,aS,aH,aK,cvO,aJ,aY,↓aO,aW,aE,aF,aM,aA,aC,aB,aN,ad,frz,aR,Nat.reduceBEq,Nat.reduceLT,reduceCtorEq,↓reduceIte,aL,AV.cellsOf,AV.fine,AV.one,aQ,Nat.reduceMul,Nat.reduceAdd,Nat.reduceLeDiff,Nat.reduceEqDiff,Int.reduceToNat,Nat.reduceSub,Nat.reduceMod,Nat.reduceDiv,indexK.aggOf,Int.reducePow,Int.reduceLE,Int.reduceNeg,Int.reduceLT,Int.reduceBEq,Int.reduceBNe,Int.reduceEq,aZ,aU,Try.facts,dT,dF,qT,qF,nT,nF,Bool.false_and,Bool.and_false,hw0]
        refine CallK.i htx ?_
        rintro v E ⟨rfl,rfl⟩
        simp (disch := omega) only [↓aI,aD,aG,ixA,aX,aV,ag,aT,ae,mkA,ab,bnd,aS,aH,aK,cvO,aJ,aY,↓aO,aW,aE,aF,aM,aA,aC,aB,aN,ad,frz,aR,Nat.reduceBEq,Nat.reduceLT,reduceCtorEq,↓reduceIte,aL,AV.cellsOf,AV.fine,AV.one,aQ,Nat.reduceMul,Nat.reduceAdd,Nat.reduceLeDiff,Nat.reduceEqDiff,Int.reduceToNat,Nat.reduceSub,Nat.reduceMod,Nat.reduceDiv,indexK.aggOf,Int.reducePow,Int.reduceLE,Int.reduceNeg,Int.reduceLT,Int.reduceBEq,Int.reduceBNe,Int.reduceEq,aZ,aU,Try.facts,dT,dF,qT,qF,nT,nF,Bool.false_and,Bool.and_false]
        first | refine CallK.p (hr1) ?_ | refine CallP.i (hr1) ?_
        simp (disch := omega) only [↓aI,aD,aG,ixA,aX,aV,ag,aT,ae,mkA,ab,bnd,aS,aH,aK,cvO,aJ,aY,↓aO,aW,aE,aF,aM,aA,aC,aB,aN,ad,frz,aR,Nat.reduceBEq,Nat.reduceLT,reduceCtorEq,↓reduceIte,aL,AV.cellsOf,AV.fine,AV.one,aQ,Nat.reduceMul,Nat.reduceAdd,Nat.reduceLeDiff,Nat.reduceEqDiff,Int.reduceToNat,Nat.reduceSub,Nat.reduceMod,Nat.reduceDiv,indexK.aggOf,Int.reducePow,Int.reduceLE,Int.reduceNeg,Int.reduceLT,Int.reduceBEq,Int.reduceBNe,Int.reduceEq,aZ,aU,Try.facts,dT,dF,qT,qF,nT,nF,Bool.false_and,Bool.and_false]
        refine CallK.i hty ?_
        rintro v E ⟨rfl,rfl⟩
        by_cases he0 : e = 0
        · have hlaw := hlaw he0
          have hdo := do_live _ _ h S O p (by omega) (by omega)
          generalize hDD : doP S O = DD at *
          obtain ⟨de,DS⟩ := DD
          simp only at hlaw hdo
          simp (disch := omega) only [↓aI,aD,aG,ixA,aX,aV,ag,aT,ae,mkA,ab,bnd,aS,aH,aK,cvO,aJ,aY,↓aO,aW,aE,aF,aM,aA,aC,aB,aN,ad,frz,aR,Nat.reduceBEq,Nat.reduceLT,reduceCtorEq,↓reduceIte,aL,AV.cellsOf,AV.fine,AV.one,aQ,Nat.reduceMul,Nat.reduceAdd,Nat.reduceLeDiff,Nat.reduceEqDiff,Int.reduceToNat,Nat.reduceSub,Nat.reduceMod,Nat.reduceDiv,indexK.aggOf,Int.reducePow,Int.reduceLE,Int.reduceNeg,Int.reduceLT,Int.reduceBEq,Int.reduceBNe,Int.reduceEq,aZ,aU,Try.facts,dT,dF,qT,qF,nT,nF,Bool.false_and,Bool.and_false,he0,hol]
          refine CallK.i hdo ?_
          rintro v H2 ⟨rfl,p2⟩
          by_cases hd0 : de = 0
          · obtain ⟨k,hk9,hk8,hfin⟩ := hlaw hd0
            subst hk9
            have hNl := ed N
            have htk : (N.take k).length = k := by rw [List.length_take]; omega
            have hdk : (N.drop k).length = N.length - k := List.length_drop
            simp (disch := omega) only [↓aI,aD,aG,ixA,aX,aV,ag,aT,ae,mkA,ab,bnd,aS,aH,aK,cvO,aJ,aY,↓aO,aW,aE,aF,aM,aA,aC,aB,aN,ad,frz,aR,Nat.reduceBEq,Nat.reduceLT,reduceCtorEq,↓reduceIte,aL,AV.cellsOf,AV.fine,AV.one,aQ,Nat.reduceMul,Nat.reduceAdd,Nat.reduceLeDiff,Nat.reduceEqDiff,Int.reduceToNat,Nat.reduceSub,Nat.reduceMod,Nat.reduceDiv,indexK.aggOf,Int.reducePow,Int.reduceLE,Int.reduceNeg,Int.reduceLT,Int.reduceBEq,Int.reduceBNe,Int.reduceEq,aZ,aU,Try.facts,dT,dF,qT,qF,nT,nF,Bool.false_and,Bool.and_false,hd0,hol,hNl,rnC32_take,rnC32_drop,ed,htk,hdk,Nat.sub_zero]
            have hkk : k ≤ 9223372036854775807 ∧ k * 4 ≤ 140737488355328 := ⟨by omega,by omega⟩
            have hkr : k + (dO T).length ≤ 9223372036854775807 ∧ (k + (dO T).length) * 4 ≤ 140737488355328 := ⟨by omega,by omega⟩
            intro ka hka0 hka
            simp (disch := omega) only [↓aI,aD,aG,ixA,aX,aV,ag,aT,ae,mkA,ab,bnd,aS,aH,aK,cvO,aJ,aY,↓aO,aW,aE,aF,aM,aA,aC,aB,aN,ad,frz,aR,Nat.reduceBEq,Nat.reduceLT,reduceCtorEq,↓reduceIte,aL,AV.cellsOf,AV.fine,AV.one,aQ,Nat.reduceMul,Nat.reduceAdd,Nat.reduceLeDiff,Nat.reduceEqDiff,Int.reduceToNat,Nat.reduceSub,Nat.reduceMod,Nat.reduceDiv,indexK.aggOf,Int.reducePow,Int.reduceLE,Int.reduceNeg,Int.reduceLT,Int.reduceBEq,Int.reduceBNe,Int.reduceEq,aZ,aU,Try.facts,dT,dF,qT,qF,nT,nF,Bool.false_and,Bool.and_false,hkk,hka0,hd0,hol,hNl,rnC32_take,rnC32_drop,ed,htk,hdk,Nat.sub_zero]
            intro kb ob hkb0 hkb hob
            have hkbH := am hkb
            try simp (disch := omega) only [↓aI,aD,aG,ixA,aX,aV,ag,aT,ae,mkA,ab,bnd,aS,aH,aK,cvO,aJ,aY,↓aO,aW,aE,aF,aM,aA,aC,aB,aN,ad,frz,aR,Nat.reduceBEq,Nat.reduceLT,reduceCtorEq,↓reduceIte,aL,AV.cellsOf,AV.fine,AV.one,aQ,Nat.reduceMul,Nat.reduceAdd,Nat.reduceLeDiff,Nat.reduceEqDiff,Int.reduceToNat,Nat.reduceSub,Nat.reduceMod,Nat.reduceDiv,indexK.aggOf,Int.reducePow,Int.reduceLE,Int.reduceNeg,Int.reduceLT,Int.reduceBEq,Int.reduceBNe,Int.reduceEq,aZ,aU,Try.facts,dT,dF,qT,qF,nT,nF,Bool.false_and,Bool.and_false,hd0,hol,hNl,rnC32_take,rnC32_drop,ed,htk,hdk,Nat.sub_zero,hkb0,hob]
            first | refine CallK.p (hr2) ?_ | refine CallP.i (hr2) ?_
            simp (disch := omega) only [↓aI,aD,aG,ixA,aX,aV,ag,aT,ae,mkA,ab,bnd,aS,aH,aK,cvO,aJ,aY,↓aO,aW,aE,aF,aM,aA,aC,aB,aN,ad,frz,aR,Nat.reduceBEq,Nat.reduceLT,reduceCtorEq,↓reduceIte,aL,AV.cellsOf,AV.fine,AV.one,aQ,Nat.reduceMul,Nat.reduceAdd,Nat.reduceLeDiff,Nat.reduceEqDiff,Int.reduceToNat,Nat.reduceSub,Nat.reduceMod,Nat.reduceDiv,indexK.aggOf,Int.reducePow,Int.reduceLE,Int.reduceNeg,Int.reduceLT,Int.reduceBEq,Int.reduceBNe,Int.reduceEq,aZ,aU,Try.facts,dT,dF,qT,qF,nT,nF,Bool.false_and,Bool.and_false,hNl,rnC32_take,rnC32_drop,ed,htk,hdk,Nat.sub_zero,hkb0,hob,set_get,rnC32_app,hkr]
            intro kc oc hkc0 hkc hoc
            have hkt : k + (dO T).length + (N.length - k) ≤ 9223372036854775807 ∧ (k + (dO T).length + (N.length - k)) * 4 ≤ 140737488355328 := ⟨by omega,by omega⟩
            have hdt : (N.drop k).take (N.length - k) = N.drop k := List.take_of_length_le (by omega)
            simp (disch := omega) only [↓aI,aD,aG,ixA,aX,aV,ag,aT,ae,mkA,ab,bnd,aS,aH,aK,cvO,aJ,aY,↓aO,aW,aE,aF,aM,aA,aC,aB,aN,ad,frz,aR,Nat.reduceBEq,Nat.reduceLT,reduceCtorEq,↓reduceIte,aL,AV.cellsOf,AV.fine,AV.one,aQ,Nat.reduceMul,Nat.reduceAdd,Nat.reduceLeDiff,Nat.reduceEqDiff,Int.reduceToNat,Nat.reduceSub,Nat.reduceMod,Nat.reduceDiv,indexK.aggOf,Int.reducePow,Int.reduceLE,Int.reduceNeg,Int.reduceLT,Int.reduceBEq,Int.reduceBNe,Int.reduceEq,aZ,aU,Try.facts,dT,dF,qT,qF,nT,nF,Bool.false_and,Bool.and_false,hNl,rnC32_take,rnC32_drop,ed,htk,hdk,hdt,Nat.sub_zero,hkc0,hoc,set_get,rnC32_app,hkt]
            intro kd od hkd0 hkd hod
            try simp (disch := omega) only [↓aI,aD,aG,ixA,aX,aV,ag,aT,ae,mkA,ab,bnd,aS,aH,aK,cvO,aJ,aY,↓aO,aW,aE,aF,aM,aA,aC,aB,aN,ad,frz,aR,Nat.reduceBEq,Nat.reduceLT,reduceCtorEq,↓reduceIte,aL,AV.cellsOf,AV.fine,AV.one,aQ,Nat.reduceMul,Nat.reduceAdd,Nat.reduceLeDiff,Nat.reduceEqDiff,Int.reduceToNat,Nat.reduceSub,Nat.reduceMod,Nat.reduceDiv,indexK.aggOf,Int.reducePow,Int.reduceLE,Int.reduceNeg,Int.reduceLT,Int.reduceBEq,Int.reduceBNe,Int.reduceEq,aZ,aU,Try.facts,dT,dF,qT,qF,nT,nF,Bool.false_and,Bool.and_false,hNl,rnC32_take,rnC32_drop,ed,htk,hdk,hdt,Nat.sub_zero,hkd0,hod,set_get,rnC32_app,rnC32_all,rnC32_bytes]
            have htD : textP DS = (N.take k ++ dO T ++ N.drop k).flatMap dQ := by rw [textP_runes,hfin,List.append_assoc]
            have hLD : DS.L.length - DS.G.length = k + (dO T).length + (N.length - k) := by
              have h1 : (live (bF DS.L DS.G)).length = DS.L.length - DS.G.length := live_len p2.t.g p2.t.gs p2.t.gn
              have h2 : (runesN (bF DS.L DS.G)).length = (live (bF DS.L DS.G)).length := List.length_map _
              rw [hfin] at h2
              simp only [List.length_append] at h2
              omega
            have htx2 := fun H' p => ptext_live H H' h DS p
            have hln2 := fun H' p => plen_live H H' h DS p
            rw [htD] at htx2
            rw [hLD] at hln2
            have hkcH : H2 kc = none := by first | exact hkc | exact am hkc | exact am (am hkc)
            have hkdH := am hkd
            rw [aj hkcH]
            have p3 := p2.mono (Sub.set_new (o := od) hkdH)
            refine CallK.i (htx2 _ p3) ?_
            rintro v E3 ⟨rfl,rfl⟩
            simp (disch := omega) only [↓aI,aD,aG,ixA,aX,aV,ag,aT,ae,mkA,ab,bnd,aS,aH,aK,cvO,aJ,aY,↓aO,aW,aE,aF,aM,aA,aC,aB,aN,ad,frz,aR,Nat.reduceBEq,Nat.reduceLT,reduceCtorEq,↓reduceIte,aL,AV.cellsOf,AV.fine,AV.one,aQ,Nat.reduceMul,Nat.reduceAdd,Nat.reduceLeDiff,Nat.reduceEqDiff,Int.reduceToNat,Nat.reduceSub,Nat.reduceMod,Nat.reduceDiv,indexK.aggOf,Int.reducePow,Int.reduceLE,Int.reduceNeg,Int.reduceLT,Int.reduceBEq,Int.reduceBNe,Int.reduceEq,aZ,aU,Try.facts,dT,dF,qT,qF,nT,nF,Bool.false_and,Bool.and_false,rnC32_bytes,beq_self_eq_true]
            refine CallK.i (hln2 _ p3) ?_
            rintro v E3 ⟨rfl,rfl⟩
            simp (disch := omega) only [↓aI,aD,aG,ixA,aX,aV,ag,aT,ae,mkA,ab,bnd,aS,aH,aK,cvO,aJ,aY,↓aO,aW,aE,aF,aM,aA,aC,aB,aN,ad,frz,aR,Nat.reduceBEq,Nat.reduceLT,reduceCtorEq,↓reduceIte,aL,AV.cellsOf,AV.fine,AV.one,aQ,Nat.reduceMul,Nat.reduceAdd,Nat.reduceLeDiff,Nat.reduceEqDiff,Int.reduceToNat,Nat.reduceSub,Nat.reduceMod,Nat.reduceDiv,indexK.aggOf,Int.reducePow,Int.reduceLE,Int.reduceNeg,Int.reduceLT,Int.reduceBEq,Int.reduceBNe,Int.reduceEq,aZ,aU,Try.facts,dT,dF,qT,qF,nT,nF,Bool.false_and,Bool.and_false,ed,beq_self_eq_true]
            first | refine CallK.p (haw) ?_ | refine CallP.i (haw) ?_
            simp (disch := omega) only [↓aI,aD,aG,ixA,aX,aV,ag,aT,ae,mkA,ab,bnd,aS,aH,aK,cvO,aJ,aY,↓aO,aW,aE,aF,aM,aA,aC,aB,aN,ad,frz,aR,Nat.reduceBEq,Nat.reduceLT,reduceCtorEq,↓reduceIte,aL,AV.cellsOf,AV.fine,AV.one,aQ,Nat.reduceMul,Nat.reduceAdd,Nat.reduceLeDiff,Nat.reduceEqDiff,Int.reduceToNat,Nat.reduceSub,Nat.reduceMod,Nat.reduceDiv,indexK.aggOf,Int.reducePow,Int.reduceLE,Int.reduceNeg,Int.reduceLT,Int.reduceBEq,Int.reduceBNe,Int.reduceEq,aZ,aU,Try.facts,dT,dF,qT,qF,nT,nF,Bool.false_and,Bool.and_false]
            exact p2.sub.trans (Sub.set_new hkdH)
          · simp (disch := omega) only [↓aI,aD,aG,ixA,aX,aV,ag,aT,ae,mkA,ab,bnd,aS,aH,aK,cvO,aJ,aY,↓aO,aW,aE,aF,aM,aA,aC,aB,aN,ad,frz,aR,Nat.reduceBEq,Nat.reduceLT,reduceCtorEq,↓reduceIte,aL,AV.cellsOf,AV.fine,AV.one,aQ,Nat.reduceMul,Nat.reduceAdd,Nat.reduceLeDiff,Nat.reduceEqDiff,Int.reduceToNat,Nat.reduceSub,Nat.reduceMod,Nat.reduceDiv,indexK.aggOf,Int.reducePow,Int.reduceLE,Int.reduceNeg,Int.reduceLT,Int.reduceBEq,Int.reduceBNe,Int.reduceEq,aZ,aU,Try.facts,dT,dF,qT,qF,nT,nF,Bool.false_and,Bool.and_false,hd0,hol]
            first | refine CallK.p (haw) ?_ | refine CallP.i (haw) ?_
            simp (disch := omega) only [↓aI,aD,aG,ixA,aX,aV,ag,aT,ae,mkA,ab,bnd,aS,aH,aK,cvO,aJ,aY,↓aO,aW,aE,aF,aM,aA,aC,aB,aN,ad,frz,aR,Nat.reduceBEq,Nat.reduceLT,reduceCtorEq,↓reduceIte,aL,AV.cellsOf,AV.fine,AV.one,aQ,Nat.reduceMul,Nat.reduceAdd,Nat.reduceLeDiff,Nat.reduceEqDiff,Int.reduceToNat,Nat.reduceSub,Nat.reduceMod,Nat.reduceDiv,indexK.aggOf,Int.reducePow,Int.reduceLE,Int.reduceNeg,Int.reduceLT,Int.reduceBEq,Int.reduceBNe,Int.reduceEq,aZ,aU,Try.facts,dT,dF,qT,qF,nT,nF,Bool.false_and,Bool.and_false]
            exact p2.sub
        · simp (disch := omega) only [↓aI,aD,aG,ixA,aX,aV,ag,aT,ae,mkA,ab,bnd,aS,aH,aK,cvO,aJ,aY,↓aO,aW,aE,aF,aM,aA,aC,aB,aN,ad,frz,aR,Nat.reduceBEq,Nat.reduceLT,reduceCtorEq,↓reduceIte,aL,AV.cellsOf,AV.fine,AV.one,aQ,Nat.reduceMul,Nat.reduceAdd,Nat.reduceLeDiff,Nat.reduceEqDiff,Int.reduceToNat,Nat.reduceSub,Nat.reduceMod,Nat.reduceDiv,indexK.aggOf,Int.reducePow,Int.reduceLE,Int.reduceNeg,Int.reduceLT,Int.reduceBEq,Int.reduceBNe,Int.reduceEq,aZ,aU,Try.facts,dT,dF,qT,qF,nT,nF,Bool.false_and,Bool.and_false,he0,hol]
          first | refine CallK.p (haw) ?_ | refine CallP.i (haw) ?_
          simp (disch := omega) only [↓aI,aD,aG,ixA,aX,aV,ag,aT,ae,mkA,ab,bnd,aS,aH,aK,cvO,aJ,aY,↓aO,aW,aE,aF,aM,aA,aC,aB,aN,ad,frz,aR,Nat.reduceBEq,Nat.reduceLT,reduceCtorEq,↓reduceIte,aL,AV.cellsOf,AV.fine,AV.one,aQ,Nat.reduceMul,Nat.reduceAdd,Nat.reduceLeDiff,Nat.reduceEqDiff,Int.reduceToNat,Nat.reduceSub,Nat.reduceMod,Nat.reduceDiv,indexK.aggOf,Int.reducePow,Int.reduceLE,Int.reduceNeg,Int.reduceLT,Int.reduceBEq,Int.reduceBNe,Int.reduceEq,aZ,aU,Try.facts,dT,dF,qT,qF,nT,nF,Bool.false_and,Bool.and_false]
          exact p.sub
      · simp (disch := omega) only [↓aI,aD,aG,ixA,aX,aV,ag,aT,ae,mkA,ab,bnd,aS,aH,aK,cvO,aJ,aY,↓aO,aW,aE,aF,aM,aA,aC,aB,aN,ad,frz,aR,Nat.reduceBEq,Nat.reduceLT,reduceCtorEq,↓reduceIte,aL,AV.cellsOf,AV.fine,AV.one,aQ,Nat.reduceMul,Nat.reduceAdd,Nat.reduceLeDiff,Nat.reduceEqDiff,Int.reduceToNat,Nat.reduceSub,Nat.reduceMod,Nat.reduceDiv,indexK.aggOf,Int.reducePow,Int.reduceLE,Int.reduceNeg,Int.reduceLT,Int.reduceBEq,Int.reduceBNe,Int.reduceEq,aZ,aU,Try.facts,dT,dF,qT,qF,nT,nF,Bool.false_and,Bool.and_false,hw0]
        first | refine CallK.p (haw) ?_ | refine CallP.i (haw) ?_
        simp (disch := omega) only [↓aI,aD,aG,ixA,aX,aV,ag,aT,ae,mkA,ab,bnd,aS,aH,aK,cvO,aJ,aY,↓aO,aW,aE,aF,aM,aA,aC,aB,aN,ad,frz,aR,Nat.reduceBEq,Nat.reduceLT,reduceCtorEq,↓reduceIte,aL,AV.cellsOf,AV.fine,AV.one,aQ,Nat.reduceMul,Nat.reduceAdd,Nat.reduceLeDiff,Nat.reduceEqDiff,Int.reduceToNat,Nat.reduceSub,Nat.reduceMod,Nat.reduceDiv,indexK.aggOf,Int.reducePow,Int.reduceLE,Int.reduceNeg,Int.reduceLT,Int.reduceBEq,Int.reduceBNe,Int.reduceEq,aZ,aU,Try.facts,dT,dF,qT,qF,nT,nF,Bool.false_and,Bool.and_false]
        exact p.sub
theorem paper_typed (x0 : List (List OpX)) (x1 : WishX) (hb : Try.ty22.size x0 + Try.ty24.size x1 ≤ 1048576) : APure Try.prog 3 [(Try.ty22.enc x0).getD 0 .any,.agg (Try.ty24.enc x1)] (.sc (.bool true)) := by
  rw [wish_enc,opss_enc]
  obtain ⟨h1,h2⟩ := both_len x0 x1 hb
  exact typed_walk _ _ h1 h2
end Go.Proofs.Ytimonfakmadhpaa
