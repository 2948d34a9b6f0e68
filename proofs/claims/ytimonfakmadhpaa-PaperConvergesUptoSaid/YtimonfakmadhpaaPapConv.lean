/-
  PaperConverges: the walk, and the call, of the arguments as they are read.
  Conditions: none. Lemmas only.
-/
import Derived.Test.YtimonfakmadhpaaPapGD
import Derived.Test.YtimonfakmadhpaaPapGE
import Derived.Test.YtimonfakmadhpaaPapTakes
import Derived.Test.YtimonfakmadhpaaPapGB
set_option linter.all false
set_option linter.unusedSimpArgs false
set_option linter.unusedVariables false
set_option maxRecDepth 20000
set_option maxHeartbeats 8000000
namespace Go.Proofs.Ytimonfakmadhpaa
open Go Go.Abs Go.Proofs Go.Fug
def intsC (l : List Int) : List AV := l.map fun n => .sc (.int .i64 n)
theorem intsC_length (l : List Int) : (intsC l).length = l.length := by simp [intsC]
theorem intsC_get {l : List Int} {i : Nat} (h : i < l.length) : (intsC l)[i]? = some (.sc (.int .i64 l[i])) := by
  unfold intsC
  rw [List.getElem?_map,List.getElem?_eq_getElem h]; rfl
theorem opsC_put {l : List Opn} {i : Nat} {m : Opn} (h : i < l.length) : bG (dL l) (i * 19) (opC m) = dL (l.set i m) := by
  rw [ah,(opsC_cut l i (by omega)).1,opC_len,show i * 19 + 19 = (i + 1) * 19 by omega,(opsC_cut l (i + 1) (by omega)).2,List.set_eq_take_append_cons_drop,if_pos h]
  simp only [dL,List.flatMap_append,List.flatMap_cons,List.append_assoc]
theorem conv_no (L : List Opn) (ts agx : List Int) (h : ¬ (L.length ≤ 60 ∧ ts.length ≤ 200 ∧ agx.length ≤ 60)) (h1 : L.length ≤ 2000000) (h2 : ts.length ≤ 2000000) (h3 : agx.length ≤ 2000000) :
    APure Try.prog 10 [opsV L,.imm 0 (intsC ts) ts.length,.imm 0 (intsC agx) agx.length] (.sc (.bool true)) := by
  have haw := awake_pure
  by_cases a : 60 < L.length
  · refine az (c := ⟨Try.prog,175,[(21,[0,0,1,0,0,0,0,1,0,0,0,0,0]),(22,[0,0,0,0,0,0,0,1,0,0,0,1,0,2,0,2]),(1000006,[9]),(1000010,[12]),(1000029,[21]),(4000035,[6]),(4000032,[2,13,18,19,110,111,112,144]),(4000030,[2,13,18,19,20,110,111,112,121]),(4000029,[2,13,18,19,20,21,110,111,112]),(4000022,[2,7,13,68,69,70]),(4000021,[2,7,13,16,17,68,69,70]),(4000019,[2,7,13,14,15,68,69,70]),(4000014,[1,2,7,36,37,38]),(4000011,[1,2,7,9,10,36,37,38,45,46,47]),(4000001,[0,1,2,34])],[1000065,1000067],[]⟩) (rs := [ResultVar.tmp 6]) Try.mixed Try.func10 rfl rfl rfl (Nat.le_of_ble_eq_true rfl) (by kernel_rfl) fun H => ?_
    simp (disch := omega) only [↓aI,aD,aG,ixA,aX,aV,ag,aT,ae,mkA,ab,bnd,aS,aH,aK,cvO,aJ,aY,↓aO,aW,aE,aF,aM,aA,aC,aB,aN,ad,frz,aR,aL,AV.cellsOf,AV.fine,AV.one,aQ,indexK.aggOf,simprocAttr,aZ,aU,Try.facts,dT,dF,qT,qF,nT,nF,Bool.false_and,Bool.and_false]
    first | refine CallK.p (haw) ?_ | refine CallP.i (haw) ?_
    simp (disch := omega) only [↓aI,aD,aG,ixA,aX,aV,ag,aT,ae,mkA,ab,bnd,aS,aH,aK,cvO,aJ,aY,↓aO,aW,aE,aF,aM,aA,aC,aB,aN,ad,frz,aR,aL,AV.cellsOf,AV.fine,AV.one,aQ,indexK.aggOf,simprocAttr,aZ,aU,Try.facts]
    exact Abs.Sub.refl _
  · by_cases b : 200 < ts.length
    · refine az (c := ⟨Try.prog,175,[(21,[0,0,1,0,0,0,0,1,0,0,0,0,0]),(22,[0,0,0,0,0,0,0,1,0,0,0,1,0,2,0,2]),(1000006,[9]),(1000010,[12]),(1000029,[21]),(4000035,[6]),(4000032,[2,13,18,19,110,111,112,144]),(4000030,[2,13,18,19,20,110,111,112,121]),(4000029,[2,13,18,19,20,21,110,111,112]),(4000022,[2,7,13,68,69,70]),(4000021,[2,7,13,16,17,68,69,70]),(4000019,[2,7,13,14,15,68,69,70]),(4000014,[1,2,7,36,37,38]),(4000011,[1,2,7,9,10,36,37,38,45,46,47]),(4000001,[0,1,2,34])],[1000065,1000067],[]⟩) (rs := [ResultVar.tmp 6]) Try.mixed Try.func10 rfl rfl rfl (Nat.le_of_ble_eq_true rfl) (by kernel_rfl) fun H => ?_
      simp (disch := omega) only [↓aI,aD,aG,ixA,aX,aV,ag,aT,ae,mkA,ab,bnd,aS,aH,aK,cvO,aJ,aY,↓aO,aW,aE,aF,aM,aA,aC,aB,aN,ad,frz,aR,aL,AV.cellsOf,AV.fine,AV.one,aQ,indexK.aggOf,simprocAttr,aZ,aU,Try.facts,dT,dF,qT,qF,nT,nF,Bool.false_and,Bool.and_false]
      first | refine CallK.p (haw) ?_ | refine CallP.i (haw) ?_
      simp (disch := omega) only [↓aI,aD,aG,ixA,aX,aV,ag,aT,ae,mkA,ab,bnd,aS,aH,aK,cvO,aJ,aY,↓aO,aW,aE,aF,aM,aA,aC,aB,aN,ad,frz,aR,aL,AV.cellsOf,AV.fine,AV.one,aQ,indexK.aggOf,simprocAttr,aZ,aU,Try.facts]
      exact Abs.Sub.refl _
    · have c : 60 < agx.length := by omega
      refine az (c := ⟨Try.prog,175,[(21,[0,0,1,0,0,0,0,1,0,0,0,0,0]),(22,[0,0,0,0,0,0,0,1,0,0,0,1,0,2,0,2]),(1000006,[9]),(1000010,[12]),(1000029,[21]),(4000035,[6]),(4000032,[2,13,18,19,110,111,112,144]),(4000030,[2,13,18,19,20,110,111,112,121]),(4000029,[2,13,18,19,20,21,110,111,112]),(4000022,[2,7,13,68,69,70]),(4000021,[2,7,13,16,17,68,69,70]),(4000019,[2,7,13,14,15,68,69,70]),(4000014,[1,2,7,36,37,38]),(4000011,[1,2,7,9,10,36,37,38,45,46,47]),(4000001,[0,1,2,34])],[1000065,1000067],[]⟩) (rs := [ResultVar.tmp 6]) Try.mixed Try.func10 rfl rfl rfl (Nat.le_of_ble_eq_true rfl) (by kernel_rfl) fun H => ?_
      simp (disch := omega) only [↓aI,aD,aG,ixA,aX,aV,ag,aT,ae,mkA,ab,bnd,aS,aH,aK,cvO,aJ,aY,↓aO,aW,aE,aF,aM,aA,aC,aB,aN,ad,frz,aR,aL,AV.cellsOf,AV.fine,AV.one,aQ,indexK.aggOf,simprocAttr,aZ,aU,Try.facts,dT,dF,qT,qF,nT,nF,Bool.false_and,Bool.and_false]
      first | refine CallK.p (haw) ?_ | refine CallP.i (haw) ?_
      simp (disch := omega) only [↓aI,aD,aG,ixA,aX,aV,ag,aT,ae,mkA,ab,bnd,aS,aH,aK,cvO,aJ,aY,↓aO,aW,aE,aF,aM,aA,aC,aB,aN,ad,frz,aR,aL,AV.cellsOf,AV.fine,AV.one,aQ,indexK.aggOf,simprocAttr,aZ,aU,Try.facts]
      exact Abs.Sub.refl _
theorem conv_yes (L : List Opn) (ts agx : List Int) (hL : L.length ≤ 60) (hts : ts.length ≤ 200) (hag : agx.length ≤ 60) :
    APure Try.prog 10 [opsV L,.imm 0 (intsC ts) ts.length,.imm 0 (intsC agx) agx.length] (.sc (.bool true)) := by
  have haw := awake_pure
  have hit := intsC_length ts
  have hia := intsC_length agx
  have hLd := cq L
  refine az (c := ⟨Try.prog,175,[(21,[0,0,1,0,0,0,0,1,0,0,0,0,0]),(22,[0,0,0,0,0,0,0,1,0,0,0,1,0,2,0,2]),(1000006,[9]),(1000010,[12]),(1000029,[21]),(4000035,[6]),(4000032,[2,13,18,19,110,111,112,144]),(4000030,[2,13,18,19,20,110,111,112,121]),(4000029,[2,13,18,19,20,21,110,111,112]),(4000022,[2,7,13,68,69,70]),(4000021,[2,7,13,16,17,68,69,70]),(4000019,[2,7,13,14,15,68,69,70]),(4000014,[1,2,7,36,37,38]),(4000011,[1,2,7,9,10,36,37,38,45,46,47]),(4000001,[0,1,2,34])],[1000065,1000067],[]⟩) (rs := [ResultVar.tmp 6]) Try.mixed Try.func10 rfl rfl rfl (Nat.le_of_ble_eq_true rfl) (by kernel_rfl) fun H => ?_
  simp (disch := omega) only [↓aI,aD,aG,ixA,aX,aV,ag,aT,ae,mkA,ab,bnd,aS,aH,aK,cvO,aJ,aY,↓aO,aW,aE,aF,aM,aA,aC,aB,aN,ad,frz,aR,aL,AV.cellsOf,AV.fine,AV.one,aQ,indexK.aggOf,simprocAttr,aZ,aU,Try.facts,dT,dF,qT,qF,nT,nF,Bool.false_and,Bool.and_false]
  refine tok_t 7 (by simp (disch := omega) only [↓aI,aD,aG,ixA,aX,aV,ag,aT,ae,mkA,ab,bnd,aS,aH,aK,cvO,aJ,aY,↓aO,aW,aE,aF,aM,aA,aC,aB,aN,ad,frz,aR,aL,AV.cellsOf,AV.fine,AV.one,aQ,indexK.aggOf,simprocAttr,aZ,aU,Try.facts]) fun k hk0 hk => ?_
  refine br (c := ⟨Try.prog,175,[(21,[0,0,1,0,0,0,0,1,0,0,0,0,0]),(22,[0,0,0,0,0,0,0,1,0,0,0,1,0,2,0,2]),(1000006,[9]),(1000010,[12]),(1000029,[21]),(4000035,[6]),(4000032,[2,13,18,19,110,111,112,144]),(4000030,[2,13,18,19,20,110,111,112,121]),(4000029,[2,13,18,19,20,21,110,111,112]),(4000022,[2,7,13,68,69,70]),(4000021,[2,7,13,16,17,68,69,70]),(4000019,[2,7,13,14,15,68,69,70]),(4000014,[1,2,7,36,37,38]),(4000011,[1,2,7,9,10,36,37,38,45,46,47]),(4000001,[0,1,2,34])],[1000065,1000067],[]⟩) Try.mixed (by kernel_rfl) (fun mm σ H' => ∃ (i : Nat) (O : List Opn) (k : Nat) (o : AObj),i + mm = L.length ∧ O.length ≤ i ∧ OkO O ∧ k ≠ 0 ∧ H k = none ∧ H' = H.set k o ∧ cy 84 19 o (O.length * 19) ∧ σ 7 = .imm k (dL O) O.length ∧
    σ 1 = .imm 0 (intsC ts) ts.length ∧ σ 2 = .imm 0 (intsC agx) agx.length ∧ σ 36 = opsV L ∧ σ 37 = .sc (.int .i64 (L.length : Nat)) ∧ σ 38 = .sc (.int .i64 (i : Nat))) L.length ?_ ?_
  · refine ⟨0,[],k,.nilt,by omega,by simp,OkO.nil,hk0,hk,rfl,.inr ⟨rfl,rfl⟩,?_⟩
    simp (disch := omega) only [↓aI,aD,aG,ixA,aX,aV,ag,aT,ae,mkA,ab,bnd,aS,aH,aK,cvO,aJ,aY,↓aO,aW,aE,aF,aM,aA,aC,aB,aN,ad,frz,aR,aL,AV.cellsOf,AV.fine,AV.one,aQ,indexK.aggOf,simprocAttr,aZ,aU,Try.facts]
    try rfl
  · clear hk hk0 k
    rintro mm σ H' ⟨i,O,k,o,him,hOi,hu,hk0,hk,rfl,ho,s7,s1,s2,s36,s37,s38⟩
    have hOd := cq O
    by_cases hlt : i < L.length
    · have hld := opsC_load hlt
      have hle : i * 19 + 19 ≤ L.length * 19 := by omega
      generalize L[i] = q at *
      have hri := rright18_pure q
      have hone := fun x => one_pure x q
      have hsu := fun a b => hu.snoc (o := q) a b
      have hsn := opsC_snoc O q
      have hO1 : (O ++ [q]).length = O.length + 1 := by simp
      have hsl := cq (O ++ [q])
      have hqc : (opC q).length = 19 := opC_len q
      have hqs : (opC q).map AV.strip0 = opC q := rfl
      have hq19 : 19 ≤ (opC q).length := Nat.le_of_eq (opC_len q).symm
      have hqt : (opC q).take 19 = opC q := List.take_of_length_le (Nat.le_of_eq (opC_len q))
      generalize O ++ [q] = O2 at *
      simp (disch := omega) only [↓aI,aD,aG,ixA,aX,aV,ag,aT,ae,mkA,ab,bnd,aS,aH,aK,cvO,aJ,aY,↓aO,aW,aE,aF,aM,aA,aC,aB,aN,ad,frz,aR,aL,AV.cellsOf,AV.fine,AV.one,aQ,indexK.aggOf,simprocAttr,aZ,aU,Try.facts,s1,s2,s7,s36,s37,s38,dT,dF,qT,qF,nT,nF,Bool.false_and,Bool.and_false,hLd,hld,hle,hqc]
      intro b9 hb90 hb9
      simp (disch := omega) only [↓aI,aD,aG,ixA,aX,aV,ag,aT,ae,mkA,ab,bnd,aS,aH,aK,cvO,aJ,aY,↓aO,aW,aE,aF,aM,aA,aC,aB,aN,ad,frz,aR,aL,AV.cellsOf,AV.fine,AV.one,aQ,indexK.aggOf,simprocAttr,aZ,aU,Try.facts,s1,s2,s7,s36,s37,s38,dT,dF,qT,qF,nT,nF,Bool.false_and,Bool.and_false,hLd,hld,hle,hqc,hqs,hq19,hqt,aj hb9,ah]
      first | refine CallK.p (hri) ?_ | refine CallP.i (hri) ?_
      simp (disch := omega) only [↓aI,aD,aG,ixA,aX,aV,ag,aT,ae,mkA,ab,bnd,aS,aH,aK,cvO,aJ,aY,↓aO,aW,aE,aF,aM,aA,aC,aB,aN,ad,frz,aR,aL,AV.cellsOf,AV.fine,AV.one,aQ,indexK.aggOf,simprocAttr,aZ,aU,Try.facts,s1,s2,s7,s36,s37,s38,dT,dF,qT,qF,nT,nF,Bool.false_and,Bool.and_false,hLd,hld,hle,hqc,hqs,hq19,hqt,ah]
      refine br (c := ⟨Try.prog,175,[(21,[0,0,1,0,0,0,0,1,0,0,0,0,0]),(22,[0,0,0,0,0,0,0,1,0,0,0,1,0,2,0,2]),(1000006,[9]),(1000010,[12]),(1000029,[21]),(4000035,[6]),(4000032,[2,13,18,19,110,111,112,144]),(4000030,[2,13,18,19,20,110,111,112,121]),(4000029,[2,13,18,19,20,21,110,111,112]),(4000022,[2,7,13,68,69,70]),(4000021,[2,7,13,16,17,68,69,70]),(4000019,[2,7,13,14,15,68,69,70]),(4000014,[1,2,7,36,37,38]),(4000011,[1,2,7,9,10,36,37,38,45,46,47]),(4000001,[0,1,2,34])],[1000065,1000067],[]⟩) Try.mixed (by kernel_rfl) (fun m2 σ H2 => H2 = H.set k o ∧ ∃ (j : Nat) (A : Bool),j + m2 = O.length ∧ A = (!opR q || (O.take j).any fun x => oneO x q) ∧ σ 10 = .sc (.bool A) ∧ σ 7 = .imm k (dL O) O.length ∧
        σ 1 = .imm 0 (intsC ts) ts.length ∧ σ 2 = .imm 0 (intsC agx) agx.length ∧ σ 9 = .ip (opC q) 0 ∧ σ 36 = opsV L ∧ σ 37 = .sc (.int .i64 (L.length : Nat)) ∧ σ 38 = .sc (.int .i64 (i : Nat)) ∧ σ 45 = .imm k (dL O) O.length ∧ σ 46 = .sc (.int .i64 (O.length : Nat)) ∧ σ 47 = .sc (.int .i64 (j : Nat))) O.length ?_ ?_
      · refine ⟨rfl,0,_,by omega,rfl,?_⟩
        simp (disch := omega) only [↓aI,aD,aG,ixA,aX,aV,ag,aT,ae,mkA,ab,bnd,aS,aH,aK,cvO,aJ,aY,↓aO,aW,aE,aF,aM,aA,aC,aB,aN,ad,frz,aR,aL,AV.cellsOf,AV.fine,AV.one,aQ,indexK.aggOf,simprocAttr,aZ,aU,Try.facts]
        simp only [List.take_zero,List.any_nil,Bool.or_false]
        exact ⟨trivial,s7,s1,s2,s36,s37,s38⟩
      · clear s1 s2 s7 s36 s37 s38
        rintro m2 σ H2 ⟨rfl,j,A,hjm,hA,s10,s7,s1,s2,s9,s36,s37,s38,s45,s46,s47⟩
        by_cases hjt : j < O.length
        · have hlo := opsC_load hjt
          have hle2 : j * 19 + 19 ≤ O.length * 19 := by omega
          have hst : (O.take (j + 1)).any (fun x => oneO x q) = ((O.take j).any (fun x => oneO x q) || oneO O[j] q) := by
            rw [List.take_succ_eq_append_getElem hjt,List.any_append]
            simp
          have hone1 := hone O[j]
          generalize O[j] = z at *
          have hzc : (opC z).length = 19 := opC_len z
          have hz19 : 19 ≤ (opC z).length := Nat.le_of_eq (opC_len z).symm
          have hzt : (opC z).take 19 = opC z := List.take_of_length_le (Nat.le_of_eq (opC_len z))
          cases A with
          | true =>
            simp (disch := omega) only [↓aI,aD,aG,ixA,aX,aV,ag,aT,ae,mkA,ab,bnd,aS,aH,aK,cvO,aJ,aY,↓aO,aW,aE,aF,aM,aA,aC,aB,aN,ad,frz,aR,aL,AV.cellsOf,AV.fine,AV.one,aQ,indexK.aggOf,simprocAttr,aZ,aU,Try.facts,s1,s2,s7,s9,s10,s36,s37,s38,s45,s46,s47,dT,dF,qT,qF,nT,nF,Bool.false_and,Bool.and_false,hOd,hlo,hle2,hzc]
            intro b12 hb120 hb12
            simp (disch := omega) only [↓aI,aD,aG,ixA,aX,aV,ag,aT,ae,mkA,ab,bnd,aS,aH,aK,cvO,aJ,aY,↓aO,aW,aE,aF,aM,aA,aC,aB,aN,ad,frz,aR,aL,AV.cellsOf,AV.fine,AV.one,aQ,indexK.aggOf,simprocAttr,aZ,aU,Try.facts,s1,s2,s7,s9,s10,s36,s37,s38,s45,s46,s47,dT,dF,qT,qF,nT,nF,Bool.false_and,Bool.and_false,hOd,hlo,hle2,hzc,aj hb12,ah]
            exact ⟨m2 - 1,by omega,j + 1,true,by omega,by rw [hst,← Bool.or_assoc,← hA,Bool.true_or],rfl,rfl⟩
          | false =>
            simp (disch := omega) only [↓aI,aD,aG,ixA,aX,aV,ag,aT,ae,mkA,ab,bnd,aS,aH,aK,cvO,aJ,aY,↓aO,aW,aE,aF,aM,aA,aC,aB,aN,ad,frz,aR,aL,AV.cellsOf,AV.fine,AV.one,aQ,indexK.aggOf,simprocAttr,aZ,aU,Try.facts,s1,s2,s7,s9,s10,s36,s37,s38,s45,s46,s47,dT,dF,qT,qF,nT,nF,Bool.false_and,Bool.and_false,hOd,hlo,hle2,hzc]
            intro b12 hb120 hb12
            simp (disch := omega) only [↓aI,aD,aG,ixA,aX,aV,ag,aT,ae,mkA,ab,bnd,aS,aH,aK,cvO,aJ,aY,↓aO,aW,aE,aF,aM,aA,aC,aB,aN,ad,frz,aR,aL,AV.cellsOf,AV.fine,AV.one,aQ,indexK.aggOf,simprocAttr,aZ,aU,Try.facts,s1,s2,s7,s9,s10,s36,s37,s38,s45,s46,s47,dT,dF,qT,qF,nT,nF,Bool.false_and,Bool.and_false,hOd,hlo,hle2,hzc,hz19,hzt,hqc,hq19,hqt,aj hb12,ah]
            first | refine CallK.p (hone1) ?_ | refine CallP.i (hone1) ?_
            simp (disch := omega) only [↓aI,aD,aG,ixA,aX,aV,ag,aT,ae,mkA,ab,bnd,aS,aH,aK,cvO,aJ,aY,↓aO,aW,aE,aF,aM,aA,aC,aB,aN,ad,frz,aR,aL,AV.cellsOf,AV.fine,AV.one,aQ,indexK.aggOf,simprocAttr,aZ,aU,Try.facts,s1,s2,s7,s9,s10,s36,s37,s38,s45,s46,s47,dT,dF,qT,qF,nT,nF,Bool.false_and,Bool.and_false,hOd,hlo,hle2,hzc,hz19,hzt,hqc,hq19,hqt,ah]
            exact ⟨m2 - 1,by omega,j + 1,oneO z q,by omega,by rw [hst,← Bool.or_assoc,← hA,Bool.false_or],rfl,rfl⟩
        · obtain rfl : j = O.length := by omega
          rw [List.take_length] at hA
          cases A with
          | true =>
            simp (disch := omega) only [↓aI,aD,aG,ixA,aX,aV,ag,aT,ae,mkA,ab,bnd,aS,aH,aK,cvO,aJ,aY,↓aO,aW,aE,aF,aM,aA,aC,aB,aN,ad,frz,aR,aL,AV.cellsOf,AV.fine,AV.one,aQ,indexK.aggOf,simprocAttr,aZ,aU,Try.facts,s1,s2,s7,s9,s10,s36,s37,s38,s45,s46,s47,dT,dF,qT,qF,nT,nF,Bool.false_and,Bool.and_false]
            exact ⟨mm - 1,by omega,i + 1,O,k,o,by omega,by omega,hu,hk0,hk,rfl,ho,rfl,rfl⟩
          | false =>
            simp (disch := omega) only [↓aI,aD,aG,ixA,aX,aV,ag,aT,ae,mkA,ab,bnd,aS,aH,aK,cvO,aJ,aY,↓aO,aW,aE,aF,aM,aA,aC,aB,aN,ad,frz,aR,aL,AV.cellsOf,AV.fine,AV.one,aQ,indexK.aggOf,simprocAttr,aZ,aU,Try.facts,s1,s2,s7,s9,s10,s36,s37,s38,s45,s46,s47,dT,dF,qT,qF,nT,nF,Bool.false_and,Bool.and_false,hqc,hq19,hqt,hOd,hsn]
            intro k2 o2 hk20 hk2 ho2
            have e1 : opR q = true := by
              cases h : opR q with
              | true => rfl
              | false => rw [h] at hA; cases hA
            have e2 : (O.any fun x => oneO x q) = false := by rw [e1] at hA; exact hA.symm
            exact ⟨mm - 1,by omega,i + 1,O2,k2,o2,by omega,by omega,hsu e1 e2,hk20,am hk2,rfl,by rw [hO1,show (O.length + 1) * 19 = O.length * 19 + 19 by omega]; exact ho2,by rw [hO1,hqs,hsn],rfl⟩
    · obtain rfl : i = L.length := by omega
      have hs1 : Abs.Sub H (H.set k o) := Sub.set_new hk
      have vk : (H.set k o) k = some o := set_get
      generalize H.set k o = H1 at *
      simp (disch := omega) only [↓aI,aD,aG,ixA,aX,aV,ag,aT,ae,mkA,ab,bnd,aS,aH,aK,cvO,aJ,aY,↓aO,aW,aE,aF,aM,aA,aC,aB,aN,ad,frz,aR,aL,AV.cellsOf,AV.fine,AV.one,aQ,indexK.aggOf,simprocAttr,aZ,aU,Try.facts,s1,s2,s7,s36,s37,s38,dT,dF,qT,qF,nT,nF,Bool.false_and,Bool.and_false,hOd,vk]
      intro kb hkb0 hkb
      simp (disch := omega) only [↓aI,aD,aG,ixA,aX,aV,ag,aT,ae,mkA,ab,bnd,aS,aH,aK,cvO,aJ,aY,↓aO,aW,aE,aF,aM,aA,aC,aB,aN,ad,frz,aR,aL,AV.cellsOf,AV.fine,AV.one,aQ,indexK.aggOf,simprocAttr,aZ,aU,Try.facts,s1,s2,s7,s36,s37,s38,dT,dF,qT,qF,nT,nF,Bool.false_and,Bool.and_false,hOd,vk]
      intro k' hk'
      obtain ⟨hk'0,hk'1⟩ := own_next hkb0 hkb hk'
      clear hk'
      have hk'H := hs1.free hk'1
      have hkk : ¬ k = k' := bA vk hk'1
      refine br (c := ⟨Try.prog,175,[(21,[0,0,1,0,0,0,0,1,0,0,0,0,0]),(22,[0,0,0,0,0,0,0,1,0,0,0,1,0,2,0,2]),(1000006,[9]),(1000010,[12]),(1000029,[21]),(4000035,[6]),(4000032,[2,13,18,19,110,111,112,144]),(4000030,[2,13,18,19,20,110,111,112,121]),(4000029,[2,13,18,19,20,21,110,111,112]),(4000022,[2,7,13,68,69,70]),(4000021,[2,7,13,16,17,68,69,70]),(4000019,[2,7,13,14,15,68,69,70]),(4000014,[1,2,7,36,37,38]),(4000011,[1,2,7,9,10,36,37,38,45,46,47]),(4000001,[0,1,2,34])],[1000065,1000067],[]⟩) Try.mixed (by kernel_rfl) (fun mm σ H' => ∃ (j : Nat) (X : List Opn),j + mm = ts.length ∧ X.Perm O ∧ H' = H1.set k' (.cells (dL X) 84 19) ∧
        σ 7 = .imm k (dL O) O.length ∧ σ 2 = .imm 0 (intsC agx) agx.length ∧ σ 13 = .own k' 0 O.length ∧ σ 68 = .imm 0 (intsC ts) ts.length ∧ σ 69 = .sc (.int .i64 ts.length) ∧ σ 70 = .sc (.int .i64 (j : Nat))) ts.length ?_ ?_
      · refine ⟨0,O,by omega,List.Perm.refl _,rfl,?_⟩
        simp (disch := omega) only [↓aI,aD,aG,ixA,aX,aV,ag,aT,ae,mkA,ab,bnd,aS,aH,aK,cvO,aJ,aY,↓aO,aW,aE,aF,aM,aA,aC,aB,aN,ad,frz,aR,aL,AV.cellsOf,AV.fine,AV.one,aQ,indexK.aggOf,simprocAttr,aZ,aU,Try.facts,s1,s2,s7]
        try rfl
      · clear s1 s2 s7 s36 s37 s38
        rintro mm σ H' ⟨j,X,hjm,hp,rfl,s7,s2,s13,s68,s69,s70⟩
        have hXl := hp.length_eq
        have hXd := cq X
        rw [hXl] at hXd
        by_cases hlt : j < ts.length
        · have hg := intsC_get hlt
          have hjit : j < (intsC ts).length := by omega
          generalize ts[j] = n at *
          by_cases hO : O.length = 0
          · simp (disch := omega) only [↓aI,aD,aG,ixA,aX,aV,ag,aT,ae,mkA,ab,bnd,aS,aH,aK,cvO,aJ,aY,↓aO,aW,aE,aF,aM,aA,aC,aB,aN,ad,frz,aR,aL,AV.cellsOf,AV.fine,AV.one,aQ,indexK.aggOf,simprocAttr,aZ,aU,Try.facts,s2,s7,s13,s68,s69,s70,dT,dF,qT,qF,nT,nF,Bool.false_and,Bool.and_false,hg,hit,hXd]
            exact ⟨mm - 1,by omega,j + 1,X,by omega,hp,rfl,rfl⟩
          · obtain ⟨w,hw⟩ : ∃ w : Nat,IntKind.u64.wrap n = (w : Int) := ⟨(IntKind.u64.wrap n).toNat,by rw [IntKind.wrap_u64]; omega⟩
            have tp : ((j : Nat) : Int).tmod ((O.length : Nat) : Int) = ((j % O.length : Nat) : Int) := rfl
            have tq : ((w : Nat) : Int).tmod ((O.length : Nat) : Int) = ((w % O.length : Nat) : Int) := rfl
            have hpl : j % O.length < O.length := Nat.mod_lt _ (by omega)
            have hql : w % O.length < O.length := Nat.mod_lt _ (by omega)
            have wq : IntKind.i64.wrap ((w % O.length : Nat) : Int) = ((w % O.length : Nat) : Int) := wcast64 (by omega)
            generalize j % O.length = p at *
            generalize w % O.length = q at *
            have hpM : p < X.length := by omega
            have hqM : q < X.length := by omega
            have ldp := opsC_load hpM
            have ldq := opsC_load hqM
            have put1 := opsC_put (m := X[q]) hpM
            have put2 := opsC_put (l := X.set p X[q]) (m := X[p]) (show q < _ by rw [List.length_set]; exact hqM)
            have hperm : ((X.set p X[q]).set q X[p]).Perm O := (List.set_set_perm hpM hqM).trans hp
            have hM1 := cq (X.set p X[q])
            rw [List.length_set,hXl] at hM1
            have lep : p * 19 + 19 ≤ O.length * 19 := by omega
            have leq : q * 19 + 19 ≤ O.length * 19 := by omega
            generalize X[p] = x at *
            generalize X[q] = y at *
            generalize X.set p y = X1 at *
            generalize X1.set q x = X2 at *
            obtain ⟨xk,⟨⟨xa1,xc1⟩,⟨xpa,xpc⟩,xri,xru⟩,⟨xd1,xd2⟩,⟨xmc,xma,⟨xf1,xf2⟩,xfb,⟨xt1,xt2⟩,xtb,xnm,xvl⟩⟩ := x
            obtain ⟨yk,⟨⟨ya1,yc1⟩,⟨ypa,ypc⟩,yri,yru⟩,⟨yd1,yd2⟩,⟨ymc,yma,⟨yf1,yf2⟩,yfb,⟨yt1,yt2⟩,ytb,ynm,yvl⟩⟩ := y
            simp only [opC] at ldp ldq put1 put2
            simp (disch := omega) only [↓aI,aD,aG,ixA,aX,aV,ag,aT,ae,mkA,ab,bnd,aS,aH,aK,cvO,aJ,aY,↓aO,aW,aE,aF,aM,aA,aC,aB,aN,ad,frz,aR,aL,AV.cellsOf,AV.fine,AV.one,aQ,indexK.aggOf,simprocAttr,aZ,aU,Try.facts,s2,s7,s13,s68,s69,s70,dT,dF,qT,qF,nT,nF,Bool.false_and,Bool.and_false,hg,hit,hXd,hM1,hw,tp,tq,wq,↓wcastU,lep,leq,ldp,ldq,put1,put2]
            exact ⟨mm - 1,by omega,j + 1,X2,by omega,hperm,rfl,rfl⟩
        · obtain rfl : j = ts.length := by omega
          have hsX : Abs.Sub H (H1.set k' (.cells (dL X) 84 19)) := hs1.set_free hk'H
          have vkX : (H1.set k' (.cells (dL X) 84 19)) k' = some (.cells (dL X) 84 19) := set_get
          have vkO : (H1.set k' (.cells (dL X) 84 19)) k = some o := by rw [aP hkk]; exact vk
          generalize H1.set k' (.cells (dL X) 84 19) = H0 at *
          simp (disch := omega) only [↓aI,aD,aG,ixA,aX,aV,ag,aT,ae,mkA,ab,bnd,aS,aH,aK,cvO,aJ,aY,↓aO,aW,aE,aF,aM,aA,aC,aB,aN,ad,frz,aR,aL,AV.cellsOf,AV.fine,AV.one,aQ,indexK.aggOf,simprocAttr,aZ,aU,Try.facts,s2,s7,s13,s68,s69,s70,dT,dF,qT,qF,nT,nF,Bool.false_and,Bool.and_false]
          have okX : OkO X := hu.perm hp
          refine CallK.i (pnew_live H0) ?_
          rintro v Ha ⟨h1,rfl,h10,pa⟩
          simp (disch := omega) only [↓aI,aD,aG,ixA,aX,aV,ag,aT,ae,mkA,ab,bnd,aS,aH,aK,cvO,aJ,aY,↓aO,aW,aE,aF,aM,aA,aC,aB,aN,ad,frz,aR,aL,AV.cellsOf,AV.fine,AV.one,aQ,indexK.aggOf,simprocAttr,aZ,aU,Try.facts,s2,s7,s13,dT,dF,qT,qF,nT,nF,Bool.false_and,Bool.and_false]
          refine CallK.i (pnew_live Ha) ?_
          rintro v Hb ⟨h2,rfl,h20,pb⟩
          obtain ⟨C1,pa1,pb1⟩ := pa.swap pb
          have hsz0 : sizP ps0 = 0 := rfl
          have da := do_live _ _ h1 ps0 O pa1 (by omega) (by omega)
          have ra := Rel.nil.do_ O
          rw [rdo_new (P := []) (F := O) hu (by rw [List.nil_append]; omega),List.nil_append] at ra
          have ia := InvP.nil.do_ O (by omega)
          generalize doP ps0 O = DA at *
          obtain ⟨ea,S1⟩ := DA
          simp only at ra ia da
          obtain ⟨rfl,ra⟩ := ra
          clear pa pb
          simp (disch := omega) only [↓aI,aD,aG,ixA,aX,aV,ag,aT,ae,mkA,ab,bnd,aS,aH,aK,cvO,aJ,aY,↓aO,aW,aE,aF,aM,aA,aC,aB,aN,ad,frz,aR,aL,AV.cellsOf,AV.fine,AV.one,aQ,indexK.aggOf,simprocAttr,aZ,aU,Try.facts,s2,s7,s13,dT,dF,qT,qF,nT,nF,Bool.false_and,Bool.and_false]
          refine CallK.i da ?_
          rintro v Hd ⟨rfl,pd⟩
          obtain ⟨C2,pb2,pa2⟩ := pb1.swap pd
          have vkd : Hd k' = some (.cells (dL X) 84 19) := pd.sub _ _ (pb1.sub _ _ vkX)
          clear da pa1 pb1 pd
          simp (disch := omega) only [↓aI,aD,aG,ixA,aX,aV,ag,aT,ae,mkA,ab,bnd,aS,aH,aK,cvO,aJ,aY,↓aO,aW,aE,aF,aM,aA,aC,aB,aN,ad,frz,aR,aL,AV.cellsOf,AV.fine,AV.one,aQ,indexK.aggOf,simprocAttr,aZ,aU,Try.facts,s2,s7,s13,dT,dF,qT,qF,nT,nF,Bool.false_and,Bool.and_false,vkd,hXd]
          refine br (c := ⟨Try.prog,175,[(21,[0,0,1,0,0,0,0,1,0,0,0,0,0]),(22,[0,0,0,0,0,0,0,1,0,0,0,1,0,2,0,2]),(1000006,[9]),(1000010,[12]),(1000029,[21]),(4000035,[6]),(4000032,[2,13,18,19,110,111,112,144]),(4000030,[2,13,18,19,20,110,111,112,121]),(4000029,[2,13,18,19,20,21,110,111,112]),(4000022,[2,7,13,68,69,70]),(4000021,[2,7,13,16,17,68,69,70]),(4000019,[2,7,13,14,15,68,69,70]),(4000014,[1,2,7,36,37,38]),(4000011,[1,2,7,9,10,36,37,38,45,46,47]),(4000001,[0,1,2,34])],[1000065,1000067],[]⟩) Try.mixed (by kernel_rfl) (fun mm σ H' => ∃ (i : Nat) (S2 : PS),i + mm = O.length ∧ Rel (X.take i) S2 ∧ InvP S2 ∧ IsP C2 H' h2 S2 ∧
            σ 2 = .imm 0 (intsC agx) agx.length ∧ σ 13 = .own k' 0 O.length ∧ σ 18 = .ptr h1.p 0 ∧ σ 19 = .ptr h2.p 0 ∧ σ 110 = .own k' 0 O.length ∧ σ 111 = .sc (.int .i64 (O.length : Nat)) ∧ σ 112 = .sc (.int .i64 (i : Nat))) O.length ?_ ?_
          · refine ⟨0,ps0,by omega,Rel.nil,InvP.nil,pb2,?_⟩
            simp (disch := omega) only [↓aI,aD,aG,ixA,aX,aV,ag,aT,ae,mkA,ab,bnd,aS,aH,aK,cvO,aJ,aY,↓aO,aW,aE,aF,aM,aA,aC,aB,aN,ad,frz,aR,aL,AV.cellsOf,AV.fine,AV.one,aQ,indexK.aggOf,simprocAttr,aZ,aU,Try.facts,s2,s7,s13]
            try rfl
          · clear s2 s7 s13 s68 s69 s70 pb2 vkd
            rintro mm σ H' ⟨i,S2,him,rel,inv,p,s2,s13,s18,s19,s110,s111,s112⟩
            have vkH : H' k' = some (.cells (dL X) 84 19) := p.sub _ _ (pa2.sub _ _ vkX)
            have hz := rel.size
            rw [List.length_take] at hz
            by_cases hlt : i < O.length
            · have hiX : i < X.length := by omega
              have hld := opsC_load hiX
              have hle : i * 19 + 19 ≤ O.length * 19 := by omega
              have htk : X.take i ++ [X[i]] = X.take (i + 1) := (List.take_succ_eq_append_getElem hiX).symm
              have okT : OkO (X.take (i + 1)) := by
                have e : X.take (i + 1) ++ X.drop (i + 1) = X := List.take_append_drop _ X
                rw [← e] at okX
                exact okX.left
              have hTl : (X.take (i + 1)).length ≤ 60 := by rw [List.length_take]; omega
              have rel1 := rel.do_ [X[i]]
              rw [rdo_new (by rw [htk]; exact okT) (by rw [htk]; omega),htk] at rel1
              have inv1 := inv.do_ [X[i]] (by simp only [List.length_cons,List.length_nil]; omega)
              have db1 := do_live _ _ h2 S2 [X[i]] p (by simp) (by omega)
              rw [show opsV [X[i]] = .imm 0 (opC X[i]) 1 by simp [dL]] at db1
              generalize doP S2 [X[i]] = D1 at *
              obtain ⟨e1,S3⟩ := D1
              simp only at rel1 inv1 db1
              obtain ⟨rfl,rel1⟩ := rel1
              have hz1 := rel1.size
              generalize X[i] = q at *
              have hqc : (opC q).length = 19 := opC_len q
              have hqs : (opC q).map AV.strip0 = opC q := rfl
              have hq19 : 19 ≤ (opC q).length := Nat.le_of_eq (opC_len q).symm
              have hqt : (opC q).take 19 = opC q := List.take_of_length_le (Nat.le_of_eq (opC_len q))
              simp (disch := omega) only [↓aI,aD,aG,ixA,aX,aV,ag,aT,ae,mkA,ab,bnd,aS,aH,aK,cvO,aJ,aY,↓aO,aW,aE,aF,aM,aA,aC,aB,aN,ad,frz,aR,aL,AV.cellsOf,AV.fine,AV.one,aQ,indexK.aggOf,simprocAttr,aZ,aU,Try.facts,s2,s13,s18,s19,s110,s111,s112,dT,dF,qT,qF,nT,nF,Bool.false_and,Bool.and_false,vkH,hXd,hld,hle,hqc,hqs,hq19,hqt]
              intro b21 hb210 hb21
              simp (disch := omega) only [↓aI,aD,aG,ixA,aX,aV,ag,aT,ae,mkA,ab,bnd,aS,aH,aK,cvO,aJ,aY,↓aO,aW,aE,aF,aM,aA,aC,aB,aN,ad,frz,aR,aL,AV.cellsOf,AV.fine,AV.one,aQ,indexK.aggOf,simprocAttr,aZ,aU,Try.facts,s2,s13,s18,s19,s110,s111,s112,dT,dF,qT,qF,nT,nF,Bool.false_and,Bool.and_false,vkH,hXd,hld,hle,hqc,hqs,hq19,hqt,aj hb21,ah]
              refine CallK.i db1 ?_
              rintro v H3 ⟨rfl,p3⟩
              have vk3 : H3 k' = some (.cells (dL X) 84 19) := p3.sub _ _ (pa2.sub _ _ vkX)
              by_cases hlg : i < agx.length
              · have hgg := intsC_get hlg
                have hgi : i < (intsC agx).length := by omega
                generalize agx[i] = n at *
                obtain ⟨w,hw⟩ : ∃ w : Nat,IntKind.u64.wrap n = (w : Int) := ⟨(IntKind.u64.wrap n).toNat,by rw [IntKind.wrap_u64]; omega⟩
                have tq : ((w : Nat) : Int).tmod ((i + 1 : Nat) : Int) = ((w % (i + 1) : Nat) : Int) := rfl
                have hql : w % (i + 1) < i + 1 := Nat.mod_lt _ (by omega)
                have wq : IntKind.i64.wrap ((w % (i + 1) : Nat) : Int) = ((w % (i + 1) : Nat) : Int) := wcast64 (by omega)
                have wi : IntKind.u64.wrap ((i + 1 : Nat) : Int) = ((i + 1 : Nat) : Int) := by rw [IntKind.wrap_u64]; omega
                generalize w % (i + 1) = r at *
                have hrX : r < X.length := by omega
                have ldr := opsC_load hrX
                have ler : r * 19 + 19 ≤ O.length * 19 := by omega
                have hmem : X[r] ∈ X.take (i + 1) := List.mem_take_iff_getElem.2 ⟨r,by omega,rfl⟩
                have rel2 := rel1.do_ [X[r]]
                rw [rdo_old okT hmem (by omega)] at rel2
                have inv2 := inv1.do_ [X[r]] (by simp only [List.length_cons,List.length_nil]; omega)
                have db2 := do_live _ _ h2 S3 [X[r]] p3 (by simp) (by omega)
                rw [show opsV [X[r]] = .imm 0 (opC X[r]) 1 by simp [dL]] at db2
                generalize doP S3 [X[r]] = D2 at *
                obtain ⟨e2,S4⟩ := D2
                simp only at rel2 inv2 db2
                obtain ⟨rfl,rel2⟩ := rel2
                generalize X[r] = q2 at *
                have hqc2 : (opC q2).length = 19 := opC_len q2
                have hqs2 : (opC q2).map AV.strip0 = opC q2 := rfl
                simp (disch := omega) only [↓aI,aD,aG,ixA,aX,aV,ag,aT,ae,mkA,ab,bnd,aS,aH,aK,cvO,aJ,aY,↓aO,aW,aE,aF,aM,aA,aC,aB,aN,ad,frz,aR,aL,AV.cellsOf,AV.fine,AV.one,aQ,indexK.aggOf,simprocAttr,aZ,aU,Try.facts,s2,s13,s18,s19,s110,s111,s112,dT,dF,qT,qF,nT,nF,Bool.false_and,Bool.and_false,vk3,hXd,hgg,hgi,hia,hw,wi,tq,wq,↓wcastU,ldr,ler,hqc2,hqs2]
                refine CallK.i db2 ?_
                rintro v H4 ⟨rfl,p4⟩
                simp (disch := omega) only [↓aI,aD,aG,ixA,aX,aV,ag,aT,ae,mkA,ab,bnd,aS,aH,aK,cvO,aJ,aY,↓aO,aW,aE,aF,aM,aA,aC,aB,aN,ad,frz,aR,aL,AV.cellsOf,AV.fine,AV.one,aQ,indexK.aggOf,simprocAttr,aZ,aU,Try.facts,s2,s13,s18,s19,s110,s111,s112,dT,dF,qT,qF,nT,nF,Bool.false_and,Bool.and_false]
                exact ⟨mm - 1,by omega,i + 1,S4,by omega,rel2,inv2,p4,rfl⟩
              · simp (disch := omega) only [↓aI,aD,aG,ixA,aX,aV,ag,aT,ae,mkA,ab,bnd,aS,aH,aK,cvO,aJ,aY,↓aO,aW,aE,aF,aM,aA,aC,aB,aN,ad,frz,aR,aL,AV.cellsOf,AV.fine,AV.one,aQ,indexK.aggOf,simprocAttr,aZ,aU,Try.facts,s2,s13,s18,s19,s110,s111,s112,dT,dF,qT,qF,nT,nF,Bool.false_and,Bool.and_false]
                exact ⟨mm - 1,by omega,i + 1,S3,by omega,rel1,inv1,p3,rfl⟩
            · obtain rfl : i = O.length := by omega
              rw [← hXl,List.take_length] at rel
              have pA := pa2.mono p.sub
              have hzA := ra.size
              have hzB := rel.size
              have hpO : O.Perm X := hp.symm
              have tA := tree_perm ra hpO ia pA.t.g pA.nd (by omega)
              have tB := tree_same rel inv p.t.g p.nd (by omega)
              have wA := wait_perm ra hpO ia pA.t.g pA.nd (by omega)
              have wB := wait_eq rel inv p.t.g p.nd (by omega)
              have mA := marks_perm ra rel hpO pA.g p.g
              have oA := ops_rel _ _ h1 S1 O pA ra ia
              have oB := ops_rel _ _ h2 S2 X p rel inv
              rw [ops_perm hu hpO] at oA
              have xA := ptext_live _ _ h1 S1 pA
              have xB := ptext_live _ _ h2 S2 p
              unfold textP at xA xB
              have rA := pruns_live _ _ h1 S1 pA h10
              have rB := pruns_live _ _ h2 S2 p h20
              have qA := wait_live _ _ h1 S1 pA
              have qB := wait_live _ _ h2 S2 p
              rw [tA] at xA rA
              rw [tB] at xB rB
              rw [wA] at qA
              rw [wB] at qB
              rw [mA] at rA
              have hrl : (rOps X).length ≤ 3000000 := by rw [(rOps_sorted _ rel.ok rel.nd).2.length_eq]; omega
              have hsa := same_pure (rOps X) (rOps X) hrl hrl
              have hin := (rTree_in X).1
              have hLl := hin.le
              have hNl : (bF (rTreeL X) (rTreeG X)).length ≤ 4096 := by
                have h1 := nodes_sum hin.g (rTreeG X) fun _ => 1
                simp only [List.map_const',List.sum_replicate_nat] at h1
                omega
              have hrn : (runsN (bF (rTreeL X) (rTreeG X)) S2.l).length ≤ 100000 := by
                unfold runsN
                rw [List.length_reverse]
                have := runsR_len (styN (bF (rTreeL X) (rTreeG X)) S2.l) (ixd 0 (bF (rTreeL X) (rTreeG X)))
                rw [ixd_length] at this
                omega
              have hsr := rsame_pure _ _ hrn hrn
              rw [decide_eq_true rfl] at hsr hsa
              generalize runsN (bF (rTreeL X) (rTreeG X)) S2.l = RN at *
              generalize cW (live (bF (rTreeL X) (rTreeG X))) = TX at *
              simp (disch := omega) only [↓aI,aD,aG,ixA,aX,aV,ag,aT,ae,mkA,ab,bnd,aS,aH,aK,cvO,aJ,aY,↓aO,aW,aE,aF,aM,aA,aC,aB,aN,ad,frz,aR,aL,AV.cellsOf,AV.fine,AV.one,aQ,indexK.aggOf,simprocAttr,aZ,aU,Try.facts,s2,s13,s18,s19,s110,s111,s112,dT,dF,qT,qF,nT,nF,Bool.false_and,Bool.and_false]
              refine CallK.i xA ?_
              rintro v E ⟨rfl,rfl⟩
              simp (disch := omega) only [↓aI,aD,aG,ixA,aX,aV,ag,aT,ae,mkA,ab,bnd,aS,aH,aK,cvO,aJ,aY,↓aO,aW,aE,aF,aM,aA,aC,aB,aN,ad,frz,aR,aL,AV.cellsOf,AV.fine,AV.one,aQ,indexK.aggOf,simprocAttr,aZ,aU,Try.facts,s18,s19,dT,dF,qT,qF,nT,nF,Bool.false_and,Bool.and_false,beq_self_eq_true]
              refine CallK.i xB ?_
              rintro v E ⟨rfl,rfl⟩
              simp (disch := omega) only [↓aI,aD,aG,ixA,aX,aV,ag,aT,ae,mkA,ab,bnd,aS,aH,aK,cvO,aJ,aY,↓aO,aW,aE,aF,aM,aA,aC,aB,aN,ad,frz,aR,aL,AV.cellsOf,AV.fine,AV.one,aQ,indexK.aggOf,simprocAttr,aZ,aU,Try.facts,s18,s19,dT,dF,qT,qF,nT,nF,Bool.false_and,Bool.and_false,beq_self_eq_true]
              refine CallK.i rA ?_
              rintro v E ⟨rfl,rfl⟩
              simp (disch := omega) only [↓aI,aD,aG,ixA,aX,aV,ag,aT,ae,mkA,ab,bnd,aS,aH,aK,cvO,aJ,aY,↓aO,aW,aE,aF,aM,aA,aC,aB,aN,ad,frz,aR,aL,AV.cellsOf,AV.fine,AV.one,aQ,indexK.aggOf,simprocAttr,aZ,aU,Try.facts,s18,s19,dT,dF,qT,qF,nT,nF,Bool.false_and,Bool.and_false,beq_self_eq_true]
              refine CallK.i rB ?_
              rintro v E ⟨rfl,rfl⟩
              simp (disch := omega) only [↓aI,aD,aG,ixA,aX,aV,ag,aT,ae,mkA,ab,bnd,aS,aH,aK,cvO,aJ,aY,↓aO,aW,aE,aF,aM,aA,aC,aB,aN,ad,frz,aR,aL,AV.cellsOf,AV.fine,AV.one,aQ,indexK.aggOf,simprocAttr,aZ,aU,Try.facts,s18,s19,dT,dF,qT,qF,nT,nF,Bool.false_and,Bool.and_false,beq_self_eq_true]
              first | refine CallK.p (hsr) ?_ | refine CallP.i (hsr) ?_
              simp (disch := omega) only [↓aI,aD,aG,ixA,aX,aV,ag,aT,ae,mkA,ab,bnd,aS,aH,aK,cvO,aJ,aY,↓aO,aW,aE,aF,aM,aA,aC,aB,aN,ad,frz,aR,aL,AV.cellsOf,AV.fine,AV.one,aQ,indexK.aggOf,simprocAttr,aZ,aU,Try.facts,s18,s19,dT,dF,qT,qF,nT,nF,Bool.false_and,Bool.and_false,beq_self_eq_true]
              refine CallK.i oA ?_
              rintro v E ⟨rfl,rfl⟩
              simp (disch := omega) only [↓aI,aD,aG,ixA,aX,aV,ag,aT,ae,mkA,ab,bnd,aS,aH,aK,cvO,aJ,aY,↓aO,aW,aE,aF,aM,aA,aC,aB,aN,ad,frz,aR,aL,AV.cellsOf,AV.fine,AV.one,aQ,indexK.aggOf,simprocAttr,aZ,aU,Try.facts,s18,s19,dT,dF,qT,qF,nT,nF,Bool.false_and,Bool.and_false,beq_self_eq_true]
              refine CallK.i oB ?_
              rintro v E ⟨rfl,rfl⟩
              simp (disch := omega) only [↓aI,aD,aG,ixA,aX,aV,ag,aT,ae,mkA,ab,bnd,aS,aH,aK,cvO,aJ,aY,↓aO,aW,aE,aF,aM,aA,aC,aB,aN,ad,frz,aR,aL,AV.cellsOf,AV.fine,AV.one,aQ,indexK.aggOf,simprocAttr,aZ,aU,Try.facts,s18,s19,dT,dF,qT,qF,nT,nF,Bool.false_and,Bool.and_false,beq_self_eq_true]
              first | refine CallK.p (hsa) ?_ | refine CallP.i (hsa) ?_
              simp (disch := omega) only [↓aI,aD,aG,ixA,aX,aV,ag,aT,ae,mkA,ab,bnd,aS,aH,aK,cvO,aJ,aY,↓aO,aW,aE,aF,aM,aA,aC,aB,aN,ad,frz,aR,aL,AV.cellsOf,AV.fine,AV.one,aQ,indexK.aggOf,simprocAttr,aZ,aU,Try.facts,s18,s19,dT,dF,qT,qF,nT,nF,Bool.false_and,Bool.and_false,beq_self_eq_true]
              refine CallK.i qA ?_
              rintro v E ⟨rfl,rfl⟩
              simp (disch := omega) only [↓aI,aD,aG,ixA,aX,aV,ag,aT,ae,mkA,ab,bnd,aS,aH,aK,cvO,aJ,aY,↓aO,aW,aE,aF,aM,aA,aC,aB,aN,ad,frz,aR,aL,AV.cellsOf,AV.fine,AV.one,aQ,indexK.aggOf,simprocAttr,aZ,aU,Try.facts,s18,s19,dT,dF,qT,qF,nT,nF,Bool.false_and,Bool.and_false,beq_self_eq_true]
              refine CallK.i qB ?_
              rintro v E ⟨rfl,rfl⟩
              simp (disch := omega) only [↓aI,aD,aG,ixA,aX,aV,ag,aT,ae,mkA,ab,bnd,aS,aH,aK,cvO,aJ,aY,↓aO,aW,aE,aF,aM,aA,aC,aB,aN,ad,frz,aR,aL,AV.cellsOf,AV.fine,AV.one,aQ,indexK.aggOf,simprocAttr,aZ,aU,Try.facts,s18,s19,dT,dF,qT,qF,nT,nF,Bool.false_and,Bool.and_false,beq_self_eq_true]
              first | refine CallK.p (haw) ?_ | refine CallP.i (haw) ?_
              simp (disch := omega) only [↓aI,aD,aG,ixA,aX,aV,ag,aT,ae,mkA,ab,bnd,aS,aH,aK,cvO,aJ,aY,↓aO,aW,aE,aF,aM,aA,aC,aB,aN,ad,frz,aR,aL,AV.cellsOf,AV.fine,AV.one,aQ,indexK.aggOf,simprocAttr,aZ,aU,Try.facts,s18,s19,dT,dF,qT,qF,nT,nF,Bool.false_and,Bool.and_false,beq_self_eq_true]
              exact hsX.trans (pa2.sub.trans p.sub)
theorem sum_len {α : Type} (f : α → Nat) (hf : ∀ x,1 ≤ f x) : ∀ (l : List α),l.length ≤ sumMap f l
  | [] => Nat.le_refl _
  | y :: l => by
    have := sum_len f hf l
    have := hf y
    show l.length + 1 ≤ f y + sumMap f l
    omega
theorem ints_size (xs : List Int) : xs.length ≤ Try.ty90.size xs := by
  show xs.length ≤ sumMap Try.ty3.size xs + 1
  have := sum_len Try.ty3.size (fun x => by show 1 ≤ 1; omega) xs
  omega
theorem ints_enc (xs : List Int) : (Try.ty90.enc xs).getD 0 .any = .imm 0 (intsC xs) xs.length := by
  show AV.imm 0 (xs.flatMap Try.ty3.enc) xs.length = _
  have : xs.flatMap Try.ty3.enc = intsC xs := by
    unfold intsC
    induction xs with
    | nil => rfl
    | cons x xs ih => rw [List.flatMap_cons,ih,List.map_cons]; rfl
  rw [this]
theorem ops_size (xs : List OpX) : xs.length ≤ Try.ty28.size xs := by
  show xs.length ≤ sumMap Try.ty84.size xs + 1
  have := sum_len Try.ty84.size (fun x => Nat.le_add_left 1 _) xs
  omega
theorem paper_conv (x0 : List OpX) (x1 x2 : List Int) (hb : Try.ty28.size x0 + Try.ty90.size x1 + Try.ty90.size x2 ≤ 1048576) : APure Try.prog 10 [(Try.ty28.enc x0).getD 0 .any,(Try.ty90.enc x1).getD 0 .any,(Try.ty90.enc x2).getD 0 .any] (.sc (.bool true)) := by
  have h0 := ops_size x0
  have h1 := ints_size x1
  have h2 := ints_size x2
  have he : (Try.ty28.enc x0).getD 0 .any = opsV (x0.map opOf) := by
    show AV.imm 0 (x0.flatMap Try.ty84.enc) x0.length = _
    rw [ops_enc,opsV,List.length_map]
  rw [he,ints_enc,ints_enc]
  by_cases h : (x0.map opOf).length ≤ 60 ∧ x1.length ≤ 200 ∧ x2.length ≤ 60
  · exact conv_yes _ _ _ h.1 h.2.1 h.2.2
  · exact conv_no _ _ _ h (by rw [List.length_map]; omega) (by omega) (by omega)
end Go.Proofs.Ytimonfakmadhpaa
